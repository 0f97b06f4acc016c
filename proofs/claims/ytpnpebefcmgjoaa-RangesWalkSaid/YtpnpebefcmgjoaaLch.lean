/-
  Contracts of functions of this seat: what each hands back, and what it leaves of memory (l_ch). Nothing here is trusted: Lean checks it.
-/
import Derived.Test.YtpnpebefcmgjoaaRng16
import Derived.Test.YtpnpebefcmgjoaaVcOver
set_option linter.unusedVariables false
set_option linter.unusedSimpArgs false
namespace Go.Proofs.Ytpnpebefcmgjoaa
open Go.Vc Go.RowKit Go.ChangeShapes Go.WideShapes Go.ChangeAt
set_option maxRecDepth 100000

structure Ch where
  mg : Bool
  ix : Int
  ky : ByteArray

def Ch.wf (x : Ch) : Prop := In64 x.ix ∧ x.ky.size ≤ 9223372036854775807

abbrev encCh (x : Ch) : List Value := [.bool x.mg, I x.ix, .string x.ky]

abbrev chv (x : Ch) : Value := .agg #[.bool x.mg, I x.ix, .string x.ky]

abbrev chs (l : List Ch) : List Value := l.flatMap encCh

theorem ch_k (x : Ch) : (encCh x).length = 3 := rfl

theorem ch_len (l : List Ch) : (chs l).length = l.length * 3 := flat_len ch_k l

theorem ch_at {m : M} {b o i : Nat} {l : List Ch} (h : CellsAt m b o (chs l)) (hi : i < l.length) : CellsAt m b (o + i * 3) (encCh l[i]) := CellsAt.elem ch_k l o i hi h

theorem ch_ext {a b : Ch} : a = b ↔ a.mg = b.mg ∧ a.ix = b.ix ∧ a.ky = b.ky := by
  cases a; cases b; simp

instance : DecidableEq Ch := fun _ _ => decidable_of_iff' _ ch_ext

theorem ch_one (l : List Ch) : oneCells (chs l) = true := by
  rw [oneCells_iff]; intro v hv
  obtain ⟨w, -, hw⟩ := List.mem_flatMap.1 hv
  exact oneCells_iff.1 (rfl : oneCells (encCh w) = true) v hw

theorem ch_zr (k : Nat) : (zeroRow Try.prog 49 k).length = k * 3 := zrLen (by kernel_rfl) k

theorem ch_cells : Try.prog.cellsOf 49 = 3 := by kernel_rfl

theorem ch_rd {m : M} {N d : Nat} {cs : List Value} (h : Rd Try.prog m N (d + 2) 49 cs) (hN : N ≤ 9223372036854775807) : ∃ x : Ch, cs = encCh x ∧ x.wf := by
  have hc1 := (by kernel_rfl : Try.prog.cellsOf 3 = 1)
  have hc2 := (by kernel_rfl : Try.prog.cellsOf 4 = 1)
  have hc3 := (by kernel_rfl : Try.prog.cellsOf 9 = 1)
  simp only [Rd, Try.underlying49, Try.underlying3, Try.underlying4, Try.underlying9, fieldsD, ch_cells, hc1, hc2, hc3] at h
  obtain ⟨hl, ⟨k1, e1⟩, ⟨k2, e2, w2⟩, ⟨k3, e3, w3⟩, -⟩ := h
  obtain ⟨c1, c2, c3, rfl⟩ : ∃ c1 c2 c3, cs = [c1, c2, c3] := by
    match cs, hl with
    | [c1, c2, c3], _ => exact ⟨_, _, _, rfl⟩
  simp at e1 e2 e3
  subst e1 e2 e3
  exact ⟨⟨k1, k2, k3⟩, rfl, in64_of w2, Nat.le_trans w3 hN⟩

theorem open_ch {H : Type} {enc : TypeId × Value → H} {W : World} {r : Reach} {b0 : Nat} {v : Value} {d : DataW H} {p : List MemPlace} {N : Nat} {Bd : DataW H → Prop} (B : Bound N Bd) (hN : N ≤ 9223372036854775807) (hv : Value.okWide Try.prog W r b0 49 v) (h : DataW.Trod enc Try.prog W 0 (fun _ => true) true 49 v d p) (hb : Bd d) : ∃ x : Ch, v = chv x ∧ x.wf := by
  obtain ⟨cs, rfl, hl⟩ := open_agg Try.underlying49 ch_cells hv
  obtain ⟨fuel, hf⟩ := h
  have hr := rd_of_trod B 2 fuel 49 _ _ hf hb
  simp only [Value.cells] at hr
  obtain ⟨x, he, hw⟩ := ch_rd (d := 0) hr hN
  exact ⟨x, by rw [show cs = encCh x from he], hw⟩

theorem open_chs {H : Type} {enc : TypeId × Value → H} {W : World} {r : Reach} {b0 : Nat} {v : Value} {d : DataW H} {p : List MemPlace} {N : Nat} {Bd : DataW H → Prop} (B : Bound N Bd) (hN : N ≤ 9223372036854775807) (hv : Value.okWide Try.prog W r b0 47 v) (h : DataW.Trod enc Try.prog W 0 (fun _ => true) true 47 v d p) (hb : Bd d) :
    ∃ (a : Option Addr) (c : Nat) (z : List Ch), v = .slice a z.length c ∧ z.length ≤ N ∧ (∀ x ∈ z, x.wf) ∧ (a = none → z = []) ∧ Row (M.all W) a (chs z) := by
  obtain ⟨a, len, cap, rfl⟩ := okWide_slice Try.underlying47 hv
  obtain ⟨fuel, hf⟩ := h
  have hr := rd_of_trod B 3 fuel 47 _ _ hf hb
  rw [Rd] at hr
  simp only [Try.underlying47] at hr
  obtain ⟨a', cap', rows, hcs, h1, h2, h3, h4, h5⟩ := hr
  obtain ⟨z, hz, he, hi⟩ := rows_list (α := Ch) (e := encCh) (p := Ch.wf) rows fun r hr => ch_rd (d := 0) (h4 r hr).2 hN
  simp [Value.cells] at hcs
  obtain ⟨rfl, rfl, rfl⟩ := hcs
  rw [he] at h5
  exact ⟨a, cap, z, by rw [hz], by omega, hi, fun e => List.eq_nil_of_length_eq_zero (by have := h3 e; omega), h5⟩

end Go.Proofs.Ytpnpebefcmgjoaa
