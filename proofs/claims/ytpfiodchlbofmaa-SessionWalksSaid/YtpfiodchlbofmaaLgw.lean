/-
  Contracts of functions of this seat: what each hands back, and what it leaves of memory (l_gw). Nothing here is trusted: Lean checks it.
-/
import Derived.Test.YtpfiodchlbofmaaOpn
import Derived.Test.YtpfiodchlbofmaaVcOver
set_option linter.unusedVariables false
set_option linter.unusedSimpArgs false
namespace Go.Proofs.Ytpfiodchlbofmaa
open Go.Vc Go.RowKit Go.ChangeShapes Go.WideShapes Go.ChangeAt
set_option maxRecDepth 100000

structure Gw where
  kd : Int
  sq : Int
  an_er : Int
  an_va : Int
  an_le : Int
  an_mo : Int

def Gw.wf (x : Gw) : Prop := In64 x.kd ∧ In64 x.sq ∧ In64 x.an_er ∧ In64 x.an_va ∧ In64 x.an_le ∧ In64 x.an_mo

abbrev encGw (x : Gw) : List Value := [I x.kd, I x.sq, I x.an_er, I x.an_va, I x.an_le, I x.an_mo]

abbrev gwv (x : Gw) : Value := .agg #[I x.kd, I x.sq, I x.an_er, I x.an_va, I x.an_le, I x.an_mo]

abbrev gws (l : List Gw) : List Value := l.flatMap encGw

theorem gw_k (x : Gw) : (encGw x).length = 6 := rfl

theorem gw_len (l : List Gw) : (gws l).length = l.length * 6 := flat_len gw_k l

theorem gw_at {m : M} {b o i : Nat} {l : List Gw} (h : CellsAt m b o (gws l)) (hi : i < l.length) : CellsAt m b (o + i * 6) (encGw l[i]) := CellsAt.elem gw_k l o i hi h

theorem gw_ext {a b : Gw} : a = b ↔ a.kd = b.kd ∧ a.sq = b.sq ∧ a.an_er = b.an_er ∧ a.an_va = b.an_va ∧ a.an_le = b.an_le ∧ a.an_mo = b.an_mo := by
  cases a; cases b; simp

instance : DecidableEq Gw := fun _ _ => decidable_of_iff' _ gw_ext

theorem gw_one (l : List Gw) : oneCells (gws l) = true := by
  rw [oneCells_iff]; intro v hv
  obtain ⟨w, -, hw⟩ := List.mem_flatMap.1 hv
  exact oneCells_iff.1 (rfl : oneCells (encGw w) = true) v hw

theorem gw_zr (k : Nat) : (zeroRow Try.prog 47 k).length = k * 6 := zrLen (by kernel_rfl) k

theorem gw_cells : Try.prog.cellsOf 47 = 6 := by kernel_rfl

theorem gw_rd {m : M} {N d : Nat} {cs : List Value} (h : Rd Try.prog m N (d + 3) 47 cs) (hN : N ≤ 9223372036854775807) : ∃ x : Gw, cs = encGw x ∧ x.wf := by
  have hc1 := (by kernel_rfl : Try.prog.cellsOf 3 = 1)
  have hc2 := (by kernel_rfl : Try.prog.cellsOf 24 = 1)
  have hc3 := (by kernel_rfl : Try.prog.cellsOf 30 = 4)
  simp only [Rd, Try.underlying47, Try.underlying3, Try.underlying24, Try.underlying30, fieldsD, gw_cells, hc1, hc2, hc3] at h
  obtain ⟨hl, ⟨k1, e1, w1⟩, ⟨k2, e2, w2⟩, ⟨-, ⟨k3, e3, w3⟩, ⟨k4, e4, w4⟩, ⟨k5, e5, w5⟩, ⟨k6, e6, w6⟩, -⟩, -⟩ := h
  obtain ⟨c1, c2, c3, c4, c5, c6, rfl⟩ : ∃ c1 c2 c3 c4 c5 c6, cs = [c1, c2, c3, c4, c5, c6] := by
    match cs, hl with
    | [c1, c2, c3, c4, c5, c6], _ => exact ⟨_, _, _, _, _, _, rfl⟩
  simp at e1 e2 e3 e4 e5 e6
  subst e1 e2 e3 e4 e5 e6
  exact ⟨⟨k1, k2, k3, k4, k5, k6⟩, rfl, in64_of w1, in64_of w2, in64_of w3, in64_of w4, in64_of w5, in64_of w6⟩

theorem open_gw {H : Type} {enc : TypeId × Value → H} {W : World} {r : Reach} {b0 : Nat} {v : Value} {d : DataW H} {p : List MemPlace} {N : Nat} {Bd : DataW H → Prop} (B : Bound N Bd) (hN : N ≤ 9223372036854775807) (hv : Value.okWide Try.prog W r b0 47 v) (h : DataW.Trod enc Try.prog W 0 (fun _ => true) true 47 v d p) (hb : Bd d) : ∃ x : Gw, v = gwv x ∧ x.wf := by
  obtain ⟨cs, rfl, hl⟩ := open_agg Try.underlying47 gw_cells hv
  obtain ⟨fuel, hf⟩ := h
  have hr := rd_of_trod B 3 fuel 47 _ _ hf hb
  simp only [Value.cells] at hr
  obtain ⟨x, he, hw⟩ := gw_rd (d := 0) hr hN
  exact ⟨x, by rw [show cs = encGw x from he], hw⟩

theorem open_gws {H : Type} {enc : TypeId × Value → H} {W : World} {r : Reach} {b0 : Nat} {v : Value} {d : DataW H} {p : List MemPlace} {N : Nat} {Bd : DataW H → Prop} (B : Bound N Bd) (hN : N ≤ 9223372036854775807) (hv : Value.okWide Try.prog W r b0 45 v) (h : DataW.Trod enc Try.prog W 0 (fun _ => true) true 45 v d p) (hb : Bd d) :
    ∃ (a : Option Addr) (c : Nat) (z : List Gw), v = .slice a z.length c ∧ z.length ≤ N ∧ (∀ x ∈ z, x.wf) ∧ (a = none → z = []) ∧ Row (M.all W) a (gws z) := by
  obtain ⟨a, len, cap, rfl⟩ := okWide_slice Try.underlying45 hv
  obtain ⟨fuel, hf⟩ := h
  have hr := rd_of_trod B 4 fuel 45 _ _ hf hb
  rw [Rd] at hr
  simp only [Try.underlying45] at hr
  obtain ⟨a', cap', rows, hcs, h1, h2, h3, h4, h5⟩ := hr
  obtain ⟨z, hz, he, hi⟩ := rows_list (α := Gw) (e := encGw) (p := Gw.wf) rows fun r hr => gw_rd (d := 0) (h4 r hr).2 hN
  simp [Value.cells] at hcs
  obtain ⟨rfl, rfl, rfl⟩ := hcs
  rw [he] at h5
  exact ⟨a, cap, z, by rw [hz], by omega, hi, fun e => List.eq_nil_of_length_eq_zero (by have := h3 e; omega), h5⟩

end Go.Proofs.Ytpfiodchlbofmaa
