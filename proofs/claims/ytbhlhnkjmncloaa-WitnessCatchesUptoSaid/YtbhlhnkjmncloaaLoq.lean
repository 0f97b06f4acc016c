/-
  Contracts of functions of this seat: what each hands back, and what it leaves of memory (l_oq). Nothing here is trusted: Lean checks it.
-/
import Derived.Test.YtbhlhnkjmncloaaOpn
import Derived.Test.YtbhlhnkjmncloaaVcOver
set_option linter.unusedVariables false
set_option linter.unusedSimpArgs false
namespace Go.Proofs.Ytbhlhnkjmncloaa
open Go.Vc Go.RowKit Go.ChangeShapes Go.WideShapes Go.ChangeAt
set_option maxRecDepth 100000

structure Oq where
  kd : Int
  ky : ByteArray
  ot : ByteArray
  n : Int
  lo : Int
  hi : Int

def Oq.wf (x : Oq) : Prop := In64 x.kd ∧ x.ky.size ≤ 9223372036854775807 ∧ x.ot.size ≤ 9223372036854775807 ∧ In64 x.n ∧ In64 x.lo ∧ In64 x.hi

abbrev encOq (x : Oq) : List Value := [I x.kd, .string x.ky, .string x.ot, I x.n, I x.lo, I x.hi]

abbrev oqv (x : Oq) : Value := .agg #[I x.kd, .string x.ky, .string x.ot, I x.n, I x.lo, I x.hi]

abbrev oqs (l : List Oq) : List Value := l.flatMap encOq

theorem oq_k (x : Oq) : (encOq x).length = 6 := rfl

theorem oq_len (l : List Oq) : (oqs l).length = l.length * 6 := flat_len oq_k l

theorem oq_at {m : M} {b o i : Nat} {l : List Oq} (h : CellsAt m b o (oqs l)) (hi : i < l.length) : CellsAt m b (o + i * 6) (encOq l[i]) := CellsAt.elem oq_k l o i hi h

theorem oq_ext {a b : Oq} : a = b ↔ a.kd = b.kd ∧ a.ky = b.ky ∧ a.ot = b.ot ∧ a.n = b.n ∧ a.lo = b.lo ∧ a.hi = b.hi := by
  cases a; cases b; simp

instance : DecidableEq Oq := fun _ _ => decidable_of_iff' _ oq_ext

theorem oq_one (l : List Oq) : oneCells (oqs l) = true := by
  rw [oneCells_iff]; intro v hv
  obtain ⟨w, -, hw⟩ := List.mem_flatMap.1 hv
  exact oneCells_iff.1 (rfl : oneCells (encOq w) = true) v hw

theorem oq_zr (k : Nat) : (zeroRow Try.prog 24 k).length = k * 6 := zrLen (by kernel_rfl) k

theorem oq_cells : Try.prog.cellsOf 24 = 6 := by kernel_rfl

theorem oq_rd {m : M} {N d : Nat} {cs : List Value} (h : Rd Try.prog m N (d + 2) 24 cs) (hN : N ≤ 9223372036854775807) : ∃ x : Oq, cs = encOq x ∧ x.wf := by
  have hc1 := (by kernel_rfl : Try.prog.cellsOf 3 = 1)
  have hc2 := (by kernel_rfl : Try.prog.cellsOf 9 = 1)
  simp only [Rd, Try.underlying24, Try.underlying3, Try.underlying9, fieldsD, oq_cells, hc1, hc2] at h
  obtain ⟨hl, ⟨k1, e1, w1⟩, ⟨k2, e2, w2⟩, ⟨k3, e3, w3⟩, ⟨k4, e4, w4⟩, ⟨k5, e5, w5⟩, ⟨k6, e6, w6⟩, -⟩ := h
  obtain ⟨c1, c2, c3, c4, c5, c6, rfl⟩ : ∃ c1 c2 c3 c4 c5 c6, cs = [c1, c2, c3, c4, c5, c6] := by
    match cs, hl with
    | [c1, c2, c3, c4, c5, c6], _ => exact ⟨_, _, _, _, _, _, rfl⟩
  simp at e1 e2 e3 e4 e5 e6
  subst e1 e2 e3 e4 e5 e6
  exact ⟨⟨k1, k2, k3, k4, k5, k6⟩, rfl, in64_of w1, Nat.le_trans w2 hN, Nat.le_trans w3 hN, in64_of w4, in64_of w5, in64_of w6⟩

theorem open_oq {H : Type} {enc : TypeId × Value → H} {W : World} {r : Reach} {b0 : Nat} {v : Value} {d : DataW H} {p : List MemPlace} {N : Nat} {Bd : DataW H → Prop} (B : Bound N Bd) (hN : N ≤ 9223372036854775807) (hv : Value.okWide Try.prog W r b0 24 v) (h : DataW.Trod enc Try.prog W 0 (fun _ => true) true 24 v d p) (hb : Bd d) : ∃ x : Oq, v = oqv x ∧ x.wf := by
  obtain ⟨cs, rfl, hl⟩ := open_agg Try.underlying24 oq_cells hv
  obtain ⟨fuel, hf⟩ := h
  have hr := rd_of_trod B 2 fuel 24 _ _ hf hb
  simp only [Value.cells] at hr
  obtain ⟨x, he, hw⟩ := oq_rd (d := 0) hr hN
  exact ⟨x, by rw [show cs = encOq x from he], hw⟩

theorem open_oqs {H : Type} {enc : TypeId × Value → H} {W : World} {r : Reach} {b0 : Nat} {v : Value} {d : DataW H} {p : List MemPlace} {N : Nat} {Bd : DataW H → Prop} (B : Bound N Bd) (hN : N ≤ 9223372036854775807) (hv : Value.okWide Try.prog W r b0 41 v) (h : DataW.Trod enc Try.prog W 0 (fun _ => true) true 41 v d p) (hb : Bd d) :
    ∃ (a : Option Addr) (c : Nat) (z : List Oq), v = .slice a z.length c ∧ z.length ≤ N ∧ (∀ x ∈ z, x.wf) ∧ (a = none → z = []) ∧ Row (M.all W) a (oqs z) := by
  obtain ⟨a, len, cap, rfl⟩ := okWide_slice Try.underlying41 hv
  obtain ⟨fuel, hf⟩ := h
  have hr := rd_of_trod B 3 fuel 41 _ _ hf hb
  rw [Rd] at hr
  simp only [Try.underlying41] at hr
  obtain ⟨a', cap', rows, hcs, h1, h2, h3, h4, h5⟩ := hr
  obtain ⟨z, hz, he, hi⟩ := rows_list (α := Oq) (e := encOq) (p := Oq.wf) rows fun r hr => oq_rd (d := 0) (h4 r hr).2 hN
  simp [Value.cells] at hcs
  obtain ⟨rfl, rfl, rfl⟩ := hcs
  rw [he] at h5
  exact ⟨a, cap, z, by rw [hz], by omega, hi, fun e => List.eq_nil_of_length_eq_zero (by have := h3 e; omega), h5⟩

end Go.Proofs.Ytbhlhnkjmncloaa
