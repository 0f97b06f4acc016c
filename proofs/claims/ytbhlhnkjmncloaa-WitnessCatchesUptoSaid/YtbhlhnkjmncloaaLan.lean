/-
  Contracts of functions of this seat: what each hands back, and what it leaves of memory (l_an). Nothing here is trusted: Lean checks it.
-/
import Derived.Test.YtbhlhnkjmncloaaOpn
import Derived.Test.YtbhlhnkjmncloaaVcOver
set_option linter.unusedVariables false
set_option linter.unusedSimpArgs false
namespace Go.Proofs.Ytbhlhnkjmncloaa
open Go.Vc Go.RowKit Go.ChangeShapes Go.WideShapes Go.ChangeAt
set_option maxRecDepth 100000

structure An where
  er : Int
  va : Int
  le : Int
  mo : Int

def An.wf (x : An) : Prop := In64 x.er ∧ In64 x.va ∧ In64 x.le ∧ In64 x.mo

abbrev encAn (x : An) : List Value := [I x.er, I x.va, I x.le, I x.mo]

abbrev anv (x : An) : Value := .agg #[I x.er, I x.va, I x.le, I x.mo]

abbrev ans (l : List An) : List Value := l.flatMap encAn

theorem an_k (x : An) : (encAn x).length = 4 := rfl

theorem an_len (l : List An) : (ans l).length = l.length * 4 := flat_len an_k l

theorem an_at {m : M} {b o i : Nat} {l : List An} (h : CellsAt m b o (ans l)) (hi : i < l.length) : CellsAt m b (o + i * 4) (encAn l[i]) := CellsAt.elem an_k l o i hi h

theorem an_ext {a b : An} : a = b ↔ a.er = b.er ∧ a.va = b.va ∧ a.le = b.le ∧ a.mo = b.mo := by
  cases a; cases b; simp

instance : DecidableEq An := fun _ _ => decidable_of_iff' _ an_ext

theorem an_one (l : List An) : oneCells (ans l) = true := by
  rw [oneCells_iff]; intro v hv
  obtain ⟨w, -, hw⟩ := List.mem_flatMap.1 hv
  exact oneCells_iff.1 (rfl : oneCells (encAn w) = true) v hw

theorem an_zr (k : Nat) : (zeroRow Try.prog 33 k).length = k * 4 := zrLen (by kernel_rfl) k

theorem an_cells : Try.prog.cellsOf 33 = 4 := by kernel_rfl

theorem an_rd {m : M} {N d : Nat} {cs : List Value} (h : Rd Try.prog m N (d + 2) 33 cs) (hN : N ≤ 9223372036854775807) : ∃ x : An, cs = encAn x ∧ x.wf := by
  have hc1 := (by kernel_rfl : Try.prog.cellsOf 3 = 1)
  have hc2 := (by kernel_rfl : Try.prog.cellsOf 30 = 1)
  simp only [Rd, Try.underlying33, Try.underlying3, Try.underlying30, fieldsD, an_cells, hc1, hc2] at h
  obtain ⟨hl, ⟨k1, e1, w1⟩, ⟨k2, e2, w2⟩, ⟨k3, e3, w3⟩, ⟨k4, e4, w4⟩, -⟩ := h
  obtain ⟨c1, c2, c3, c4, rfl⟩ : ∃ c1 c2 c3 c4, cs = [c1, c2, c3, c4] := by
    match cs, hl with
    | [c1, c2, c3, c4], _ => exact ⟨_, _, _, _, rfl⟩
  simp at e1 e2 e3 e4
  subst e1 e2 e3 e4
  exact ⟨⟨k1, k2, k3, k4⟩, rfl, in64_of w1, in64_of w2, in64_of w3, in64_of w4⟩

theorem open_an {H : Type} {enc : TypeId × Value → H} {W : World} {r : Reach} {b0 : Nat} {v : Value} {d : DataW H} {p : List MemPlace} {N : Nat} {Bd : DataW H → Prop} (B : Bound N Bd) (hN : N ≤ 9223372036854775807) (hv : Value.okWide Try.prog W r b0 33 v) (h : DataW.Trod enc Try.prog W 0 (fun _ => true) true 33 v d p) (hb : Bd d) : ∃ x : An, v = anv x ∧ x.wf := by
  obtain ⟨cs, rfl, hl⟩ := open_agg Try.underlying33 an_cells hv
  obtain ⟨fuel, hf⟩ := h
  have hr := rd_of_trod B 2 fuel 33 _ _ hf hb
  simp only [Value.cells] at hr
  obtain ⟨x, he, hw⟩ := an_rd (d := 0) hr hN
  exact ⟨x, by rw [show cs = encAn x from he], hw⟩

end Go.Proofs.Ytbhlhnkjmncloaa
