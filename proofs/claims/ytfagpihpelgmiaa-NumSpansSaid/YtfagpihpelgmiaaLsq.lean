/-
  Contracts of functions of this seat: what each hands back, and what it leaves of memory (l_sq). Nothing here is trusted: Lean checks it.
-/
import Derived.Test.YtfagpihpelgmiaaOpn
import Derived.Test.YtfagpihpelgmiaaVcOver
set_option linter.unusedVariables false
set_option linter.unusedSimpArgs false
namespace Go.Proofs.Ytfagpihpelgmiaa
open Go.Vc Go.RowKit Go.ChangeShapes Go.WideShapes Go.ChangeAt
set_option maxRecDepth 100000

structure Sq where
  lo : Int
  hi : Int

def Sq.wf (x : Sq) : Prop := In64 x.lo ∧ In64 x.hi

abbrev encSq (x : Sq) : List Value := [I x.lo, I x.hi]

abbrev sqv (x : Sq) : Value := .agg #[I x.lo, I x.hi]

abbrev sqs (l : List Sq) : List Value := l.flatMap encSq

theorem sq_k (x : Sq) : (encSq x).length = 2 := rfl

theorem sq_len (l : List Sq) : (sqs l).length = l.length * 2 := flat_len sq_k l

theorem sq_at {m : M} {b o i : Nat} {l : List Sq} (h : CellsAt m b o (sqs l)) (hi : i < l.length) : CellsAt m b (o + i * 2) (encSq l[i]) := CellsAt.elem sq_k l o i hi h

theorem sq_ext {a b : Sq} : a = b ↔ a.lo = b.lo ∧ a.hi = b.hi := by
  cases a; cases b; simp

instance : DecidableEq Sq := fun _ _ => decidable_of_iff' _ sq_ext

theorem sq_one (l : List Sq) : oneCells (sqs l) = true := by
  rw [oneCells_iff]; intro v hv
  obtain ⟨w, -, hw⟩ := List.mem_flatMap.1 hv
  exact oneCells_iff.1 (rfl : oneCells (encSq w) = true) v hw

theorem sq_zr (k : Nat) : (zeroRow Try.prog 28 k).length = k * 2 := zrLen (by kernel_rfl) k

theorem sq_cells : Try.prog.cellsOf 28 = 2 := by kernel_rfl

theorem sq_rd {m : M} {N d : Nat} {cs : List Value} (h : Rd Try.prog m N (d + 2) 28 cs) (hN : N ≤ 9223372036854775807) : ∃ x : Sq, cs = encSq x ∧ x.wf := by
  have hc1 := (by kernel_rfl : Try.prog.cellsOf 3 = 1)
  simp only [Rd, Try.underlying28, Try.underlying3, fieldsD, sq_cells, hc1] at h
  obtain ⟨hl, ⟨k1, e1, w1⟩, ⟨k2, e2, w2⟩, -⟩ := h
  obtain ⟨c1, c2, rfl⟩ : ∃ c1 c2, cs = [c1, c2] := by
    match cs, hl with
    | [c1, c2], _ => exact ⟨_, _, rfl⟩
  simp at e1 e2
  subst e1 e2
  exact ⟨⟨k1, k2⟩, rfl, in64_of w1, in64_of w2⟩

theorem open_sq {H : Type} {enc : TypeId × Value → H} {W : World} {r : Reach} {b0 : Nat} {v : Value} {d : DataW H} {p : List MemPlace} {N : Nat} {Bd : DataW H → Prop} (B : Bound N Bd) (hN : N ≤ 9223372036854775807) (hv : Value.okWide Try.prog W r b0 28 v) (h : DataW.Trod enc Try.prog W 0 (fun _ => true) true 28 v d p) (hb : Bd d) : ∃ x : Sq, v = sqv x ∧ x.wf := by
  obtain ⟨cs, rfl, hl⟩ := open_agg Try.underlying28 sq_cells hv
  obtain ⟨fuel, hf⟩ := h
  have hr := rd_of_trod B 2 fuel 28 _ _ hf hb
  simp only [Value.cells] at hr
  obtain ⟨x, he, hw⟩ := sq_rd (d := 0) hr hN
  exact ⟨x, by rw [show cs = encSq x from he], hw⟩

end Go.Proofs.Ytfagpihpelgmiaa
