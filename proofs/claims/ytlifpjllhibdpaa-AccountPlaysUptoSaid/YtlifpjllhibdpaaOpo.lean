/-
  Contracts of functions of this seat: what each hands back, and what it leaves of memory (opo). Nothing here is trusted: Lean checks it.
-/
import Derived.Test.YtlifpjllhibdpaaAcc8
import Derived.Test.YtlifpjllhibdpaaAcc21
set_option linter.unusedVariables false
set_option linter.unusedSimpArgs false
namespace Go.Proofs.Ytlifpjllhibdpaa
open Go.Vc Go.RowKit Go.ChangeShapes Go.WideShapes Go.ChangeAt
set_option maxRecDepth 100000

theorem cells_op : Try.prog.cellsOf 65 = 12 := by kernel_rfl

theorem cells_bool : Try.prog.cellsOf 4 = 1 := by kernel_rfl

theorem rd_op {m : M} {N d : Nat} {cs : List Value} (h : Rd Try.prog m N (d + 3) 65 cs) : ∃ o : OpA, cs = encO o ∧ o.wf := by
  simp only [Rd, Try.underlying65, Try.underlying23, Try.underlying26, Try.underlying3, Try.underlying4, fieldsD, cells_op, cells_lk, cells_sp, cells_int, cells_bool] at h
  obtain ⟨hl, ⟨k1, e1, w1⟩, ⟨k2, e2, w2⟩, ⟨k3, e3, w3⟩, ⟨k4, e4, w4⟩, ⟨k5, e5, w5⟩, ⟨-, ⟨k6, e6, w6⟩, ⟨k7, e7, w7⟩, -⟩, ⟨-, ⟨k8, e8, w8⟩, ⟨k9, e9, w9⟩, ⟨k10, e10, w10⟩, ⟨k11, e11, w11⟩, -⟩, ⟨k12, e12⟩, -⟩ := h
  obtain ⟨c1, c2, c3, c4, c5, c6, c7, c8, c9, c10, c11, c12, rfl⟩ : ∃ c1 c2 c3 c4 c5 c6 c7 c8 c9 c10 c11 c12, cs = [c1, c2, c3, c4, c5, c6, c7, c8, c9, c10, c11, c12] := by
    match cs, hl with
    | [c1, c2, c3, c4, c5, c6, c7, c8, c9, c10, c11, c12], _ => exact ⟨_, _, _, _, _, _, _, _, _, _, _, _, rfl⟩
  simp at e1 e2 e3 e4 e5 e6 e7 e8 e9 e10 e11 e12
  subst e1 e2 e3 e4 e5 e6 e7 e8 e9 e10 e11 e12
  exact ⟨⟨k1, k2, k3, k4, k5, k6, k7, ⟨k8, k9, k10, k11⟩, k12⟩, rfl, in64_of w1, in64_of w2, in64_of w3, in64_of w4, in64_of w5, in64_of w6, in64_of w7, in64_of w8, in64_of w9, in64_of w10, in64_of w11⟩

variable {H : Type} {enc : TypeId × Value → H} {W : World} {r : Reach} {b0 : Nat} {v : Value} {d : DataW H} {p : List MemPlace} {N : Nat} {Bd : DataW H → Prop}

theorem open_op (hv : Value.okWide Try.prog W r b0 65 v) (h : DataW.Trod enc Try.prog W 0 (fun _ => true) true 65 v d p) : ∃ o : OpA, v = opv o ∧ o.wf := by
  obtain ⟨cs, rfl, hl⟩ := open_agg Try.underlying65 cells_op hv
  obtain ⟨fuel, hf⟩ := h
  have hr := rd_of_trod (bound_any H) 3 fuel 65 _ _ hf trivial
  simp only [Value.cells] at hr
  obtain ⟨o, he, hw⟩ := rd_op (d := 0) hr
  exact ⟨o, by rw [show cs = encO o from he], hw⟩

theorem open_ops (B : Bound N Bd) (hv : Value.okWide Try.prog W r b0 68 v) (h : DataW.Trod enc Try.prog W 0 (fun _ => true) true 68 v d p) (hb : Bd d) :
    ∃ (a : Option Addr) (c : Nat) (z : List OpA), v = .slice a z.length c ∧ z.length ≤ N ∧ (∀ x ∈ z, x.wf) ∧ Row (M.all W) a (z.flatMap encO) := by
  obtain ⟨a, len, cap, rfl⟩ := okWide_slice Try.underlying68 hv
  obtain ⟨fuel, hf⟩ := h
  have hr := rd_of_trod B 4 fuel 68 _ _ hf hb
  rw [Rd] at hr
  simp only [Try.underlying68] at hr
  obtain ⟨a', cap', rows, hcs, h1, h2, h3, h4, h5⟩ := hr
  obtain ⟨z, hz, he, hi⟩ := rows_list (α := OpA) (e := encO) (p := OpA.wf) rows fun r hr => rd_op (d := 0) (h4 r hr).2
  simp [Value.cells] at hcs
  obtain ⟨rfl, rfl, rfl⟩ := hcs
  rw [he] at h5
  exact ⟨a, cap, z, by rw [hz], by omega, hi, h5⟩

end Go.Proofs.Ytlifpjllhibdpaa
