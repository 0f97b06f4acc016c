/-
  Contracts of functions of this seat: what each hands back, and what it leaves of memory (opw). Nothing here is trusted: Lean checks it.
-/
import Derived.Test.YtoilbbfidnhekaaDeal10
set_option linter.unusedVariables false
set_option linter.unusedSimpArgs false
namespace Go.Proofs.Ytoilbbfidnhekaa
open Go.Vc Go.RowKit Go.ChangeShapes Go.WideShapes Go.ChangeAt
set_option maxRecDepth 100000

theorem cells_wd : Try.prog.cellsOf 42 = 3 := by kernel_rfl

theorem cells_bool1 : Try.prog.cellsOf 4 = 1 := by kernel_rfl

theorem rd_wd {m : M} {N d : Nat} {cs : List Value} (h : Rd Try.prog m N (d + 2) 42 cs) : ∃ o : Wd, cs = encW o ∧ True := by
  simp only [Rd, Try.underlying42, Try.underlying4, fieldsD, cells_wd, cells_bool1] at h
  obtain ⟨hl, ⟨k1, e1⟩, ⟨k2, e2⟩, ⟨k3, e3⟩, -⟩ := h
  obtain ⟨c1, c2, c3, rfl⟩ : ∃ c1 c2 c3, cs = [c1, c2, c3] := by
    match cs, hl with
    | [c1, c2, c3], _ => exact ⟨_, _, _, rfl⟩
  simp at e1 e2 e3
  subst e1 e2 e3
  exact ⟨⟨k1, k2, k3⟩, rfl, trivial⟩

theorem open_words {H : Type} {enc : TypeId × Value → H} {W : World} {r : Reach} {b0 : Nat} {v : Value} {d : DataW H} {p : List MemPlace} {N : Nat} {Bd : DataW H → Prop} (B : Bound N Bd) (hN : N ≤ 9223372036854775807) (hv : Value.okWide Try.prog W r b0 40 v) (h : DataW.Trod enc Try.prog W 0 (fun _ => true) true 40 v d p) (hb : Bd d) :
    ∃ (a : Option Addr) (c : Nat) (z : List Wd), v = .slice a z.length c ∧ z.length ≤ N ∧ Row (M.all W) a (wds z) := by
  obtain ⟨a, len, cap, rfl⟩ := okWide_slice Try.underlying40 hv
  obtain ⟨fuel, hf⟩ := h
  have hr := rd_of_trod B 3 fuel 40 _ _ hf hb
  rw [Rd] at hr
  simp only [Try.underlying40] at hr
  obtain ⟨a', cap', rows, hcs, h1, h2, h3, h4, h5⟩ := hr
  obtain ⟨z, hz, he, -⟩ := rows_list (α := Wd) (e := encW) (p := fun _ => True) rows fun r hr => rd_wd (d := 0) (h4 r hr).2
  simp [Value.cells] at hcs
  obtain ⟨rfl, rfl, rfl⟩ := hcs
  rw [he] at h5
  exact ⟨a, cap, z, by rw [hz], by omega, h5⟩

end Go.Proofs.Ytoilbbfidnhekaa
