/-
  Contracts of functions of this seat: what each hands back, and what it leaves of memory (rng17). Nothing here is trusted: Lean checks it.
-/
import Derived.Test.YtpnpebefcmgjoaaLch
import Derived.Test.YtpnpebefcmgjoaaLks
set_option linter.unusedVariables false
set_option linter.unusedSimpArgs false
namespace Go.Proofs.Ytpnpebefcmgjoaa
open Go.Vc Go.RowKit
set_option maxRecDepth 100000

theorem ep_spec : ∀ (l : List Pl) (e : Int), (∀ x ∈ l, x.ep ≤ l.foldl (fun e p => max e p.ep) e) ∧ e ≤ l.foldl (fun e p => max e p.ep) e ∧ (l.foldl (fun e p => max e p.ep) e = e ∨ ∃ x ∈ l, x.ep = l.foldl (fun e p => max e p.ep) e)
  | [], e => by simp
  | x :: xs, e => by
    obtain ⟨h1, h2, h3⟩ := ep_spec xs (max e x.ep)
    simp only [List.foldl_cons]
    refine ⟨fun y hy => ?_, by omega, ?_⟩
    · rcases List.mem_cons.1 hy with rfl | hy
      · omega
      · exact h1 y hy
    · rcases h3 with h3 | ⟨y, hy, h3⟩
      · rcases Int.le_total e x.ep with h | h
        · right
          exact ⟨x, by simp, by rw [h3]; omega⟩
        · left
          rw [h3]; omega
      · exact .inr ⟨y, by simp [hy], h3⟩

theorem ep_is {l : List Pl} {e : Int} (he : 0 ≤ e) (h1 : ∀ x ∈ l, x.ep ≤ e) (h2 : ∃ x ∈ l, x.ep = e) : epochL l = e := by
  obtain ⟨g1, g2, g3⟩ := ep_spec l 0
  obtain ⟨y, hy, hye⟩ := h2
  have := g1 y hy
  show l.foldl _ _ = e
  rcases g3 with g3 | ⟨z, hz, g3⟩
  · omega
  · have := h1 z hz; omega

theorem ep_ge {l : List Pl} {x : Pl} (h : x ∈ l) : x.ep ≤ epochL l := (ep_spec l 0).1 x h

theorem ins_epoch {l : List Pl} {key : ByteArray} {g : Int} {f : Nat} (hf : f < l.length) : epochL (insS l key g f (epochL l + 1)) = epochL l + 1 := by
  have hE : 0 ≤ epochL l := epoch_nn l 0
  rw [ins_form hf]
  refine ep_is (by omega) (fun x hx => ?_) ⟨⟨g, key, epochL l + 1⟩, by simp, rfl⟩
  simp only [List.mem_append, List.mem_cons] at hx
  rcases hx with hx | rfl | rfl | hx
  · have := ep_ge (List.mem_of_mem_take hx); omega
  · exact Int.le_refl _
  · exact Int.le_refl _
  · have := ep_ge (List.mem_of_mem_drop hx); omega

theorem del_epoch {l : List Pl} {f : Nat} (hf : f < l.length) : epochL (delS l f (epochL l + 1)) = epochL l + 1 := by
  have hE : 0 ≤ epochL l := epoch_nn l 0
  rw [del_form hf]
  refine ep_is (by omega) (fun x hx => ?_) ⟨{ l[f] with ep := epochL l + 1 }, by simp, rfl⟩
  simp only [List.mem_append, List.mem_cons] at hx
  rcases hx with hx | rfl | hx
  · have := ep_ge (List.mem_of_mem_take hx); omega
  · exact Int.le_refl _
  · have := ep_ge (List.mem_of_mem_drop hx); omega

end Go.Proofs.Ytpnpebefcmgjoaa
