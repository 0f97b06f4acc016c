/-
  The weakest precondition in a round of a range over a function. Nothing here is trusted: Lean checks it. It names no program.
-/
import Derived.Test.YtlifpjllhibdpaaVcTree
import Derived.RangeFuncFrom
import Derived.RangeFuncLeaves
import Derived.TacticsIn
import Derived.OrdersIn
set_option linter.unusedVariables false
set_option linter.unusedSimpArgs false
namespace Go.Vc
open Go.RowKit
section
variable {P : Program} {n : Nat} {r : Option Nat} {ops : Array Oper} {Q : Exit → Act → World → Prop} {a : Act} {w : World}

/-- the wide fence, in a round or in none -/
abbrev FW (r : Option Nat) : Fence := { Fence.wide with round := r }

theorem rows_in {row : String} {args : Array Value} {R : Value → World → Prop} (h : Rows P row args w R) : RowsIn (FW r) n P row args w R := fun c cs _ => by
  obtain ⟨v, w', hr, hs⟩ := h c cs
  exact ⟨v, w', hr, (StepsIn.of_steps hs).mono fun m _ => fenced_wide P m⟩

theorem op_in {o : Oper} {next : Act → World → Prop} (hd : noDefer o = true) (h : o.wp P a w next Q) : o.wpIn (FW r) n P a w next Q := by
  unfold Oper.wp at h
  refine ⟨fun _ _ => trivial, ?_⟩
  rw [Oper.semAt_eq _ _ _ (fun c hc => by simp [noDefer, hc] at hd)]
  generalize (execOp a.eval o).run P w = res at h
  cases res with
  | ok x w' =>
    cases x with
    | value v => exact h
    | skip => exact h
    | defer d => exact h
    | enter f args => exact ⟨fun hh => by simp [Fence.wide] at hh, (callsIn_wide (n := n - 1)).2 h⟩
    | row row args => exact ⟨fun hh => by simp [Fence.wide] at hh, rows_in h⟩
    | _ => exact h.elim
  | halt x w' => cases x <;> exact h

theorem list_in (hQ : ¬ LetsOut Q) : ∀ (l : List Oper) (a : Act) (w : World), (∀ o ∈ l, noDefer o = true) → wpList P ops Q l a w → wpListIn (FW r) n P ops Q l a w
  | [], a, w, _, h => h
  | o :: rest, a, w, hd, h => by
    simp only [wpList] at h
    simp only [wpListIn]
    split at h
    · rename_i hw
      rw [if_pos hw]
      rcases h with h | ⟨-, h⟩
      · exact op_in (hd o (by simp)) (Oper.wp_mono (fun a w hh => list_in hQ rest a w (fun o ho => hd o (by simp [ho])) hh) h)
      · exact absurd h hQ
    · rename_i hw
      rw [if_neg hw]
      exact ⟨fun _ _ => trivial, list_in hQ rest _ _ (fun o ho => hd o (by simp [ho])) h⟩

theorem any_in (hQ : ¬ LetsOut Q) (hd : ∀ o ∈ ops.toList, noDefer o = true) : ∀ (fuel : Nat) (listed : Array Bool) (a : Act) (w : World), wpAny P .any ops Q fuel listed a w → wpAnyIn (FW r) n P .any ops Q fuel listed a w
  | 0, _, _, _, h => h
  | fuel + 1, listed, a, w, h => by
    refine ⟨h.1, fun i hi => ?_⟩
    have hh := h.2 i hi
    unfold wpOp at hh
    unfold wpOpIn
    cases ho : ops[i]? with
    | none => rw [ho] at hh; exact any_in hQ hd fuel _ _ _ hh
    | some o =>
      rw [ho] at hh
      simp only at hh ⊢
      have hm : o ∈ ops.toList := by
        obtain ⟨hlt, e⟩ := Array.getElem?_eq_some_iff.1 ho
        rw [← e]; exact Array.getElem_mem_toList hlt
      split at hh
      · rename_i hw
        rw [if_pos hw]
        rcases hh with hh | ⟨-, hh⟩
        · exact op_in (hd o hm) (Oper.wp_mono (fun a w h2 => any_in hQ hd fuel _ a w h2) hh)
        · exact absurd hh hQ
      · rename_i hw
        rw [if_neg hw]
        exact ⟨fun _ _ => trivial, any_in hQ hd fuel _ _ _ hh⟩
end
end Go.Vc
