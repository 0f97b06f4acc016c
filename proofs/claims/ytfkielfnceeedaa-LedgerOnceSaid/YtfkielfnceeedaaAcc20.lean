/-
  Contracts of functions of this seat: what each hands back, and what it leaves of memory (acc20). Nothing here is trusted: Lean checks it.
-/
import Derived.Test.YtfkielfnceeedaaAcc19
set_option linter.unusedVariables false
set_option linter.unusedSimpArgs false
namespace Go.Proofs.Ytfkielfnceeedaa
open Go.Vc Go.RowKit
set_option maxRecDepth 100000

theorem hold_step : ∀ {l : List Hd} {last : Int} (k : Int), holdB last l = true → (l.filter fun z => decide (z.nd ≤ k + 1)) = (l.filter fun z => decide (z.nd ≤ k)) ++ l.filter fun z => decide (z.nd = k + 1)
  | [], _, _, _ => rfl
  | h :: r, last, k, hb => by
    simp only [holdB, Bool.and_eq_true] at hb
    have hm := hold_mem _ _ hb.2
    by_cases h1 : h.nd ≤ k
    · rw [List.filter_cons_of_pos (by simp; omega), List.filter_cons_of_pos (by simpa using h1), List.filter_cons_of_neg (by simp; omega), hold_step k hb.2, List.cons_append]
    · have e1 : (r.filter fun z => decide (z.nd ≤ k)) = [] := List.filter_eq_nil_iff.2 fun z hz => by have := hm z hz; simp; omega
      by_cases h2 : h.nd = k + 1
      · have e2 : (r.filter fun z => decide (z.nd ≤ k + 1)) = [] := List.filter_eq_nil_iff.2 fun z hz => by have := hm z hz; simp; omega
        have e3 : (r.filter fun z => decide (z.nd = k + 1)) = [] := List.filter_eq_nil_iff.2 fun z hz => by have := hm z hz; simp; omega
        rw [List.filter_cons_of_pos (by simp; omega), List.filter_cons_of_neg (by simpa using h1), List.filter_cons_of_pos (by simpa using h2), e1, e2, e3]
        rfl
      · rw [List.filter_cons_of_neg (by simp; omega), List.filter_cons_of_neg (by simpa using h1), List.filter_cons_of_neg (by simpa using h2), hold_step k hb.2]

theorem putH_one (l : List Hd) (h : Hd) (k : Nat) : ((putH l h).filter fun z => decide (z.nd = ((k + 1 : Nat) : Int))) = oneW h k ++ (l.filter fun z => decide (z.nd ≠ h.nd)).filter fun z => decide (z.nd = ((k + 1 : Nat) : Int)) := by
  simp only [putH, List.filter_append, List.filter_cons, List.filter_filter]
  by_cases hk : ((k + 1 : Nat) : Int) = h.nd
  · have e1 : (l.filter fun a => decide (a.nd = ((k + 1 : Nat) : Int)) && decide (a.nd < h.nd)) = [] := List.filter_eq_nil_iff.2 fun z _ => by simp; omega
    have e2 : (l.filter fun a => decide (a.nd = ((k + 1 : Nat) : Int)) && decide (h.nd < a.nd)) = [] := List.filter_eq_nil_iff.2 fun z _ => by simp; omega
    have e3 : (l.filter fun a => decide (a.nd = ((k + 1 : Nat) : Int)) && decide (a.nd ≠ h.nd)) = [] := List.filter_eq_nil_iff.2 fun z _ => by simp; omega
    rw [e1, e2, e3, if_pos (by simpa using hk.symm)]
    unfold oneW
    rw [if_pos hk]; rfl
  · have hw : oneW h k = [] := by unfold oneW; rw [if_neg hk]
    rw [hw, if_neg (by simp; omega), List.nil_append]
    rcases (by omega : ((k + 1 : Nat) : Int) < h.nd ∨ h.nd ≤ ((k + 1 : Nat) : Int)) with hlt | hge
    · have e2 : (l.filter fun a => decide (a.nd = ((k + 1 : Nat) : Int)) && decide (h.nd < a.nd)) = [] := List.filter_eq_nil_iff.2 fun z _ => by simp; omega
      rw [e2, List.append_nil]
      exact List.filter_congr fun z _ => by rw [Bool.eq_iff_iff]; simp; omega
    · have e2 : (l.filter fun a => decide (a.nd = ((k + 1 : Nat) : Int)) && decide (a.nd < h.nd)) = [] := List.filter_eq_nil_iff.2 fun z _ => by simp; omega
      rw [e2, List.nil_append]
      exact List.filter_congr fun z _ => by rw [Bool.eq_iff_iff]; simp; omega

theorem resW_put {l : List Hd} {h : Hd} (hl : holdB 0 l = true) (hh : hdB 0 h = true) : resW (l.filter fun z => decide (z.nd ≠ h.nd)) h 5 = putH l h := by
  have hs := putH_hold hl hh
  have key : ∀ k : Nat, resW (l.filter fun z => decide (z.nd ≠ h.nd)) h k = (putH l h).filter fun z => decide (z.nd ≤ (k : Int)) := fun k => by
    induction k with
    | zero =>
      simp only [resW]
      exact (List.filter_eq_nil_iff.2 fun z hz => by have := hold_mem _ _ hs z hz; simp; omega).symm
    | succ k ih =>
      simp only [resW]
      rw [ih, List.append_assoc, ← putH_one]
      exact (hold_step (k : Int) hs).symm
  rw [key 5]
  exact List.filter_eq_self.2 fun z hz => by have := hold_mem _ _ hs z hz; simp; omega

end Go.Proofs.Ytfkielfnceeedaa
