/-
  Contracts of functions of this seat: what each hands back, and what it leaves of memory (acc10). Nothing here is trusted: Lean checks it.
-/
import Derived.Test.YtfkielfnceeedaaAcc9
set_option linter.unusedVariables false
set_option linter.unusedSimpArgs false
namespace Go.Proofs.Ytfkielfnceeedaa
open Go.Vc Go.RowKit

theorem sum_shift (l : List Int) (b n : Int) : sumI ((b + n) :: l) = sumI (b :: l) + n := by
  rw [sumI_cons, sumI_cons]; omega

/-- the total changed by n -/
def Ac.by (x : Ac) (n : Int) : Ac := { x with base := x.base + n }

theorem aAdd_ok {x : Ac} {n : Int} (h : (aAdd x n).2 = 0) : rightB x = true ∧ n ≠ 0 ∧ x.lk.cl = 0 ∧ ¬ ((0 < n ∧ roomUp x < n) ∨ (n < 0 ∧ roomDn x < -n)) ∧ aAdd x n = (x.by n, 0) := by
  unfold aAdd at h ⊢
  split at h
  · simp at h
  split at h
  · simp at h
  split at h
  · simp at h
  split at h
  · simp at h
  rename_i h1 h2 h3 h4
  simp at h1 h3
  exact ⟨h1, h2, h3, h4, by simp only [h1, h2, h3, h4, if_false, Ac.by]; simp⟩

theorem aAdd_err {x : Ac} {n : Int} (h : (aAdd x n).2 ≠ 0) : aAdd x n = (ac0, (aAdd x n).2) := by
  unfold aAdd at h ⊢
  repeat' split
  all_goals simp_all

theorem by_right {x : Ac} {n : Int} (hx : x.wf) (hr : rightB x = true) (hl : x.lk.cl = 0) (h : ¬ ((0 < n ∧ roomUp x < n) ∨ (n < 0 ∧ roomDn x < -n))) : rightB (x.by n) = true ∧ (x.by n).wf ∧ roomUp (x.by n) = roomUp x - n ∧ roomDn (x.by n) = roomDn x + n := by
  have hb := room_bounds hx hr hl
  have hp := (right_iff x).1 hr
  have hbd := hp.bounds hx
  have hlo := hx.lo
  have hhi := hx.hi
  have e1 : sumI (upsL (x.by n)) = sumI (upsL x) + n := sum_shift _ _ _
  have e2 : sumI (dnsL (x.by n)) = sumI (dnsL x) + n := sum_shift _ _ _
  have hR : RightP (x.by n) := by
    refine ⟨hp.key, ?_, hp.round, hp.hold, ?_, ?_, ?_⟩
    · show x.lo ≤ x.base + n ∧ x.base + n ≤ x.hi; omega
    · rw [e1]; show _ ≤ x.hi; omega
    · rw [e2]; show x.lo ≤ _; omega
    · have := hp.lock
      simp only [lockB, hl, if_true, Ac.by] at this ⊢
      exact this
  have hR' := (right_iff _).2 hR
  have hl' : (x.by n).lk.cl = 0 := hl
  have hw : (x.by n).wf := ⟨hx.key, hx.lo, hx.hi, by show In64 (x.base + n); unfold In64 at *; omega, hx.round, hx.hs, hx.len, hx.lk⟩
  have hb' := room_bounds hw hR' hl'
  rw [e1, e2] at hb'
  exact ⟨hR', hw, by have h1 : (x.by n).hi = x.hi := rfl; omega, by have h1 : (x.by n).lo = x.lo := rfl; omega⟩

theorem by_back (x : Ac) (n : Int) : (x.by n).by (-n) = x := by
  obtain ⟨_, _, _, b, _, _, _⟩ := x
  simp only [Ac.by, Ac.mk.injEq, true_and, and_true]; omega

theorem newr_none {B c n : Nat} {S : Nat → Prop} {m : M} {l : List Hd} (h : NewR B S m 4 none n c (hds l)) : l = [] := by
  have : hds l = [] := by
    generalize hds l = cs at h
    generalize ha : (none : Option Addr) = a at h
    cases h with
    | nil => rfl
    | own h => cases h with
      | nil => rfl
      | «at» => cases ha
  have := congrArg List.length this
  rw [hds_len] at this
  exact List.eq_nil_of_length_eq_zero (by simp at this; omega)

theorem wrap_in (n : Int) : In64 (IntKind.i64.wrap n) := by
  unfold In64; simp [IntKind.wrap_i64]; omega

end Go.Proofs.Ytfkielfnceeedaa
