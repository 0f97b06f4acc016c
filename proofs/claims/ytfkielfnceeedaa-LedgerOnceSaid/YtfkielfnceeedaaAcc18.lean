/-
  Contracts of functions of this seat: what each hands back, and what it leaves of memory (acc18). Nothing here is trusted: Lean checks it.
-/
import Derived.Test.YtfkielfnceeedaaAcc16
set_option linter.unusedVariables false
set_option linter.unusedSimpArgs false
namespace Go.Proofs.Ytfkielfnceeedaa
open Go.Vc Go.RowKit
set_option maxRecDepth 100000

theorem aTake_ok {x : Ac} {k : Lk} (h : (aTake x k).2 = 0) : rightB x = true ∧ keeperB k = true ∧ x.lk.cl = 0 ∧ x.hs = [] ∧ fitsB x k = true ∧ aTake x k = ({ x with lk := k }, 0) := by
  unfold aTake at h ⊢
  split at h
  · simp at h
  split at h
  · simp at h
  split at h
  · rename_i h3; exact absurd h h3
  split at h
  · simp at h
  rename_i h1 h2 h3 h4
  have h1 : rightB x = true := by simpa using h1
  have h3 : knownE x = 0 := Classical.byContradiction h3
  have ht : totB x = true := by
    cases ht : totB x
    · simp [knownE, h1, ht] at h3
    · rfl
  simp only [totB, Bool.and_eq_true, decide_eq_true_eq, List.isEmpty_iff] at ht
  have h2' : keeperB k = true := by simpa using h2
  have h4' : fitsB x k = true := by simpa using h4
  exact ⟨h1, h2', ht.1.2, ht.2, h4', by simp [h1, h2', h3, h4']⟩

theorem aTake_err {x : Ac} {k : Lk} (h : (aTake x k).2 ≠ 0) : aTake x k = (ac0, (aTake x k).2) := by
  unfold aTake at h ⊢
  repeat' split
  all_goals simp_all

theorem take_right {x : Ac} {k : Lk} (hx : x.wf) (hk : k.wf) (hr : rightB x = true) (h1 : keeperB k = true) (h2 : x.lk.cl = 0) (h3 : x.hs = []) (h4 : fitsB x k = true) : rightB { x with lk := k } = true ∧ ({ x with lk := k } : Ac).wf ∧ k.cl ≠ 0 := by
  have hp := (right_iff x).1 hr
  have hc : k.cl ≠ 0 := by simp [keeperB] at h1; omega
  refine ⟨(right_iff _).2 ⟨hp.key, hp.has, hp.round, hp.hold, hp.up, hp.dn, ?_⟩, ⟨hx.key, hx.lo, hx.hi, hx.base, hx.round, hx.hs, hx.len, hk⟩, hc⟩
  have hf : fitsB { x with lk := k } k = true := h4
  show (if k.cl = 0 then lkZ k else keeperB k && x.hs.isEmpty && fitsB { x with lk := k } k) = true
  rw [if_neg hc, h1, hf, h3]
  rfl

theorem lk0_wf : lk0.wf := ⟨by decide, by decide, by decide, by decide⟩

theorem free_right {x : Ac} {b : Bool} (hx : x.wf) (hr : rightB x = true) (hc : x.lk.cl ≠ 0) :
    rightB { x with base := if b then x.base + x.lk.n else x.base, lk := lk0 } = true ∧ ({ x with base := if b then x.base + x.lk.n else x.base, lk := lk0 } : Ac).wf := by
  have hp := (right_iff x).1 hr
  have hl := hp.lock
  simp only [lockB] at hl
  rw [if_neg hc] at hl
  simp only [Bool.and_eq_true, List.isEmpty_iff, fitsB, hasB, decide_eq_true_eq] at hl
  obtain ⟨⟨h1, h2⟩, h3⟩ := hl
  have hh := hp.has
  have hlo := hx.lo
  have hhi := hx.hi
  have hb : x.lo ≤ (if b then x.base + x.lk.n else x.base) ∧ (if b then x.base + x.lk.n else x.base) ≤ x.hi := by cases b <;> simp <;> omega
  refine ⟨(right_iff _).2 ⟨hp.key, hb, hp.round, hp.hold, ?_, ?_, ?_⟩, ⟨hx.key, hx.lo, hx.hi, ?_, hx.round, hx.hs, hx.len, lk0_wf⟩⟩
  · simp only [upsL, h2, List.map_nil, sumI_cons]; simp only [sumI, List.foldl_nil]; omega
  · simp only [dnsL, h2, List.map_nil, sumI_cons]; simp only [sumI, List.foldl_nil]; omega
  · simp [lockB, lk0, lkZ]
  · simp only; unfold In64 at *; omega

end Go.Proofs.Ytfkielfnceeedaa
