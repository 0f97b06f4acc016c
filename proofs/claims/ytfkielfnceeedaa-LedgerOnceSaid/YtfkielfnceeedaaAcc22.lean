/-
  Contracts of functions of this seat: what each hands back, and what it leaves of memory (acc22). Nothing here is trusted: Lean checks it.
-/
import Derived.Test.YtfkielfnceeedaaAcc21
set_option linter.unusedVariables false
set_option linter.unusedSimpArgs false
namespace Go.Proofs.Ytfkielfnceeedaa
open Go.Vc Go.RowKit
set_option maxRecDepth 100000

/-- what an account has become: right, and of the same key -/
structure StayP (x y : Ac) : Prop where
  right : rightB y = true
  wf : y.wf
  key : y.key = x.key

theorem bounds_stay {x : Ac} {lo hi : Int} (hx : x.wf) (h1 : In64 lo) (h2 : In64 hi) (h : (aBounds x lo hi).2 = 0) : rightB x = true ∧ aBounds x lo hi = ({ x with lo := lo, hi := hi }, 0) ∧ StayP x { x with lo := lo, hi := hi } := by
  unfold aBounds at h ⊢
  split at h
  · rename_i hk; exact absurd h hk
  split at h
  · simp at h
  rename_i hk hh
  have hk : knownE x = 0 := Classical.byContradiction hk
  have hr := known_right hk
  have ht : totB x = true := by
    cases ht : totB x
    · simp [knownE, hr, ht] at hk
    · rfl
  simp only [totB, Bool.and_eq_true, decide_eq_true_eq, List.isEmpty_iff] at ht
  have hh : hasB lo hi x.base = true := by simpa using hh
  refine ⟨hr, by simp [hk, hh], ?_⟩
  have hp := (right_iff x).1 hr
  simp only [hasB, Bool.and_eq_true, decide_eq_true_eq] at hh
  refine ⟨(right_iff _).2 ⟨hp.key, hh, hp.round, hp.hold, ?_, ?_, ?_⟩, ⟨hx.key, h1, h2, hx.base, hx.round, hx.hs, hx.len, hx.lk⟩, rfl⟩
  · simp only [upsL, ht.2, List.map_nil, sumI_cons]; simp only [sumI, List.foldl_nil]; omega
  · simp only [dnsL, ht.2, List.map_nil, sumI_cons]; simp only [sumI, List.foldl_nil]; omega
  · have := hp.lock
    simp only [lockB, ht.1.2, if_true] at this ⊢
    exact this

theorem take_stay {x : Ac} {k : Lk} (hx : x.wf) (hk : k.wf) (h : (aTake x k).2 = 0) : rightB x = true ∧ aTake x k = ({ x with lk := k }, 0) ∧ StayP x { x with lk := k } := by
  obtain ⟨h1, h2, h3, h4, h5, h6⟩ := aTake_ok h
  obtain ⟨g1, g2, -⟩ := take_right hx hk h1 h2 h3 h4 h5
  exact ⟨h1, h6, g1, g2, rfl⟩

def freedA (x : Ac) (b : Bool) : Ac := { x with base := if b then x.base + x.lk.n else x.base, lk := lk0 }

theorem free_stay {x : Ac} {b : Bool} (hx : x.wf) (h : (aFree x b).2 = 0) : rightB x = true ∧ aFree x b = (freedA x b, 0) ∧ StayP x (freedA x b) ∧ x.lk.cl ≠ 0 := by
  unfold aFree at h ⊢
  split at h
  · simp at h
  split at h
  · simp at h
  rename_i h1 h2
  have h1 : rightB x = true := by simpa using h1
  obtain ⟨g1, g2⟩ := free_right (b := b) hx h1 h2
  exact ⟨h1, by simp only [h1, h2, if_false, freedA]; simp, ⟨g1, g2, rfl⟩, h2⟩

theorem add_stay {x : Ac} {n : Int} (hx : x.wf) (h : (aAdd x n).2 = 0) : rightB x = true ∧ aAdd x n = (x.by n, 0) ∧ StayP x (x.by n) := by
  obtain ⟨h1, h2, h3, h4, h5⟩ := aAdd_ok h
  obtain ⟨g1, g2, g3, g4⟩ := by_right hx h1 h3 h4
  exact ⟨h1, h5, g1, g2, rfl⟩

theorem freeze_stay {x : Ac} {r : Int} (hx : x.wf) (hr64 : In64 r) (h : (aFreeze x r).2 = 0) : rightB x = true ∧ aFreeze x r = ({ x with round := rndR x r }, 0) ∧ StayP x { x with round := rndR x r } := by
  obtain ⟨h1, h2, h3, h4⟩ := aFreeze_ok h
  have hp := (right_iff x).1 h1
  have hR1 : 0 ≤ rndR x r := by have := hp.round; unfold rndR; split <;> omega
  have hR2 : In64 (rndR x r) := by unfold rndR; split; exact hr64; exact hx.round
  obtain ⟨g1, g2⟩ := round_right hx h1 hR1 hR2
  exact ⟨h1, h4, g1, g2, rfl⟩

theorem thaw_stay {x : Ac} (hx : x.wf) (h : (aThaw x).2 = 0) : rightB x = true ∧ aThaw x = ({ x with round := 0 }, 0) ∧ StayP x { x with round := 0 } := by
  unfold aThaw at h ⊢
  split at h
  · simp at h
  rename_i h1
  have h1 : rightB x = true := by simpa using h1
  obtain ⟨g1, g2⟩ := round_right hx h1 (Int.le_refl 0) (by decide)
  exact ⟨h1, by simp [h1], g1, g2, rfl⟩

def cutA (x : Ac) (nd net : Int) : Ac := { x with base := x.base + net, hs := x.hs.filter fun h => decide (h.nd ≠ nd) }

theorem report_stay {x : Ac} {nd le ro net : Int} (hx : x.wf) (h : (aReport x nd le ro net).2 = 0) : rightB x = true ∧ aReport x nd le ro net = (cutA x nd net, 0) ∧ StayP x (cutA x nd net) := by
  obtain ⟨h1, h2, h3, h4, h5, h6, h7, h8⟩ := aReport_ok h
  obtain ⟨-, hm, hn⟩ := find_mem h2
  obtain ⟨g1, g2⟩ := cut_right hx h1 hm h6 h7
  rw [hn] at g1 g2
  exact ⟨h1, h8, g1, g2, rfl⟩

theorem grant_stay {x : Ac} {nd le ns : Int} (hx : x.wf) (hle : In64 le) (h : (aGrant x nd le ns).2 = 0) : rightB x = true ∧ aGrant x nd le ns = (grantA x nd le ns, 0) ∧ StayP x (grantA x nd le ns) := by
  obtain ⟨h1, h2, h3, h4, h5, h6, h7, h8, h9⟩ := aGrant_ok h
  have P := grant_p hx h1 h2 h3 h4 h5 h6 hle h7 h8
  exact ⟨h1, h9, P.right, P.wf, rfl⟩

theorem call_stay {x : Ac} {o : OpA} {ns : Int} (hx : x.wf) (ho : o.wf) (h : (aCall x o ns).2 = 0) : rightB x = true ∧ StayP x (aCall x o ns).1 := by
  obtain ⟨-, -, h3, h4, h5, h6, h7, h8⟩ := ho
  unfold aCall at h ⊢
  split
  · rename_i h1; rw [if_pos h1] at h; obtain ⟨a, b, c⟩ := grant_stay hx h3 h; rw [b]; exact ⟨a, c⟩
  rename_i h1; rw [if_neg h1] at h
  split
  · rename_i h1; rw [if_pos h1] at h; obtain ⟨a, b, c⟩ := freeze_stay hx h4 h; rw [b]; exact ⟨a, c⟩
  rename_i h1; rw [if_neg h1] at h
  split
  · rename_i h1; rw [if_pos h1] at h; obtain ⟨a, b, c⟩ := thaw_stay hx h; rw [b]; exact ⟨a, c⟩
  rename_i h1; rw [if_neg h1] at h
  split
  · rename_i h1; rw [if_pos h1] at h; obtain ⟨a, b, c⟩ := report_stay hx h; rw [b]; exact ⟨a, c⟩
  rename_i h1; rw [if_neg h1] at h
  split
  · rename_i h1; rw [if_pos h1] at h; obtain ⟨a, b, c⟩ := bounds_stay hx h6 h7 h; rw [b]; exact ⟨a, c⟩
  rename_i h1; rw [if_neg h1] at h
  split
  · rename_i h1; rw [if_pos h1] at h; obtain ⟨a, b, c⟩ := take_stay hx h8 h; rw [b]; exact ⟨a, c⟩
  rename_i h1; rw [if_neg h1] at h
  split
  · rename_i h1; rw [if_pos h1] at h; obtain ⟨a, b, c, -⟩ := free_stay hx h; rw [b]; exact ⟨a, c⟩
  rename_i h1; rw [if_neg h1] at h
  obtain ⟨a, b, c⟩ := add_stay hx h; rw [b]; exact ⟨a, c⟩

theorem thaw_err {x : Ac} (h : (aThaw x).2 ≠ 0) : (aThaw x).1 = ac0 := by
  unfold aThaw at h ⊢
  split <;> simp_all

theorem report_err {x : Ac} {nd le ro net : Int} (h : (aReport x nd le ro net).2 ≠ 0) : (aReport x nd le ro net).1 = ac0 := by
  unfold aReport at h ⊢
  split; rfl
  split; rfl
  split; rfl
  split; rfl
  rename_i h1 h2 h3 h4
  simp only [h1, h2, h3, h4, if_false] at h
  exact absurd rfl h

theorem bounds_err {x : Ac} {lo hi : Int} (h : (aBounds x lo hi).2 ≠ 0) : (aBounds x lo hi).1 = ac0 := by
  unfold aBounds at h ⊢
  split; rfl
  split; rfl
  rename_i h1 h2
  simp only [h1, h2, if_false] at h
  exact absurd rfl h

theorem free_err {x : Ac} {b : Bool} (h : (aFree x b).2 ≠ 0) : (aFree x b).1 = ac0 := by
  unfold aFree at h ⊢
  split; rfl
  split; rfl
  rename_i h1 h2
  simp only [h1, h2, if_false] at h
  exact absurd rfl h

theorem call_err {x : Ac} {o : OpA} {ns : Int} (h : (aCall x o ns).2 ≠ 0) : (aCall x o ns).1 = ac0 := by
  unfold aCall at h ⊢
  split
  · rename_i h1; rw [if_pos h1] at h; rw [aGrant_err h]
  rename_i h1; rw [if_neg h1] at h
  split
  · rename_i h1; rw [if_pos h1] at h; rw [aFreeze_err h]
  rename_i h1; rw [if_neg h1] at h
  split
  · rename_i h1; rw [if_pos h1] at h; exact thaw_err h
  rename_i h1; rw [if_neg h1] at h
  split
  · rename_i h1; rw [if_pos h1] at h; exact report_err h
  rename_i h1; rw [if_neg h1] at h
  split
  · rename_i h1; rw [if_pos h1] at h; exact bounds_err h
  rename_i h1; rw [if_neg h1] at h
  split
  · rename_i h1; rw [if_pos h1] at h; rw [aTake_err h]
  rename_i h1; rw [if_neg h1] at h
  split
  · rename_i h1; rw [if_pos h1] at h; exact free_err h
  rename_i h1; rw [if_neg h1] at h
  rw [aAdd_err h]

theorem call_wf {x : Ac} {o : OpA} {ns : Int} (hx : x.wf) (ho : o.wf) : (aCall x o ns).1.wf := by
  by_cases h : (aCall x o ns).2 = 0
  · exact (call_stay hx ho h).2.wf
  · rw [call_err h]; exact wf_key _ (by decide)

end Go.Proofs.Ytfkielfnceeedaa
