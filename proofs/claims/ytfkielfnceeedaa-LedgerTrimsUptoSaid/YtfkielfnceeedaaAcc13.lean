/-
  Contracts of functions of this seat: what each hands back, and what it leaves of memory (acc13). Nothing here is trusted: Lean checks it.
-/
import Derived.Test.YtfkielfnceeedaaAcc10
import Derived.Test.YtfkielfnceeedaaAcc12
set_option linter.unusedVariables false
set_option linter.unusedSimpArgs false
namespace Go.Proofs.Ytfkielfnceeedaa
open Go.Vc Go.RowKit

theorem hold_mono : ∀ {l : List Hd} {last last' : Int}, last' ≤ last → holdB last l = true → holdB last' l = true
  | [], _, _, _, _ => rfl
  | h :: r, last, last', hl, hb => by
    simp only [holdB, hdB, Bool.and_eq_true, decide_eq_true_eq] at hb ⊢
    exact ⟨by omega, hb.2⟩

theorem hold_filter {p : Hd → Bool} : ∀ {l : List Hd} {last : Int}, holdB last l = true → holdB last (l.filter p) = true
  | [], _, _ => rfl
  | h :: r, last, hb => by
    simp only [holdB, Bool.and_eq_true] at hb
    have hd := hb.1
    simp only [hdB, Bool.and_eq_true, decide_eq_true_eq] at hd
    by_cases hp : p h = true
    · rw [List.filter_cons_of_pos hp]
      simp only [holdB, Bool.and_eq_true]
      exact ⟨hb.1, hold_filter hb.2⟩
    · rw [List.filter_cons_of_neg hp]
      exact hold_mono (by omega) (hold_filter hb.2)

theorem hold_keep {l : List Hd} {last nd : Int} (h : holdB last l = true) (hn : nd ≤ last) : l.filter (fun h => decide (h.nd ≠ nd)) = l :=
  List.filter_eq_self.2 fun z hz => by have := hold_mem _ _ h z hz; simp; omega

theorem hold_cut {h : Hd} {r : List Hd} {last : Int} (hb : holdB last (h :: r) = true) : (h :: r).filter (fun z => decide (z.nd ≠ h.nd)) = r := by
  simp only [holdB, Bool.and_eq_true] at hb
  rw [List.filter_cons_of_neg (by simp)]
  exact hold_keep hb.2 (Int.le_refl _)

theorem sum_cut (f : Hd → Int) : ∀ {l : List Hd} {last : Int} {h : Hd}, holdB last l = true → h ∈ l → sumI ((l.filter fun z => decide (z.nd ≠ h.nd)).map f) = sumI (l.map f) - f h
  | x :: r, last, h, hb, hm => by
    have hb' := hb
    simp only [holdB, Bool.and_eq_true] at hb'
    rcases List.mem_cons.1 hm with rfl | hm
    · rw [hold_cut hb, List.map_cons, sumI_cons]; omega
    · have hgt := hold_mem _ _ hb'.2 h hm
      rw [List.filter_cons_of_pos (by simp; omega), List.map_cons, List.map_cons, sumI_cons, sumI_cons, sum_cut f hb'.2 hm]
      omega

theorem aReport_ok {x : Ac} {nd le ro net : Int} (h : (aReport x nd le ro net).2 = 0) : rightB x = true ∧ findB x nd = true ∧ (findH x nd).le = le ∧ x.round = ro ∧ x.round ≠ 0 ∧ net ≤ (findH x nd).up ∧ -(findH x nd).dn ≤ net ∧
    aReport x nd le ro net = ({ x with base := x.base + net, hs := x.hs.filter fun h => decide (h.nd ≠ nd) }, 0) := by
  unfold aReport at h ⊢
  split at h
  · simp at h
  split at h
  · simp at h
  split at h
  · simp at h
  split at h
  · simp at h
  rename_i h1 h2 h3 h4
  refine ⟨by simpa using h1, ?_, ?_, ?_, ?_, by omega, by omega, by simp only [h1, h2, h3, h4, if_false]; simp⟩
  · cases hf : findB x nd
    · simp [hf] at h2
    · rfl
  · exact Classical.byContradiction fun e => h2 (.inr e)
  · exact Classical.byContradiction fun e => h3 (.inr e)
  · exact fun e => h3 (.inl e)

/-- behind a report the account is right -/
theorem cut_right {x : Ac} {h : Hd} {net : Int} (hx : x.wf) (hr : rightB x = true) (hm : h ∈ x.hs) (h1 : net ≤ h.up) (h2 : -h.dn ≤ net) :
    rightB { x with base := x.base + net, hs := x.hs.filter fun z => decide (z.nd ≠ h.nd) } = true ∧ ({ x with base := x.base + net, hs := x.hs.filter fun z => decide (z.nd ≠ h.nd) } : Ac).wf := by
  have hp := (right_iff x).1 hr
  have hroom := hold_room hr hm
  have e1 := sum_cut (·.up) hp.hold hm
  have e2 := sum_cut (·.dn) hp.hold hm
  have hlo := hx.lo
  have hhi := hx.hi
  refine ⟨(right_iff _).2 ⟨hp.key, by simp only; omega, hp.round, hold_filter hp.hold, ?_, ?_, ?_⟩, ⟨hx.key, hx.lo, hx.hi, by simp only; unfold In64 at *; omega, hx.round, fun z hz => hx.hs z (List.mem_filter.1 hz).1, Nat.le_trans (List.length_filter_le _ _) hx.len, hx.lk⟩⟩
  · have := hp.up
    simp only [upsL, sumI_cons, e1] at this ⊢
    omega
  · have := hp.dn
    have n1 := sumI_neg x.hs (·.dn)
    have n2 := sumI_neg (x.hs.filter fun z => decide (z.nd ≠ h.nd)) (·.dn)
    simp only [dnsL, sumI_cons] at this ⊢
    rw [n1] at this
    rw [n2, e2]
    omega
  · have := hp.lock
    simp only [lockB] at this ⊢
    split
    · rename_i hl; simpa [hl] using this
    · rename_i hl
      simp [hl] at this
      rw [this.1.2] at hm
      simp at hm

end Go.Proofs.Ytfkielfnceeedaa
