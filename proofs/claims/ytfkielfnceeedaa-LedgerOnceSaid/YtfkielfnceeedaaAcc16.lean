/-
  Contracts of functions of this seat: what each hands back, and what it leaves of memory (acc16). Nothing here is trusted: Lean checks it.
-/
import Derived.Test.YtfkielfnceeedaaAcc14
import Derived.Test.YtfkielfnceeedaaAcc15
set_option linter.unusedVariables false
set_option linter.unusedSimpArgs false
namespace Go.Proofs.Ytfkielfnceeedaa
open Go.Vc Go.RowKit
set_option maxRecDepth 100000

theorem fndH_append (F G : List Hd) (nd : Int) : fndH (F ++ G) nd = (fndH F nd).or (fndH G nd) := by
  simp [fndH, List.find?_append]

theorem fndH_cons (h : Hd) (G : List Hd) (nd : Int) : fndH (h :: G) nd = if h.nd = nd then some h else fndH G nd := by
  unfold fndH
  rw [List.find?_cons]
  by_cases hn : h.nd = nd
  · simp [hn]
  · have e : (h.nd == nd) = false := by simpa using hn
    rw [e]; simp [hn]

theorem fndH_none {F : List Hd} {nd : Int} (h : ∀ z ∈ F, z.nd ≠ nd) : fndH F nd = none := by
  unfold fndH
  rw [List.find?_eq_none]
  intro z hz; simpa using h z hz

theorem putH_find {l : List Hd} {h : Hd} {last : Int} (hl : holdB last l = true) (nd : Int) : fndH (putH l h) nd = if nd = h.nd then some h else fndH l nd := by
  have hsp := hold_split h.nd hl
  have hF : ∀ z ∈ (l.filter fun z => decide (z.nd < h.nd)), z.nd < h.nd := fun z hz => by simpa using (List.mem_filter.1 hz).2
  have hG : ∀ z ∈ (l.filter fun z => decide (h.nd < z.nd)), h.nd < z.nd := fun z hz => by simpa using (List.mem_filter.1 hz).2
  by_cases hn : nd = h.nd
  · subst hn
    rw [putH, fndH_append, fndH_none (fun z hz => by have := hF z hz; omega), fndH_cons]
    simp
  · rw [if_neg hn]
    conv => rhs; rw [hsp]
    rw [putH, fndH_append, fndH_append, fndH_append, fndH_cons, if_neg (fun e => hn e.symm)]
    have : fndH (fndH l h.nd).toList nd = none := fndH_none fun z hz => by
      rw [Option.mem_toList] at hz
      have := List.find?_some hz
      simp at this; omega
    rw [this]; simp

theorem putH_sum {l : List Hd} {h : Hd} {last : Int} (hl : holdB last l = true) (f : Hd → Int) : sumI ((putH l h).map f) = sumI (l.map f) + f h - (((fndH l h.nd).map f).getD 0) := by
  have hsp := congrArg (fun z => sumI (List.map f z)) (hold_split h.nd hl)
  simp only [List.map_append, sumI_append] at hsp
  rw [putH, List.map_append, List.map_cons, sumI_append, sumI_cons, hsp]
  cases fndH l h.nd with
  | none => simp [sumI]; omega
  | some e => simp [sumI]; omega

theorem hold_append : ∀ {F : List Hd} {h : Hd} {G : List Hd} {last : Int}, holdB last F = true → (∀ z ∈ F, z.nd < h.nd) → last < h.nd → hdB last h = true → holdB h.nd G = true → holdB last (F ++ h :: G) = true
  | [], h, G, last, _, _, _, hh, hG => by simp only [List.nil_append, holdB, hh, hG, Bool.and_self]
  | z :: r, h, G, last, hF, hlt, hl, hh, hG => by
    simp only [holdB, Bool.and_eq_true] at hF
    have h1 := hlt z (by simp)
    have := hold_append (F := r) (h := h) (G := G) hF.2 (fun w hw => hlt w (by simp [hw])) h1 (by simp only [hdB, Bool.and_eq_true, decide_eq_true_eq] at hh ⊢; omega) hG
    simp only [List.cons_append, holdB, hF.1, this, Bool.and_self]

theorem hold_after {nd : Int} : ∀ {l : List Hd} {last : Int}, holdB last l = true → holdB nd (l.filter fun z => decide (nd < z.nd)) = true
  | [], _, _ => rfl
  | h :: r, last, hb => by
    simp only [holdB, Bool.and_eq_true] at hb
    by_cases hp : nd < h.nd
    · rw [List.filter_cons_of_pos (by simpa using hp)]
      have e2 : (r.filter fun z => decide (nd < z.nd)) = r := List.filter_eq_self.2 fun z hz => by have := hold_mem _ _ hb.2 z hz; simp; omega
      rw [e2]
      simp only [holdB, Bool.and_eq_true]
      refine ⟨?_, hb.2⟩
      have h1 := hb.1
      simp only [hdB, Bool.and_eq_true, decide_eq_true_eq] at h1 ⊢
      omega
    · rw [List.filter_cons_of_neg (by simpa using hp)]
      exact hold_after hb.2

theorem putH_hold {l : List Hd} {h : Hd} (hl : holdB 0 l = true) (hh : hdB 0 h = true) : holdB 0 (putH l h) = true := by
  refine hold_append (hold_filter hl) (fun z hz => by simpa using (List.mem_filter.1 hz).2) ?_ hh (hold_after hl)
  simp only [hdB, Bool.and_eq_true, decide_eq_true_eq] at hh
  omega

/-- what a grant makes of an account -/
def grantA (x : Ac) (nd le ns : Int) : Ac := { x with hs := putH x.hs (grantH x nd le ns) }

theorem aGrant_ok {x : Ac} {nd le ns : Int} (h : (aGrant x nd le ns).2 = 0) : rightB x = true ∧ 1 ≤ ns ∧ ns ≤ 5 ∧ 1 ≤ nd ∧ nd ≤ ns ∧ 1 ≤ le ∧ x.round = 0 ∧ x.lk.cl = 0 ∧ aGrant x nd le ns = (grantA x nd le ns, 0) := by
  unfold aGrant at h ⊢
  split at h
  · simp at h
  split at h
  · simp at h
  split at h
  · simp at h
  rename_i h1 h2 h3
  refine ⟨by simpa using h1, by omega, by omega, by omega, by omega, by omega, ?_, ?_, by simp only [h1, h2, h3, if_false, grantA]; simp⟩
  · exact Classical.byContradiction fun e => h3 (.inl e)
  · exact Classical.byContradiction fun e => h3 (.inr e)

theorem aGrant_err {x : Ac} {nd le ns : Int} (h : (aGrant x nd le ns).2 ≠ 0) : aGrant x nd le ns = (ac0, (aGrant x nd le ns).2) := by
  unfold aGrant at h ⊢
  repeat' split
  all_goals simp_all

structure GrantP (x : Ac) (nd le ns : Int) : Prop where
  right : rightB (grantA x nd le ns) = true
  wf : (grantA x nd le ns).wf
  gnd : (grantH x nd le ns).nd = nd
  gle : (grantH x nd le ns).le = if findB x nd then (findH x nd).le else le
  up : 0 ≤ (findH x nd).up ∧ (findH x nd).up ≤ (grantH x nd le ns).up ∧ (grantH x nd le ns).up ≤ 9223372036854775807 ∧ (grantH x nd le ns).up ≤ (findH x nd).up + roomUp x
  dn : 0 ≤ (findH x nd).dn ∧ (findH x nd).dn ≤ (grantH x nd le ns).dn ∧ (grantH x nd le ns).dn ≤ 9223372036854775807 ∧ (grantH x nd le ns).dn ≤ (findH x nd).dn + roomDn x
  roomU : roomUp (grantA x nd le ns) = roomUp x - ((grantH x nd le ns).up - (findH x nd).up)
  roomD : roomDn (grantA x nd le ns) = roomDn x - ((grantH x nd le ns).dn - (findH x nd).dn)
  find : findB (grantA x nd le ns) nd = true ∧ findH (grantA x nd le ns) nd = grantH x nd le ns
  other : ∀ o, o ≠ nd → findB (grantA x nd le ns) o = findB x o ∧ findH (grantA x nd le ns) o = findH x o

theorem grant_p {x : Ac} {nd le ns : Int} (hx : x.wf) (hr : rightB x = true) (h1 : 1 ≤ ns) (h2 : ns ≤ 5) (h3 : 1 ≤ nd) (h4 : nd ≤ ns) (h5 : 1 ≤ le) (h5' : In64 le) (h6 : x.round = 0) (h7 : x.lk.cl = 0) : GrantP x nd le ns := by
  have hp := (right_iff x).1 hr
  have hm := hold_mem _ _ hp.hold
  have hb := room_bounds hx hr h7
  have hlo := hx.lo
  have hhi := hx.hi
  have hba := hx.base
  have uU : InU (roomUp x) := by unfold InU; unfold In64 at *; omega
  have uD : InU (roomDn x) := by unfold InU; unfold In64 at *; omega
  have s1 := share_in (roomUp x) (ns + 1) ns uU
  have s2 := share_in (roomDn x) (ns + 1) ns uD
  generalize hsU : shareV (roomUp x) (ns + 1) ns = sU at s1
  generalize hsD : shareV (roomDn x) (ns + 1) ns = sD at s2
  have hg0 : 0 ≤ (findH x nd).up ∧ (findH x nd).up ≤ 9223372036854775807 ∧ 0 ≤ (findH x nd).dn ∧ (findH x nd).dn ≤ 9223372036854775807 := by
    cases hf : findB x nd
    · have : fndH x.hs nd = none := by simpa [findB, hr] using hf
      simp [findH, hr, this, hd0]
    · have hmem := (find_mem hf).2.1
      have h8 := hm _ hmem
      have h9 := hx.hs _ hmem
      unfold Hd.wf In64 at h9
      omega
  have gnd : (grantH x nd le ns).nd = nd := by
    unfold grantH
    cases hf : findB x nd
    · simp
    · simp [(find_mem hf).2.2]
  have gle : (grantH x nd le ns).le = if findB x nd then (findH x nd).le else le := by
    unfold grantH
    cases hf : findB x nd <;> simp
  have gup : (grantH x nd le ns).up = moreI (findH x nd).up sU := by
    unfold grantH
    rw [hsU]
    cases hf : findB x nd
    · have : fndH x.hs nd = none := by simpa [findB, hr] using hf
      simp [findH, hr, this, hd0]
    · simp
  have gdn : (grantH x nd le ns).dn = moreI (findH x nd).dn sD := by
    unfold grantH
    rw [hsD]
    cases hf : findB x nd
    · have : fndH x.hs nd = none := by simpa [findB, hr] using hf
      simp [findH, hr, this, hd0]
    · simp
  have hup : 0 ≤ (findH x nd).up ∧ (findH x nd).up ≤ (grantH x nd le ns).up ∧ (grantH x nd le ns).up ≤ 9223372036854775807 ∧ (grantH x nd le ns).up ≤ (findH x nd).up + roomUp x := by
    rw [gup]; unfold moreI; omega
  have hdn : 0 ≤ (findH x nd).dn ∧ (findH x nd).dn ≤ (grantH x nd le ns).dn ∧ (grantH x nd le ns).dn ≤ 9223372036854775807 ∧ (grantH x nd le ns).dn ≤ (findH x nd).dn + roomDn x := by
    rw [gdn]; unfold moreI; omega
  have gle1 : 1 ≤ (grantH x nd le ns).le ∧ In64 (grantH x nd le ns).le := by
    rw [gle]
    cases hf : findB x nd
    · simp; exact ⟨h5, h5'⟩
    · simp only [if_true]
      have hmem := (find_mem hf).2.1
      exact ⟨(hm _ hmem).2.2.1, (hx.hs _ hmem).2.1⟩
  have hhd : hdB 0 (grantH x nd le ns) = true := by simp only [hdB, Bool.and_eq_true, decide_eq_true_eq]; omega
  have hgf : ∀ f : Hd → Int, f hd0 = 0 → ((fndH x.hs nd).map f).getD 0 = f (findH x nd) := fun f hf0 => by
    cases hf : fndH x.hs nd with
    | none => simp [findH, hr, hf, hf0]
    | some e => simp [findH, hr, hf]
  have su := putH_sum (h := grantH x nd le ns) hp.hold (·.up)
  have sd := putH_sum (h := grantH x nd le ns) hp.hold (·.dn)
  rw [gnd, hgf (·.up) rfl] at su
  rw [gnd, hgf (·.dn) rfl] at sd
  have eU : sumI (upsL (grantA x nd le ns)) = sumI (upsL x) + ((grantH x nd le ns).up - (findH x nd).up) := by
    simp only [upsL, grantA, sumI_cons, su]; omega
  have eD : sumI (dnsL (grantA x nd le ns)) = sumI (dnsL x) - ((grantH x nd le ns).dn - (findH x nd).dn) := by
    have n1 := sumI_neg x.hs (·.dn)
    have n2 := sumI_neg (putH x.hs (grantH x nd le ns)) (·.dn)
    simp only [dnsL, grantA, sumI_cons]
    rw [n1, n2, sd]; omega
  have hR : rightB (grantA x nd le ns) = true := by
    refine (right_iff _).2 ⟨hp.key, hp.has, hp.round, putH_hold hp.hold hhd, ?_, ?_, ?_⟩
    · rw [eU]; show _ ≤ x.hi; omega
    · rw [eD]; show x.lo ≤ _; omega
    · have := hp.lock
      simp only [lockB, h7, if_true] at this
      simp only [lockB, grantA, h7, if_true]
      exact this
  have hmemp : ∀ z ∈ putH x.hs (grantH x nd le ns), z = grantH x nd le ns ∨ z ∈ x.hs := fun z hz => by
    simp only [putH, List.mem_append, List.mem_cons, List.mem_filter] at hz
    rcases hz with h | h | h
    · exact .inr h.1
    · exact .inl h
    · exact .inr h.1
  have hW : (grantA x nd le ns).wf := by
    refine ⟨hx.key, hx.lo, hx.hi, hx.base, hx.round, fun z hz => ?_, ?_, hx.lk⟩
    · rcases hmemp z hz with rfl | h
      · refine ⟨by rw [gnd]; unfold In64; omega, gle1.2, ?_, ?_⟩ <;> unfold In64 <;> omega
      · exact hx.hs z h
    · have := right_len hR; omega
  have hl' : (grantA x nd le ns).lk.cl = 0 := h7
  have hb' := room_bounds hW hR hl'
  refine ⟨hR, hW, gnd, gle, hup, hdn, ?_, ?_, ?_, fun o ho => ?_⟩
  · have : (grantA x nd le ns).hi = x.hi := rfl
    omega
  · have : (grantA x nd le ns).lo = x.lo := rfl
    omega
  · have := putH_find (h := grantH x nd le ns) hp.hold nd
    rw [gnd, if_pos rfl] at this
    simp [findB, findH, hR, show (grantA x nd le ns).hs = putH x.hs (grantH x nd le ns) from rfl, this]
  · have := putH_find (h := grantH x nd le ns) hp.hold o
    rw [gnd, if_neg ho] at this
    simp [findB, findH, hR, hr, show (grantA x nd le ns).hs = putH x.hs (grantH x nd le ns) from rfl, this]

end Go.Proofs.Ytfkielfnceeedaa
