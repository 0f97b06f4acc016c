/-
  Contracts of functions of this seat: what each hands back, and what it leaves of memory (ses8). Nothing here is trusted: Lean checks it.
-/
import Derived.Test.YtpfiodchlbofmaaSes7
set_option linter.unusedVariables false
set_option linter.unusedSimpArgs false
namespace Go.Proofs.Ytpfiodchlbofmaa
open Go.Vc Go.RowKit
set_option maxRecDepth 100000

theorem begin_cases (l : List Mk) (c s : Int) : ((beginM l c s).2.1 = false ∧ ((beginM l c s).2.2 = 0 → (beginM l c s).1 = l ∧ tabB 0 l = true) ∧ ((beginM l c s).2.2 ≠ 0 → (beginM l c s).1 = [])) ∨
    (tabB 0 l = true ∧ argB c s = true ∧ beginM l c s = (insM l (opM c s), true, 0) ∧ ∀ z, ofM l c = some z → z.sq < s) := by
  unfold beginM
  cases ht : tabB 0 l
  · left; simp
  cases ha : argB c s
  · left; simp
  simp only [Bool.true_eq_false, if_false]
  cases ho : ofM l c with
  | none => right; simp
  | some x =>
    simp only
    split
    · left; simp
    · split
      · left; simp
      · right; simp; omega

/-- behind a fresh beginning -/
structure Fr (l : List Mk) (c s : Int) (b : List Mk) : Prop where
  tab : tabB 0 l = true
  arg : 1 ≤ c ∧ c ≤ 8 ∧ 1 ≤ s ∧ s ≤ 4611686018427387904
  eq : b = insM l (opM c s)
  old : ∀ z, ofM l c = some z → z.sq < s
  btab : tabB 0 b = true
  own : ofM b c = some (opM c s)
  other : ∀ c', c' ≠ c → ofM b c' = ofM l c'

theorem fresh_of {l : List Mk} {c s : Int} (ht : tabB 0 l = true) (ha : argB c s = true) (ho : ∀ z, ofM l c = some z → z.sq < s) : Fr l c s (insM l (opM c s)) := by
  obtain ⟨o1, o2⟩ := opM_ok ha
  refine ⟨ht, by simp [argB] at ha; omega, rfl, ho, ins_tab o1 o2 ht, ?_, fun c' hc => ?_⟩
  · rw [ins_of c ht]; exact if_pos rfl
  · rw [ins_of c' ht]; exact if_neg (fun e => hc e.symm)

theorem open_fresh {l b : List Mk} {c s : Int} (h : Fr l c s b) : openE b c s = 0 := by
  simp [openE, h.btab, h.own, opM]

theorem begin_at {l : List Mk} {c s : Int} {x : Mk} (ht : tabB 0 l = true) (hx : ofM l c = some x) (hs : s ≤ x.sq) : (beginM l c s).2.1 = false := by
  rcases begin_cases l c s with h | ⟨-, -, -, h⟩
  · exact h.1
  · have := h x hx; omega

theorem begin_eq {l : List Mk} {c s : Int} {x : Mk} (ht : tabB 0 l = true) (ha : argB c s = true) (hx : ofM l c = some x) (hs : x.sq = s) : beginM l c s = (l, false, 0) := by
  simp [beginM, ht, ha, hx, hs]

theorem begin_up {l : List Mk} {c s : Int} {x : Mk} (ht : tabB 0 l = true) (ha : argB c s = true) (hx : ofM l c = some x) (hs : x.sq < s) : beginM l c s = (insM l (opM c s), true, 0) := by
  simp [beginM, ht, ha, hx, show ¬ s < x.sq by omega, show ¬ x.sq = s by omega]

theorem fr_arg {l b : List Mk} {c s : Int} (h : Fr l c s b) : argB c s = true := by
  have := h.arg; simp [argB]; omega

theorem ins_same_len {l : List Mk} {m : Mk} (ht : tabB 0 l = true) (h : (ofM l m.cl).isSome = true) : (insM l m).length = l.length := by
  rw [ins_set ht h, List.length_set]

/-- what a lost number leaves -/
theorem lose_law {l b : List Mk} {c s : Int} (h : Fr l c s b) : loseM b c s = (insM b (loM c s), 0) ∧ tabB 0 (insM b (loM c s)) = true ∧ beginM (insM b (loM c s)) c s = (b, true, 0) ∧
    ∀ w, (beginM (insM b (loM c s)) c w).2.1 = true → s ≤ w := by
  have h0 := open_fresh h
  obtain ⟨o1, o2⟩ := loM_ok h0
  have ht : tabB 0 (insM b (loM c s)) = true := ins_tab o1 o2 h.btab
  have hx : ofM (insM b (loM c s)) c = some (loM c s) := by rw [ins_of c h.btab]; exact if_pos rfl
  refine ⟨by simp [loseM, h0], ht, ?_, fun w hw => ?_⟩
  · rw [begin_up ht (fr_arg h) hx (by show s - 1 < s; omega)]
    obtain ⟨p1, p2⟩ := opM_ok (fr_arg h)
    have e : insM (insM b (loM c s)) (opM c s) = b := by
      refine tab_ext (ins_tab p1 p2 ht) h.btab fun c' => ?_
      rw [ins_of c' ht, ins_of c' h.btab]
      show (if c = c' then _ else if c = c' then _ else _) = _
      by_cases e : c = c'
      · subst e; rw [if_pos rfl, h.own]
      · rw [if_neg e, if_neg e]
    rw [e]
  · rcases begin_cases (insM b (loM c s)) c w with g | ⟨-, -, -, g⟩
    · rw [g.1] at hw; cases hw
    · have := g _ hx
      have e : (loM c s).sq = s - 1 := rfl
      omega

/-- what has ended -/
theorem end_law {l b : List Mk} {c s : Int} {an : An} (h : Fr l c s b) : endM b c s an = (insM b (edM c s an), 0) ∧ tabB 0 (insM b (edM c s an)) = true ∧ ofM (insM b (edM c s an)) c = some (edM c s an) ∧
    beginM (insM b (edM c s an)) c s = (insM b (edM c s an), false, 0) := by
  have h0 := open_fresh h
  obtain ⟨o1, o2⟩ := edM_ok (an := an) h0
  have ht : tabB 0 (insM b (edM c s an)) = true := ins_tab o1 o2 h.btab
  have hx : ofM (insM b (edM c s an)) c = some (edM c s an) := by rw [ins_of c h.btab]; exact if_pos rfl
  exact ⟨by simp [endM, h0], ht, hx, begin_eq ht (fr_arg h) hx rfl⟩

theorem joinO_up {x : Mk} {y : Option Mk} : ∃ z, joinO (some x) y = some z ∧ x.sq ≤ z.sq := by
  cases y with
  | none => exact ⟨x, rfl, Int.le_refl _⟩
  | some y =>
    simp only [joinO]
    split
    · rename_i h; exact ⟨y, rfl, by omega⟩
    · exact ⟨x, rfl, Int.le_refl _⟩

theorem joinO_up2 {x : Mk} {y : Option Mk} : ∃ z, joinO y (some x) = some z ∧ x.sq ≤ z.sq := by
  cases y with
  | none => exact ⟨x, rfl, Int.le_refl _⟩
  | some y =>
    simp only [joinO]
    split
    · exact ⟨x, rfl, Int.le_refl _⟩
    · rename_i h; exact ⟨y, rfl, by omega⟩

theorem once_law {a b : List Mk} {c s : Int} {x : Mk} (ha : tabB 0 a = true) (hb : tabB 0 b = true) (hx : ofM a c = some x) (hs : x.sq = s) :
    (beginM (foldM a b) c s).2.1 = false ∧ (beginM (foldM b a) c s).2.1 = false := by
  constructor
  · obtain ⟨z, h1, h2⟩ := joinO_up (x := x) (y := ofM b c)
    exact begin_at (fold_ok ha hb) (by rw [fold_at ha hb, hx]; exact h1) (by omega)
  · obtain ⟨z, h1, h2⟩ := joinO_up2 (x := x) (y := ofM b c)
    exact begin_at (fold_ok hb ha) (by rw [fold_at hb ha, hx]; exact h1) (by omega)

theorem find_other {l : List Mk} {m : Mk} (ht : tabB 0 l = true) (hm : mkB m = true) (hc : 0 < m.cl) {o : Int} (ho : o ≠ m.cl) : findO (insM l m) o = findO l o := by
  simp only [findO, ht, ins_tab hm hc ht, if_true]
  rw [ins_of o ht, if_neg (fun e => ho e.symm)]

/-- what is done for one client -/
theorem others_law (l : List Mk) (c s o : Int) (an : An) (hne : c ≠ o) (h0 : (beginM l c s).2.2 = 0) : findO (beginM l c s).1 o = findO l o ∧
    ((endM (beginM l c s).1 c s an).2 ≠ 0 → (endM (beginM l c s).1 c s an).1 = []) ∧
    ((endM (beginM l c s).1 c s an).2 = 0 → findO (endM (beginM l c s).1 c s an).1 o = findO l o ∧ (endM (beginM l c s).1 c s an).1.length = (beginM l c s).1.length) := by
  have hb : findO (beginM l c s).1 o = findO l o := by
    rcases begin_cases l c s with ⟨-, h, -⟩ | ⟨h1, h2, h3, -⟩
    · rw [(h h0).1]
    · rw [h3]
      obtain ⟨o1, o2⟩ := opM_ok h2
      exact find_other h1 o1 o2 (fun e => hne e.symm)
  refine ⟨hb, fun h => ?_, fun h => ?_⟩
  · unfold endM at h ⊢
    split
    · rfl
    · rename_i g; rw [if_neg g] at h; exact absurd rfl h
  · unfold endM at h ⊢
    split
    · rename_i g; rw [if_pos g] at h; exact absurd h g
    · rename_i g
      have g : openE (beginM l c s).1 c s = 0 := Decidable.not_not.1 g
      obtain ⟨ht, x, hx, -⟩ := openE_zero g
      obtain ⟨o1, o2⟩ := edM_ok (an := an) g
      refine ⟨?_, ins_same_len ht (by show (ofM _ c).isSome = true; rw [hx]; rfl)⟩
      show findO (insM _ _) o = _
      rw [find_other ht o1 o2 (fun e => hne e.symm), hb]

end Go.Proofs.Ytpfiodchlbofmaa
