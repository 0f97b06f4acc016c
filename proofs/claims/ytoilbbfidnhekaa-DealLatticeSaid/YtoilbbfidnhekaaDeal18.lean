/-
  Contracts of functions of this seat: what each hands back, and what it leaves of memory (deal18). Nothing here is trusted: Lean checks it.
-/
import Derived.Test.YtoilbbfidnhekaaDeal17
set_option linter.unusedVariables false
set_option linter.unusedSimpArgs false
namespace Go.Proofs.Ytoilbbfidnhekaa
open Go.Vc Go.RowKit
set_option maxRecDepth 100000

theorem maxI_comm (a b : Int) : maxI a b = maxI b a := by unfold maxI; split <;> split <;> omega

theorem maxI_self (a : Int) : maxI a a = a := by unfold maxI; split <;> rfl

theorem maxI_assoc (a b c : Int) : maxI (maxI a b) c = maxI a (maxI b c) := by unfold maxI; repeat' split
                                                                               all_goals omega

theorem fold_comm {a b : List En} (ha : endsB 0 a = true) (hb : endsB 0 b = true) : foldE a b = foldE b a := by
  rw [fold_list ha hb, fold_list hb ha]
  exact list_congr 8 1 fun k _ => maxI_comm _ _

theorem fold_self {a : List En} (ha : endsB 0 a = true) : foldE a a = a := by
  rw [fold_list ha ha]
  have h := list_of 8 (c := 1) (l := a) (by omega) (by omega) ha
  rw [← h]
  exact list_congr 8 1 fun k _ => by rw [h]; exact maxI_self _

theorem fold_ok {a b : List En} (ha : endsB 0 a = true) (hb : endsB 0 b = true) : endsB 0 (foldE a b) = true := fold_ends (Int.le_refl 0) ha hb

theorem fold_at {a b : List En} (ha : endsB 0 a = true) (hb : endsB 0 b = true) (c : Int) : ofE (foldE a b) c = maxI (ofE a c) (ofE b c) := fold_of c (Int.le_refl 0) ha hb (ofE_nn c ha)

theorem fold_assoc {a b c : List En} (ha : endsB 0 a = true) (hb : endsB 0 b = true) (hc : endsB 0 c = true) : foldE (foldE a b) c = foldE a (foldE b c) := by
  rw [fold_list (fold_ok ha hb) hc, fold_list ha (fold_ok hb hc)]
  exact list_congr 8 1 fun k _ => by rw [fold_at ha hb, fold_at hb hc]; exact maxI_assoc _ _ _

theorem past_up {a b : List En} (ha : endsB 0 a = true) (hb : endsB 0 b = true) (h : ∀ c, ofE a c ≤ ofE b c) {c s : Int} (hp : pastB a c s = true) : pastB b c s = true := by
  rw [past_eq] at hp ⊢
  simp only [Bool.and_eq_true, decide_eq_true_eq] at hp ⊢
  have := h c
  exact ⟨⟨hb, by omega⟩, by omega⟩

theorem fold_up {a b : List En} (ha : endsB 0 a = true) (hb : endsB 0 b = true) (c : Int) : ofE a c ≤ ofE (foldE a b) c := by
  rw [fold_at ha hb]; unfold maxI; split <;> omega

theorem raise_up {a : List En} (ha : endsB 0 a = true) {c s : Int} (hw : whoseB c s = true) (c' : Int) : ofE a c' ≤ ofE (raised a c s) c' := by
  have hs : 0 < s := by simp [whoseB] at hw; omega
  rw [raised_eq, ins_of (c := c) hs c' ha]
  split
  · rename_i e; subst e; split <;> omega
  · omega

theorem raise_past {a : List En} (ha : endsB 0 a = true) {c s : Int} (hw : whoseB c s = true) : pastB (raised a c s) c s = true := by
  have hs : 0 < s ∧ 0 < c := by simp [whoseB] at hw; omega
  rw [past_eq, raised_eq, ins_of (c := c) hs.1 c ha, ins_ends hw hs.2 ha]
  simp only [if_true, Bool.true_and, Bool.and_eq_true, decide_eq_true_eq]
  split <;> omega

theorem ends_own {a : List En} : ∀ {last : Int}, endsB last a = true → ∀ x ∈ a, ofE a x.cl = x.sq := by
  induction a with
  | nil => intro _ _ x hx; simp at hx
  | cons y ys ih =>
    intro last h x hx
    simp only [endsB, Bool.and_eq_true, decide_eq_true_eq] at h
    rcases List.mem_cons.1 hx with rfl | hx
    · simp [ofE]
    · have := (ends_mem h.2 x hx).1
      simp only [ofE]; rw [if_neg (by omega)]
      exact ih h.2 x hx

theorem mem_past {a : List En} (ha : endsB 0 a = true) {x : En} (hx : x ∈ a) : pastB a x.cl x.sq = true := by
  have hw := (ends_mem ha x hx).2
  have hs : 0 < x.sq := by simp [whoseB] at hw; omega
  rw [past_eq, ends_own ha x hx]
  simp [ha, hs]

end Go.Proofs.Ytoilbbfidnhekaa
