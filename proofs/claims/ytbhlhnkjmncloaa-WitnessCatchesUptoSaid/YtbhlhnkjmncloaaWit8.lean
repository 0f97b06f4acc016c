/-
  Contracts of functions of this seat: what each hands back, and what it leaves of memory (wit8). Nothing here is trusted: Lean checks it.
-/
import Derived.Test.YtbhlhnkjmncloaaSrt0
import Derived.Test.YtbhlhnkjmncloaaWit6
import Derived.Test.YtbhlhnkjmncloaaLcl
set_option linter.unusedVariables false
set_option linter.unusedSimpArgs false
namespace Go.Proofs.Ytbhlhnkjmncloaa
open Go.Vc Go.RowKit
set_option maxRecDepth 100000

/-- two lists by rising elements that have the same elements are one -/
theorem pw_ext {α : Type} {r : α → α → Prop} (irr : ∀ x, ¬ r x x) (tr : ∀ {x y z}, r x y → r y z → r x z) : ∀ {a b : List α}, a.Pairwise r → b.Pairwise r → (∀ x, x ∈ a ↔ x ∈ b) → a = b
  | [], [], _, _, _ => rfl
  | [], y :: ys, _, _, h => by have := (h y).2 (by simp); simp at this
  | x :: xs, [], _, _, h => by have := (h x).1 (by simp); simp at this
  | x :: xs, y :: ys, ha, hb, h => by
    obtain ⟨a1, a2⟩ := List.pairwise_cons.1 ha
    obtain ⟨b1, b2⟩ := List.pairwise_cons.1 hb
    have e : x = y := by
      rcases List.mem_cons.1 ((h x).1 (by simp)) with e | e
      · exact e
      · rcases List.mem_cons.1 ((h y).2 (by simp)) with e2 | e2
        · exact e2.symm
        · exact absurd (tr (b1 x e) (a1 y e2)) (irr _)
    subst e
    congr 1
    refine pw_ext irr tr a2 b2 fun z => ⟨fun hz => ?_, fun hz => ?_⟩
    · rcases List.mem_cons.1 ((h z).1 (by simp [hz])) with e | e
      · subst e; exact absurd (a1 _ hz) (irr _)
      · exact e
    · rcases List.mem_cons.1 ((h z).2 (by simp [hz])) with e | e
      · subst e; exact absurd (b1 _ hz) (irr _)
      · exact e

/-- the moment of the call with a number -/
def moA (l : List Cl) (i : Nat) : Int := ((l[i]?).map (·.mo)).getD 0

theorem moA_at {l : List Cl} {i : Nat} (h : i < l.length) : moA l i = l[i].mo := by simp [moA, List.getElem?_eq_getElem h]

def lexC (l : List Cl) (i j : Nat) : Prop := moA l i < moA l j ∨ (moA l i = moA l j ∧ i < j)

theorem lexC_irr {l : List Cl} (x : Nat) : ¬ lexC l x x := by unfold lexC; omega
theorem lexC_tr {l : List Cl} {x y z : Nat} (h1 : lexC l x y) (h2 : lexC l y z) : lexC l x z := by unfold lexC at *; omega

/-- the numbers below k of the calls that have a moment -/
def idxL (l : List Cl) (k : Nat) : List Nat := (List.range k).filter fun i => decide (0 < moA l i)

theorem idxL_succ (l : List Cl) (k : Nat) : idxL l (k + 1) = idxL l k ++ if 0 < moA l k then [k] else [] := by
  unfold idxL
  rw [List.range_succ, List.filter_append]
  congr 1
  by_cases h : 0 < moA l k <;> simp [h]

theorem idxL_mem {l : List Cl} {k i : Nat} : i ∈ idxL l k ↔ i < k ∧ 0 < moA l i := by simp [idxL]

theorem idxL_len (l : List Cl) (k : Nat) : (idxL l k).length ≤ k := by
  have := List.length_filter_le (fun i => decide (0 < moA l i)) (List.range k)
  rw [List.length_range] at this
  exact this

theorem idxL_lt (l : List Cl) (k : Nat) : (idxL l k).Pairwise (· < ·) := List.Pairwise.filter _ List.pairwise_lt_range

def leC (l : List Cl) (i j : Nat) : Bool := decide (moA l i < moA l j ∨ (moA l i = moA l j ∧ i ≤ j))

/-- the numbers of the calls that have a moment, by rising moments -/
def ordL (l : List Cl) : List Nat := (idxL l l.length).mergeSort (leC l)

structure IsOrd (l : List Cl) (p : Nat → Prop) (o : List Nat) : Prop where
  pw : o.Pairwise (lexC l)
  mem : ∀ i, i ∈ o ↔ p i

theorem IsOrd.uniq {l : List Cl} {p : Nat → Prop} {a b : List Nat} (h : IsOrd l p a) (h2 : IsOrd l p b) : a = b := pw_ext lexC_irr lexC_tr h.pw h2.pw fun x => by rw [h.mem, h2.mem]

theorem ordL_is (l : List Cl) : IsOrd l (fun i => i < l.length ∧ 0 < moA l i) (ordL l) := by
  have hp : (ordL l).Perm (idxL l l.length) := List.mergeSort_perm _ _
  have hs : (ordL l).Pairwise (fun a b => leC l a b = true) := List.pairwise_mergeSort (fun a b c h1 h2 => by simp only [leC, decide_eq_true_eq] at *; omega) (fun a b => by simp only [leC, Bool.or_eq_true, decide_eq_true_eq]; omega) _
  have hn : (ordL l).Nodup := hp.nodup_iff.2 ((idxL_lt l l.length).imp fun h => by omega)
  refine ⟨?_, fun i => by rw [hp.mem_iff, idxL_mem]⟩
  refine (hs.and hn).imp fun {a b} ⟨h1, h2⟩ => ?_
  simp only [leC, decide_eq_true_eq] at h1
  unfold lexC
  omega

/-- of these, those behind a moment -/
def ordG (l : List Cl) (v : Int) : List Nat := (ordL l).filter fun i => decide (v < moA l i)

/-- the numbers from k on that have just that moment -/
def eqsC (l : List Cl) (v : Int) (k : Nat) : List Nat := (List.range' k (l.length - k)).filter fun i => decide (moA l i = v)

theorem ordG_is (l : List Cl) {v : Int} (h : 0 ≤ v) : IsOrd l (fun i => i < l.length ∧ v < moA l i) (ordG l v) := by
  refine ⟨List.Pairwise.filter _ (ordL_is l).pw, fun i => ?_⟩
  simp only [ordG, List.mem_filter, (ordL_is l).mem, decide_eq_true_eq]
  omega

theorem eqsC_is (l : List Cl) (v : Int) : IsOrd l (fun i => i < l.length ∧ moA l i = v) (eqsC l v 0) := by
  refine ⟨?_, fun i => ?_⟩
  · unfold eqsC
    rw [List.pairwise_filter]
    refine (List.pairwise_lt_range').imp fun {a b} h h1 h2 => ?_
    simp only [decide_eq_true_eq] at h1 h2
    unfold lexC
    omega
  · simp [eqsC, List.mem_range']

theorem ordG_zero (l : List Cl) : ordG l 0 = ordL l := (ordG_is l (Int.le_refl 0)).uniq (ordL_is l)

/-- the next moment's calls, and those behind -/
theorem ordG_next (l : List Cl) {v w : Int} (h0 : 0 ≤ v) (hw : v < w) (hmin : ∀ i, i < l.length → v < moA l i → w ≤ moA l i) : ordG l v = eqsC l w 0 ++ ordG l w := by
  refine (ordG_is l h0).uniq ⟨?_, fun i => ?_⟩
  · refine List.pairwise_append.2 ⟨(eqsC_is l w).pw, (ordG_is l (by omega)).pw, fun a ha b hb => ?_⟩
    have h1 := ((eqsC_is l w).mem a).1 ha
    have h2 := ((ordG_is l (show (0 : Int) ≤ w by omega)).mem b).1 hb
    unfold lexC; omega
  · rw [List.mem_append, (eqsC_is l w).mem, (ordG_is l (by omega)).mem]
    constructor
    · rintro (⟨h1, h2⟩ | ⟨h1, h2⟩)
      · exact ⟨h1, by omega⟩
      · exact ⟨h1, by omega⟩
    · rintro ⟨h1, h2⟩
      have := hmin i h1 h2
      by_cases e : moA l i = w
      · exact .inl ⟨h1, e⟩
      · exact .inr ⟨h1, by omega⟩

theorem ordG_none (l : List Cl) {v : Int} (h0 : 0 ≤ v) (h : ∀ i, i < l.length → ¬ v < moA l i) : ordG l v = [] := by
  refine (ordG_is l h0).uniq ⟨List.Pairwise.nil, fun i => ?_⟩
  constructor
  · intro h; simp at h
  · rintro ⟨h1, h2⟩; exact absurd h2 (h i h1)

theorem eqsC_cons {l : List Cl} {v : Int} {k : Nat} (h : k < l.length) : eqsC l v k = (if moA l k = v then [k] else []) ++ eqsC l v (k + 1) := by
  unfold eqsC
  rw [show l.length - k = (l.length - (k + 1)) + 1 by omega, List.range'_succ, List.filter_cons]
  by_cases e : moA l k = v <;> simp [e]

theorem eqsC_end (l : List Cl) (v : Int) : eqsC l v l.length = [] := by simp [eqsC]

theorem ordL_lt {l : List Cl} {i : Nat} (h : i ∈ ordL l) : i < l.length := (((ordL_is l).mem i).1 h).1

theorem ordL_len (l : List Cl) : (ordL l).length ≤ l.length := by
  have hp : (ordL l).Perm (idxL l l.length) := List.mergeSort_perm _ _
  rw [hp.length_eq]; exact idxL_len _ _

/-- how many calls there are behind a moment -/
def behC (l : List Cl) (v : Int) : Nat := (List.range l.length).countP fun i => decide (v < moA l i)

theorem behC_lt {l : List Cl} {v w : Int} {i : Nat} (hi : i < l.length) (h1 : v < moA l i) (h2 : ¬ w < moA l i) (h3 : v ≤ w) : behC l w < behC l v := by
  have h : ∀ (L : List Nat), (L.countP fun i => decide (w < moA l i)) ≤ (L.countP fun i => decide (v < moA l i)) ∧ (i ∈ L → (L.countP fun i => decide (w < moA l i)) < (L.countP fun i => decide (v < moA l i))) := by
    intro L
    induction L with
    | nil => simp
    | cons x xs ih =>
      refine ⟨?_, fun hm => ?_⟩
      · rw [List.countP_cons, List.countP_cons]
        by_cases h : w < moA l x
        · have : v < moA l x := by omega
          simp [h, this]; exact ih.1
        · simp [h]; have := ih.1; omega
      · rw [List.countP_cons, List.countP_cons]
        rcases List.mem_cons.1 hm with rfl | hm
        · have := ih.1
          simp [h1, h2]; omega
        · have := ih.2 hm
          by_cases h : w < moA l x
          · have : v < moA l x := by omega
            simp [h, this]; assumption
          · simp [h]; omega
  exact (h _).2 (by simpa using hi)

end Go.Proofs.Ytbhlhnkjmncloaa
