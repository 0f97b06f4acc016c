/-
  Contracts of functions of this seat: what each hands back, and what it leaves of memory (deal13). Nothing here is trusted: Lean checks it.
-/
import Derived.Test.YtoilbbfidnhekaaDeal12
set_option linter.unusedVariables false
set_option linter.unusedSimpArgs false
namespace Go.Proofs.Ytoilbbfidnhekaa
open Go.Vc Go.RowKit
set_option maxRecDepth 100000

def insE : List En → Int → Int → List En
  | [], c, s => [⟨c, s⟩]
  | x :: xs, c, s => if x.cl < c then x :: insE xs c s else if x.cl = c then ⟨c, if x.sq < s then s else x.sq⟩ :: xs else ⟨c, s⟩ :: x :: xs

theorem raised_eq : ∀ (l : List En) (c s : Int), raised l c s = insE l c s
  | [], c, s => rfl
  | x :: xs, c, s => by
    have ih := raised_eq xs c s
    by_cases h1 : x.cl < c
    · have h2 : ¬ c ≤ x.cl := by omega
      have e1 : endP (x :: xs) c = endP xs c + 1 := by simp [endP, h2]
      have e2 : endIs (x :: xs) c = endIs xs c := by simp [endIs, e1]
      simp only [insE, if_pos h1, ← ih, raised, e1, e2, List.getElem?_cons_succ, List.set_cons_succ, List.take_succ_cons, List.drop_succ_cons, List.cons_append]
      split <;> rfl
    · have h2 : c ≤ x.cl := by omega
      have e1 : endP (x :: xs) c = 0 := by simp [endP, h2]
      have e2 : endIs (x :: xs) c = decide (x.cl = c) := by simp [endIs, e1]
      simp only [insE, if_neg h1, raised, e1, e2, decide_eq_true_eq]
      split <;> simp

theorem ins_ends {c s : Int} (hw : whoseB c s = true) : ∀ {l : List En} {last : Int}, last < c → endsB last l = true → endsB last (insE l c s) = true
  | [], last, hl, _ => by simp [insE, endsB, hl, hw]
  | x :: xs, last, hl, h => by
    simp only [endsB, Bool.and_eq_true, decide_eq_true_eq] at h
    simp only [insE]
    split
    · rename_i h1
      simp only [endsB, Bool.and_eq_true, decide_eq_true_eq]
      exact ⟨h.1, ins_ends hw h1 h.2⟩
    · split
      · rename_i h1 h2
        subst h2
        simp only [endsB, Bool.and_eq_true, decide_eq_true_eq]
        refine ⟨⟨hl, ?_⟩, h.2⟩
        split
        · exact hw
        · exact h.1.2
      · rename_i h1 h2
        simp only [endsB, Bool.and_eq_true, decide_eq_true_eq]
        exact ⟨⟨hl, hw⟩, ⟨by omega, h.1.2⟩, h.2⟩

theorem ins_of {c s : Int} (hs : 0 < s) : ∀ {l : List En} {last : Int} (c' : Int), endsB last l = true → ofE (insE l c s) c' = if c' = c then (if ofE l c < s then s else ofE l c) else ofE l c'
  | [], last, c', _ => by
    by_cases h : c = c'
    · subst h; simp [insE, ofE, hs]
    · have h' : ¬ c' = c := fun e => h e.symm
      simp [insE, ofE, h, h']
  | x :: xs, last, c', h => by
    simp only [endsB, Bool.and_eq_true, decide_eq_true_eq] at h
    simp only [insE]
    split
    · rename_i h1
      have ih := ins_of (c := c) hs c' h.2
      have hne : ¬ x.cl = c := by omega
      simp only [ofE, if_neg hne, ih]
      by_cases h3 : x.cl = c'
      · have : ¬ c' = c := by omega
        simp [h3, this]
      · simp [h3]
    · split
      · rename_i h1 h2
        subst h2
        by_cases h3 : x.cl = c'
        · subst h3; simp [ofE]
        · have : ¬ c' = x.cl := fun e => h3 e.symm
          simp [ofE, h3, this]
      · rename_i h1 h2
        have h0 : ofE xs c = 0 := by
          have : ∀ y ∈ xs, y.cl ≠ c := fun y hy => by have := (ends_mem h.2 y hy).1; omega
          have := ofE_drop (l := xs) (k := xs.length) (Nat.le_refl _) (c := c) (by simpa using this)
          simpa [ofE] using this
        by_cases h3 : c = c'
        · subst h3; simp [ofE, h2, h0, hs]
        · have : ¬ c' = c := fun e => h3 e.symm
          simp [ofE, h3, this]

theorem ends_len : ∀ {l : List En} {last : Int}, 0 ≤ last → endsB last l = true → l = [] ∨ (l.length : Int) + last ≤ 8
  | [], _, _, _ => .inl rfl
  | x :: xs, last, hl, h => by
    simp only [endsB, Bool.and_eq_true, decide_eq_true_eq] at h
    have h8 : x.cl ≤ 8 := by have := h.1.2; simp [whoseB] at this; omega
    rcases ends_len (by omega : 0 ≤ x.cl) h.2 with e | e
    · subst e; simp; omega
    · simp; omega

/-- the ends of the clients from c on, n of them, by f -/
def listE (f : Int → Int) : Nat → Int → List En
  | 0, _ => []
  | n + 1, c => if 0 < f c then ⟨c, f c⟩ :: listE f n (c + 1) else listE f n (c + 1)

theorem ofE_lt : ∀ {l : List En} {last c : Int}, endsB last l = true → c ≤ last → ofE l c = 0
  | [], _, _, _, _ => rfl
  | x :: xs, last, c, h, hc => by
    simp only [endsB, Bool.and_eq_true, decide_eq_true_eq] at h
    have : ¬ x.cl = c := by omega
    simp only [ofE, if_neg this]
    exact ofE_lt h.2 (by omega)

theorem list_congr {f g : Int → Int} : ∀ (n : Nat) (c : Int), (∀ k, c ≤ k → f k = g k) → listE f n c = listE g n c
  | 0, _, _ => rfl
  | n + 1, c, h => by
    simp only [listE, h c (Int.le_refl _), list_congr n (c + 1) fun k hk => h k (by omega)]

/-- right ends are what their ends tell -/
theorem list_of : ∀ (n : Nat) {c : Int} {l : List En}, 1 ≤ c → (n : Int) + c = 9 → endsB (c - 1) l = true → listE (ofE l) n c = l
  | 0, c, l, h1, h9, h => by
    rcases l with _ | ⟨x, xs⟩
    · rfl
    · simp only [endsB, Bool.and_eq_true, decide_eq_true_eq] at h
      have h8 : x.cl ≤ 8 := by have := h.1.2; simp [whoseB] at this; omega
      omega
  | n + 1, c, [], h1, h9, h => by
    have ih := list_of n (c := c + 1) (l := []) (by omega) (by omega) rfl
    simp only [listE, ofE, Int.lt_irrefl, if_false]
    rw [show (ofE [] : Int → Int) = fun _ => 0 from rfl] at ih
    exact ih
  | n + 1, c, x :: xs, h1, h9, h => by
    have hx := h
    simp only [endsB, Bool.and_eq_true, decide_eq_true_eq] at h
    by_cases e : x.cl = c
    · have hs : 0 < x.sq := by have := h.1.2; simp [whoseB] at this; omega
      have ih := list_of n (c := c + 1) (l := xs) (by omega) (by omega) (by rw [show c + 1 - 1 = x.cl by omega]; exact h.2)
      have hc : listE (ofE (x :: xs)) n (c + 1) = listE (ofE xs) n (c + 1) := list_congr n _ fun k hk => by simp only [ofE]; rw [if_neg (by omega)]
      have h0 : ofE (x :: xs) c = x.sq := by simp [ofE, e]
      simp only [listE, h0, hs, if_true, hc, ih]
      subst e; rfl
    · have h0 : ofE (x :: xs) c = 0 := by
        simp only [ofE, if_neg e]; exact ofE_lt h.2 (by omega)
      have ih := list_of n (c := c + 1) (l := x :: xs) (by omega) (by omega) (by
        simp only [endsB, Bool.and_eq_true, decide_eq_true_eq]; exact ⟨⟨by omega, h.1.2⟩, h.2⟩)
      simp only [listE, h0, Int.lt_irrefl, if_false]
      exact ih

end Go.Proofs.Ytoilbbfidnhekaa
