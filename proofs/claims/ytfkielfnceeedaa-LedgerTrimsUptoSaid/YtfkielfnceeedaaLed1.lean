/-
  Contracts of functions of this seat: what each hands back, and what it leaves of memory (led1). Nothing here is trusted: Lean checks it.
-/
import Derived.Test.YtfkielfnceeedaaAcc6
import Derived.Test.YtfkielfnceeedaaLrt
import Derived.Test.YtfkielfnceeedaaVcStr
set_option linter.unusedVariables false
set_option linter.unusedSimpArgs false
namespace Go.Proofs.Ytfkielfnceeedaa
open Go.Vc Go.RowKit
set_option maxRecDepth 100000

def rmayB (r : Rt) : Bool := decide (1 ≤ r.g) && decide (r.g < 8) && keyB r.ky && decide (1 ≤ r.le)

/-- does one stand ahead of another? -/
def bel (a b : Rt) : Bool := decide (a.g < b.g) || (decide (a.g = b.g) && ltS a.ky b.ky)

def sameK (a b : Rt) : Bool := decide (a.g = b.g) && decide (a.ky = b.ky)

def ordR (a b : Rt) : Int := if a.g = b.g then cmpS a.ky b.ky else if a.g < b.g then -1 else 1

def okP (p : Option Rt) (x : Rt) : Bool := match p with | none => true | some q => bel q x

def ledB : Option Rt → List Rt → Bool
  | _, [] => true
  | p, x :: xs => okP p x && rmayB x && ledB (some x) xs

theorem bel_irr (a : Rt) : bel a a = false := by simp [bel, ltS_irr]

theorem bel_trans {a b c : Rt} (h1 : bel a b = true) (h2 : bel b c = true) : bel a c = true := by
  simp only [bel, Bool.or_eq_true, Bool.and_eq_true, decide_eq_true_eq] at *
  rcases h1 with h1 | ⟨h1, k1⟩ <;> rcases h2 with h2 | ⟨h2, k2⟩
  · exact .inl (by omega)
  · exact .inl (by omega)
  · exact .inl (by omega)
  · exact .inr ⟨by omega, ltS_trans k1 k2⟩

theorem bel_asym {a b : Rt} (h : bel a b = true) : bel b a = false := by
  cases h2 : bel b a with
  | false => rfl
  | true => have := bel_trans h h2; rw [bel_irr] at this; cases this

theorem bel_tri (a b : Rt) : bel a b = true ∨ sameK a b = true ∨ bel b a = true := by
  simp only [bel, sameK, Bool.or_eq_true, Bool.and_eq_true, decide_eq_true_eq]
  rcases Int.lt_trichotomy a.g b.g with h | h | h
  · exact .inl (.inl h)
  · rcases ltS_tri a.ky b.ky with k | k | k
    · exact .inl (.inr ⟨h, k⟩)
    · exact .inr (.inl ⟨h, k⟩)
    · exact .inr (.inr (.inr ⟨h.symm, k⟩))
  · exact .inr (.inr (.inl h))

theorem bel_same {a b : Rt} (h : sameK a b = true) : bel a b = false ∧ bel b a = false := by
  simp only [sameK, Bool.and_eq_true, decide_eq_true_eq] at h
  simp [bel, h.1, h.2, ltS_irr]

theorem bel_ne {a b : Rt} (h : bel a b = true) : sameK a b = false ∧ sameK b a = false := by
  constructor
  · cases h2 : sameK a b with
    | false => rfl
    | true => rw [(bel_same h2).1] at h; cases h
  · cases h2 : sameK b a with
    | false => rfl
    | true => rw [(bel_same h2).2] at h; cases h

theorem same_left {a b c : Rt} (h : sameK a b = true) : bel a c = bel b c ∧ bel c a = bel c b ∧ sameK a c = sameK b c ∧ sameK c a = sameK c b := by
  simp only [sameK, Bool.and_eq_true, decide_eq_true_eq] at h
  simp [bel, sameK, h.1, h.2]

theorem ord_bel (a b : Rt) : ordR a b = if bel a b = true then -1 else if sameK a b = true then 0 else 1 := by
  unfold ordR bel sameK cmpS
  by_cases h : a.g = b.g
  · simp [h]
  · by_cases h2 : a.g < b.g <;> simp [h, h2]

theorem led_cons {p : Option Rt} {x : Rt} {xs : List Rt} : ledB p (x :: xs) = true ↔ (∀ q, p = some q → bel q x = true) ∧ rmayB x = true ∧ ledB (some x) xs = true := by
  simp only [ledB, Bool.and_eq_true, and_assoc]
  refine and_congr ?_ Iff.rfl
  cases p <;> simp [okP]

theorem led_mem : ∀ {l : List Rt} {p : Option Rt}, ledB p l = true → ∀ x ∈ l, (∀ q, p = some q → bel q x = true) ∧ rmayB x = true
  | [], _, _, x, hx => by simp at hx
  | y :: ys, p, h, x, hx => by
    obtain ⟨h1, h2, h3⟩ := led_cons.1 h
    rcases List.mem_cons.1 hx with rfl | hx
    · exact ⟨h1, h2⟩
    · have := led_mem h3 x hx
      exact ⟨fun q e => bel_trans (h1 q e) (this.1 y rfl), this.2⟩

theorem led_some {l : List Rt} {q : Rt} (h : ledB none l = true) (hq : ∀ x ∈ l, bel q x = true) : ledB (some q) l = true := by
  cases l with
  | nil => rfl
  | cons x xs =>
    obtain ⟨h1, h2, h3⟩ := led_cons.1 h
    exact led_cons.2 ⟨fun q' e => by cases e; exact hq x (by simp), h2, h3⟩

theorem led_none {l : List Rt} {p : Option Rt} (h : ledB p l = true) : ledB none l = true := by
  cases l with
  | nil => rfl
  | cons x xs =>
    obtain ⟨h1, h2, h3⟩ := led_cons.1 h
    exact led_cons.2 ⟨fun q' e => (by cases e), h2, h3⟩

/-- what stands ahead of r, r, and what stands behind -/
def putL (l : List Rt) (r : Rt) : List Rt := (l.filter fun x => bel x r) ++ r :: l.filter fun x => bel r x

def ofR (l : List Rt) (r : Rt) : Option Rt := l.find? fun x => sameK x r

theorem led_split (r : Rt) : ∀ {l : List Rt} {p : Option Rt}, ledB p l = true → l = (l.filter fun x => bel x r) ++ ((ofR l r).toList ++ l.filter fun x => bel r x)
  | [], _, _ => rfl
  | x :: xs, p, h => by
    obtain ⟨h1, h2, h3⟩ := led_cons.1 h
    have hm := led_mem h3
    rcases bel_tri x r with hlt | heq | hgt
    · have ih := led_split r h3
      have e1 := bel_asym hlt
      have e2 := (bel_ne hlt).1
      rw [List.filter_cons_of_pos (by simpa using hlt), List.filter_cons_of_neg (by simp [e1])]
      have : ofR (x :: xs) r = ofR xs r := by simp [ofR, List.find?_cons, e2]
      rw [this, List.cons_append, ← ih]
    · have e0 := bel_same heq
      have e1 : (xs.filter fun z => bel z r) = [] := List.filter_eq_nil_iff.2 fun z hz => by
        have := (hm z hz).1 x rfl
        rw [(same_left heq).1] at this
        simp [bel_asym this]
      have e2 : (xs.filter fun z => bel r z) = xs := List.filter_eq_self.2 fun z hz => by
        have := (hm z hz).1 x rfl
        rw [(same_left heq).1] at this
        exact this
      rw [List.filter_cons_of_neg (by simp [e0.1]), List.filter_cons_of_neg (by simp [e0.2]), e1, e2]
      simp [ofR, List.find?_cons, heq]
    · have e1 : (xs.filter fun z => bel z r) = [] := List.filter_eq_nil_iff.2 fun z hz => by
        have := bel_trans hgt ((hm z hz).1 x rfl)
        simp [bel_asym this]
      have e2 : (xs.filter fun z => bel r z) = xs := List.filter_eq_self.2 fun z hz => bel_trans hgt ((hm z hz).1 x rfl)
      have e3 : xs.find? (fun z => sameK z r) = none := List.find?_eq_none.2 fun z hz => by
        have := bel_trans hgt ((hm z hz).1 x rfl)
        simp [(bel_ne this).2]
      rw [List.filter_cons_of_neg (by simp [bel_asym hgt]), List.filter_cons_of_pos (by simpa using hgt), e1, e2]
      simp [ofR, List.find?_cons, (bel_ne hgt).2, e3]

theorem led_append : ∀ {l : List Rt} {p : Option Rt} {r : Rt} {g : List Rt}, ledB p l = true → (∀ x ∈ l, bel x r = true) → (∀ q, p = some q → bel q r = true) → rmayB r = true → ledB (some r) g = true → ledB p (l ++ r :: g) = true
  | [], p, r, g, _, _, hp, hr, hg => led_cons.2 ⟨hp, hr, hg⟩
  | x :: xs, p, r, g, h, hl, hp, hr, hg => by
    obtain ⟨h1, h2, h3⟩ := led_cons.1 h
    exact led_cons.2 ⟨h1, h2, led_append h3 (fun y hy => hl y (by simp [hy])) (fun q e => by cases e; exact hl x (by simp)) hr hg⟩

theorem led_filter (f : Rt → Bool) : ∀ {l : List Rt} {p : Option Rt}, ledB p l = true → ledB p (l.filter f) = true
  | [], _, _ => rfl
  | x :: xs, p, h => by
    obtain ⟨h1, h2, h3⟩ := led_cons.1 h
    have ih := led_filter f h3
    by_cases e : f x = true
    · rw [List.filter_cons_of_pos e]; exact led_cons.2 ⟨h1, h2, ih⟩
    · rw [List.filter_cons_of_neg e]
      have hm := led_mem h3
      cases p with
      | none => exact led_none ih
      | some q => exact led_some (led_none ih) fun y hy => bel_trans (h1 q rfl) ((hm y (List.mem_filter.1 hy).1).1 x rfl)

theorem put_led {l : List Rt} {r : Rt} (h : ledB none l = true) (hr : rmayB r = true) : ledB none (putL l r) = true := by
  refine led_append (led_filter _ h) (fun x hx => (List.mem_filter.1 hx).2) (fun q e => by cases e) hr ?_
  exact led_some (led_filter _ h) fun x hx => (List.mem_filter.1 hx).2

theorem ofR_some {l : List Rt} {r x : Rt} (h : ofR l r = some x) : x ∈ l ∧ sameK x r = true := by
  unfold ofR at h
  have := List.find?_some h
  exact ⟨List.mem_of_find?_eq_some h, by simpa using this⟩

theorem put_of {l : List Rt} (h : ledB none l = true) (r z : Rt) : ofR (putL l r) z = if sameK r z = true then some r else ofR l z := by
  by_cases e : sameK r z = true
  · have e1 : (l.filter fun x => bel x r).find? (fun x => sameK x z) = none := List.find?_eq_none.2 fun x hx => by
      have h := (List.mem_filter.1 hx).2
      intro h2
      have := (bel_ne h).1
      rw [(same_left e).2.2.2] at this
      rw [this] at h2; cases h2
    unfold ofR putL
    rw [List.find?_append, List.find?_cons, e1, e]; simp
  · have e' : sameK r z = false := by simpa using e
    have e2 : ((ofR l r).toList).find? (fun x => sameK x z) = none := by
      cases ho : ofR l r with
      | none => rfl
      | some x =>
        have := (ofR_some ho).2
        simp [(same_left this).2.2.1, e']
    rw [if_neg e]
    conv => rhs; rw [led_split r h]
    unfold ofR at e2 ⊢
    unfold putL
    rw [List.find?_append, List.find?_append, List.find?_append, List.find?_cons, e', e2]
    simp

theorem led_ext : ∀ {a b : List Rt} {p : Option Rt}, ledB p a = true → ledB p b = true → (∀ z, ofR a z = ofR b z) → a = b
  | [], [], _, _, _, _ => rfl
  | [], y :: ys, _, _, _, h => by have := h y; simp [ofR, sameK] at this
  | x :: xs, [], _, _, _, h => by have := h x; simp [ofR, sameK] at this
  | x :: xs, y :: ys, p, ha, hb, h => by
    obtain ⟨a1, a2, a3⟩ := led_cons.1 ha
    obtain ⟨b1, b2, b3⟩ := led_cons.1 hb
    have hx := h x
    have hy := h y
    have sx : sameK x x = true := by simp [sameK]
    have sy : sameK y y = true := by simp [sameK]
    have e : x = y := by
      by_cases e1 : sameK y x = true
      · simp [ofR, List.find?_cons, sx, e1] at hx; exact hx
      · have e1 : sameK y x = false := by simpa using e1
        have e2 : sameK x y = false := by
          cases h2 : sameK x y with
          | false => rfl
          | true => rw [(same_left h2).2.2.2, sy] at e1; cases e1
        simp only [ofR, List.find?_cons, sx, sy, e1, e2] at hx hy
        have h1 := (led_mem b3 x (List.mem_of_find?_eq_some hx.symm)).1 y rfl
        have h2 := (led_mem a3 y (List.mem_of_find?_eq_some hy)).1 x rfl
        rw [bel_asym h1] at h2; cases h2
    subst e
    congr 1
    refine led_ext a3 b3 fun z => ?_
    by_cases e1 : sameK x z = true
    · have n : ∀ {l : List Rt}, ledB (some x) l = true → ofR l z = none := fun hl => List.find?_eq_none.2 fun w hw g => by
        have := (led_mem hl w hw).1 x rfl
        rw [← (same_left e1).2.2.2] at g
        rw [(bel_ne this).2] at g; cases g
      rw [n a3, n b3]
    · have e1 : sameK x z = false := by simpa using e1
      have := h z
      simpa [ofR, List.find?_cons, e1] using this

theorem put_put {l : List Rt} {r : Rt} (h : ledB none l = true) (hr : rmayB r = true) : putL (putL l r) r = putL l r := by
  refine led_ext (put_led (put_led h hr) hr) (put_led h hr) fun z => ?_
  rw [put_of (put_led h hr), put_of h]
  split <;> rfl

/-- where a right stands, or would stand -/
def rtP (l : List Rt) (r : Rt) : Nat := (l.filter fun x => bel x r).length

theorem rtP_le (l : List Rt) (r : Rt) : rtP l r ≤ l.length := List.length_filter_le _ _

/-- a list cut at where r stands, or would stand -/
theorem led_cut {l : List Rt} (r : Rt) (h : ledB none l = true) : ∃ L G : List Rt, l = L ++ ((ofR l r).toList ++ G) ∧ rtP l r = L.length ∧ putL l r = L ++ r :: G ∧ (∀ x ∈ L, bel x r = true) ∧ ∀ x ∈ G, bel r x = true :=
  ⟨_, _, led_split r h, rfl, rfl, fun x hx => by simpa using (List.mem_filter.1 hx).2, fun x hx => by simpa using (List.mem_filter.1 hx).2⟩

theorem rtP_lt {l : List Rt} {r : Rt} (h : ledB none l = true) : ∀ k (hk : k < l.length), k < rtP l r → bel l[k] r = true := by
  intro k hk hp
  obtain ⟨L, G, e, e2, -, e3, -⟩ := led_cut r h
  rw [e2] at hp
  refine e3 _ (List.mem_of_getElem? (i := k) ?_)
  rw [← List.getElem?_append_left (l₂ := (ofR l r).toList ++ G) hp, ← e]
  exact List.getElem?_eq_getElem hk

theorem rtP_ge {l : List Rt} {r : Rt} (h : ledB none l = true) : ∀ k (hk : k < l.length), rtP l r ≤ k → bel l[k] r = false := by
  intro k hk hp
  obtain ⟨L, G, e, e2, -, -, e3⟩ := led_cut r h
  rw [e2] at hp
  have hm : l[k] ∈ (ofR l r).toList ++ G := by
    refine List.mem_of_getElem? (i := k - L.length) ?_
    rw [← List.getElem?_append_right hp, ← e]
    exact List.getElem?_eq_getElem hk
  rcases List.mem_append.1 hm with g | g
  · cases ho : ofR l r with
    | none => rw [ho] at g; simp at g
    | some x =>
      rw [ho] at g
      simp at g
      rw [g]
      exact (bel_same (ofR_some ho).2).1
  · exact bel_asym (e3 _ g)

theorem rtP_at {l : List Rt} {r x : Rt} (h : ledB none l = true) (ho : ofR l r = some x) : ∃ hk : rtP l r < l.length, l[rtP l r] = x ∧ l.set (rtP l r) r = putL l r := by
  obtain ⟨L, G, e, e2, e3, -, -⟩ := led_cut r h
  rw [ho] at e
  simp only [Option.toList, List.cons_append, List.nil_append] at e
  rw [e2, e3]
  subst e
  exact ⟨by simp, by simp, by simp⟩

theorem rtP_no {l : List Rt} {r : Rt} (h : ledB none l = true) (ho : ofR l r = none) : l.take (rtP l r) ++ r :: l.drop (rtP l r) = putL l r := by
  obtain ⟨L, G, e, e2, e3, -, -⟩ := led_cut r h
  rw [ho] at e
  simp only [Option.toList, List.nil_append] at e
  rw [e2, e3]
  subst e
  simp

theorem rtP_of {l : List Rt} {r : Rt} (h : ledB none l = true) : ((l[rtP l r]?).any fun x => decide (ordR x r = 0)) = (ofR l r).isSome := by
  have hz : ∀ x : Rt, ordR x r = 0 ↔ sameK x r = true := fun x => by
    rw [ord_bel]
    by_cases h1 : bel x r = true
    · simp [h1, (bel_ne h1).1]
    · by_cases h2 : sameK x r = true <;> simp [h1, h2]
  cases ho : ofR l r with
  | some x =>
    obtain ⟨hk, hx, -⟩ := rtP_at h ho
    rw [List.getElem?_eq_getElem hk, hx]
    simp [hz, (ofR_some ho).2]
  | none =>
    cases hg : l[rtP l r]? with
    | none => rfl
    | some x =>
      obtain ⟨hk, hx⟩ := List.getElem?_eq_some_iff.1 hg
      have : ¬ sameK x r = true := fun e => by
        have := List.find?_eq_none.1 ho x (by rw [← hx]; exact List.getElem_mem _)
        exact this e
      simp [hz, this]

end Go.Proofs.Ytfkielfnceeedaa
