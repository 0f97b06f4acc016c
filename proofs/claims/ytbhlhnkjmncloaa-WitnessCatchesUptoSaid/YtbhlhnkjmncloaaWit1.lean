/-
  Contracts of functions of this seat: what each hands back, and what it leaves of memory (wit1). Nothing here is trusted: Lean checks it.
-/
import Derived.Test.YtbhlhnkjmncloaaLtt
import Derived.Test.YtbhlhnkjmncloaaVcStr
set_option linter.unusedVariables false
set_option linter.unusedSimpArgs false
namespace Go.Proofs.Ytbhlhnkjmncloaa
open Go.Vc Go.RowKit
set_option maxRecDepth 100000

def keyB (k : ByteArray) : Bool := decide (1 ≤ k.size) && decide (k.size ≤ 16)

/-- there is nothing in it -/
def plainT (x : Tt) : Bool := decide (x.sp_lo = 0) && decide (x.sp_hi = 0) && decide (x.va = 0)

def hasT (x : Tt) : Bool := decide (x.sp_lo ≤ x.va) && decide (x.va ≤ x.sp_hi)

def tmayB (r : Tt) : Bool := keyB r.ky && hasT r && !plainT r

/-- does one stand ahead of another? -/
def belT (a b : Tt) : Bool := ltS a.ky b.ky

def sameT (a b : Tt) : Bool := decide (a.ky = b.ky)

def ordT (a b : Tt) : Int := cmpS a.ky b.ky

def okT0 (p : Option Tt) (x : Tt) : Bool := match p with | none => true | some q => belT q x

def totB : Option Tt → List Tt → Bool
  | _, [] => true
  | p, x :: xs => okT0 p x && tmayB x && totB (some x) xs

theorem belT_irr (a : Tt) : belT a a = false := by simp [belT, ltS_irr]

theorem belT_trans {a b c : Tt} (h1 : belT a b = true) (h2 : belT b c = true) : belT a c = true := ltS_trans h1 h2

theorem belT_asym {a b : Tt} (h : belT a b = true) : belT b a = false := by
  cases h2 : belT b a with
  | false => rfl
  | true => have := belT_trans h h2; rw [belT_irr] at this; cases this

theorem belT_tri (a b : Tt) : belT a b = true ∨ sameT a b = true ∨ belT b a = true := by
  simp only [belT, sameT, decide_eq_true_eq]
  exact ltS_tri a.ky b.ky

theorem belT_same {a b : Tt} (h : sameT a b = true) : belT a b = false ∧ belT b a = false := by
  simp only [sameT, decide_eq_true_eq] at h
  simp [belT, h, ltS_irr]

theorem belT_ne {a b : Tt} (h : belT a b = true) : sameT a b = false ∧ sameT b a = false := by
  constructor
  · cases h2 : sameT a b with
    | false => rfl
    | true => rw [(belT_same h2).1] at h; cases h
  · cases h2 : sameT b a with
    | false => rfl
    | true => rw [(belT_same h2).2] at h; cases h

theorem sameT_left {a b c : Tt} (h : sameT a b = true) : belT a c = belT b c ∧ belT c a = belT c b ∧ sameT a c = sameT b c ∧ sameT c a = sameT c b := by
  simp only [sameT, decide_eq_true_eq] at h
  simp [belT, sameT, h]

theorem ordT_bel (a b : Tt) : ordT a b = if belT a b = true then -1 else if sameT a b = true then 0 else 1 := by
  unfold ordT belT sameT cmpS
  simp

theorem tot_cons {p : Option Tt} {x : Tt} {xs : List Tt} : totB p (x :: xs) = true ↔ (∀ q, p = some q → belT q x = true) ∧ tmayB x = true ∧ totB (some x) xs = true := by
  simp only [totB, Bool.and_eq_true, and_assoc]
  refine and_congr ?_ Iff.rfl
  cases p <;> simp [okT0]

theorem tot_mem : ∀ {l : List Tt} {p : Option Tt}, totB p l = true → ∀ x ∈ l, (∀ q, p = some q → belT q x = true) ∧ tmayB x = true
  | [], _, _, x, hx => by simp at hx
  | y :: ys, p, h, x, hx => by
    obtain ⟨h1, h2, h3⟩ := tot_cons.1 h
    rcases List.mem_cons.1 hx with rfl | hx
    · exact ⟨h1, h2⟩
    · have := tot_mem h3 x hx
      exact ⟨fun q e => belT_trans (h1 q e) (this.1 y rfl), this.2⟩

theorem tot_some {l : List Tt} {q : Tt} (h : totB none l = true) (hq : ∀ x ∈ l, belT q x = true) : totB (some q) l = true := by
  cases l with
  | nil => rfl
  | cons x xs =>
    obtain ⟨h1, h2, h3⟩ := tot_cons.1 h
    exact tot_cons.2 ⟨fun q' e => by cases e; exact hq x (by simp), h2, h3⟩

theorem tot_none {l : List Tt} {p : Option Tt} (h : totB p l = true) : totB none l = true := by
  cases l with
  | nil => rfl
  | cons x xs =>
    obtain ⟨h1, h2, h3⟩ := tot_cons.1 h
    exact tot_cons.2 ⟨fun q' e => (by cases e), h2, h3⟩

/-- what stands ahead of r, r, and what stands behind -/
def putT (l : List Tt) (r : Tt) : List Tt := (l.filter fun x => belT x r) ++ r :: l.filter fun x => belT r x

def ofT (l : List Tt) (r : Tt) : Option Tt := l.find? fun x => sameT x r

theorem tot_split (r : Tt) : ∀ {l : List Tt} {p : Option Tt}, totB p l = true → l = (l.filter fun x => belT x r) ++ ((ofT l r).toList ++ l.filter fun x => belT r x)
  | [], _, _ => rfl
  | x :: xs, p, h => by
    obtain ⟨h1, h2, h3⟩ := tot_cons.1 h
    have hm := tot_mem h3
    rcases belT_tri x r with hlt | heq | hgt
    · have ih := tot_split r h3
      have e1 := belT_asym hlt
      have e2 := (belT_ne hlt).1
      rw [List.filter_cons_of_pos (by simpa using hlt), List.filter_cons_of_neg (by simp [e1])]
      have : ofT (x :: xs) r = ofT xs r := by simp [ofT, List.find?_cons, e2]
      rw [this, List.cons_append, ← ih]
    · have e0 := belT_same heq
      have e1 : (xs.filter fun z => belT z r) = [] := List.filter_eq_nil_iff.2 fun z hz => by
        have := (hm z hz).1 x rfl
        rw [(sameT_left heq).1] at this
        simp [belT_asym this]
      have e2 : (xs.filter fun z => belT r z) = xs := List.filter_eq_self.2 fun z hz => by
        have := (hm z hz).1 x rfl
        rw [(sameT_left heq).1] at this
        exact this
      rw [List.filter_cons_of_neg (by simp [e0.1]), List.filter_cons_of_neg (by simp [e0.2]), e1, e2]
      simp [ofT, List.find?_cons, heq]
    · have e1 : (xs.filter fun z => belT z r) = [] := List.filter_eq_nil_iff.2 fun z hz => by
        have := belT_trans hgt ((hm z hz).1 x rfl)
        simp [belT_asym this]
      have e2 : (xs.filter fun z => belT r z) = xs := List.filter_eq_self.2 fun z hz => belT_trans hgt ((hm z hz).1 x rfl)
      have e3 : xs.find? (fun z => sameT z r) = none := List.find?_eq_none.2 fun z hz => by
        have := belT_trans hgt ((hm z hz).1 x rfl)
        simp [(belT_ne this).2]
      rw [List.filter_cons_of_neg (by simp [belT_asym hgt]), List.filter_cons_of_pos (by simpa using hgt), e1, e2]
      simp [ofT, List.find?_cons, (belT_ne hgt).2, e3]

theorem tot_append : ∀ {l : List Tt} {p : Option Tt} {r : Tt} {g : List Tt}, totB p l = true → (∀ x ∈ l, belT x r = true) → (∀ q, p = some q → belT q r = true) → tmayB r = true → totB (some r) g = true → totB p (l ++ r :: g) = true
  | [], p, r, g, _, _, hp, hr, hg => tot_cons.2 ⟨hp, hr, hg⟩
  | x :: xs, p, r, g, h, hl, hp, hr, hg => by
    obtain ⟨h1, h2, h3⟩ := tot_cons.1 h
    exact tot_cons.2 ⟨h1, h2, tot_append h3 (fun y hy => hl y (by simp [hy])) (fun q e => by cases e; exact hl x (by simp)) hr hg⟩

theorem tot_filter (f : Tt → Bool) : ∀ {l : List Tt} {p : Option Tt}, totB p l = true → totB p (l.filter f) = true
  | [], _, _ => rfl
  | x :: xs, p, h => by
    obtain ⟨h1, h2, h3⟩ := tot_cons.1 h
    have ih := tot_filter f h3
    by_cases e : f x = true
    · rw [List.filter_cons_of_pos e]; exact tot_cons.2 ⟨h1, h2, ih⟩
    · rw [List.filter_cons_of_neg e]
      have hm := tot_mem h3
      cases p with
      | none => exact tot_none ih
      | some q => exact tot_some (tot_none ih) fun y hy => belT_trans (h1 q rfl) ((hm y (List.mem_filter.1 hy).1).1 x rfl)

theorem putT_led {l : List Tt} {r : Tt} (h : totB none l = true) (hr : tmayB r = true) : totB none (putT l r) = true := by
  refine tot_append (tot_filter _ h) (fun x hx => (List.mem_filter.1 hx).2) (fun q e => by cases e) hr ?_
  exact tot_some (tot_filter _ h) fun x hx => (List.mem_filter.1 hx).2

theorem ofT_some {l : List Tt} {r x : Tt} (h : ofT l r = some x) : x ∈ l ∧ sameT x r = true := by
  unfold ofT at h
  have := List.find?_some h
  exact ⟨List.mem_of_find?_eq_some h, by simpa using this⟩

theorem putT_of {l : List Tt} (h : totB none l = true) (r z : Tt) : ofT (putT l r) z = if sameT r z = true then some r else ofT l z := by
  by_cases e : sameT r z = true
  · have e1 : (l.filter fun x => belT x r).find? (fun x => sameT x z) = none := List.find?_eq_none.2 fun x hx => by
      have h := (List.mem_filter.1 hx).2
      intro h2
      have := (belT_ne h).1
      rw [(sameT_left e).2.2.2] at this
      rw [this] at h2; cases h2
    unfold ofT putT
    rw [List.find?_append, List.find?_cons, e1, e]; simp
  · have e' : sameT r z = false := by simpa using e
    have e2 : ((ofT l r).toList).find? (fun x => sameT x z) = none := by
      cases ho : ofT l r with
      | none => rfl
      | some x =>
        have := (ofT_some ho).2
        simp [(sameT_left this).2.2.1, e']
    rw [if_neg e]
    conv => rhs; rw [tot_split r h]
    unfold ofT at e2 ⊢
    unfold putT
    rw [List.find?_append, List.find?_append, List.find?_append, List.find?_cons, e', e2]
    simp

theorem tot_ext : ∀ {a b : List Tt} {p : Option Tt}, totB p a = true → totB p b = true → (∀ z, ofT a z = ofT b z) → a = b
  | [], [], _, _, _, _ => rfl
  | [], y :: ys, _, _, _, h => by have := h y; simp [ofT, sameT] at this
  | x :: xs, [], _, _, _, h => by have := h x; simp [ofT, sameT] at this
  | x :: xs, y :: ys, p, ha, hb, h => by
    obtain ⟨a1, a2, a3⟩ := tot_cons.1 ha
    obtain ⟨b1, b2, b3⟩ := tot_cons.1 hb
    have hx := h x
    have hy := h y
    have sx : sameT x x = true := by simp [sameT]
    have sy : sameT y y = true := by simp [sameT]
    have e : x = y := by
      by_cases e1 : sameT y x = true
      · simp [ofT, List.find?_cons, sx, e1] at hx; exact hx
      · have e1 : sameT y x = false := by simpa using e1
        have e2 : sameT x y = false := by
          cases h2 : sameT x y with
          | false => rfl
          | true => rw [(sameT_left h2).2.2.2, sy] at e1; cases e1
        simp only [ofT, List.find?_cons, sx, sy, e1, e2] at hx hy
        have h1 := (tot_mem b3 x (List.mem_of_find?_eq_some hx.symm)).1 y rfl
        have h2 := (tot_mem a3 y (List.mem_of_find?_eq_some hy)).1 x rfl
        rw [belT_asym h1] at h2; cases h2
    subst e
    congr 1
    refine tot_ext a3 b3 fun z => ?_
    by_cases e1 : sameT x z = true
    · have n : ∀ {l : List Tt}, totB (some x) l = true → ofT l z = none := fun hl => List.find?_eq_none.2 fun w hw g => by
        have := (tot_mem hl w hw).1 x rfl
        rw [← (sameT_left e1).2.2.2] at g
        rw [(belT_ne this).2] at g; cases g
      rw [n a3, n b3]
    · have e1 : sameT x z = false := by simpa using e1
      have := h z
      simpa [ofT, List.find?_cons, e1] using this

theorem putT_put {l : List Tt} {r : Tt} (h : totB none l = true) (hr : tmayB r = true) : putT (putT l r) r = putT l r := by
  refine tot_ext (putT_led (putT_led h hr) hr) (putT_led h hr) fun z => ?_
  rw [putT_of (putT_led h hr), putT_of h]
  split <;> rfl

/-- where a right stands, or would stand -/
def ttP (l : List Tt) (r : Tt) : Nat := (l.filter fun x => belT x r).length

theorem ttP_le (l : List Tt) (r : Tt) : ttP l r ≤ l.length := List.length_filter_le _ _

/-- a list cut at where r stands, or would stand -/
theorem tot_cut {l : List Tt} (r : Tt) (h : totB none l = true) : ∃ L G : List Tt, l = L ++ ((ofT l r).toList ++ G) ∧ ttP l r = L.length ∧ putT l r = L ++ r :: G ∧ (∀ x ∈ L, belT x r = true) ∧ ∀ x ∈ G, belT r x = true :=
  ⟨_, _, tot_split r h, rfl, rfl, fun x hx => by simpa using (List.mem_filter.1 hx).2, fun x hx => by simpa using (List.mem_filter.1 hx).2⟩

theorem ttP_lt {l : List Tt} {r : Tt} (h : totB none l = true) : ∀ k (hk : k < l.length), k < ttP l r → belT l[k] r = true := by
  intro k hk hp
  obtain ⟨L, G, e, e2, -, e3, -⟩ := tot_cut r h
  rw [e2] at hp
  refine e3 _ (List.mem_of_getElem? (i := k) ?_)
  rw [← List.getElem?_append_left (l₂ := (ofT l r).toList ++ G) hp, ← e]
  exact List.getElem?_eq_getElem hk

theorem ttP_ge {l : List Tt} {r : Tt} (h : totB none l = true) : ∀ k (hk : k < l.length), ttP l r ≤ k → belT l[k] r = false := by
  intro k hk hp
  obtain ⟨L, G, e, e2, -, -, e3⟩ := tot_cut r h
  rw [e2] at hp
  have hm : l[k] ∈ (ofT l r).toList ++ G := by
    refine List.mem_of_getElem? (i := k - L.length) ?_
    rw [← List.getElem?_append_right hp, ← e]
    exact List.getElem?_eq_getElem hk
  rcases List.mem_append.1 hm with g | g
  · cases ho : ofT l r with
    | none => rw [ho] at g; simp at g
    | some x =>
      rw [ho] at g
      simp at g
      rw [g]
      exact (belT_same (ofT_some ho).2).1
  · exact belT_asym (e3 _ g)

theorem ttP_at {l : List Tt} {r x : Tt} (h : totB none l = true) (ho : ofT l r = some x) : ∃ hk : ttP l r < l.length, l[ttP l r] = x ∧ l.set (ttP l r) r = putT l r := by
  obtain ⟨L, G, e, e2, e3, -, -⟩ := tot_cut r h
  rw [ho] at e
  simp only [Option.toList, List.cons_append, List.nil_append] at e
  rw [e2, e3]
  subst e
  exact ⟨by simp, by simp, by simp⟩

theorem ttP_no {l : List Tt} {r : Tt} (h : totB none l = true) (ho : ofT l r = none) : l.take (ttP l r) ++ r :: l.drop (ttP l r) = putT l r := by
  obtain ⟨L, G, e, e2, e3, -, -⟩ := tot_cut r h
  rw [ho] at e
  simp only [Option.toList, List.nil_append] at e
  rw [e2, e3]
  subst e
  simp

theorem ttP_of {l : List Tt} {r : Tt} (h : totB none l = true) : ((l[ttP l r]?).any fun x => decide (ordT x r = 0)) = (ofT l r).isSome := by
  have hz : ∀ x : Tt, ordT x r = 0 ↔ sameT x r = true := fun x => by
    rw [ordT_bel]
    by_cases h1 : belT x r = true
    · simp [h1, (belT_ne h1).1]
    · by_cases h2 : sameT x r = true <;> simp [h1, h2]
  cases ho : ofT l r with
  | some x =>
    obtain ⟨hk, hx, -⟩ := ttP_at h ho
    rw [List.getElem?_eq_getElem hk, hx]
    simp [hz, (ofT_some ho).2]
  | none =>
    cases hg : l[ttP l r]? with
    | none => rfl
    | some x =>
      obtain ⟨hk, hx⟩ := List.getElem?_eq_some_iff.1 hg
      have : ¬ sameT x r = true := fun e => by
        have := List.find?_eq_none.1 ho x (by rw [← hx]; exact List.getElem_mem _)
        exact this e
      simp [hz, this]

/-- a total in its place; one in which there is nothing goes -/
def setT (l : List Tt) (r : Tt) : List Tt := (l.filter fun x => belT x r) ++ ((if plainT r = true then [] else [r]) ++ l.filter fun x => belT r x)

theorem setT_put {l : List Tt} {r : Tt} (h : plainT r = false) : setT l r = putT l r := by simp [setT, putT, h]

theorem tot_app : ∀ {l : List Tt} {p : Option Tt} {g : List Tt}, totB p l = true → totB none g = true → (∀ x ∈ l, ∀ y ∈ g, belT x y = true) → (∀ q, p = some q → ∀ y ∈ g, belT q y = true) → totB p (l ++ g) = true
  | [], p, g, _, hg, _, hp => by
    cases p with
    | none => exact hg
    | some q => exact tot_some hg (hp q rfl)
  | x :: xs, p, g, h, hg, hl, hp => by
    obtain ⟨h1, h2, h3⟩ := tot_cons.1 h
    exact tot_cons.2 ⟨h1, h2, tot_app h3 hg (fun y hy => hl y (by simp [hy])) (fun q e => by cases e; exact hl x (by simp))⟩

theorem setT_tot {l : List Tt} {r : Tt} (h : totB none l = true) (hr : plainT r = true ∨ tmayB r = true) : totB none (setT l r) = true := by
  by_cases e : plainT r = true
  · simp only [setT, e, if_true, List.nil_append]
    exact tot_app (tot_filter _ h) (tot_filter _ h) (fun x hx y hy => belT_trans (by simpa using (List.mem_filter.1 hx).2) (by simpa using (List.mem_filter.1 hy).2)) (fun q e => by cases e)
  · rw [setT_put (by simpa using e)]
    exact putT_led h (hr.resolve_left e)

theorem setT_of {l : List Tt} (h : totB none l = true) (r z : Tt) : ofT (setT l r) z = if sameT r z = true then (if plainT r = true then none else some r) else ofT l z := by
  by_cases e : plainT r = true
  · have e3 : setT l r = (l.filter fun x => belT x r) ++ l.filter fun x => belT r x := by simp [setT, e]
    have e4 : ofT (putT l r) z = _ := putT_of h r z
    by_cases e5 : sameT r z = true
    · rw [if_pos e5, if_pos e, e3]
      refine List.find?_eq_none.2 fun x hx h2 => ?_
      have h3 : sameT x r = true := by
        have := (sameT_left (c := x) e5).2.2.2
        rw [this]; exact h2
      rcases List.mem_append.1 hx with g | g
      · have := (belT_same h3).1
        rw [show belT x r = true from by simpa using (List.mem_filter.1 g).2] at this; cases this
      · have := (belT_same h3).2
        rw [show belT r x = true from by simpa using (List.mem_filter.1 g).2] at this; cases this
    · rw [if_neg e5] at e4 ⊢
      rw [← e4, e3]
      have e6 : sameT r z = false := by simpa using e5
      unfold ofT putT
      rw [List.find?_append, List.find?_append, List.find?_cons, e6]
  · rw [setT_put (by simpa using e), putT_of h, if_neg e]

theorem ttP_del {l : List Tt} {r x : Tt} (h : totB none l = true) (ho : ofT l r = some x) (hp : plainT r = true) : l.take (ttP l r) ++ l.drop (ttP l r + 1) = setT l r := by
  obtain ⟨L, G, e, e2, e3, -, -⟩ := tot_cut r h
  have e4 : setT l r = L ++ G := by
    have e5 : (l.filter fun x => belT x r) = L := by
      have e6 : putT l r = (l.filter fun x => belT x r) ++ r :: l.filter fun x => belT r x := rfl
      have e7 : (l.filter fun x => belT x r).length = L.length := e2
      rw [e3] at e6
      exact (List.append_inj_left e6 e7.symm).symm
    have e8 : (l.filter fun x => belT r x) = G := by
      have e6 : putT l r = (l.filter fun x => belT x r) ++ r :: l.filter fun x => belT r x := rfl
      rw [e3, e5] at e6
      have := List.append_cancel_left e6
      exact (List.cons.inj this).2.symm
    simp [setT, hp, e5, e8]
  rw [e4, e2]
  rw [ho] at e
  simp only [Option.toList, List.cons_append, List.nil_append] at e
  subst e
  simp

theorem ttP_plain {l : List Tt} {r : Tt} (h : totB none l = true) (ho : ofT l r = none) (hp : plainT r = true) : l = setT l r := by
  conv => lhs; rw [tot_split r h]
  simp [ho, setT, hp]

theorem setT_len (l : List Tt) (r : Tt) : (setT l r).length ≤ 2 * l.length + 1 := by
  have f1 := List.length_filter_le (fun x => belT x r) l
  have f2 := List.length_filter_le (fun x => belT r x) l
  unfold setT
  split <;> simp <;> omega

theorem fil_len {l : List Tt} {r : Tt} : (l.filter fun x => belT x r).length + (l.filter fun x => belT r x).length ≤ l.length := by
  induction l with
  | nil => simp
  | cons x xs ih =>
    simp only [List.filter_cons, List.length_cons]
    cases h1 : belT x r
    · cases h2 : belT r x <;> simp <;> omega
    · simp [belT_asym h1]; omega

/-- at most one more -/
theorem setT_len1 (l : List Tt) (r : Tt) : (setT l r).length ≤ l.length + 1 := by
  have := fil_len (l := l) (r := r)
  unfold setT
  split <;> simp <;> omega

end Go.Proofs.Ytbhlhnkjmncloaa
