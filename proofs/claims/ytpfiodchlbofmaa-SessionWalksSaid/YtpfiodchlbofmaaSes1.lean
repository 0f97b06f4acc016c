/-
  Contracts of functions of this seat: what each hands back, and what it leaves of memory (ses1). Nothing here is trusted: Lean checks it.
-/
import Derived.Test.YtpfiodchlbofmaaLmk
set_option linter.unusedVariables false
set_option linter.unusedSimpArgs false
namespace Go.Proofs.Ytpfiodchlbofmaa
open Go.Vc Go.RowKit
set_option maxRecDepth 100000

def ans0B (m : Mk) : Bool := decide (m.an_er = 0) && decide (m.an_va = 0) && decide (m.an_le = 0) && decide (m.an_mo = 0)

def mkB (m : Mk) : Bool := decide (m.cl ≤ 8) && decide (0 ≤ m.sq) && decide (m.sq ≤ 4611686018427387904) && (!m.op || (decide (1 ≤ m.sq) && ans0B m))

/-- is it a table, behind the client 'last'? -/
def tabB : Int → List Mk → Bool
  | _, [] => true
  | last, x :: xs => decide (last < x.cl) && mkB x && tabB x.cl xs

/-- the client's mark -/
def ofM : List Mk → Int → Option Mk
  | [], _ => none
  | x :: xs, c => if x.cl = c then some x else ofM xs c

/-- where a client's mark stands, or would stand -/
def mkP : List Mk → Int → Nat
  | [], _ => 0
  | x :: xs, c => if c ≤ x.cl then 0 else mkP xs c + 1

def insM : List Mk → Mk → List Mk
  | [], m => [m]
  | x :: xs, m => if x.cl < m.cl then x :: insM xs m else if x.cl = m.cl then m :: xs else m :: x :: xs

theorem tab_cons {last : Int} {x : Mk} {xs : List Mk} : tabB last (x :: xs) = true ↔ last < x.cl ∧ mkB x = true ∧ tabB x.cl xs = true := by
  simp only [tabB, Bool.and_eq_true, decide_eq_true_eq, and_assoc]

theorem tab_mem : ∀ {l : List Mk} {last : Int}, tabB last l = true → ∀ x ∈ l, last < x.cl ∧ mkB x = true
  | [], _, _, x, hx => by simp at hx
  | y :: ys, last, h, x, hx => by
    obtain ⟨h1, h2, h3⟩ := tab_cons.1 h
    rcases List.mem_cons.1 hx with rfl | hx
    · exact ⟨h1, h2⟩
    · have := tab_mem h3 x hx; exact ⟨by omega, this.2⟩

theorem tab_weak : ∀ {l : List Mk} {last b : Int}, b ≤ last → tabB last l = true → tabB b l = true
  | [], _, _, _, _ => rfl
  | x :: xs, _, _, hb, h => by
    obtain ⟨h1, h2, h3⟩ := tab_cons.1 h
    exact tab_cons.2 ⟨by omega, h2, h3⟩

theorem ofM_lt : ∀ {l : List Mk} {last c : Int}, tabB last l = true → c ≤ last → ofM l c = none
  | [], _, _, _, _ => rfl
  | x :: xs, last, c, h, hc => by
    obtain ⟨h1, h2, h3⟩ := tab_cons.1 h
    simp only [ofM, if_neg (show ¬ x.cl = c by omega)]
    exact ofM_lt h3 (by omega)

theorem ofM_some : ∀ {l : List Mk} {c : Int} {m : Mk}, ofM l c = some m → m ∈ l ∧ m.cl = c
  | [], _, _, h => by simp [ofM] at h
  | x :: xs, c, m, h => by
    simp only [ofM] at h
    split at h
    · rename_i e; cases h; exact ⟨by simp, e⟩
    · have := ofM_some h; exact ⟨by simp [this.1], this.2⟩

theorem ofM_ok {l : List Mk} {last c : Int} {m : Mk} (h : tabB last l = true) (e : ofM l c = some m) : last < c ∧ mkB m = true ∧ m.cl = c := by
  obtain ⟨h1, h2⟩ := ofM_some e
  obtain ⟨h3, h4⟩ := tab_mem h m h1
  exact ⟨by omega, h4, h2⟩

theorem mem_ofM : ∀ {l : List Mk} {last : Int}, tabB last l = true → ∀ x ∈ l, ofM l x.cl = some x
  | [], _, _, x, hx => by simp at hx
  | y :: ys, last, h, x, hx => by
    obtain ⟨h1, h2, h3⟩ := tab_cons.1 h
    rcases List.mem_cons.1 hx with rfl | hx
    · simp [ofM]
    · have := (tab_mem h3 x hx).1
      simp only [ofM, if_neg (show ¬ y.cl = x.cl by omega)]
      exact mem_ofM h3 x hx

theorem tab_ext : ∀ {a b : List Mk} {last : Int}, tabB last a = true → tabB last b = true → (∀ c, ofM a c = ofM b c) → a = b
  | [], [], _, _, _, _ => rfl
  | [], y :: ys, _, _, _, h => by have := h y.cl; simp [ofM] at this
  | x :: xs, [], _, _, _, h => by have := h x.cl; simp [ofM] at this
  | x :: xs, y :: ys, last, ha, hb, h => by
    obtain ⟨a1, a2, a3⟩ := tab_cons.1 ha
    obtain ⟨b1, b2, b3⟩ := tab_cons.1 hb
    have hx := h x.cl
    have hy := h y.cl
    have e : x = y := by
      by_cases e1 : y.cl = x.cl
      · simp [ofM, e1] at hx; exact hx
      · simp only [ofM, if_true, if_neg e1] at hx hy
        rw [if_neg (fun e => e1 e.symm)] at hy
        have h1 := (ofM_ok b3 hx.symm).1
        have h2 := (ofM_ok a3 hy).1
        omega
    subst e
    congr 1
    refine tab_ext a3 b3 fun c => ?_
    by_cases e1 : x.cl = c
    · rw [ofM_lt a3 (by omega), ofM_lt b3 (by omega)]
    · have := h c; simpa [ofM, e1] using this

theorem ins_tab {m : Mk} (hm : mkB m = true) : ∀ {l : List Mk} {last : Int}, last < m.cl → tabB last l = true → tabB last (insM l m) = true
  | [], last, hl, _ => by simp [insM, tabB, hl, hm]
  | x :: xs, last, hl, h => by
    obtain ⟨h1, h2, h3⟩ := tab_cons.1 h
    simp only [insM]
    split
    · rename_i e; exact tab_cons.2 ⟨h1, h2, ins_tab hm e h3⟩
    · split
      · rename_i e1 e2; exact tab_cons.2 ⟨hl, hm, by rw [← e2]; exact h3⟩
      · exact tab_cons.2 ⟨hl, hm, tab_cons.2 ⟨by omega, h2, h3⟩⟩

theorem ins_of {m : Mk} : ∀ {l : List Mk} {last : Int} (c : Int), tabB last l = true → ofM (insM l m) c = if m.cl = c then some m else ofM l c
  | [], last, c, _ => by simp [insM, ofM]
  | x :: xs, last, c, h => by
    obtain ⟨h1, h2, h3⟩ := tab_cons.1 h
    simp only [insM]
    split
    · rename_i e
      simp only [ofM, ins_of c h3]
      by_cases e1 : x.cl = c
      · rw [if_pos e1, if_pos e1, if_neg (by omega)]
      · rw [if_neg e1, if_neg e1]
    · split
      · rename_i e1 e2
        simp only [ofM]
        by_cases e3 : m.cl = c
        · rw [if_pos e3, if_pos e3]
        · rw [if_neg e3, if_neg e3, if_neg (by omega)]
      · rename_i e1 e2
        simp only [ofM]

theorem ins_len (m : Mk) : ∀ l : List Mk, (insM l m).length ≤ l.length + 1
  | [] => by simp [insM]
  | x :: xs => by
    have := ins_len m xs
    simp only [insM]; split
    · simp; omega
    · split <;> simp

theorem tab_len : ∀ {l : List Mk} {last : Int}, 0 ≤ last → tabB last l = true → l = [] ∨ (l.length : Int) + last ≤ 8
  | [], _, _, _ => .inl rfl
  | x :: xs, last, hl, h => by
    obtain ⟨h1, h2, h3⟩ := tab_cons.1 h
    have h8 : x.cl ≤ 8 := by simp [mkB] at h2; omega
    rcases tab_len (by omega : 0 ≤ x.cl) h3 with e | e
    · subst e; simp; omega
    · simp; omega

theorem tab8 {l : List Mk} (h : tabB 0 l = true) : l.length ≤ 8 := by
  rcases tab_len (Int.le_refl 0) h with e | e
  · subst e; simp
  · omega

theorem mkP_le (c : Int) : ∀ l : List Mk, mkP l c ≤ l.length
  | [] => Nat.le_refl _
  | x :: xs => by have := mkP_le c xs; simp only [mkP, List.length_cons]; split <;> omega

theorem mkP_lt {c : Int} : ∀ {l : List Mk} {last : Int}, tabB last l = true → ∀ k (hk : k < l.length), k < mkP l c → l[k].cl < c
  | [], _, _, k, hk, _ => by simp at hk
  | x :: xs, last, h, k, hk, hp => by
    obtain ⟨h1, h2, h3⟩ := tab_cons.1 h
    simp only [mkP] at hp
    split at hp
    · omega
    · cases k with
      | zero => simp; omega
      | succ k => simpa using mkP_lt h3 k (by simpa using hk) (by omega)

theorem mkP_ge {c : Int} : ∀ {l : List Mk} {last : Int}, tabB last l = true → ∀ k (hk : k < l.length), mkP l c ≤ k → c ≤ l[k].cl
  | [], _, _, k, hk, _ => by simp at hk
  | x :: xs, last, h, k, hk, hp => by
    obtain ⟨h1, h2, h3⟩ := tab_cons.1 h
    simp only [mkP] at hp
    split at hp
    · cases k with
      | zero => simpa
      | succ k =>
        have hk2 : k < xs.length := by simpa using hk
        have := (tab_mem h3 xs[k] (List.getElem_mem hk2)).1
        simp; omega
    · cases k with
      | zero => omega
      | succ k => simpa using mkP_ge h3 k (by simpa using hk) (by omega)

theorem mkP_of {c : Int} : ∀ {l : List Mk} {last : Int}, tabB last l = true → ofM l c = match l[mkP l c]? with | some x => if x.cl = c then some x else none | none => none
  | [], _, _ => by simp [ofM]
  | x :: xs, last, h => by
    obtain ⟨h1, h2, h3⟩ := tab_cons.1 h
    by_cases e : c ≤ x.cl
    · simp only [mkP, if_pos e, ofM, List.getElem?_cons_zero]
      by_cases e2 : x.cl = c
      · simp [e2]
      · simp only [if_neg e2]; exact ofM_lt h3 (by omega)
    · simp only [mkP, if_neg e, ofM, List.getElem?_cons_succ, if_neg (show ¬ x.cl = c by omega)]
      exact mkP_of h3

theorem ins_set {m : Mk} : ∀ {l : List Mk} {last : Int}, tabB last l = true → (ofM l m.cl).isSome = true → insM l m = l.set (mkP l m.cl) m
  | [], _, _, h => by simp [ofM] at h
  | x :: xs, last, h, hs => by
    obtain ⟨h1, h2, h3⟩ := tab_cons.1 h
    by_cases e : m.cl ≤ x.cl
    · by_cases e2 : x.cl = m.cl
      · simp [insM, mkP, e, e2]
      · rw [ofM, if_neg e2, ofM_lt h3 (by omega)] at hs; simp at hs
    · rw [ofM, if_neg (by omega)] at hs
      simp only [insM, mkP, if_neg e, if_pos (show x.cl < m.cl by omega), List.set_cons_succ, ins_set h3 hs]

theorem ins_put {m : Mk} : ∀ {l : List Mk} {last : Int}, tabB last l = true → ofM l m.cl = none → insM l m = l.take (mkP l m.cl) ++ m :: l.drop (mkP l m.cl)
  | [], _, _, h => by simp [insM]
  | x :: xs, last, h, hs => by
    obtain ⟨h1, h2, h3⟩ := tab_cons.1 h
    by_cases e2 : x.cl = m.cl
    · simp [ofM, e2] at hs
    rw [ofM, if_neg e2] at hs
    by_cases e : m.cl ≤ x.cl
    · simp [insM, mkP, e, e2, show ¬ x.cl < m.cl by omega]
    · simp only [insM, mkP, if_neg e, if_pos (show x.cl < m.cl by omega), List.take_succ_cons, List.drop_succ_cons, List.cons_append, ins_put h3 hs]

/-- the marks of the clients from c on, n of them, by f -/
def listM (f : Int → Option Mk) : Nat → Int → List Mk
  | 0, _ => []
  | n + 1, c => (f c).toList ++ listM f n (c + 1)

theorem listM_congr {f g : Int → Option Mk} : ∀ (n : Nat) (c : Int), (∀ k, c ≤ k → f k = g k) → listM f n c = listM g n c
  | 0, _, _ => rfl
  | n + 1, c, h => by simp only [listM, h c (Int.le_refl _), listM_congr n (c + 1) fun k hk => h k (by omega)]

theorem listM_succ (f : Int → Option Mk) : ∀ (n : Nat) (c : Int), listM f (n + 1) c = listM f n c ++ (f (c + n)).toList
  | 0, c => by simp [listM]
  | n + 1, c => by
    have ih := listM_succ f n (c + 1)
    have e : c + 1 + (n : Int) = c + ((n + 1 : Nat) : Int) := by omega
    rw [e] at ih
    rw [listM, ih, listM, List.append_assoc]

theorem listM_len (f : Int → Option Mk) : ∀ (n : Nat) (c : Int), (listM f n c).length ≤ n
  | 0, _ => Nat.le_refl _
  | n + 1, c => by
    have ih := listM_len f n (c + 1)
    simp only [listM, List.length_append]
    cases f c <;> simp <;> omega

/-- a table is what its clients' marks tell -/
theorem list_of : ∀ (n : Nat) {c : Int} {l : List Mk}, (n : Int) + c = 9 → tabB (c - 1) l = true → listM (ofM l) n c = l
  | 0, c, l, h9, h => by
    rcases l with _ | ⟨x, xs⟩
    · rfl
    · obtain ⟨h1, h2, h3⟩ := tab_cons.1 h
      have h8 : x.cl ≤ 8 := by simp [mkB] at h2; omega
      omega
  | n + 1, c, [], h9, h => by
    have ih := list_of n (c := c + 1) (l := []) (by omega) rfl
    simp only [listM, ofM, Option.toList, List.nil_append]
    rw [show (ofM [] : Int → Option Mk) = fun _ => none from rfl] at ih
    exact ih
  | n + 1, c, x :: xs, h9, h => by
    obtain ⟨h1, h2, h3⟩ := tab_cons.1 h
    by_cases e : x.cl = c
    · have ih := list_of n (c := c + 1) (l := xs) (by omega) (by rw [show c + 1 - 1 = x.cl by omega]; exact h3)
      have hc : listM (ofM (x :: xs)) n (c + 1) = listM (ofM xs) n (c + 1) := listM_congr n _ fun k hk => by simp only [ofM]; rw [if_neg (by omega)]
      have h0 : ofM (x :: xs) c = some x := by simp [ofM, e]
      simp only [listM, h0, hc, ih, Option.toList, List.cons_append, List.nil_append]
    · have h0 : ofM (x :: xs) c = none := by
        simp only [ofM, if_neg e]; exact ofM_lt h3 (by omega)
      have ih := list_of n (c := c + 1) (l := x :: xs) (by omega) (tab_cons.2 ⟨by omega, h2, h3⟩)
      simp only [listM, h0, Option.toList, List.nil_append]
      exact ih

def withF (l : List Mk) (m : Mk) (c : Int) : Option Mk := if m.cl = c then some m else ofM l c

theorem with_list {l : List Mk} {m : Mk} (h : tabB 0 l = true) (hm : mkB m = true) (hc : 0 < m.cl) : insM l m = listM (withF l m) 8 1 := by
  rw [← list_of 8 (c := 1) (l := insM l m) (by omega) (ins_tab hm hc h)]
  exact listM_congr 8 1 fun k _ => ins_of k h

/-- the mark that a Join keeps -/
def joinO : Option Mk → Option Mk → Option Mk
  | x, none => x
  | none, some y => some y
  | some x, some y => if x.sq < y.sq ∨ x.sq = y.sq ∧ x.op = true ∧ y.op = false then some y else some x

def stepM (l : List Mk) (x : Mk) : List Mk := match ofM l x.cl with | none => insM l x | some o => if o.sq < x.sq ∨ o.sq = x.sq ∧ o.op = true ∧ x.op = false then insM l x else l

def foldM (a b : List Mk) : List Mk := b.foldl stepM a

theorem step_tab {l : List Mk} {x : Mk} (h : tabB 0 l = true) (hx : mkB x = true) (hc : 0 < x.cl) : tabB 0 (stepM l x) = true := by
  unfold stepM
  split
  · exact ins_tab hx hc h
  · split
    · exact ins_tab hx hc h
    · exact h

theorem step_of {l : List Mk} {x : Mk} (h : tabB 0 l = true) (c : Int) : ofM (stepM l x) c = if x.cl = c then joinO (ofM l c) (some x) else ofM l c := by
  unfold stepM
  split
  · rename_i e
    rw [ins_of c h]
    split
    · rename_i e2; rw [← e2, e]; rfl
    · rfl
  · rename_i o e
    split
    · rename_i e3
      rw [ins_of c h]
      split
      · rename_i e2; rw [← e2, e, joinO, if_pos e3]
      · rfl
    · rename_i e3
      split
      · rename_i e2; rw [← e2, e, joinO, if_neg e3]
      · rfl

theorem fold_tab : ∀ {b a : List Mk} {last : Int}, 0 ≤ last → tabB 0 a = true → tabB last b = true → tabB 0 (foldM a b) = true
  | [], _, _, _, ha, _ => ha
  | x :: xs, a, last, hl, ha, h => by
    obtain ⟨h1, h2, h3⟩ := tab_cons.1 h
    exact fold_tab (b := xs) (a := stepM a x) (by omega) (step_tab ha h2 (by omega)) h3

theorem fold_of : ∀ {b a : List Mk} {last : Int} (c : Int), 0 ≤ last → tabB 0 a = true → tabB last b = true → ofM (foldM a b) c = joinO (ofM a c) (ofM b c)
  | [], a, _, c, _, _, _ => by cases h : ofM a c <;> simp [foldM, joinO, ofM, h]
  | x :: xs, a, last, c, hl, ha, h => by
    obtain ⟨h1, h2, h3⟩ := tab_cons.1 h
    have ih := fold_of (b := xs) (a := stepM a x) c (by omega : 0 ≤ x.cl) (step_tab ha h2 (by omega)) h3
    show ofM (foldM (stepM a x) xs) c = _
    rw [ih, step_of ha]
    by_cases e : x.cl = c
    · rw [if_pos e, ofM_lt h3 (by omega)]
      simp only [ofM, if_pos e]
      cases joinO (ofM a c) (some x) <;> rfl
    · simp only [ofM, if_neg e]

theorem fold_list {a b : List Mk} (ha : tabB 0 a = true) (hb : tabB 0 b = true) : foldM a b = listM (fun c => joinO (ofM a c) (ofM b c)) 8 1 := by
  rw [← list_of 8 (c := 1) (l := foldM a b) (by omega) (fold_tab (Int.le_refl 0) ha hb)]
  exact listM_congr 8 1 fun k _ => fold_of k (Int.le_refl 0) ha hb

theorem fold_ok {a b : List Mk} (ha : tabB 0 a = true) (hb : tabB 0 b = true) : tabB 0 (foldM a b) = true := fold_tab (Int.le_refl 0) ha hb

theorem fold_at {a b : List Mk} (ha : tabB 0 a = true) (hb : tabB 0 b = true) (c : Int) : ofM (foldM a b) c = joinO (ofM a c) (ofM b c) := fold_of c (Int.le_refl 0) ha hb

theorem joinO_self (x : Option Mk) : joinO x x = x := by cases x <;> simp [joinO]

theorem joinO_none (x : Option Mk) : joinO none x = x := by cases x <;> rfl

theorem joinO_assoc (x y z : Option Mk) : joinO (joinO x y) z = joinO x (joinO y z) := by
  cases z with
  | none => cases x <;> cases y <;> simp [joinO]
  | some z =>
    cases y with
    | none => cases x <;> simp [joinO]
    | some y =>
      cases x with
      | none => rw [joinO_none, joinO_none]
      | some x =>
        simp only [joinO]
        by_cases h1 : x.sq < y.sq ∨ x.sq = y.sq ∧ x.op = true ∧ y.op = false
        · by_cases h2 : y.sq < z.sq ∨ y.sq = z.sq ∧ y.op = true ∧ z.op = false
          · have h3 : x.sq < z.sq ∨ x.sq = z.sq ∧ x.op = true ∧ z.op = false := by
              rcases h1 with h1 | ⟨a1, a2, a3⟩ <;> rcases h2 with h2 | ⟨b1, b2, b3⟩
              · exact .inl (by omega)
              · exact .inl (by omega)
              · exact .inl (by omega)
              · simp [a3] at b2
            simp [joinO, if_pos h1, if_pos h2, if_pos h3]
          · simp [joinO, if_pos h1, if_neg h2]
        · by_cases h2 : y.sq < z.sq ∨ y.sq = z.sq ∧ y.op = true ∧ z.op = false
          · simp [joinO, if_neg h1, if_pos h2]
          · have h3 : ¬ (x.sq < z.sq ∨ x.sq = z.sq ∧ x.op = true ∧ z.op = false) := by
              rintro (h3 | ⟨c1, c2, c3⟩)
              · have : ¬ x.sq < y.sq := fun h => h1 (.inl h)
                have : ¬ y.sq < z.sq := fun h => h2 (.inl h)
                omega
              · have n1 : ¬ x.sq < y.sq := fun h => h1 (.inl h)
                have n2 : ¬ y.sq < z.sq := fun h => h2 (.inl h)
                have e1 : x.sq = y.sq := by omega
                have e2 : y.sq = z.sq := by omega
                cases hy : y.op
                · exact h1 (.inr ⟨e1, c2, hy⟩)
                · exact h2 (.inr ⟨e2, hy, c3⟩)
            simp [joinO, if_neg h1, if_neg h2, if_neg h3]

theorem joinO_comm {x y : Mk} (h : ¬ (x.sq = y.sq ∧ x.op = false ∧ y.op = false)) (hx : x.op = true → ans0B x = true) (hy : y.op = true → ans0B y = true) (hc : x.cl = y.cl) : joinO (some x) (some y) = joinO (some y) (some x) := by
  simp only [joinO]
  by_cases e : x.sq = y.sq
  · cases h1 : x.op <;> cases h2 : y.op
    · exact absurd ⟨e, h1, h2⟩ h
    · simp [e]
    · simp [e]
    · have a := hx h1
      have b := hy h2
      have : x = y := by
        simp [ans0B] at a b
        rw [mk_ext]; simp [e, hc, h1, h2, a, b]
      subst this; rfl
  · by_cases h1 : x.sq < y.sq
    · simp [h1, show ¬ y.sq < x.sq by omega, e, show ¬ y.sq = x.sq by omega]
    · simp [h1, show y.sq < x.sq by omega, e]

end Go.Proofs.Ytpfiodchlbofmaa
