/-
  Contracts of functions of this seat: what each hands back, and what it leaves of memory (rng13). Nothing here is trusted: Lean checks it.
-/
import Derived.Test.YtpnpebefcmgjoaaRng12
set_option linter.unusedVariables false
set_option linter.unusedSimpArgs false
namespace Go.Proofs.Ytpnpebefcmgjoaa
open Go.Vc Go.RowKit
set_option maxRecDepth 100000

def okR (a b : Pl) : Prop := a.gr ≠ b.gr ∧ ltS a.fr b.fr = true

theorem chk_iff : ∀ (l : List Pl) (seen : List Int) (last : Option ByteArray), chk seen last l = true ↔ (∀ x ∈ l, plB x = true ∧ x.gr ∉ seen ∧ ∀ s, last = some s → ltS s x.fr = true) ∧ l.Pairwise okR
  | [], _, _ => by simp [chk]
  | x :: xs, seen, last => by
    have ih := chk_iff xs (seen ++ [x.gr]) (some x.fr)
    constructor
    · intro h
      obtain ⟨h1, h2, h3, h4⟩ := chk_cons h
      obtain ⟨i1, i2⟩ := ih.1 h4
      have h2' : x.gr ∉ seen := by simpa using h2
      have h3' : ∀ s, last = some s → ltS s x.fr = true := fun s e => by subst e; exact h3
      refine ⟨fun y hy => ?_, List.pairwise_cons.2 ⟨fun y hy => ?_, i2⟩⟩
      · rcases List.mem_cons.1 hy with rfl | hy
        · exact ⟨h1, h2', h3'⟩
        · obtain ⟨j1, j2, j3⟩ := i1 y hy
          exact ⟨j1, fun e => j2 (by simp [e]), fun s e => ltS_trans (h3' s e) (j3 _ rfl)⟩
      · obtain ⟨j1, j2, j3⟩ := i1 y hy
        exact ⟨fun e => j2 (by simp [e]), j3 _ rfl⟩
    · rintro ⟨h1, h2⟩
      obtain ⟨p1, p2⟩ := List.pairwise_cons.1 h2
      obtain ⟨j1, j2, j3⟩ := h1 x (by simp)
      have h4 : chk (seen ++ [x.gr]) (some x.fr) xs = true := ih.2 ⟨fun y hy => by
        obtain ⟨k1, k2, k3⟩ := h1 y (by simp [hy])
        obtain ⟨q1, q2⟩ := p1 y hy
        exact ⟨k1, fun e => by
          rcases List.mem_append.1 e with e | e
          · exact k2 e
          · simp at e; exact q1 e.symm, fun s e => by cases e; exact q2⟩, p2⟩
      have h5 : aftB last x = true := by
        cases last with
        | none => rfl
        | some s => exact j3 s rfl
      have h6 : seen.contains x.gr = false := by simpa using j2
      simp only [chk, j1, h6, h5, h4]
      rfl

theorem right_iff {l : List Pl} : rightB l = true ↔ (0 < l.length ∧ emptyB (hdF l) = true) ∧ (∀ x ∈ l, plB x = true) ∧ l.Pairwise okR := by
  simp only [rightB, Bool.and_eq_true, chk_iff]
  constructor
  · rintro ⟨h1, h2, h3, h4⟩
    exact ⟨⟨by cases l with | nil => simp at h1 | cons => simp, h2⟩, fun x hx => (h3 x hx).1, h4⟩
  · rintro ⟨⟨h1, h2⟩, h3, h4⟩
    exact ⟨by cases l with | nil => simp at h1 | cons => rfl, h2, fun x hx => ⟨h3 x hx, by simp, fun s e => by cases e⟩, h4⟩

theorem find_uniq {key : ByteArray} : ∀ {xs : List Pl} (i q k : Nat) {y : Pl}, xs[k]? = some y → ltS key y.fr = false → (∀ j z, k < j → xs[j]? = some z → ltS key z.fr = true) → findL key xs i q = i + k
  | [], _, _, k, y, h, _, _ => by simp at h
  | x :: xs, i, q, 0, y, h, hy, hj => by
    cases h
    simp only [findL, hy]
    have := (cnt_gt (key := key) (xs := xs) (i + 1) i (0, 0) fun z hz => by
      obtain ⟨j, hj2, rfl⟩ := List.getElem_of_mem hz
      exact hj (j + 1) _ (by omega) (by simp)).2
    simpa using this
  | x :: xs, i, q, k + 1, y, h, hy, hj => by
    simp only [findL]
    rw [find_uniq (xs := xs) (i + 1) _ k (by simpa using h) hy fun j z hj2 hz => hj (j + 1) z (by omega) (by simpa using hz)]
    omega

theorem last_le {key : ByteArray} : ∀ {xs : List Pl} {k : Nat} {y : Pl}, xs[k]? = some y → ltS key y.fr = false → ∃ (k : Nat) (z : Pl), xs[k]? = some z ∧ ltS key z.fr = false ∧ ∀ (j : Nat) (u : Pl), k < j → xs[j]? = some u → ltS key u.fr = true
  | [], k, y, h, _ => by simp at h
  | x :: xs, k, y, h, hy => by
    by_cases hex : ∃ (j : Nat) (u : Pl), xs[j]? = some u ∧ ltS key u.fr = false
    · obtain ⟨j, u, h1, h2⟩ := hex
      obtain ⟨k', z, a1, a2, a3⟩ := last_le h1 h2
      refine ⟨k' + 1, z, by simpa using a1, a2, fun j u hj hu => ?_⟩
      obtain ⟨j', rfl⟩ : ∃ j', j = j' + 1 := ⟨j - 1, by omega⟩
      exact a3 j' u (by omega) (by simpa using hu)
    · have hall : ∀ (j : Nat) (u : Pl), xs[j]? = some u → ltS key u.fr = true := fun j u hu => by
        cases hq : ltS key u.fr with
        | true => rfl
        | false => exact absurd ⟨j, u, hu, hq⟩ hex
      cases k with
      | zero =>
        cases h
        refine ⟨0, x, rfl, hy, fun j u hj hu => ?_⟩
        obtain ⟨j', rfl⟩ : ∃ j', j = j' + 1 := ⟨j - 1, by omega⟩
        exact hall j' u (by simpa using hu)
      | succ k => exact absurd ⟨k, y, by simpa using h, hy⟩ hex

theorem find_spec {l : List Pl} (key : ByteArray) (hR : rightB l = true) : ∃ y, l[findL key l 0 0]? = some y ∧ ltS key y.fr = false ∧ ∀ j z, findL key l 0 0 < j → l[j]? = some z → ltS key z.fr = true := by
  obtain ⟨⟨h1, h2⟩, -, -⟩ := right_iff.1 hR
  cases l with
  | nil => simp at h1
  | cons x xs =>
    obtain ⟨k, z, a1, a2, a3⟩ := last_le (xs := x :: xs) (k := 0) (y := x) rfl (empty_lt (a := key) h2)
    have e := find_uniq (xs := x :: xs) 0 0 k a1 a2 a3
    rw [Nat.zero_add] at e
    rw [e]
    exact ⟨z, a1, a2, a3⟩

theorem find_at {l : List Pl} {key : ByteArray} {k : Nat} {y : Pl} (h : l[k]? = some y) (hy : ltS key y.fr = false) (hj : ∀ j z, k < j → l[j]? = some z → ltS key z.fr = true) : findL key l 0 0 = k := by
  rw [find_uniq 0 0 k h hy hj]; omega

theorem ins_form {l : List Pl} {key : ByteArray} {g : Int} {f : Nat} {e : Int} (hf : f < l.length) : insS l key g f e = l.take f ++ { l[f] with ep := e } :: ⟨g, key, e⟩ :: l.drop (f + 1) := by
  rw [← rsF_ins l key g f e hf, rsF_eq, dif_pos ⟨Nat.zero_le _, by simpa using hf⟩]
  rfl

theorem del_form {l : List Pl} {f : Nat} {e : Int} (hf : f < l.length) : delS l f e = l.take f ++ { l[f] with ep := e } :: l.drop (f + 2) := by
  rw [← rmF_del l f e hf, (rmF_eq f e l 0).1 (Nat.zero_le _), dif_pos (by simpa using hf)]
  rfl

theorem ins_get {l : List Pl} {key : ByteArray} {g : Int} {f : Nat} {e : Int} (hf : f < l.length) (k : Nat) : (insS l key g f e)[k]? = if k < f then l[k]? else if k = f then some { l[f] with ep := e } else if k = f + 1 then some ⟨g, key, e⟩ else l[k - 1]? := by
  rw [ins_form hf]
  by_cases h1 : k < f
  · rw [if_pos h1, List.getElem?_append_left (by simp; omega), List.getElem?_take, if_pos h1]
  · rw [if_neg h1, List.getElem?_append_right (by simp; omega)]
    simp only [List.length_take, Nat.min_eq_left (Nat.le_of_lt hf)]
    by_cases h2 : k = f
    · subst h2; simp
    · rw [if_neg h2]
      by_cases h3 : k = f + 1
      · subst h3; simp
      · rw [if_neg h3]
        obtain ⟨d, hd⟩ : ∃ d, k = f + 2 + d := ⟨k - f - 2, by omega⟩
        subst hd
        rw [show f + 2 + d - f = d + 1 + 1 by omega]
        simp only [List.getElem?_cons_succ, List.getElem?_drop]
        congr 1; omega

theorem del_get {l : List Pl} {f : Nat} {e : Int} (hf : f < l.length) (k : Nat) : (delS l f e)[k]? = if k < f then l[k]? else if k = f then some { l[f] with ep := e } else l[k + 1]? := by
  rw [del_form hf]
  by_cases h1 : k < f
  · rw [if_pos h1, List.getElem?_append_left (by simp; omega), List.getElem?_take, if_pos h1]
  · rw [if_neg h1, List.getElem?_append_right (by simp; omega)]
    simp only [List.length_take, Nat.min_eq_left (Nat.le_of_lt hf)]
    by_cases h2 : k = f
    · subst h2; simp
    · rw [if_neg h2]
      obtain ⟨d, hd⟩ : ∃ d, k = f + 1 + d := ⟨k - f - 1, by omega⟩
      subst hd
      rw [show f + 1 + d - f = d + 1 by omega]
      simp only [List.getElem?_cons_succ, List.getElem?_drop]
      congr 1; omega

theorem pw_lt {l : List Pl} (h : l.Pairwise okR) {i j : Nat} {x y : Pl} (hij : i < j) (hx : l[i]? = some x) (hy : l[j]? = some y) : okR x y := by
  obtain ⟨h1, rfl⟩ := List.getElem?_eq_some_iff.1 hx
  obtain ⟨h2, rfl⟩ := List.getElem?_eq_some_iff.1 hy
  exact List.pairwise_iff_getElem.1 h i j h1 h2 hij

theorem pw_of {l : List Pl} (h : ∀ (i j : Nat) (x y : Pl), i < j → l[i]? = some x → l[j]? = some y → okR x y) : l.Pairwise okR :=
  List.pairwise_iff_getElem.2 fun i j hi hj hij => h i j _ _ hij (List.getElem?_eq_getElem hi) (List.getElem?_eq_getElem hj)

theorem hd_get {l : List Pl} : hdF l = match l[0]? with | some x => x.fr | none => .empty := by cases l <;> rfl

theorem ltS_le_trans {a b c : ByteArray} (h1 : ltS b a = false) (h2 : ltS b c = true) : ltS a c = true := by
  rcases ltS_tri a b with h | rfl | h
  · exact ltS_trans h h2
  · exact h2
  · rw [h] at h1; cases h1

theorem ltS_lt_le {a b c : ByteArray} (h1 : ltS a b = true) (h2 : ltS c b = false) : ltS a c = true := by
  rcases ltS_tri b c with h | rfl | h
  · exact ltS_trans h1 h
  · exact h1
  · rw [h] at h2; cases h2

/-- a split map is a map -/
theorem ins_right {l : List Pl} {key : ByteArray} {g : Int} {e : Int} (hR : rightB l = true) (hk : key.size ≤ 16) (hg : grpB g = true) (he : 1 ≤ e ∧ e ≤ 4611686018427387904)
    (hno : ∀ x ∈ l, x.gr ≠ g) (hne : ∀ x, l[findL key l 0 0]? = some x → x.fr ≠ key) : rightB (insS l key g (findL key l 0 0) e) = true := by
  obtain ⟨⟨h1, h2⟩, h3, h4⟩ := right_iff.1 hR
  obtain ⟨y, s1, s2, s3⟩ := find_spec key hR
  generalize findL key l 0 0 = f at *
  obtain ⟨hf, rfl⟩ := List.getElem?_eq_some_iff.1 s1
  have s4 : ltS l[f].fr key = true := by
    rcases ltS_tri l[f].fr key with h | h | h
    · exact h
    · exact absurd h (hne _ s1)
    · rw [h] at s2; cases s2
  have hz : plB ⟨g, key, e⟩ = true := by simp [plB, hg]; omega
  have hy : plB { l[f] with ep := e } = true := by
    have := h3 l[f] (by simp)
    simp only [plB, Bool.and_eq_true, decide_eq_true_eq] at this ⊢
    exact ⟨this.1, he.1, he.2, this.2.2.2⟩
  have hmem : ∀ {i : Nat} {x : Pl}, l[i]? = some x → x ∈ l := fun h => List.mem_of_getElem? h
  refine right_iff.2 ⟨⟨by rw [ins_len l key g f e hf]; omega, ?_⟩, fun x hx => ?_, pw_of fun i j x y hij hx hy => ?_⟩
  · rw [hd_get, ins_get hf]
    rw [hd_get] at h2
    by_cases h5 : 0 < f
    · rw [if_pos h5]; exact h2
    · obtain rfl : f = 0 := by omega
      rw [if_neg (by omega), if_pos rfl]
      rw [s1] at h2
      exact h2
  · obtain ⟨k, hk2, hkx⟩ := List.getElem_of_mem hx
    have hx' : (insS l key g f e)[k]? = some x := by rw [List.getElem?_eq_getElem hk2, hkx]
    rw [ins_get hf] at hx'
    split at hx'
    · exact h3 x (hmem hx')
    · split at hx'
      · cases hx'; exact hy
      · split at hx'
        · cases hx'; exact hz
        · exact h3 x (hmem hx')
  · rw [ins_get hf] at hx hy
    have old : ∀ {a b : Nat} {u v : Pl}, a < b → l[a]? = some u → l[b]? = some v → okR u v := fun h a b => pw_lt h4 h a b
    split at hx
    · split at hy
      · exact old hij hx hy
      · split at hy
        · cases hy; have t := old (by omega : i < f) hx s1; exact ⟨t.1, t.2⟩
        · split at hy
          · cases hy
            have := old (by omega : i < f) hx s1
            exact ⟨hno x (hmem hx), ltS_trans this.2 s4⟩
          · exact old (by omega) hx hy
    · split at hx
      · cases hx
        rw [if_neg (by omega), if_neg (by omega)] at hy
        split at hy
        · cases hy; exact ⟨hno l[f] (by simp), s4⟩
        · have t := old (by omega : f < j - 1) s1 hy; exact ⟨t.1, t.2⟩
      · split at hx
        · cases hx
          rw [if_neg (by omega), if_neg (by omega), if_neg (by omega)] at hy
          exact ⟨fun e => hno y (hmem hy) e.symm, s3 _ y (by omega) hy⟩
        · rw [if_neg (by omega), if_neg (by omega), if_neg (by omega)] at hy
          exact old (by omega) hx hy

/-- a merged map is a map -/
theorem del_right {l : List Pl} {f : Nat} {e : Int} (hR : rightB l = true) (he : 1 ≤ e ∧ e ≤ 4611686018427387904) (hf1 : f + 1 < l.length) : rightB (delS l f e) = true := by
  obtain ⟨⟨h1, h2⟩, h3, h4⟩ := right_iff.1 hR
  have hf : f < l.length := by omega
  have s1 : l[f]? = some l[f] := List.getElem?_eq_getElem hf
  have hy : plB { l[f] with ep := e } = true := by
    have := h3 l[f] (by simp)
    simp only [plB, Bool.and_eq_true, decide_eq_true_eq] at this ⊢
    exact ⟨this.1, he.1, he.2, this.2.2.2⟩
  have hmem : ∀ {i : Nat} {x : Pl}, l[i]? = some x → x ∈ l := fun h => List.mem_of_getElem? h
  refine right_iff.2 ⟨⟨by simp [delS]; omega, ?_⟩, fun x hx => ?_, pw_of fun i j x y hij hx hy => ?_⟩
  · rw [hd_get, del_get hf]
    rw [hd_get] at h2
    by_cases h5 : 0 < f
    · rw [if_pos h5]; exact h2
    · obtain rfl : f = 0 := by omega
      rw [if_neg (by omega), if_pos rfl]
      rw [s1] at h2
      exact h2
  · obtain ⟨k, hk2, hkx⟩ := List.getElem_of_mem hx
    have hx' : (delS l f e)[k]? = some x := by rw [List.getElem?_eq_getElem hk2, hkx]
    rw [del_get hf] at hx'
    split at hx'
    · exact h3 x (hmem hx')
    · split at hx'
      · cases hx'; exact hy
      · exact h3 x (hmem hx')
  · rw [del_get hf] at hx hy
    have old : ∀ {a b : Nat} {u v : Pl}, a < b → l[a]? = some u → l[b]? = some v → okR u v := fun h a b => pw_lt h4 h a b
    split at hx
    · split at hy
      · exact old hij hx hy
      · split at hy
        · cases hy; have t := old (by omega : i < f) hx s1; exact ⟨t.1, t.2⟩
        · exact old (by omega) hx hy
    · split at hx
      · cases hx
        rw [if_neg (by omega), if_neg (by omega)] at hy
        have t := old (by omega : f < j + 1) s1 hy; exact ⟨t.1, t.2⟩
      · rw [if_neg (by omega), if_neg (by omega)] at hy
        exact old (by omega) hx hy

end Go.Proofs.Ytpnpebefcmgjoaa
