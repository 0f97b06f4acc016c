/-
  Contracts of functions of this seat: what each hands back, and what it leaves of memory (deal5). Nothing here is trusted: Lean checks it.
-/
import Derived.Test.YtoilbbfidnhekaaDeal4
set_option linter.unusedVariables false
set_option linter.unusedSimpArgs false
namespace Go.Proofs.Ytoilbbfidnhekaa
open Go.Vc Go.RowKit
set_option maxRecDepth 100000

abbrev keyD (d : Dl) : Int × Int := (d.cl, d.sq)

theorem isD_iff {c s : Int} {d : Dl} : isD c s d = true ↔ keyD d = (c, s) := by simp [isD]

def resD : Option Dl → Dl × Bool
  | some d => (d, true)
  | none => (d0, false)

theorem place_find (l : List Dl) (c s : Int) : (placeD l c s = -1 ∧ l.find? (isD c s) = none) ∨ ∃ k, ∃ hk : k < l.length, placeD l c s = k ∧ l.find? (isD c s) = some l[k] ∧ keyD l[k] = (c, s) := by
  rcases place_cases l c s with ⟨e, h⟩ | ⟨k, hk, e, h1, h2⟩
  · exact .inl ⟨e, by rw [List.find?_eq_none]; intro x hx; simp [h x hx]⟩
  · refine .inr ⟨k, hk, e, ?_, isD_iff.1 h1⟩
    rw [List.find?_eq_some_iff_getElem]
    refine ⟨h1, k, hk, rfl, fun j hj => ?_⟩
    simp [h2 l[j] (by rw [List.mem_take_iff_getElem]; exact ⟨j, by omega, rfl⟩)]

theorem findD_eq (l : List Dl) (c s : Int) : findD l c s = if booksB l = true then resD (l.find? (isD c s)) else (d0, false) := by
  unfold findD
  cases booksB l
  · simp
  rcases place_find l c s with ⟨e, h⟩ | ⟨k, hk, e, h, -⟩
  · simp [e, h, resD]
  · simp [e, h, resD, List.getElem?_eq_getElem hk]

theorem books_iff (l : List Dl) : booksB l = true ↔ l.length ≤ 4 ∧ (∀ d ∈ l, mayB d = true) ∧ (l.map keyD).Nodup := by
  simp only [booksB, Bool.and_eq_true, decide_eq_true_eq, okTo, List.all_eq_true, List.mem_range]
  constructor
  · rintro ⟨h4, h⟩
    have h' : ∀ j (hj : j < l.length), mayB l[j] = true ∧ placeD l l[j].cl l[j].sq = j := fun j hj => by
      have := h j hj
      simpa [okAt, List.getElem?_eq_getElem hj] using this
    refine ⟨h4, fun d hd => ?_, ?_⟩
    · obtain ⟨j, hj, rfl⟩ := List.mem_iff_getElem.1 hd
      exact (h' j hj).1
    · rw [List.nodup_iff_pairwise_ne, List.pairwise_iff_getElem]
      intro i j hi hj hij
      simp only [List.length_map] at hi hj
      simp only [List.getElem_map]
      intro e
      have hp := (h' j hj).2
      rcases place_cases l l[j].cl l[j].sq with ⟨e2, -⟩ | ⟨k, hk, e2, -, h2⟩
      · omega
      · have hkj : k = j := by omega
        subst hkj
        have := h2 l[i] (by rw [List.mem_take_iff_getElem]; exact ⟨i, by omega, rfl⟩)
        rw [isD_iff.2 e] at this
        simp at this
  · rintro ⟨h4, hm, hn⟩
    refine ⟨h4, fun j hj => ?_⟩
    simp only [okAt, List.getElem?_eq_getElem hj, hm _ (List.getElem_mem hj), Bool.true_and, decide_eq_true_eq]
    rcases place_cases l l[j].cl l[j].sq with ⟨-, h2⟩ | ⟨k, hk, e2, h1, -⟩
    · have := h2 l[j] (List.getElem_mem hj)
      rw [isD_iff.2 rfl] at this
      simp at this
    · rw [e2]
      have h1 := isD_iff.1 h1
      have := (List.getElem_inj (xs := l.map keyD) (h₀ := by simpa using hk) (h₁ := by simpa using hj) hn).1 (by simpa using h1)
      omega

theorem find_set {p : Dl → Bool} {d : Dl} : ∀ {l : List Dl} {k : Nat} (hk : k < l.length), p l[k] = false → p d = false → (l.set k d).find? p = l.find? p
  | x :: xs, 0, _, h1, h2 => by simp at h1; simp [h1, h2]
  | x :: xs, k + 1, hk, h1, h2 => by
    have ih := find_set (p := p) (d := d) (l := xs) (k := k) (by simpa using hk) (by simpa using h1) h2
    simp only [List.set_cons_succ, List.find?_cons, ih]

theorem find_erase {p : Dl → Bool} : ∀ {l : List Dl} {k : Nat} (hk : k < l.length), p l[k] = false → (l.take k ++ l.drop (k + 1)).find? p = l.find? p
  | x :: xs, 0, _, h1 => by simp at h1; simp [h1]
  | x :: xs, k + 1, hk, h1 => by
    have ih := find_erase (p := p) (l := xs) (k := k) (by simpa using hk) (by simpa using h1)
    simp only [List.take_succ_cons, List.drop_succ_cons, List.cons_append, List.find?_cons, ih]

theorem find_key {l : List Dl} (hn : (l.map keyD).Nodup) {k : Nat} (hk : k < l.length) : l.find? (isD l[k].cl l[k].sq) = some l[k] := by
  rcases place_find l l[k].cl l[k].sq with ⟨-, h⟩ | ⟨j, hj, -, h, e⟩
  · rw [List.find?_eq_none] at h
    exact absurd (isD_iff.2 rfl) (h _ (List.getElem_mem hk))
  · have := (List.getElem_inj (xs := l.map keyD) (h₀ := by simpa using hj) (h₁ := by simpa using hk) hn).1 (by simpa using e)
    subst this
    exact h

theorem books_set {l : List Dl} (h : booksB l = true) {k : Nat} (hk : k < l.length) {d : Dl} (hd : mayB d = true) (hkey : keyD d = keyD l[k]) : booksB (l.set k d) = true := by
  rw [books_iff] at h ⊢
  obtain ⟨h1, h2, h3⟩ := h
  refine ⟨by simpa using h1, fun x hx => ?_, ?_⟩
  · rcases List.mem_or_eq_of_mem_set hx with hx | rfl
    · exact h2 x hx
    · exact hd
  · rw [List.map_set, hkey]
    have : (l.map keyD).set k (keyD l[k]) = l.map keyD := by
      have hk' : k < (l.map keyD).length := by simpa using hk
      have := List.set_getElem_self hk'
      simpa using this
    rw [this]; exact h3

theorem books_erase {l : List Dl} (h : booksB l = true) (k : Nat) : booksB (l.take k ++ l.drop (k + 1)) = true := by
  rw [← List.eraseIdx_eq_take_drop_succ]
  rw [books_iff] at h ⊢
  obtain ⟨h1, h2, h3⟩ := h
  have hs := List.eraseIdx_sublist (l := l) k
  exact ⟨Nat.le_trans hs.length_le h1, fun x hx => h2 x (hs.subset hx), (hs.map keyD).nodup h3⟩

theorem may_given {d : Dl} (h : mayB d = true) : mayB (givenD d) = true := by
  unfold givenD
  split
  · rename_i h0
    simp only [mayB, Bool.and_eq_true, Bool.or_eq_true, decide_eq_true_eq, h0] at h ⊢
    refine ⟨h.1, .inr ⟨?_, trivial⟩⟩
    rcases h.2 with h | h
    · exact h.symm
    · exact h.1
  · exact h

theorem said_cases (d : Dl) (mine is : Bool) : saidD d mine is = d ∨ d.ft = 0 ∧ (mine = true ∧ d.mi = 0 ∧ saidD d mine is = { d with mi := wordD is, ft := fateV (wordD is) d.th } ∨ mine = false ∧ d.th = 0 ∧ saidD d mine is = { d with th := wordD is, ft := fateV d.mi (wordD is) }) := by
  cases mine
  · by_cases h1 : d.ft = 0
    · by_cases h2 : d.th = 0
      · exact .inr ⟨h1, .inr ⟨rfl, h2, by simp [saidD, h1, h2]⟩⟩
      · exact .inl (by simp [saidD, h2])
    · exact .inl (by simp [saidD, h1])
  · by_cases h1 : d.ft = 0
    · by_cases h2 : d.mi = 0
      · exact .inr ⟨h1, .inl ⟨rfl, h2, by simp [saidD, h1, h2]⟩⟩
      · exact .inl (by simp [saidD, h2])
    · exact .inl (by simp [saidD, h1])

theorem may_said {d : Dl} (h : mayB d = true) (mine is : Bool) : mayB (saidD d mine is) = true := by
  have hw : wordD is = 1 ∨ wordD is = 2 := by cases is <;> simp [wordD]
  rcases said_cases d mine is with e | ⟨-, ⟨-, -, e⟩ | ⟨-, -, e⟩⟩
  · rw [e]; exact h
  all_goals
    rw [e]
    simp only [mayB, Bool.and_eq_true, Bool.or_eq_true, decide_eq_true_eq] at h ⊢
    obtain ⟨⟨⟨⟨⟨h1, h2⟩, h3⟩, h4⟩, h5⟩, -⟩ := h
  · exact ⟨⟨⟨⟨⟨h1, by omega⟩, by omega⟩, h4⟩, h5⟩, .inl trivial⟩
  · exact ⟨⟨⟨⟨⟨h1, h2⟩, h3⟩, by omega⟩, by omega⟩, .inl trivial⟩

theorem key_said (d : Dl) (mine is : Bool) : keyD (saidD d mine is) = keyD d := by
  rcases said_cases d mine is with e | ⟨-, ⟨-, -, e⟩ | ⟨-, -, e⟩⟩ <;> rw [e]

theorem key_given (d : Dl) : keyD (givenD d) = keyD d := by
  unfold givenD
  split <;> rfl

/-- what a call that finds the deal makes of what is told of another -/
theorem others_set {l : List Dl} {c s oc os : Int} (h : booksB l = true) {k : Nat} (hk : k < l.length) {d : Dl} (hd : mayB d = true) (hkey : keyD d = keyD l[k]) (hc : keyD l[k] = (c, s)) (hne : ¬ (c = oc ∧ s = os)) : findD (l.set k d) oc os = findD l oc os := by
  have ne : ∀ x : Dl, keyD x = (c, s) → isD oc os x = false := fun x hx => by
    cases hh : isD oc os x with
    | false => rfl
    | true =>
      have := isD_iff.1 hh
      rw [hx] at this
      simp at this
      exact absurd this hne
  rw [findD_eq, findD_eq, if_pos h, if_pos (books_set h hk hd hkey), find_set hk (ne _ hc) (ne _ (hkey.trans hc))]

theorem others_erase {l : List Dl} {c s oc os : Int} (h : booksB l = true) {k : Nat} (hk : k < l.length) (hc : keyD l[k] = (c, s)) (hne : ¬ (c = oc ∧ s = os)) : findD (l.take k ++ l.drop (k + 1)) oc os = findD l oc os := by
  have ne : isD oc os l[k] = false := by
    cases hh : isD oc os l[k] with
    | false => rfl
    | true =>
      have := isD_iff.1 hh
      rw [hc] at this
      simp at this
      exact absurd this hne
  rw [findD_eq, findD_eq, if_pos h, if_pos (books_erase h k), find_erase hk ne]

theorem say_len (l : List Dl) (c s : Int) (mine is : Bool) : (sayD l c s mine is).1.length ≤ l.length := by
  unfold sayD; split <;> simp

theorem give_len (l : List Dl) (c s : Int) : (giveD l c s).1.length ≤ l.length := by
  unfold giveD; split <;> simp

theorem forget_len (l : List Dl) (c s : Int) : (forgetD l c s).1.length ≤ l.length := by
  unfold forgetD; split
  · simp
  · split
    · simp
    · simp; omega

theorem others_law (l : List Dl) (c s oc os : Int) (mine is : Bool) (hne : ¬ (c = oc ∧ s = os)) :
    (sayD l c s mine is).2.2 = foundE l c s ∧ (giveD l c s).2.2 = foundE l c s ∧
    (foundE l c s = 0 → findD (sayD l c s mine is).1 oc os = findD l oc os ∧ findD (giveD l c s).1 oc os = findD l oc os) ∧
    ((forgetD l c s).2 = 0 → findD (forgetD l c s).1 oc os = findD l oc os) ∧
    ((forgetD l c s).2 = 0 ∨ (forgetD l c s).2 = foundE l c s ∨ (forgetD l c s).2 = 60) := by
  by_cases he : foundE l c s = 0
  rotate_left
  · simp [sayD, giveD, forgetD, he]
  obtain ⟨hb, h4, k, hk, e1, e2, hd, e3⟩ := found_ok he
  have hm : mayB l[k] = true := ((books_iff l).1 hb).2.1 _ (List.getElem_mem hk)
  have hc := isD_iff.1 hd
  refine ⟨by simp [sayD, he], by simp [giveD, he], fun _ => ⟨?_, ?_⟩, ?_, ?_⟩
  · simp only [sayD, he, ne_eq, not_true_eq_false, if_false, e1, e3, Int.toNat_natCast]
    exact others_set hb hk (may_said hm _ _) (key_said _ _ _) hc hne
  · simp only [giveD, he, ne_eq, not_true_eq_false, if_false, e1, e3, Int.toNat_natCast]
    exact others_set hb hk (may_given hm) (key_given _) hc hne
  · simp only [forgetD, he, ne_eq, not_true_eq_false, if_false, e1, e3, Int.toNat_natCast]
    split
    · simp
    · intro _
      exact others_erase hb hk hc hne
  · simp only [forgetD, he, ne_eq, not_true_eq_false, if_false]
    split <;> simp

end Go.Proofs.Ytoilbbfidnhekaa
