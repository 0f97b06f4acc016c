/-
  Contracts of functions of this seat: what each hands back, and what it leaves of memory (srt0). Nothing here is trusted: Lean checks it.
-/
import Derived.Test.YtbhlhnkjmncloaaNum
import Derived.Test.YtbhlhnkjmncloaaVcList
import Derived.Test.YtbhlhnkjmncloaaVcGrow
set_option linter.unusedVariables false
set_option linter.unusedSimpArgs false
namespace Go.Proofs.Ytbhlhnkjmncloaa
open Go.Vc Go.RowKit
set_option maxRecDepth 100000

/-- one number stands ahead of another: by f, and where f tells nothing, by itself -/
def lexN (f : Int → Int) (x y : Int) : Prop := f x < f y ∨ (f x = f y ∧ x < y)

theorem lexN_trans {f : Int → Int} {x y z : Int} (h1 : lexN f x y) (h2 : lexN f y z) : lexN f x z := by
  unfold lexN at *; omega

theorem lexN_irr {f : Int → Int} {x : Int} : ¬ lexN f x x := by unfold lexN; omega

/-- in order from a up to b -/
def Srt (f : Int → Int) (a b : Nat) (g : Nat → Int) : Prop := ∀ i j, a ≤ i → i < j → j < b → lexN f (g i) (g j)

/-- where f tells nothing, the smaller number stands ahead -/
def Stb (f : Int → Int) (a b : Nat) (g : Nat → Int) : Prop := ∀ i j, a ≤ i → i < j → j < b → f (g i) = f (g j) → g i < g j

/-- from a up to b there is the same, in what order whatever; elsewhere all stays -/
structure Mem (a b : Nat) (g g' : Nat → Int) : Prop where
  out : ∀ j, ¬ (a ≤ j ∧ j < b) → g' j = g j
  into : ∀ i, a ≤ i → i < b → ∃ j, a ≤ j ∧ j < b ∧ g' i = g j
  back : ∀ j, a ≤ j → j < b → ∃ i, a ≤ i ∧ i < b ∧ g' i = g j

section
variable {f : Int → Int} {a b c d i j s m e : Nat} {g g' g'' : Nat → Int}

theorem Mem.refl : Mem a b g g := ⟨fun _ _ => rfl, fun i h1 h2 => ⟨i, h1, h2, rfl⟩, fun i h1 h2 => ⟨i, h1, h2, rfl⟩⟩

theorem Mem.trans (h : Mem a b g g') (h2 : Mem a b g' g'') : Mem a b g g'' := by
  refine ⟨fun j hj => by rw [h2.out j hj, h.out j hj], fun i h3 h4 => ?_, fun j h3 h4 => ?_⟩
  · obtain ⟨j, h5, h6, h7⟩ := h2.into i h3 h4
    obtain ⟨k, h8, h9, h10⟩ := h.into j h5 h6
    exact ⟨k, h8, h9, by rw [h7, h10]⟩
  · obtain ⟨i, h5, h6, h7⟩ := h.back j h3 h4
    obtain ⟨k, h8, h9, h10⟩ := h2.back i h5 h6
    exact ⟨k, h8, h9, by rw [h10, h7]⟩

theorem Mem.wide (h : Mem a b g g') (h1 : c ≤ a) (h2 : b ≤ d) : Mem c d g g' := by
  refine ⟨fun j hj => h.out j (by omega), fun i h3 h4 => ?_, fun j h3 h4 => ?_⟩
  · by_cases hi : a ≤ i ∧ i < b
    · obtain ⟨j, h5, h6, h7⟩ := h.into i hi.1 hi.2
      exact ⟨j, by omega, by omega, h7⟩
    · exact ⟨i, h3, h4, h.out i hi⟩
  · by_cases hi : a ≤ j ∧ j < b
    · obtain ⟨i, h5, h6, h7⟩ := h.back j hi.1 hi.2
      exact ⟨i, by omega, by omega, h7⟩
    · exact ⟨j, h3, h4, h.out j hi⟩

theorem Srt.stb (h : Srt f a b g) : Stb f a b g := fun i j h1 h2 h3 h4 => by
  have := h i j h1 h2 h3
  unfold lexN at this; omega

theorem Srt.sub (h : Srt f a b g) (h1 : a ≤ c) (h2 : d ≤ b) : Srt f c d g := fun i j h3 h4 h5 => h i j (by omega) h4 (by omega)

theorem Stb.sub (h : Stb f a b g) (h1 : a ≤ c) (h2 : d ≤ b) : Stb f c d g := fun i j h3 h4 h5 => h i j (by omega) h4 (by omega)

theorem Stb.less (h : Stb f a b g) (h1 : a ≤ i) (h2 : i < j) (h3 : j < b) (h4 : f (g j) < f (g i)) : lexN f (g j) (g i) := .inl h4

theorem Stb.more (h : Stb f a b g) (h1 : a ≤ i) (h2 : i < j) (h3 : j < b) (h4 : ¬ f (g j) < f (g i)) : lexN f (g i) (g j) := by
  have := h i j h1 h2 h3
  unfold lexN; omega

theorem Srt.congr (h : Srt f a b g) (e : ∀ j, a ≤ j → j < b → g' j = g j) : Srt f a b g' := fun i j h1 h2 h3 => by
  rw [e i h1 (by omega), e j (by omega) h3]; exact h i j h1 h2 h3

theorem Stb.congr (h : Stb f a b g) (e : ∀ j, a ≤ j → j < b → g' j = g j) : Stb f a b g' := fun i j h1 h2 h3 => by
  rw [e i h1 (by omega), e j (by omega) h3]; exact h i j h1 h2 h3

theorem Stb.mem (h : Stb f c d g) (hm : Mem a b g g') (hs : Srt f a b g') (h1 : c ≤ a) (h2 : b ≤ d) : Stb f c d g' := by
  intro i j h3 h4 h5 h6
  by_cases hi : a ≤ i ∧ i < b
  · by_cases hj : a ≤ j ∧ j < b
    · exact hs.stb i j hi.1 h4 hj.2 h6
    · obtain ⟨k, h7, h8, h9⟩ := hm.into i hi.1 hi.2
      rw [hm.out j hj] at h6 ⊢
      rw [h9] at h6 ⊢
      exact h k j (by omega) (by omega) h5 h6
  · rw [hm.out i hi] at h6 ⊢
    by_cases hj : a ≤ j ∧ j < b
    · obtain ⟨k, h7, h8, h9⟩ := hm.into j hj.1 hj.2
      rw [h9] at h6 ⊢
      exact h i k h3 (by omega) (by omega) h6
    · rw [hm.out j hj] at h6 ⊢
      exact h i j h3 h4 h5 h6

theorem Srt.mem (h : Srt f c d g) (hm : Mem a b g g') (h1 : d ≤ a ∨ b ≤ c) : Srt f c d g' := h.congr fun j h2 h3 => hm.out j (by omega)
end

def upd (g : Nat → Int) (k : Nat) (v : Int) : Nat → Int := fun j => if j = k then v else g j

def swpF (x y k : Nat) (g : Nat → Int) : Nat → Int := fun j => if x ≤ j ∧ j < x + k then g (j - x + y) else if y ≤ j ∧ j < y + k then g (j - y + x) else g j

def rotF (a m b : Nat) (g : Nat → Int) : Nat → Int := fun j => if a ≤ j ∧ j < a + (b - m) then g (j + (m - a)) else if a + (b - m) ≤ j ∧ j < b then g (j - (b - m)) else g j

section
variable {f : Int → Int} {a b c d i j s m e : Nat} {g g' g'' : Nat → Int}

theorem rotF_lo (h1 : a ≤ j) (h2 : j < a + (b - m)) : rotF a m b g j = g (j + (m - a)) := by unfold rotF; rw [if_pos ⟨h1, h2⟩]
theorem rotF_hi (h1 : a + (b - m) ≤ j) (h2 : j < b) : rotF a m b g j = g (j - (b - m)) := by unfold rotF; rw [if_neg (by omega), if_pos ⟨h1, h2⟩]
theorem rotF_out (h1 : j < a ∨ b ≤ j) (hm : a ≤ m) (hm2 : m ≤ b) : rotF a m b g j = g j := by unfold rotF; rw [if_neg (by omega), if_neg (by omega)]

theorem rotF_mem (h1 : a ≤ m) (h2 : m ≤ b) : Mem a b g (rotF a m b g) := by
  refine ⟨fun j hj => rotF_out (by omega) h1 h2, fun i h3 h4 => ?_, fun j h3 h4 => ?_⟩
  · by_cases h : i < a + (b - m)
    · exact ⟨_, by omega, by omega, rotF_lo h3 h⟩
    · exact ⟨_, by omega, by omega, rotF_hi (by omega) h4⟩
  · by_cases h : j < m
    · exact ⟨j + (b - m), by omega, by omega, by rw [rotF_hi (by omega) (by omega)]; congr 1; omega⟩
    · exact ⟨j - (m - a), by omega, by omega, by rw [rotF_lo (by omega) (by omega)]; congr 1; omega⟩

/-- four parts that each are in order: the two in the midst are turned -/
theorem Srt.rot (h1 : a ≤ s) (h2 : s ≤ m) (h3 : m ≤ e) (h4 : e ≤ b) (hl : Srt f a m g) (hr : Srt f m b g) (hvu : ∀ p q, s ≤ p → p < m → m ≤ q → q < e → lexN f (g q) (g p)) :
    Srt f a (s + (e - m)) (rotF s m e g) → Srt f (s + (e - m)) b (rotF s m e g) → (∀ p q, a ≤ p → p < s → e ≤ q → q < b → lexN f (g p) (g q)) → Srt f a b (rotF s m e g) := by
  intro hA hB hx i j h5 h6 h7
  by_cases hj : j < s + (e - m)
  · exact hA i j h5 h6 hj
  by_cases hi : s + (e - m) ≤ i
  · exact hB i j hi h6 h7
  by_cases hi2 : i < s
  · rw [rotF_out (.inl hi2) h2 h3]
    by_cases hj2 : j < e
    · rw [rotF_hi (by omega) hj2]; exact hl _ _ h5 (by omega) (by omega)
    · rw [rotF_out (.inr (by omega)) h2 h3]; exact hx _ _ h5 hi2 (by omega) h7
  · rw [rotF_lo (by omega) (by omega)]
    by_cases hj2 : j < e
    · rw [rotF_hi (by omega) hj2]; exact hvu _ _ (by omega) (by omega) (by omega) (by omega)
    · rw [rotF_out (.inr (by omega)) h2 h3]; exact hr _ _ (by omega) (by omega) h7

theorem Srt.rotA (h1 : a ≤ s) (h2 : s ≤ m) (h3 : m ≤ e) (h4 : e ≤ b) (hl : Srt f a m g) (hr : Srt f m b g) (hav : ∀ p q, a ≤ p → p < s → m ≤ q → q < e → lexN f (g p) (g q)) : Srt f a (s + (e - m)) (rotF s m e g) := by
  intro i j h5 h6 h7
  by_cases hj : j < s
  · rw [rotF_out (.inl hj) h2 h3, rotF_out (.inl (by omega)) h2 h3]; exact hl _ _ h5 h6 (by omega)
  · rw [rotF_lo (j := j) (by omega) h7]
    by_cases hi : i < s
    · rw [rotF_out (.inl hi) h2 h3]; exact hav _ _ h5 hi (by omega) (by omega)
    · rw [rotF_lo (by omega) (by omega)]; exact hr _ _ (by omega) (by omega) (by omega)

theorem Srt.rotB (h1 : a ≤ s) (h2 : s ≤ m) (h3 : m ≤ e) (h4 : e ≤ b) (hl : Srt f a m g) (hr : Srt f m b g) (hub : ∀ p q, s ≤ p → p < m → e ≤ q → q < b → lexN f (g p) (g q)) : Srt f (s + (e - m)) b (rotF s m e g) := by
  intro i j h5 h6 h7
  by_cases hj : j < e
  · rw [rotF_hi (by omega) hj, rotF_hi (by omega) (by omega)]; exact hl _ _ (by omega) (by omega) (by omega)
  · rw [rotF_out (j := j) (.inr (by omega)) h2 h3]
    by_cases hi : i < e
    · rw [rotF_hi (by omega) hi]; exact hub _ _ (by omega) (by omega) (by omega) h7
    · rw [rotF_out (.inr (by omega)) h2 h3]; exact hr _ _ (by omega) (by omega) h7

/-- one that comes from behind, brought to its place -/
theorem Srt.insBack (h1 : a ≤ j) (h2 : j ≤ m) (hl : Srt f a m g) (hj : ∀ p, j ≤ p → p < m → lexN f (g m) (g p)) (hj2 : ∀ p, a ≤ p → p < j → lexN f (g p) (g m)) : Srt f a (m + 1) (rotF j m (m + 1) g) := by
  have hr : Srt f m (m + 1) g := fun i j h1 h2 h3 => by omega
  have eq : ∀ q, m ≤ q → q < m + 1 → q = m := fun q h1 h2 => by omega
  refine Srt.rot h1 h2 (by omega) (Nat.le_refl _) hl hr (fun p q h3 h4 h5 h6 => ?_) (Srt.rotA h1 h2 (by omega) (Nat.le_refl _) hl hr fun p q h3 h4 h5 h6 => ?_) (Srt.rotB h1 h2 (by omega) (Nat.le_refl _) hl hr fun p q h3 h4 h5 h6 => by omega) (fun p q h3 h4 h5 h6 => by omega)
  · rw [eq q h5 h6]; exact hj p h3 h4
  · rw [eq q h5 h6]; exact hj2 p h3 h4

/-- one that stands ahead, brought to its place -/
theorem Srt.insFwd (h1 : a + 1 ≤ i) (h2 : i ≤ b) (hr : Srt f (a + 1) b g) (hi : ∀ p, a + 1 ≤ p → p < i → lexN f (g p) (g a)) (hi2 : ∀ p, i ≤ p → p < b → lexN f (g a) (g p)) : Srt f a b (rotF a (a + 1) i g) := by
  have hl : Srt f a (a + 1) g := fun i j h1 h2 h3 => by omega
  have eq : ∀ q, a ≤ q → q < a + 1 → q = a := fun q h1 h2 => by omega
  refine Srt.rot (Nat.le_refl _) (by omega) h1 h2 hl hr (fun p q h3 h4 h5 h6 => ?_) (Srt.rotA (Nat.le_refl _) (by omega) h1 h2 hl hr fun p q h3 h4 h5 h6 => by omega) (Srt.rotB (Nat.le_refl _) (by omega) h1 h2 hl hr fun p q h3 h4 h5 h6 => ?_) (fun p q h3 h4 h5 h6 => by omega)
  · rw [eq p h3 h4]; exact hi q h5 h6
  · rw [eq p h3 h4]; exact hi2 q h5 h6

theorem rotF_id1 (h : a ≤ m) : rotF a m m g = g := by
  funext j
  by_cases h1 : a ≤ j ∧ j < m
  · rw [rotF_hi (by omega) h1.2]; congr 1; omega
  · exact rotF_out (by omega) h (Nat.le_refl _)

theorem rotF_id2 (h : a ≤ b) : rotF a a b g = g := by
  funext j
  by_cases h1 : a ≤ j ∧ j < b
  · rw [rotF_lo h1.1 (by omega)]; congr 1; omega
  · exact rotF_out (by omega) (Nat.le_refl _) h

/-- two halves, each put in order, all of the one ahead of all of the other -/
theorem Srt.halves (h1 : a ≤ c) (h2 : c ≤ b) (hx : ∀ p q, a ≤ p → p < c → c ≤ q → q < b → lexN f (g p) (g q)) (hm : Mem a c g g') (hm2 : Mem c b g' g'') (hs : Srt f a c g') (hs2 : Srt f c b g'') : Srt f a b g'' := by
  intro i j h3 h4 h5
  by_cases hj : j < c
  · rw [hm2.out i (by omega), hm2.out j (by omega)]; exact hs i j h3 h4 hj
  by_cases hi : c ≤ i
  · exact hs2 i j hi h4 h5
  obtain ⟨p, h6, h7, h8⟩ := hm.into i h3 (by omega)
  obtain ⟨q, h9, h10, h11⟩ := hm2.into j (by omega) h5
  rw [hm2.out i (by omega), h8, h11, hm.out q (by omega)]
  exact hx p q h6 h7 h9 h10

theorem swp_rot (h1 : i ≤ m) (h2 : j < i) : rotF (m - (i - j)) m (m + j) (swpF (m - i) m j g) = rotF (m - i) m (m + j) g := by
  funext p
  by_cases c1 : p < m - i ∨ m + j ≤ p
  · rw [rotF_out (by omega) (by omega) (by omega), rotF_out c1 (by omega) (by omega)]; unfold swpF; rw [if_neg (by omega), if_neg (by omega)]
  by_cases c2 : p < m - i + j
  · rw [rotF_out (by omega) (by omega) (by omega), rotF_lo (by omega) (by omega)]; unfold swpF; rw [if_pos (by omega)]; congr 1; omega
  rw [rotF_hi (a := m - i) (by omega) (by omega)]
  by_cases c3 : p < m - (i - j) + j
  · rw [rotF_lo (by omega) (by omega)]; unfold swpF; rw [if_neg (by omega), if_pos (by omega)]; congr 1; omega
  · rw [rotF_hi (by omega) (by omega)]; unfold swpF; rw [if_neg (by omega), if_neg (by omega)]

theorem swp_rot2 (h1 : i ≤ m) (h2 : i < j) : rotF (m - i) m (m + (j - i)) (swpF (m - i) (m + j - i) i g) = rotF (m - i) m (m + j) g := by
  funext p
  by_cases c1 : p < m - i ∨ m + j ≤ p
  · rw [rotF_out (by omega) (by omega) (by omega), rotF_out c1 (by omega) (by omega)]; unfold swpF; rw [if_neg (by omega), if_neg (by omega)]
  by_cases c2 : m + (j - i) ≤ p
  · rw [rotF_out (by omega) (by omega) (by omega), rotF_hi (by omega) (by omega)]; unfold swpF; rw [if_neg (by omega), if_pos (by omega)]; congr 1; omega
  by_cases c4 : p < m - i + (j - i)
  · rw [rotF_lo (b := m + (j - i)) (by omega) (by omega), rotF_lo (by omega) (by omega)]; unfold swpF; rw [if_neg (by omega), if_neg (by omega)]
  · rw [rotF_hi (b := m + (j - i)) (by omega) (by omega)]
    by_cases c3 : p < m - i + j
    · rw [rotF_lo (by omega) (by omega)]; unfold swpF; rw [if_pos (by omega)]; congr 1; omega
    · omega

theorem swp_rot3 (h1 : i ≤ m) : swpF (m - i) m i g = rotF (m - i) m (m + i) g := by
  funext p
  by_cases c1 : p < m - i ∨ m + i ≤ p
  · rw [rotF_out c1 (by omega) (by omega)]; unfold swpF; rw [if_neg (by omega), if_neg (by omega)]
  by_cases c2 : p < m
  · rw [rotF_lo (by omega) (by omega)]; unfold swpF; rw [if_pos (by omega)]; congr 1; omega
  · rw [rotF_hi (by omega) (by omega)]; unfold swpF; rw [if_neg (by omega), if_pos (by omega)]; congr 1; omega

theorem swp_lo {x y k j : Nat} (h : x ≤ j ∧ j < x + k) : swpF x y k g j = g (j - x + y) := by unfold swpF; rw [if_pos h]
theorem swp_hi {x y k j : Nat} (h : y ≤ j ∧ j < y + k) (hx : x + k ≤ y) : swpF x y k g j = g (j - y + x) := by unfold swpF; rw [if_neg (by omega), if_pos h]
theorem swp_out {x y k j : Nat} (h : ¬ (x ≤ j ∧ j < x + k)) (h2 : ¬ (y ≤ j ∧ j < y + k)) : swpF x y k g j = g j := by unfold swpF; rw [if_neg h, if_neg h2]

theorem swp_step {x y i k : Nat} (hxy : x + k ≤ y) (hi : i < k) (j : Nat) : upd (upd (swpF x y i g) (x + i) (swpF x y i g (y + i))) (y + i) (swpF x y i g (x + i)) j = swpF x y (i + 1) g j := by
  unfold upd
  by_cases e1 : j = y + i
  · rw [if_pos e1, swp_hi (k := i + 1) (by omega) (by omega), swp_out (by omega) (by omega)]; congr 1; omega
  rw [if_neg e1]
  by_cases e2 : j = x + i
  · rw [if_pos e2, swp_lo (k := i + 1) (by omega), swp_out (by omega) (by omega)]; congr 1; omega
  rw [if_neg e2]
  by_cases e3 : x ≤ j ∧ j < x + i
  · rw [swp_lo e3, swp_lo (k := i + 1) (by omega)]
  by_cases e4 : y ≤ j ∧ j < y + i
  · rw [swp_hi e4 (by omega), swp_hi (k := i + 1) (by omega) (by omega)]
  · rw [swp_out e3 e4, swp_out (by omega) (by omega)]

theorem rot_back {i j : Nat} (h1 : 1 ≤ j) (h2 : j ≤ i) (p : Nat) : upd (upd (rotF j i (i + 1) g) j (g (j - 1))) (j - 1) (g i) p = rotF (j - 1) i (i + 1) g p := by
  unfold upd
  by_cases e1 : p = j - 1
  · rw [if_pos e1, rotF_lo (by omega) (by omega)]; congr 1; omega
  rw [if_neg e1]
  by_cases e2 : p = j
  · rw [if_pos e2, rotF_hi (by omega) (by omega)]; congr 1; omega
  rw [if_neg e2]
  by_cases e3 : j ≤ p ∧ p < i + 1
  · rw [rotF_hi (by omega) (by omega), rotF_hi (by omega) (by omega)]
  · rw [rotF_out (by omega) (by omega) (by omega), rotF_out (by omega) (by omega) (by omega)]

theorem rot_fwd {a k : Nat} (h1 : a ≤ k) (p : Nat) : upd (upd (rotF a (a + 1) (k + 1) g) k (g (k + 1))) (k + 1) (g a) p = rotF a (a + 1) (k + 2) g p := by
  unfold upd
  by_cases e1 : p = k + 1
  · rw [if_pos e1, rotF_hi (by omega) (by omega)]; congr 1; omega
  rw [if_neg e1]
  by_cases e2 : p = k
  · rw [if_pos e2, rotF_lo (by omega) (by omega)]; congr 1; omega
  rw [if_neg e2]
  by_cases e3 : a ≤ p ∧ p < k
  · rw [rotF_lo (by omega) (by omega), rotF_lo (by omega) (by omega)]
  · rw [rotF_out (by omega) (by omega) (by omega), rotF_out (by omega) (by omega) (by omega)]

/-- where the search of a merge looks -/
structure SymL (x y z mid L R : Nat) : Prop where
  xy : x < y
  yz : y < z
  half : mid = (x + z) / 2
  a : mid < y → L = mid + y - z ∧ R = mid
  b : y ≤ mid → L = x ∧ R = y

structure SymB (f : Int → Int) (y mid L R s r : Nat) (g : Nat → Int) : Prop where
  lo : L ≤ s
  le : s ≤ r
  hi : r ≤ R
  low : ∀ c, L ≤ c → c < s → lexN f (g c) (g (mid + y - 1 - c))
  high : ∀ c, r ≤ c → c < R → lexN f (g (mid + y - 1 - c)) (g c)

structure SymR (f : Int → Int) (x mid z s e : Nat) (g : Nat → Int) : Prop where
  xs : x ≤ s
  sm : s ≤ mid
  me : mid ≤ e
  ez : e ≤ z
  a : Srt f x s g
  b : Srt f s mid g
  c : Srt f mid e g
  d : Srt f e z g
  st1 : Stb f x mid g
  st2 : Stb f mid z g
  cross : ∀ p q, x ≤ p → p < mid → mid ≤ q → q < z → lexN f (g p) (g q)

theorem SymL.start {x y z mid L R : Nat} (h : SymL x y z mid L R) : SymB f y mid L R L R g := by
  obtain ⟨h1, h2, h3, h4, h5⟩ := h
  refine ⟨Nat.le_refl _, ?_, Nat.le_refl _, fun c h6 h7 => by omega, fun c h6 h7 => by omega⟩
  by_cases h : mid < y
  · have := h4 h; omega
  · have := h5 (by omega); omega

/-- the places that a merge compares -/
theorem SymL.at {x y z mid L R c : Nat} (h : SymL x y z mid L R) (h1 : L ≤ c) (h2 : c < R) : x ≤ c ∧ c < y ∧ y ≤ mid + y - 1 - c ∧ mid + y - 1 - c < z := by
  obtain ⟨h3, h4, h5, h6, h7⟩ := h
  by_cases h : mid < y
  · have := h6 h; omega
  · have := h7 (by omega); omega

theorem SymB.less {x y z mid L R s r c : Nat} (h : SymB f y mid L R s r g) (l : SymL x y z mid L R) (ha : Srt f x y g) (hb : Srt f y z g) (h1 : s ≤ c) (h2 : c < r) (hc : lexN f (g (mid + y - 1 - c)) (g c)) : SymB f y mid L R s c g := by
  refine ⟨h.lo, h1, by have := h.hi; omega, h.low, fun d h3 h4 => ?_⟩
  have h5 := h.lo
  by_cases e : d = c
  · rw [e]; exact hc
  have p1 := l.at (c := d) (by omega) h4
  have p2 := l.at (c := c) (by omega) (by omega)
  exact lexN_trans (hb (mid + y - 1 - d) (mid + y - 1 - c) p1.2.2.1 (by omega) p2.2.2.2) (lexN_trans hc (ha c d p2.1 (by omega) p1.2.1))

theorem SymB.more {x y z mid L R s r c : Nat} (h : SymB f y mid L R s r g) (l : SymL x y z mid L R) (ha : Srt f x y g) (hb : Srt f y z g) (h1 : s ≤ c) (h2 : c < r) (hc : lexN f (g c) (g (mid + y - 1 - c))) : SymB f y mid L R (c + 1) r g := by
  refine ⟨by have := h.lo; omega, h2, h.hi, fun d h3 h4 => ?_, h.high⟩
  have h5 := h.lo
  have h6 := h.hi
  by_cases e : d = c
  · rw [e]; exact hc
  have p1 := l.at (c := d) h3 (by omega)
  have p2 := l.at (c := c) (by omega) (by omega)
  exact lexN_trans (ha d c p1.1 (by omega) p2.2.1) (lexN_trans hc (hb (mid + y - 1 - c) (mid + y - 1 - d) p2.2.2.1 (by omega) p1.2.2.2))

theorem SymL.range {x y z mid L R s : Nat} (h : SymL x y z mid L R) (h1 : L ≤ s) (h2 : s ≤ R) : x ≤ s ∧ s ≤ y ∧ s ≤ mid ∧ y ≤ mid + y - s ∧ mid + y - s ≤ z := by
  obtain ⟨h3, h4, h5, h6, h7⟩ := h
  by_cases h : mid < y
  · have := h6 h; omega
  · have := h7 (by omega); omega

theorem SymB.done {x y z mid L R s : Nat} (h : SymB f y mid L R s s g) (l : SymL x y z mid L R) (hst : Stb f x z g) (ha : Srt f x y g) (hb : Srt f y z g) : SymR f x mid z s (mid + y - s) (rotF s y (mid + y - s) g) := by
  obtain ⟨g1, g2, g3, g4, g5⟩ := l.range h.lo h.hi
  have hL : s = L → x = s ∨ mid + y - s = z := fun e => by
    obtain ⟨h3, h4, h5, h6, h7⟩ := l
    by_cases h : mid < y
    · have := h6 h; omega
    · have := h7 (by omega); omega
  have hR : s = R → s = y ∨ mid + y - s = y := fun e => by
    obtain ⟨h3, h4, h5, h6, h7⟩ := l
    by_cases h : mid < y
    · have := h6 h; omega
    · have := h7 (by omega); omega
  have hlo := h.lo
  have hhi := h.hi
  have low := h.low
  have high := h.high
  clear h l
  generalize he : mid + y - s = e at *
  have em : s + (e - y) = mid := by omega
  have hvu : ∀ p q, s ≤ p → p < y → y ≤ q → q < e → lexN f (g q) (g p) := fun p q h1 h2 h3 h4 => by
    by_cases h5 : s = R
    · rcases hR h5 with h6 | h6 <;> omega
    · have hh := high s (Nat.le_refl _) (by omega)
      have q1 : q = mid + y - 1 - s ∨ lexN f (g q) (g (mid + y - 1 - s)) := by
        by_cases e1 : q = mid + y - 1 - s
        · exact .inl e1
        · exact .inr (hb q _ h3 (by omega) (by omega))
      have p1 : p = s ∨ lexN f (g s) (g p) := by
        by_cases e1 : p = s
        · exact .inl e1
        · exact .inr (ha s p g1 (by omega) h2)
      have h6 : lexN f (g q) (g s) := by
        rcases q1 with e1 | e1
        · rw [e1]; exact hh
        · exact lexN_trans e1 hh
      rcases p1 with e1 | e1
      · rw [e1]; exact h6
      · exact lexN_trans h6 e1
  have hab : ∀ p q, x ≤ p → p < s → e ≤ q → q < z → lexN f (g p) (g q) := fun p q h1 h2 h3 h4 => by
    by_cases h5 : s = L
    · rcases hL h5 with h6 | h6 <;> omega
    · have hh := low (s - 1) (by omega) (by omega)
      rw [show mid + y - 1 - (s - 1) = e by omega] at hh
      have h6 : lexN f (g p) (g e) := by
        by_cases e1 : p = s - 1
        · rw [e1]; exact hh
        · exact lexN_trans (ha p (s - 1) h1 (by omega) (by omega)) hh
      by_cases e1 : q = e
      · rw [e1]; exact h6
      · exact lexN_trans h6 (hb e q g4 (by omega) h4)
  refine ⟨g1, g3, by omega, g5, ?_, ?_, ?_, ?_, ?_, ?_, ?_⟩
  · exact (ha.sub (Nat.le_refl _) g2).congr fun j h1 h2 => rotF_out (.inl h2) g2 g4
  · intro i j h1 h2 h3
    rw [rotF_lo h1 (by omega), rotF_lo (by omega) (by omega)]; exact hb _ _ (by omega) (by omega) (by omega)
  · intro i j h1 h2 h3
    rw [rotF_hi (by omega) (by omega), rotF_hi (by omega) h3]; exact ha _ _ (by omega) (by omega) (by omega)
  · exact (hb.sub g4 (Nat.le_refl _)).congr fun j h1 h2 => rotF_out (.inr h1) g2 g4
  · intro i j h1 h2 h3
    by_cases c1 : i < s
    · rw [rotF_out (.inl c1) g2 g4]
      by_cases c2 : j < s
      · rw [rotF_out (.inl c2) g2 g4]; exact hst _ _ h1 h2 (by omega)
      · rw [rotF_lo (by omega) (by omega)]; exact hst _ _ h1 (by omega) (by omega)
    · rw [rotF_lo (by omega) (by omega), rotF_lo (by omega) (by omega)]; exact hst _ _ (by omega) (by omega) (by omega)
  · intro i j h1 h2 h3
    by_cases c1 : j < e
    · rw [rotF_hi (by omega) (by omega), rotF_hi (by omega) c1]; exact hst _ _ (by omega) (by omega) (by omega)
    · rw [rotF_out (j := j) (.inr (by omega)) g2 g4]
      by_cases c2 : i < e
      · rw [rotF_hi (by omega) c2]; exact hst _ _ (by omega) (by omega) h3
      · rw [rotF_out (.inr (by omega)) g2 g4]; exact hst _ _ (by omega) h2 h3
  · intro p q h1 h2 h3 h4
    by_cases c1 : p < s
    · rw [rotF_out (.inl c1) g2 g4]
      by_cases c2 : q < e
      · rw [rotF_hi (by omega) c2]; exact ha _ _ h1 (by omega) (by omega)
      · rw [rotF_out (.inr (by omega)) g2 g4]; exact hab _ _ h1 c1 (by omega) h4
    · rw [rotF_lo (by omega) (by omega)]
      by_cases c2 : q < e
      · rw [rotF_hi (by omega) c2]; exact hvu _ _ (by omega) (by omega) (by omega) (by omega)
      · rw [rotF_out (.inr (by omega)) g2 g4]; exact hb _ _ (by omega) (by omega) h4

/-- blocks, each in order -/
def Blk (f : Int → Int) (B n : Nat) (g : Nat → Int) : Prop := ∀ t, t * B < n → Srt f (t * B) (min (t * B + B) n) g

/-- blocks of B, put together by two and two up to a -/
structure Pair (f : Int → Int) (B n q a : Nat) (g : Nat → Int) : Prop where
  pos : a = q * (2 * B)
  le : a ≤ n
  past : ∀ t, t < q → Srt f (t * (2 * B)) (t * (2 * B) + 2 * B) g
  rest : ∀ t, 2 * q ≤ t → t * B < n → Srt f (t * B) (min (t * B + B) n) g

theorem Blk.start {B n : Nat} (h : Blk f B n g) : Pair f B n 0 0 g := ⟨by simp, Nat.zero_le _, fun t h => by omega, fun t _ h2 => h t h2⟩

theorem two_mul2 (q B : Nat) : 2 * q * B = q * (2 * B) := by rw [Nat.mul_comm 2 q, Nat.mul_assoc]

theorem Pair.half {B n q a b : Nat} (h : Pair f B n q a g) (h1 : a + B < n) (h2 : b = min (a + 2 * B) n) : Srt f a (a + B) g ∧ Srt f (a + B) b g := by
  have e := h.pos
  have e1 : 2 * q * B = a := by rw [two_mul2, e]
  have e2 : (2 * q + 1) * B = a + B := by rw [Nat.add_mul, e1, Nat.one_mul]
  have r1 := h.rest (2 * q) (Nat.le_refl _) (by rw [e1]; omega)
  have r2 := h.rest (2 * q + 1) (by omega) (by rw [e2]; exact h1)
  rw [e1, Nat.min_eq_left (by omega)] at r1
  rw [e2] at r2
  refine ⟨r1, ?_⟩
  rw [h2, show a + 2 * B = a + B + B by omega]
  exact r2

theorem Pair.step {B n q a : Nat} (h : Pair f B n q a g) (h1 : a + 2 * B ≤ n) (hm : Mem a (a + 2 * B) g g') (hs : Srt f a (a + 2 * B) g') : Pair f B n (q + 1) (a + 2 * B) g' := by
  have e := h.pos
  have e2 : (q + 1) * (2 * B) = a + 2 * B := by rw [Nat.add_mul, ← e, Nat.one_mul]
  refine ⟨e2.symm, h1, fun t ht => ?_, fun t ht h2 => ?_⟩
  · by_cases ht2 : t = q
    · rw [ht2, ← e]; exact hs
    · have : (t + 1) * (2 * B) ≤ q * (2 * B) := Nat.mul_le_mul_right _ (by omega)
      rw [Nat.add_mul, Nat.one_mul] at this
      exact (h.past t (by omega)).mem hm (.inl (by omega))
  · have : (2 * (q + 1)) * B ≤ t * B := Nat.mul_le_mul_right _ ht
    rw [two_mul2, e2] at this
    exact (h.rest t (by omega) h2).mem hm (.inr this)

theorem Pair.last {B n q a : Nat} (h : Pair f B n q a g) (h1 : n < a + 2 * B) (hm : Mem a n g g') (hs : Srt f a n g') : Blk f (2 * B) n g' := by
  intro t ht
  have e := h.pos
  rcases Nat.lt_trichotomy t q with h2 | h2 | h2
  · have : (t + 1) * (2 * B) ≤ q * (2 * B) := Nat.mul_le_mul_right _ (by omega)
    rw [Nat.add_mul, Nat.one_mul, ← e] at this
    have hle := h.le
    rw [Nat.min_eq_left (by omega)]
    exact (h.past t h2).mem hm (.inl this)
  · rw [h2, ← e, Nat.min_eq_right (by omega)]; exact hs
  · have : (q + 1) * (2 * B) ≤ t * (2 * B) := Nat.mul_le_mul_right _ (by omega)
    rw [Nat.add_mul, Nat.one_mul, ← e] at this
    omega

theorem Pair.last2 {B n q a : Nat} (h : Pair f B n q a g) (h1 : n < a + 2 * B) (h2 : n ≤ a + B) : Blk f (2 * B) n g := by
  refine h.last h1 .refl ?_
  by_cases h3 : a < n
  · have e1 : 2 * q * B = a := by rw [two_mul2, h.pos]
    have r1 := h.rest (2 * q) (Nat.le_refl _) (by rw [e1]; exact h3)
    rw [e1, Nat.min_eq_right h2] at r1
    exact r1
  · intro i j h4 h5 h6; omega

theorem Blk.twenty {n k : Nat} (h : ∀ t, t < k → Srt f (t * 20) (t * 20 + 20) g) (h1 : k * 20 ≤ n) (h2 : n < k * 20 + 20) (hs : Srt f (k * 20) n g) : Blk f 20 n g := by
  intro t ht
  rcases Nat.lt_trichotomy t k with h3 | h3 | h3
  · rw [Nat.min_eq_left (by omega)]; exact h t h3
  · rw [h3, Nat.min_eq_right (by omega)]; exact hs
  · omega

theorem Blk.whole {B n : Nat} (h : Blk f B n g) (hb : n ≤ B) : Srt f 0 n g := by
  by_cases h0 : n = 0
  · intro i j h1 h2 h3; omega
  · have := h 0 (by omega)
    rw [Nat.zero_mul, Nat.zero_add, Nat.min_eq_right hb] at this
    exact this
end

end Go.Proofs.Ytbhlhnkjmncloaa
