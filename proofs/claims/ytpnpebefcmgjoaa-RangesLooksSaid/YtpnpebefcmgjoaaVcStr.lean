/-
  The order of strings. Nothing here is trusted: Lean checks it. It names no program.
-/
import Derived.Test.YtpnpebefcmgjoaaVcRow
import Derived.Lib.Bytealg
set_option linter.unusedVariables false
set_option linter.unusedSimpArgs false
namespace Go.Vc
open Go.RowKit

/-- the order of strings -/
def ltS (a b : ByteArray) : Bool := Op.bytesLess a.toList b.toList

theorem bl_irr : ∀ (x : List UInt8), Op.bytesLess x x = false
  | [] => rfl
  | a :: x => by simp [Op.bytesLess, bl_irr x]
theorem bl_tri : ∀ (x y : List UInt8), Op.bytesLess x y = true ∨ x = y ∨ Op.bytesLess y x = true
  | [], [] => .inr (.inl rfl)
  | [], _ :: _ => .inl rfl
  | _ :: _, [] => .inr (.inr rfl)
  | a :: x, b :: y => by
    rcases bl_tri x y with h | h | h
    all_goals simp only [Op.bytesLess, Bool.or_eq_true, Bool.and_eq_true, decide_eq_true_eq, beq_iff_eq, List.cons.injEq]
    all_goals
      by_cases e : a = b
      · simp [e, h]
      · rcases Nat.lt_or_ge a.toNat b.toNat with g | g
        · left; left; exact UInt8.lt_iff_toNat_lt.2 g
        · right; right; left
          refine UInt8.lt_iff_toNat_lt.2 (Nat.lt_of_le_of_ne g fun e2 => e (UInt8.toNat_inj.1 e2.symm))
theorem bl_trans : ∀ (x y z : List UInt8), Op.bytesLess x y = true → Op.bytesLess y z = true → Op.bytesLess x z = true
  | _, _, [], _, h => by cases ‹List UInt8› <;> simp [Op.bytesLess] at h
  | _, [], _ :: _, h, _ => by simp [Op.bytesLess] at h
  | [], _ :: _, _ :: _, _, _ => rfl
  | a :: x, b :: y, c :: z, h1, h2 => by
    simp only [Op.bytesLess, Bool.or_eq_true, Bool.and_eq_true, decide_eq_true_eq, beq_iff_eq, UInt8.lt_iff_toNat_lt] at h1 h2 ⊢
    rcases h1 with h1 | ⟨rfl, h1⟩
    · rcases h2 with h2 | ⟨rfl, h2⟩
      · exact .inl (by omega)
      · exact .inl h1
    · rcases h2 with h2 | ⟨rfl, h2⟩
      · exact .inl h2
      · exact .inr ⟨rfl, bl_trans x y z h1 h2⟩
theorem toList_inj {a b : ByteArray} : a.toList = b.toList ↔ a = b := by
  have h := bytes_beq a b
  constructor
  · intro e
    have : (a.toList == b.toList) = true := by simp [e]
    rw [h] at this
    simpa using this
  · intro e; rw [e]
theorem ltS_irr (a : ByteArray) : ltS a a = false := bl_irr _
theorem ltS_tri (a b : ByteArray) : ltS a b = true ∨ a = b ∨ ltS b a = true := by
  rcases bl_tri a.toList b.toList with h | h | h
  · exact .inl h
  · exact .inr (.inl (toList_inj.1 h))
  · exact .inr (.inr h)
theorem ltS_trans {a b c : ByteArray} (h1 : ltS a b = true) (h2 : ltS b c = true) : ltS a c = true := bl_trans _ _ _ h1 h2
theorem ltS_ne {a b : ByteArray} (h : ltS a b = true) : a ≠ b := fun e => by subst e; rw [ltS_irr] at h; cases h
theorem ltS_asym {a b : ByteArray} (h : ltS a b = true) : ltS b a = false := by
  cases h2 : ltS b a with
  | false => rfl
  | true => have := ltS_trans h h2; rw [ltS_irr] at this; cases this
theorem ltS_leq (a b : ByteArray) : (Op.bytesLess a.toList b.toList || a.toList == b.toList) = !ltS b a := by
  rw [bytes_beq]
  rcases ltS_tri a b with h | h | h
  · rw [show Op.bytesLess a.toList b.toList = true from h, ltS_asym h]; rfl
  · subst h; rw [ltS_irr]; simp
  · have h1 : Op.bytesLess a.toList b.toList = false := ltS_asym h
    rw [h1, h]; simp [Ne.symm (ltS_ne h)]

theorem cb_bl : ∀ (x y : List UInt8), Lib.compareBytes x y = if Op.bytesLess x y = true then -1 else if x = y then 0 else 1
  | [], [] => rfl
  | [], _ :: _ => by simp [Lib.compareBytes, Op.bytesLess]
  | _ :: _, [] => by simp [Lib.compareBytes, Op.bytesLess]
  | a :: x, b :: y => by
    simp only [Lib.compareBytes, cb_bl x y, Op.bytesLess]
    by_cases h1 : a < b
    · simp [h1]
    · by_cases h2 : b < a
      · have : a ≠ b := fun e => by subst e; exact h1 h2
        simp [h1, h2, this]
      · have : a = b := by
          rw [UInt8.lt_iff_toNat_lt] at h1 h2
          exact UInt8.toNat_inj.1 (by omega)
        subst this
        simp [h1]
/-- what the comparison of two strings hands back -/
def cmpS (a b : ByteArray) : Int := if ltS a b = true then -1 else if a = b then 0 else 1
theorem cmp_cmpS (a b : ByteArray) : Extern.BytealgCompare.cmp a b = cmpS a b := by
  rw [Lib.cmp_eq, cb_bl]
  have e : ∀ s : ByteArray, s.data.toList = s.toList := fun s => (Lib.toList_data s).symm
  rw [e, e]
  unfold cmpS ltS
  simp only [toList_inj]

end Go.Vc
