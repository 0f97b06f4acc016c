/-
  Contracts of functions of this seat: what each hands back, and what it leaves of memory (deal14). Nothing here is trusted: Lean checks it.
-/
import Derived.Test.YtoilbbfidnhekaaDeal13
set_option linter.unusedVariables false
set_option linter.unusedSimpArgs false
namespace Go.Proofs.Ytoilbbfidnhekaa
open Go.Vc Go.RowKit
set_option maxRecDepth 100000

def maxI (a b : Int) : Int := if a < b then b else a

def foldE (a b : List En) : List En := b.foldl (fun l x => insE l x.cl x.sq) a

theorem fold_ends {a : List En} : ∀ {b : List En} {last : Int}, 0 ≤ last → endsB 0 a = true → endsB last b = true → endsB 0 (foldE a b) = true
  | [], _, _, ha, _ => ha
  | x :: xs, last, hl, ha, h => by
    simp only [endsB, Bool.and_eq_true, decide_eq_true_eq] at h
    exact fold_ends (a := insE a x.cl x.sq) (by omega) (ins_ends h.1.2 (by omega) ha) h.2

theorem fold_of : ∀ {b a : List En} {last : Int} (c : Int), 0 ≤ last → endsB 0 a = true → endsB last b = true → 0 ≤ ofE a c → ofE (foldE a b) c = maxI (ofE a c) (ofE b c)
  | [], a, _, c, _, _, _, h0 => by
    have e : ¬ ofE a c < ofE [] c := by simp only [ofE]; omega
    simp only [foldE, List.foldl_nil, maxI, if_neg e]
  | x :: xs, a, last, c, hl, ha, h, h0 => by
    simp only [endsB, Bool.and_eq_true, decide_eq_true_eq] at h
    have hs : 0 < x.sq := by have := h.1.2; simp [whoseB] at this; omega
    have e := ins_of (c := x.cl) hs c ha
    have h0' : 0 ≤ ofE (insE a x.cl x.sq) c := by
      rw [e]; split
      · split <;> omega
      · exact h0
    have ih := fold_of (b := xs) (a := insE a x.cl x.sq) c (by omega : 0 ≤ x.cl) (ins_ends h.1.2 (by omega) ha) h.2 h0'
    show ofE (foldE (insE a x.cl x.sq) xs) c = _
    rw [ih, e]
    by_cases h3 : x.cl = c
    · have h4 : ofE xs c = 0 := ofE_lt h.2 (by omega)
      subst h3
      simp only [ofE, if_true, h4, maxI]
      split <;> rw [if_neg (by omega)]
    · have h5 : ¬ c = x.cl := fun e => h3 e.symm
      simp only [ofE, if_neg h3, if_neg h5]

theorem ofE_nn : ∀ {l : List En} {last : Int} (c : Int), endsB last l = true → 0 ≤ ofE l c
  | [], _, _, _ => Int.le_refl _
  | x :: xs, last, c, h => by
    simp only [endsB, Bool.and_eq_true, decide_eq_true_eq] at h
    have hs : 0 < x.sq := by have := h.1.2; simp [whoseB] at this; omega
    simp only [ofE]; split
    · omega
    · exact ofE_nn c h.2

/-- what Join makes of two right lists -/
theorem fold_list {a b : List En} (ha : endsB 0 a = true) (hb : endsB 0 b = true) : foldE a b = listE (fun c => maxI (ofE a c) (ofE b c)) 8 1 := by
  have h := list_of 8 (c := 1) (l := foldE a b) (by omega) (by omega) (fold_ends (Int.le_refl 0) ha hb)
  rw [← h]
  exact list_congr 8 1 fun k _ => fold_of k (Int.le_refl 0) ha hb (ofE_nn k ha)

def joinE (a b : List En) : List En × Int := if endsB 0 a = false ∨ endsB 0 b = false then ([], 21) else (foldE a b, 0)

end Go.Proofs.Ytoilbbfidnhekaa
