/-
  Contracts of functions of package num, its reference and its laws: what each hands back. Nothing here is trusted: Lean checks it.
-/
import Derived.Test.YtfagpihpelgmiaaNum2
namespace Go.Proofs.Ytfagpihpelgmiaa
open Go.Vc Go.RowKit
theorem ofNat63 (n : Int) : n.fdiv (2 ^ 63) = n / 9223372036854775808 := by rw [Int.fdiv_eq_ediv_of_nonneg _ (by decide)]; rfl
theorem sum_q (a : Option Addr) (c : Nat) (l : List Int) (hl : ∀ x ∈ l, In64 x) (hn : l.length ≤ 140737488355328) (m : M) (h : Row m a (ints l)) :
    QSpec Try.prog 26 [.slice a l.length c] m (.tuple #[I (if In64 (sumI l) then sumI l else 0), I (if In64 (sumI l) then 0 else 10)]) := by
  refine QSpec.of_vc Try.func26 (ann := fun n _ => { A := Nat, inv := fun k => k ≤ l.length, st := fun k => [(12, .val (I k)), (11, .val (I l.length)), (10, .val (.slice a l.length c)), (5, .val (U (wideLo (sumI (l.take k))))), (4, .val (U (IntKind.u64.wrap (sumI (l.take k) / 18446744073709551616))))], own := fun _ => [], m := fun _ => { m with sz := n }, μ := fun k => l.length - k }) fun n hn => ?_
  refine vc_by (X :=
      true = true ∧
        (∃ (a_1 : Nat),
            a_1 ≤ l.length ∧
              { π := m.π, sz := n, uf := m.uf : M } = { π := m.π, sz := n, uf := m.uf : M } ∧
                ((SV.val (Value.int IntKind.i64 (0 : Int)) = SV.val (Value.int IntKind.i64 (↑a_1 : Int)) ∧ true = true) ∧
                    (SV.val (Value.int IntKind.i64 (↑l.length : Int)) = SV.val (Value.int IntKind.i64 (↑l.length : Int)) ∧ true = true) ∧
                      (SV.val (Value.slice a l.length c) = SV.val (Value.slice a l.length c) ∧ true = true) ∧
                        (SV.val (Value.int IntKind.u64 (0 : Int)) = SV.val (Value.int IntKind.u64 (wideLo (sumI (List.take a_1 l)))) ∧ true = true) ∧
                          (SV.val (Value.int IntKind.u64 (0 : Int)) = SV.val (Value.int IntKind.u64 (IntKind.u64.wrap (sumI (List.take a_1 l) / (18446744073709551616 : Int)))) ∧
                              true = true) ∧
                            True) ∧
                  True) ∧
          ∀ (a_1 : Nat),
            a_1 ≤ l.length →
              ifB (decide ((↑a_1 : Int) < (↑l.length : Int)))
                (∃ (b : Nat),
                  ∃ (off : Nat),
                    a = some { block := b, off := off : Addr } ∧
                      ((0 : Int) ≤ (↑a_1 : Int) ∧ (↑a_1 : Int) < (↑l.length : Int)) ∧
                        ∃ (n_1 : Int),
                          CellsAt { π := m.π, sz := n, uf := m.uf : M } b (off + (↑a_1 : Int).toNat * (1 : Nat)) [Value.int IntKind.i64 n_1] ∧
                            ∃ (n_2 : Int),
                              ∃ (n_3 : Int),
                                CallV Try.prog (37 : Nat)
                                    [Value.int IntKind.u64 (wideLo (sumI (List.take a_1 l))), Value.int IntKind.u64 (IntKind.u64.wrap n_1), Value.int IntKind.u64 (0 : Int)]
                                    (Value.tuple #[Value.int IntKind.u64 n_2, Value.int IntKind.u64 n_3]) ∧
                                  ∃ (n_4 : Int),
                                    ∃ (n_5 : Int),
                                      CallV Try.prog (37 : Nat)
                                          [Value.int IntKind.u64 (IntKind.u64.wrap (sumI (List.take a_1 l) / (18446744073709551616 : Int))),
                                            Value.int IntKind.u64 (IntKind.u64.wrap (n_1.fdiv ((2 : Int) ^ (63 : Nat)))), Value.int IntKind.u64 n_3]
                                          (Value.tuple #[Value.int IntKind.u64 n_4, Value.int IntKind.u64 n_5]) ∧
                                        ∃ (a' : Nat),
                                          (a' ≤ l.length ∧
                                              { π := m.π, sz := n, uf := m.uf : M } = { π := m.π, sz := n, uf := m.uf : M } ∧
                                                ((SV.val (Value.int IntKind.i64 (IntKind.i64.wrap ((↑a_1 : Int) + (1 : Int)))) = SV.val (Value.int IntKind.i64 (↑a' : Int)) ∧
                                                      true = true) ∧
                                                    (SV.val (Value.int IntKind.i64 (↑l.length : Int)) = SV.val (Value.int IntKind.i64 (↑l.length : Int)) ∧ true = true) ∧
                                                      (SV.val (Value.slice a l.length c) = SV.val (Value.slice a l.length c) ∧ true = true) ∧
                                                        (SV.val (Value.int IntKind.u64 n_2) = SV.val (Value.int IntKind.u64 (wideLo (sumI (List.take a' l)))) ∧ true = true) ∧
                                                          (SV.val (Value.int IntKind.u64 n_4) =
                                                                SV.val (Value.int IntKind.u64 (IntKind.u64.wrap (sumI (List.take a' l) / (18446744073709551616 : Int)))) ∧
                                                              true = true) ∧
                                                            True) ∧
                                                  True) ∧
                                            l.length - a' < l.length - a_1)
                (ifB
                  (IntKind.u64.wrap (sumI (List.take a_1 l) / (18446744073709551616 : Int)) !=
                    IntKind.u64.wrap ((IntKind.i64.wrap (wideLo (sumI (List.take a_1 l)))).fdiv ((2 : Int) ^ (63 : Nat))))
                  (Done
                    (Value.tuple #[Value.int IntKind.i64 (0 : Int), Value.int IntKind.i64 (10 : Int)] =
                      Value.tuple #[Value.int IntKind.i64 (if In64 (sumI l) then sumI l else (0 : Int)), Value.int IntKind.i64 (if In64 (sumI l) then (0 : Int) else (10 : Int))]))
                  (Done
                    (Value.tuple #[Value.int IntKind.i64 (IntKind.i64.wrap (wideLo (sumI (List.take a_1 l)))), Value.int IntKind.i64 (0 : Int)] =
                      Value.tuple #[Value.int IntKind.i64 (if In64 (sumI l) then sumI l else (0 : Int)), Value.int IntKind.i64 (if In64 (sumI l) then (0 : Int) else (10 : Int))])))) (by kernel_rfl) ?_
  have h' := h.sz hn
  refine ⟨rfl, ⟨0, by simp [sumI, wideLo, IntKind.wrap_u64]⟩, fun k hk => ifB_intro (fun hb => ?_) (fun hb => ?_)⟩
  · have hk2 : k < l.length := by simpa using hb
    obtain ⟨b, o, rfl, hc⟩ := h'.cells (by rw [ints_len]; omega)
    have hx := hl _ (List.getElem_mem hk2)
    unfold In64 at hx
    refine ⟨b, o, rfl, by omega, l[k], by simpa using ints_at hc hk2, _, _, add64 _ _ _ (by unfold wideLo; omega) (by simp [IntKind.wrap_u64]; omega) (.inl rfl), _, _, add64 _ _ _ (by simp [IntKind.wrap_u64]; omega) (by simp [IntKind.wrap_u64]; omega) (by unfold wideLo; simp [IntKind.wrap_u64]; omega), k + 1, ⟨hk2, rfl, ⟨⟨?_, rfl⟩, by simp, by simp, ⟨?_, rfl⟩, ⟨?_, rfl⟩, trivial⟩, trivial⟩, by omega⟩
    · simp [IntKind.wrap_i64]; omega
    · rw [sumI_take l k hk2]; simp [wideLo, IntKind.wrap_u64]
    · rw [sumI_take l k hk2, ofNat63]
      have hi : (sumI (l.take k) + l[k]) / 18446744073709551616 = sumI (l.take k) / 18446744073709551616 + l[k] / 9223372036854775808 + (wideLo (sumI (l.take k)) + IntKind.u64.wrap l[k] + 0) / 18446744073709551616 := by simp [wideLo, IntKind.wrap_u64]; omega
      rw [hi]
      generalize sumI (l.take k) / 18446744073709551616 = p
      generalize l[k] / 9223372036854775808 = r
      generalize (wideLo (sumI (l.take k)) + IntKind.u64.wrap l[k] + 0) / 18446744073709551616 = t
      simp [IntKind.wrap_u64]; omega
  · have : k = l.length := by simp at hb; omega
    subst this
    rw [List.take_length, ofNat63]
    have hb := sumI_bound l hl
    by_cases hin : In64 (sumI l)
    · rw [if_pos hin, if_pos hin]
      unfold In64 at hin
      refine ifB_intro (fun h => ?_) (fun h => ⟨?_⟩)
      · simp [wideLo, IntKind.wrap_u64, IntKind.wrap_i64] at h; omega
      · simp [wideLo, IntKind.wrap_i64]; omega
    · rw [if_neg hin, if_neg hin]
      unfold In64 at hin
      refine ifB_intro (fun h => ⟨rfl⟩) (fun h => ?_)
      · simp [wideLo, IntKind.wrap_u64, IntKind.wrap_i64] at h; omega
/-- what the first k parts have together -/
def shareS (a b : Int) (k : Nat) : Int := k * (a / b) + min (k : Int) (a % b)
theorem share_at (a b : Int) (k : Nat) (h1 : 1 ≤ b) (h2 : (k : Int) < b) : shareV a b k = a / b + (if (k : Int) < a % b then 1 else 0) := by
  have : ¬ (b < 1 ∨ (k : Int) < 0 ∨ b ≤ k) := by omega
  unfold shareV
  rw [if_neg this]
  split <;> simp
theorem share_step (a b : Int) (k : Nat) (h1 : 1 ≤ b) (h2 : (k : Int) < b) : shareS a b (k + 1) = shareS a b k + shareV a b k := by
  rw [share_at a b k h1 h2]
  unfold shareS
  push_cast
  rw [Int.add_mul, Int.one_mul]
  split <;> omega
theorem numparts (a b : Int) (ha : InU a) (hb : In64 b) (m : M) : QSpec Try.prog 6 [U a, I b] m (.bool true) := by
  refine QSpec.of_vc Try.func6 (ann := fun n _ => { A := Nat, inv := fun k : Nat => (k : Int) ≤ b, st := fun k => [(6, .val (I k)), (1, .val (I b)), (0, .val (U a)), (5, .val (U (shareS a b k)))], own := fun _ => [], m := fun _ => { m with sz := n }, μ := fun k : Nat => (b - k).toNat }) fun n hn => ?_
  refine vc_by (X :=
      true = true ∧
        ∃ (b_1 : Bool),
          QSpec Try.prog (13 : Nat) [] { π := m.π, sz := n, uf := m.uf : M } (Value.bool b_1) ∧
            ifB (!b_1) (Done (Value.bool false = Value.bool true))
              (ifB (decide (b < (1 : Int)))
                (ifB (decide (b > (300 : Int))) (Done (Value.bool true = Value.bool true))
                  (∃ (n_1 : Int),
                    QSpec Try.prog (19 : Nat) [Value.int IntKind.u64 a, Value.int IntKind.i64 b, Value.int IntKind.i64 (0 : Int)] { π := m.π, sz := n, uf := m.uf : M }
                        (Value.int IntKind.u64 n_1) ∧
                      Done (Value.bool (n_1 == (0 : Int)) = Value.bool true)))
                (ifB (decide (b > (300 : Int)))
                  (ifB (decide (b > (300 : Int))) (Done (Value.bool true = Value.bool true))
                    (∃ (n_1 : Int),
                      QSpec Try.prog (19 : Nat) [Value.int IntKind.u64 a, Value.int IntKind.i64 b, Value.int IntKind.i64 (0 : Int)] { π := m.π, sz := n, uf := m.uf : M }
                          (Value.int IntKind.u64 n_1) ∧
                        Done (Value.bool (n_1 == (0 : Int)) = Value.bool true)))
                  ((∃ (a_1 : Nat),
                      (↑a_1 : Int) ≤ b ∧
                        { π := m.π, sz := n, uf := m.uf : M } = { π := m.π, sz := n, uf := m.uf : M } ∧
                          ((SV.val (Value.int IntKind.i64 (0 : Int)) = SV.val (Value.int IntKind.i64 (↑a_1 : Int)) ∧ true = true) ∧
                              (SV.val (Value.int IntKind.i64 b) = SV.val (Value.int IntKind.i64 b) ∧ true = true) ∧
                                (SV.val (Value.int IntKind.u64 a) = SV.val (Value.int IntKind.u64 a) ∧ true = true) ∧
                                  (SV.val (Value.int IntKind.u64 (0 : Int)) = SV.val (Value.int IntKind.u64 (shareS a b a_1)) ∧ true = true) ∧ True) ∧
                            True) ∧
                    ∀ (a_1 : Nat),
                      (↑a_1 : Int) ≤ b →
                        ifB (decide ((↑a_1 : Int) < b))
                          (∃ (n_1 : Int),
                            QSpec Try.prog (19 : Nat) [Value.int IntKind.u64 a, Value.int IntKind.i64 b, Value.int IntKind.i64 (↑a_1 : Int)] { π := m.π, sz := n, uf := m.uf : M }
                                (Value.int IntKind.u64 n_1) ∧
                              ifB (decide ((↑a_1 : Int) > (0 : Int)))
                                (∃ (n_2 : Int),
                                  QSpec Try.prog (19 : Nat) [Value.int IntKind.u64 a, Value.int IntKind.i64 b, Value.int IntKind.i64 (IntKind.i64.wrap ((↑a_1 : Int) - (1 : Int)))]
                                      { π := m.π, sz := n, uf := m.uf : M } (Value.int IntKind.u64 n_2) ∧
                                    ifB (decide (n_1 > n_2)) (Done (Value.bool false = Value.bool true))
                                      (∃ (n_3 : Int),
                                        QSpec Try.prog (19 : Nat) [Value.int IntKind.u64 a, Value.int IntKind.i64 b, Value.int IntKind.i64 (0 : Int)]
                                            { π := m.π, sz := n, uf := m.uf : M } (Value.int IntKind.u64 n_3) ∧
                                          ifB (decide (IntKind.u64.wrap (n_3 - n_1) > (1 : Int))) (Done (Value.bool false = Value.bool true))
                                            (∃ (a' : Nat),
                                              ((↑a' : Int) ≤ b ∧
                                                  { π := m.π, sz := n, uf := m.uf : M } = { π := m.π, sz := n, uf := m.uf : M } ∧
                                                    ((SV.val (Value.int IntKind.i64 (IntKind.i64.wrap ((↑a_1 : Int) + (1 : Int)))) = SV.val (Value.int IntKind.i64 (↑a' : Int)) ∧
                                                          true = true) ∧
                                                        (SV.val (Value.int IntKind.i64 b) = SV.val (Value.int IntKind.i64 b) ∧ true = true) ∧
                                                          (SV.val (Value.int IntKind.u64 a) = SV.val (Value.int IntKind.u64 a) ∧ true = true) ∧
                                                            (SV.val (Value.int IntKind.u64 (IntKind.u64.wrap (shareS a b a_1 + n_1))) = SV.val (Value.int IntKind.u64 (shareS a b a')) ∧
                                                                true = true) ∧
                                                              True) ∧
                                                      True) ∧
                                                (b - (↑a' : Int)).toNat < (b - (↑a_1 : Int)).toNat)))
                                (∃ (n_2 : Int),
                                  QSpec Try.prog (19 : Nat) [Value.int IntKind.u64 a, Value.int IntKind.i64 b, Value.int IntKind.i64 (0 : Int)] { π := m.π, sz := n, uf := m.uf : M }
                                      (Value.int IntKind.u64 n_2) ∧
                                    ifB (decide (IntKind.u64.wrap (n_2 - n_1) > (1 : Int))) (Done (Value.bool false = Value.bool true))
                                      (∃ (a' : Nat),
                                        ((↑a' : Int) ≤ b ∧
                                            { π := m.π, sz := n, uf := m.uf : M } = { π := m.π, sz := n, uf := m.uf : M } ∧
                                              ((SV.val (Value.int IntKind.i64 (IntKind.i64.wrap ((↑a_1 : Int) + (1 : Int)))) = SV.val (Value.int IntKind.i64 (↑a' : Int)) ∧ true = true) ∧
                                                  (SV.val (Value.int IntKind.i64 b) = SV.val (Value.int IntKind.i64 b) ∧ true = true) ∧
                                                    (SV.val (Value.int IntKind.u64 a) = SV.val (Value.int IntKind.u64 a) ∧ true = true) ∧
                                                      (SV.val (Value.int IntKind.u64 (IntKind.u64.wrap (shareS a b a_1 + n_1))) = SV.val (Value.int IntKind.u64 (shareS a b a')) ∧
                                                          true = true) ∧
                                                        True) ∧
                                                True) ∧
                                          (b - (↑a' : Int)).toNat < (b - (↑a_1 : Int)).toNat)))
                          (ifB (shareS a b a_1 == a)
                            (∃ (n_1 : Int),
                              QSpec Try.prog (19 : Nat) [Value.int IntKind.u64 a, Value.int IntKind.i64 b, Value.int IntKind.i64 b] { π := m.π, sz := n, uf := m.uf : M }
                                  (Value.int IntKind.u64 n_1) ∧
                                ifB (n_1 == (0 : Int))
                                  (∃ (n_2 : Int),
                                    QSpec Try.prog (19 : Nat) [Value.int IntKind.u64 a, Value.int IntKind.i64 b, Value.int IntKind.i64 (-1 : Int)] { π := m.π, sz := n, uf := m.uf : M }
                                        (Value.int IntKind.u64 n_2) ∧
                                      Done (Value.bool (n_2 == (0 : Int)) = Value.bool true))
                                  (Done (Value.bool false = Value.bool true)))
                            (Done (Value.bool false = Value.bool true))))))) (by kernel_rfl) ?_
  unfold In64 at hb
  have hz : ∀ x : Int, x < 0 ∨ b ≤ x ∨ b < 1 → shareV a b x = 0 := fun x hx => by unfold shareV; rw [if_pos (by omega)]
  have i64 : ∀ x : Int, -1 ≤ x → x ≤ 300 → In64 x := fun x h1 h2 => by unfold In64; omega
  refine ⟨rfl, _, awake_q _, ifB_false (ifB_intro (fun h1 => ifB_intro (fun h2 => ⟨rfl⟩) (fun h2 => ⟨_, share_q a b 0 ha hb (by decide) _, ⟨?_⟩⟩)) (fun h1 => ifB_intro (fun h2 => ?_) (fun h2 => ?_)))⟩
  · simp only [decide_eq_true_eq] at h1
    rw [hz 0 (by omega)]; rfl
  · rw [h2]; exact ⟨rfl⟩
  · simp only [decide_eq_false_iff_not] at h1 h2
    have hd := div_facts a b ha.1 (by omega)
    unfold InU at ha
    have hS : ∀ k : Nat, (k : Int) ≤ b → 0 ≤ shareS a b k ∧ shareS a b k ≤ a := fun k hk => by
      have e1 : (k : Int) * (a / b) ≤ b * (a / b) := Int.mul_le_mul_of_nonneg_right hk hd.1
      have e2 : 0 ≤ (k : Int) * (a / b) := Int.mul_nonneg (by omega) hd.1
      rw [Int.mul_comm b] at e1
      unfold shareS
      omega
    refine ⟨⟨0, by simp [shareS]; omega⟩, fun k hk => ifB_intro (fun hb2 => ?_) (fun hb2 => ?_)⟩
    · simp only [decide_eq_true_eq] at hb2
      have hk64 := i64 k (by omega) (by omega)
      have e0 := share_at a b 0 (by omega) (by omega)
      have ek := share_at a b k (by omega) hb2
      have hs1 := hS k hk
      have hs2 := hS (k + 1) (by omega)
      rw [share_step a b k (by omega) hb2] at hs2
      have hstep : ∃ a', ((a' : Nat) : Int) ≤ b ∧ a' = k + 1 := ⟨k + 1, by omega, rfl⟩
      have w1 : IntKind.i64.wrap ((k : Int) + 1) = ((k + 1 : Nat) : Int) := by simp [IntKind.wrap_i64]; omega
      have w2 : IntKind.u64.wrap (shareS a b k + shareV a b k) = shareS a b (k + 1) := by rw [share_step a b k (by omega) hb2]; simp [IntKind.wrap_u64]; omega
      have w3 : IntKind.u64.wrap (shareV a b 0 - shareV a b k) ≤ 1 := by
        simp at e0
        rw [e0, ek]; simp [IntKind.wrap_u64]; omega
      refine ⟨_, share_q a b k ha hb hk64 _, ifB_intro (fun h3 => ?_) (fun h3 => ⟨_, share_q a b 0 ha hb (by decide) _, ifB_intro (fun h4 => ?_) (fun h4 => ⟨k + 1, ⟨by omega, rfl, ⟨⟨by rw [w1], rfl⟩, ⟨rfl, rfl⟩, ⟨rfl, rfl⟩, ⟨by rw [w2], rfl⟩, trivial⟩, trivial⟩, by omega⟩)⟩)⟩
      · simp only [decide_eq_true_eq] at h3
        obtain ⟨j, rfl⟩ : ∃ j, k = j + 1 := ⟨k - 1, by omega⟩
        have w4 : IntKind.i64.wrap (((j + 1 : Nat) : Int) - 1) = (j : Int) := by simp [IntKind.wrap_i64]; omega
        have ej := share_at a b j (by omega) (by omega)
        rw [w4]
        refine ⟨_, share_q a b j ha hb (i64 j (by omega) (by omega)) _, ifB_intro (fun h4 => ?_) (fun h4 => ⟨_, share_q a b 0 ha hb (by decide) _, ifB_intro (fun h4 => ?_) (fun h4 => ⟨j + 2, ⟨by omega, rfl, ⟨⟨by rw [w1], rfl⟩, ⟨rfl, rfl⟩, ⟨rfl, rfl⟩, ⟨by rw [w2], rfl⟩, trivial⟩, trivial⟩, by omega⟩)⟩)⟩
        · simp only [decide_eq_true_eq] at h4
          rw [ej, ek] at h4
          omega
        · simp only [decide_eq_true_eq] at h4
          omega
      · simp only [decide_eq_true_eq] at h4
        omega
    · simp only [decide_eq_false_iff_not] at hb2
      have : (k : Int) = b := by omega
      have e : shareS a b k = a := by unfold shareS; rw [this, Int.mul_comm]; omega
      rw [e]
      refine ifB_intro (fun h5 => ⟨_, share_q a b b ha hb hb _, ?_⟩) (fun h5 => by simp at h5)
      rw [hz b (by omega)]
      refine ifB_true ⟨_, share_q a b (-1) ha hb (by decide) _, ⟨?_⟩⟩
      rw [hz (-1) (by omega)]; rfl
end Go.Proofs.Ytfagpihpelgmiaa
