/-
  Contracts of functions of package num, its reference and its laws: what each hands back. Nothing here is trusted: Lean checks it.
-/
import Derived.Test.YtfagpihpelgmiaaVcLem
import Derived.Test.YtfagpihpelgmiaaRows
namespace Go.Proofs.Ytfagpihpelgmiaa
open Go.Vc Go.RowKit
abbrev I (n : Int) : Value := .int .i64 n
abbrev U (n : Int) : Value := .int .u64 n
abbrev sp (lo hi : Int) : Value := .agg #[.int .i64 lo, .int .i64 hi]
def In64 (n : Int) : Prop := -9223372036854775808 ≤ n ∧ n ≤ 9223372036854775807
instance (n : Int) : Decidable (In64 n) := by unfold In64; infer_instance
def InU (n : Int) : Prop := 0 ≤ n ∧ n ≤ 18446744073709551615
def addV (a b : Int) : Int := if In64 (a + b) then a + b else 0
def addE (a b : Int) : Int := if In64 (a + b) then 0 else 10
def subV (a b : Int) : Int := if In64 (a - b) then a - b else 0
def subE (a b : Int) : Int := if In64 (a - b) then 0 else 10
def hasB (lo hi v : Int) : Bool := decide (lo ≤ v) && decide (v ≤ hi)
def roomD (lo hi v : Int) : Int := if hasB lo hi v then v - lo else 0
def roomU (lo hi v : Int) : Int := if hasB lo hi v then hi - v else 0
def meetOk (a b c d : Int) : Bool := decide (a ≤ b) && (decide (c ≤ d) && decide (max a c ≤ min b d))
def meetLo (a b c d : Int) : Int := if meetOk a b c d then max a c else 0
def meetHi (a b c d : Int) : Int := if meetOk a b c d then min b d else 0
def shiftE (a b k : Int) : Int := if b < a then 1 else if In64 (a + k) ∧ In64 (b + k) then 0 else 10
def shiftLo (a b k : Int) : Int := if b < a then 0 else if In64 (a + k) ∧ In64 (b + k) then a + k else 0
def shiftHi (a b k : Int) : Int := if b < a then 0 else if In64 (a + k) ∧ In64 (b + k) then b + k else 0
def shareV (n p i : Int) : Int := if p < 1 ∨ i < 0 ∨ p ≤ i then 0 else if i < n % p then n / p + 1 else n / p
def fitV (n : Int) : Int := min n 9223372036854775807

theorem add_q (a b : Int) (ha : In64 a) (hb : In64 b) (m : M) : QSpec Try.prog 12 [I a, I b] m (.tuple #[I (addV a b), I (addE a b)]) := by
  refine QSpec.of_vc Try.func12 (ann := fun _ => noAnn) fun n hn => ?_
  refine vc_by (X :=
      true = true ∧
        ifB (decide (a ≥ (0 : Int)))
          (ifB (decide (b ≥ (0 : Int)))
            (ifB (decide (IntKind.i64.wrap (a + b) < (0 : Int)))
              (Done
                (Value.tuple #[Value.int IntKind.i64 (0 : Int), Value.int IntKind.i64 (10 : Int)] = Value.tuple #[Value.int IntKind.i64 (addV a b), Value.int IntKind.i64 (addE a b)]))
              (ifB (decide (a < (0 : Int)))
                (ifB (decide (b < (0 : Int)))
                  (ifB (decide (IntKind.i64.wrap (a + b) ≥ (0 : Int)))
                    (Done
                      (Value.tuple #[Value.int IntKind.i64 (0 : Int), Value.int IntKind.i64 (10 : Int)] =
                        Value.tuple #[Value.int IntKind.i64 (addV a b), Value.int IntKind.i64 (addE a b)]))
                    (Done
                      (Value.tuple #[Value.int IntKind.i64 (IntKind.i64.wrap (a + b)), Value.int IntKind.i64 (0 : Int)] =
                        Value.tuple #[Value.int IntKind.i64 (addV a b), Value.int IntKind.i64 (addE a b)])))
                  (Done
                    (Value.tuple #[Value.int IntKind.i64 (IntKind.i64.wrap (a + b)), Value.int IntKind.i64 (0 : Int)] =
                      Value.tuple #[Value.int IntKind.i64 (addV a b), Value.int IntKind.i64 (addE a b)])))
                (Done
                  (Value.tuple #[Value.int IntKind.i64 (IntKind.i64.wrap (a + b)), Value.int IntKind.i64 (0 : Int)] =
                    Value.tuple #[Value.int IntKind.i64 (addV a b), Value.int IntKind.i64 (addE a b)]))))
            (ifB (decide (a < (0 : Int)))
              (ifB (decide (b < (0 : Int)))
                (ifB (decide (IntKind.i64.wrap (a + b) ≥ (0 : Int)))
                  (Done
                    (Value.tuple #[Value.int IntKind.i64 (0 : Int), Value.int IntKind.i64 (10 : Int)] =
                      Value.tuple #[Value.int IntKind.i64 (addV a b), Value.int IntKind.i64 (addE a b)]))
                  (Done
                    (Value.tuple #[Value.int IntKind.i64 (IntKind.i64.wrap (a + b)), Value.int IntKind.i64 (0 : Int)] =
                      Value.tuple #[Value.int IntKind.i64 (addV a b), Value.int IntKind.i64 (addE a b)])))
                (Done
                  (Value.tuple #[Value.int IntKind.i64 (IntKind.i64.wrap (a + b)), Value.int IntKind.i64 (0 : Int)] =
                    Value.tuple #[Value.int IntKind.i64 (addV a b), Value.int IntKind.i64 (addE a b)])))
              (Done
                (Value.tuple #[Value.int IntKind.i64 (IntKind.i64.wrap (a + b)), Value.int IntKind.i64 (0 : Int)] =
                  Value.tuple #[Value.int IntKind.i64 (addV a b), Value.int IntKind.i64 (addE a b)]))))
          (ifB (decide (a < (0 : Int)))
            (ifB (decide (b < (0 : Int)))
              (ifB (decide (IntKind.i64.wrap (a + b) ≥ (0 : Int)))
                (Done
                  (Value.tuple #[Value.int IntKind.i64 (0 : Int), Value.int IntKind.i64 (10 : Int)] = Value.tuple #[Value.int IntKind.i64 (addV a b), Value.int IntKind.i64 (addE a b)]))
                (Done
                  (Value.tuple #[Value.int IntKind.i64 (IntKind.i64.wrap (a + b)), Value.int IntKind.i64 (0 : Int)] =
                    Value.tuple #[Value.int IntKind.i64 (addV a b), Value.int IntKind.i64 (addE a b)])))
              (Done
                (Value.tuple #[Value.int IntKind.i64 (IntKind.i64.wrap (a + b)), Value.int IntKind.i64 (0 : Int)] =
                  Value.tuple #[Value.int IntKind.i64 (addV a b), Value.int IntKind.i64 (addE a b)])))
            (Done
              (Value.tuple #[Value.int IntKind.i64 (IntKind.i64.wrap (a + b)), Value.int IntKind.i64 (0 : Int)] =
                Value.tuple #[Value.int IntKind.i64 (addV a b), Value.int IntKind.i64 (addE a b)])))) (by kernel_rfl) ?_
  refine ⟨rfl, ?_⟩
  repeat' (refine ifB_intro (fun h => ?_) (fun h => ?_))
  all_goals refine ⟨?_⟩
  all_goals (by_cases hin : In64 (a + b) <;> simp [addV, addE, hin] <;> simp [IntKind.wrap_i64, In64] at * <;> omega)
theorem sub_q (a b : Int) (ha : In64 a) (hb : In64 b) (m : M) : QSpec Try.prog 14 [I a, I b] m (.tuple #[I (subV a b), I (subE a b)]) := by
  refine QSpec.of_vc Try.func14 (ann := fun _ => noAnn) fun n hn => ?_
  refine vc_by (X :=
      true = true ∧
        ifB (decide (a ≥ (0 : Int)))
          (ifB (decide (b < (0 : Int)))
            (ifB (decide (IntKind.i64.wrap (a - b) < (0 : Int)))
              (Done
                (Value.tuple #[Value.int IntKind.i64 (0 : Int), Value.int IntKind.i64 (10 : Int)] = Value.tuple #[Value.int IntKind.i64 (subV a b), Value.int IntKind.i64 (subE a b)]))
              (ifB (decide (a < (0 : Int)))
                (ifB (decide (b ≥ (0 : Int)))
                  (ifB (decide (IntKind.i64.wrap (a - b) ≥ (0 : Int)))
                    (Done
                      (Value.tuple #[Value.int IntKind.i64 (0 : Int), Value.int IntKind.i64 (10 : Int)] =
                        Value.tuple #[Value.int IntKind.i64 (subV a b), Value.int IntKind.i64 (subE a b)]))
                    (Done
                      (Value.tuple #[Value.int IntKind.i64 (IntKind.i64.wrap (a - b)), Value.int IntKind.i64 (0 : Int)] =
                        Value.tuple #[Value.int IntKind.i64 (subV a b), Value.int IntKind.i64 (subE a b)])))
                  (Done
                    (Value.tuple #[Value.int IntKind.i64 (IntKind.i64.wrap (a - b)), Value.int IntKind.i64 (0 : Int)] =
                      Value.tuple #[Value.int IntKind.i64 (subV a b), Value.int IntKind.i64 (subE a b)])))
                (Done
                  (Value.tuple #[Value.int IntKind.i64 (IntKind.i64.wrap (a - b)), Value.int IntKind.i64 (0 : Int)] =
                    Value.tuple #[Value.int IntKind.i64 (subV a b), Value.int IntKind.i64 (subE a b)]))))
            (ifB (decide (a < (0 : Int)))
              (ifB (decide (b ≥ (0 : Int)))
                (ifB (decide (IntKind.i64.wrap (a - b) ≥ (0 : Int)))
                  (Done
                    (Value.tuple #[Value.int IntKind.i64 (0 : Int), Value.int IntKind.i64 (10 : Int)] =
                      Value.tuple #[Value.int IntKind.i64 (subV a b), Value.int IntKind.i64 (subE a b)]))
                  (Done
                    (Value.tuple #[Value.int IntKind.i64 (IntKind.i64.wrap (a - b)), Value.int IntKind.i64 (0 : Int)] =
                      Value.tuple #[Value.int IntKind.i64 (subV a b), Value.int IntKind.i64 (subE a b)])))
                (Done
                  (Value.tuple #[Value.int IntKind.i64 (IntKind.i64.wrap (a - b)), Value.int IntKind.i64 (0 : Int)] =
                    Value.tuple #[Value.int IntKind.i64 (subV a b), Value.int IntKind.i64 (subE a b)])))
              (Done
                (Value.tuple #[Value.int IntKind.i64 (IntKind.i64.wrap (a - b)), Value.int IntKind.i64 (0 : Int)] =
                  Value.tuple #[Value.int IntKind.i64 (subV a b), Value.int IntKind.i64 (subE a b)]))))
          (ifB (decide (a < (0 : Int)))
            (ifB (decide (b ≥ (0 : Int)))
              (ifB (decide (IntKind.i64.wrap (a - b) ≥ (0 : Int)))
                (Done
                  (Value.tuple #[Value.int IntKind.i64 (0 : Int), Value.int IntKind.i64 (10 : Int)] = Value.tuple #[Value.int IntKind.i64 (subV a b), Value.int IntKind.i64 (subE a b)]))
                (Done
                  (Value.tuple #[Value.int IntKind.i64 (IntKind.i64.wrap (a - b)), Value.int IntKind.i64 (0 : Int)] =
                    Value.tuple #[Value.int IntKind.i64 (subV a b), Value.int IntKind.i64 (subE a b)])))
              (Done
                (Value.tuple #[Value.int IntKind.i64 (IntKind.i64.wrap (a - b)), Value.int IntKind.i64 (0 : Int)] =
                  Value.tuple #[Value.int IntKind.i64 (subV a b), Value.int IntKind.i64 (subE a b)])))
            (Done
              (Value.tuple #[Value.int IntKind.i64 (IntKind.i64.wrap (a - b)), Value.int IntKind.i64 (0 : Int)] =
                Value.tuple #[Value.int IntKind.i64 (subV a b), Value.int IntKind.i64 (subE a b)])))) (by kernel_rfl) ?_
  refine ⟨rfl, ?_⟩
  repeat' (refine ifB_intro (fun h => ?_) (fun h => ?_))
  all_goals refine ⟨?_⟩
  all_goals (by_cases hin : In64 (a - b) <;> simp [subV, subE, hin] <;> simp [IntKind.wrap_i64, In64] at * <;> omega)
theorem may_q (a b : Int) (m : M) : QSpec Try.prog 17 [sp a b] m (.bool (decide (a ≤ b))) := by
  refine QSpec.of_vc Try.func17 (ann := fun _ => noAnn) fun n hn => ?_
  refine vc_by (X :=
      true = true ∧ Done (Value.bool (decide (a ≤ b)) = Value.bool (decide (a ≤ b)))) (by kernel_rfl) ?_
  exact ⟨rfl, ⟨rfl⟩⟩
theorem has_q (a b v : Int) (m : M) : QSpec Try.prog 16 [sp a b, I v] m (.bool (hasB a b v)) := by
  refine QSpec.of_vc Try.func16 (ann := fun _ => noAnn) fun n hn => ?_
  refine vc_by (X :=
      true = true ∧ ifB (decide (a ≤ v)) (Done (Value.bool (decide (v ≤ b)) = Value.bool (hasB a b v))) (Done (Value.bool false = Value.bool (hasB a b v)))) (by kernel_rfl) ?_
  refine ⟨rfl, ?_⟩
  repeat' (refine ifB_intro (fun h => ?_) (fun h => ?_))
  all_goals (refine ⟨?_⟩; simp [hasB, h])
theorem awake_q (m : M) : QSpec Try.prog 13 [] m (.bool true) := by
  refine QSpec.of_vc Try.func13 (ann := fun _ => noAnn) fun n hn => ?_
  refine vc_by (X :=
      true = true ∧
        ∃ (n_1 : Int),
          ∃ (n_2 : Int),
            QSpec Try.prog (12 : Nat) [Value.int IntKind.i64 (2 : Int), Value.int IntKind.i64 (3 : Int)] { π := m.π, sz := n, uf := m.uf : M }
                (Value.tuple #[Value.int IntKind.i64 n_1, Value.int IntKind.i64 n_2]) ∧
              ifB (n_2 == (0 : Int))
                (ifB (n_1 == (5 : Int))
                  (∃ (b : Bool),
                    QSpec Try.prog (17 : Nat) [Value.agg #[Value.int IntKind.i64 (1 : Int), Value.int IntKind.i64 (2 : Int)]] { π := m.π, sz := n, uf := m.uf : M } (Value.bool b) ∧
                      Done (Value.bool b = Value.bool true))
                  (Done (Value.bool false = Value.bool true)))
                (Done (Value.bool false = Value.bool true))) (by kernel_rfl) ?_
  refine ⟨rfl, addV 2 3, addE 2 3, add_q 2 3 (by decide) (by decide) _, ?_⟩
  refine ifB_intro (fun h => ?_) (fun h => absurd h (by decide))
  refine ifB_intro (fun h => ?_) (fun h => absurd h (by decide))
  exact ⟨_, may_q 1 2 _, ⟨rfl⟩⟩
theorem room_q (a b v : Int) (ha : In64 a) (hb : In64 b) (hv : In64 v) (m : M) : QSpec Try.prog 15 [sp a b, I v] m (.tuple #[U (roomD a b v), U (roomU a b v)]) := by
  refine QSpec.of_vc Try.func15 (ann := fun _ => noAnn) fun n hn => ?_
  refine vc_by (X :=
      true = true ∧
        ∃ (b_1 : Bool),
          QSpec Try.prog (16 : Nat) [Value.agg #[Value.int IntKind.i64 a, Value.int IntKind.i64 b], Value.int IntKind.i64 v] { π := m.π, sz := n, uf := m.uf : M } (Value.bool b_1) ∧
            ifB (!b_1)
              (Done
                (Value.tuple #[Value.int IntKind.u64 (0 : Int), Value.int IntKind.u64 (0 : Int)] =
                  Value.tuple #[Value.int IntKind.u64 (roomD a b v), Value.int IntKind.u64 (roomU a b v)]))
              (true = true ∧
                Done
                  (Value.tuple
                      #[Value.int IntKind.u64 (IntKind.u64.wrap (IntKind.u64.wrap v - IntKind.u64.wrap a)),
                        Value.int IntKind.u64 (IntKind.u64.wrap (IntKind.u64.wrap b - IntKind.u64.wrap v))] =
                    Value.tuple #[Value.int IntKind.u64 (roomD a b v), Value.int IntKind.u64 (roomU a b v)]))) (by kernel_rfl) ?_
  refine ⟨rfl, _, has_q a b v _, ?_⟩
  cases hh : hasB a b v
  · exact ⟨by simp [roomD, roomU, hh]⟩
  · refine ⟨rfl, ⟨?_⟩⟩
    simp [hasB] at hh
    simp [roomD, roomU, hasB, hh]
    simp [IntKind.wrap_u64, In64] at *
    omega
theorem meet_q (a b c d : Int) (m : M) : QSpec Try.prog 18 [sp a b, sp c d] m (.tuple #[sp (meetLo a b c d) (meetHi a b c d), .bool (meetOk a b c d)]) := by
  have e1 : (if c > a then c else a) = max a c := by omega
  have e2 : (if d < b then d else b) = min b d := by omega
  refine QSpec.of_vc Try.func18 (ann := fun _ => noAnn) fun n hn => ?_
  refine vc_by (X :=
      true = true ∧
        ∃ (b_1 : Bool),
          QSpec Try.prog (17 : Nat) [Value.agg #[Value.int IntKind.i64 a, Value.int IntKind.i64 b]] { π := m.π, sz := n, uf := m.uf : M } (Value.bool b_1) ∧
            ifB (!b_1)
              (Done
                (Value.tuple #[Value.agg #[Value.int IntKind.i64 (0 : Int), Value.int IntKind.i64 (0 : Int)], Value.bool false] =
                  Value.tuple #[Value.agg #[Value.int IntKind.i64 (meetLo a b c d), Value.int IntKind.i64 (meetHi a b c d)], Value.bool (meetOk a b c d)]))
              (∃ (b_2 : Bool),
                QSpec Try.prog (17 : Nat) [Value.agg #[Value.int IntKind.i64 c, Value.int IntKind.i64 d]] { π := m.π, sz := n, uf := m.uf : M } (Value.bool b_2) ∧
                  ifB (!b_2)
                    (Done
                      (Value.tuple #[Value.agg #[Value.int IntKind.i64 (0 : Int), Value.int IntKind.i64 (0 : Int)], Value.bool false] =
                        Value.tuple #[Value.agg #[Value.int IntKind.i64 (meetLo a b c d), Value.int IntKind.i64 (meetHi a b c d)], Value.bool (meetOk a b c d)]))
                    (∃ (b_3 : Bool),
                      QSpec Try.prog (17 : Nat) [Value.agg #[Value.int IntKind.i64 (if c > a then c else a), Value.int IntKind.i64 (if d < b then d else b)]]
                          { π := m.π, sz := n, uf := m.uf : M } (Value.bool b_3) ∧
                        ifB (!b_3)
                          (Done
                            (Value.tuple #[Value.agg #[Value.int IntKind.i64 (0 : Int), Value.int IntKind.i64 (0 : Int)], Value.bool false] =
                              Value.tuple #[Value.agg #[Value.int IntKind.i64 (meetLo a b c d), Value.int IntKind.i64 (meetHi a b c d)], Value.bool (meetOk a b c d)]))
                          (Done
                            (Value.tuple #[Value.agg #[Value.int IntKind.i64 (if c > a then c else a), Value.int IntKind.i64 (if d < b then d else b)], Value.bool true] =
                              Value.tuple #[Value.agg #[Value.int IntKind.i64 (meetLo a b c d), Value.int IntKind.i64 (meetHi a b c d)], Value.bool (meetOk a b c d)]))))) (by kernel_rfl) ?_
  rw [e1, e2]
  refine ⟨rfl, _, may_q a b _, ifB_intro (fun h => ?_) (fun h => ⟨_, may_q c d _, ifB_intro (fun h2 => ?_) (fun h2 => ⟨_, may_q _ _ _, ifB_intro (fun h3 => ?_) (fun h3 => ?_)⟩)⟩)⟩
  all_goals refine ⟨?_⟩
  all_goals simp at *
  all_goals simp [meetLo, meetHi, meetOk, *]
  all_goals omega
theorem add_ok (a b : Int) : addE a b = 0 ↔ In64 (a + b) := by unfold addE; split <;> simp [*]
theorem shift_q (a b k : Int) (ha : In64 a) (hb : In64 b) (hk : In64 k) (m : M) : QSpec Try.prog 31 [sp a b, I k] m (.tuple #[sp (shiftLo a b k) (shiftHi a b k), I (shiftE a b k)]) := by
  refine QSpec.of_vc Try.func31 (ann := fun _ => noAnn) fun n hn => ?_
  refine vc_by (X :=
      true = true ∧
        ∃ (b_1 : Bool),
          QSpec Try.prog (17 : Nat) [Value.agg #[Value.int IntKind.i64 a, Value.int IntKind.i64 b]] { π := m.π, sz := n, uf := m.uf : M } (Value.bool b_1) ∧
            ifB (!b_1)
              (Done
                (Value.tuple #[Value.agg #[Value.int IntKind.i64 (0 : Int), Value.int IntKind.i64 (0 : Int)], Value.int IntKind.i64 (1 : Int)] =
                  Value.tuple #[Value.agg #[Value.int IntKind.i64 (shiftLo a b k), Value.int IntKind.i64 (shiftHi a b k)], Value.int IntKind.i64 (shiftE a b k)]))
              (∃ (n_1 : Int),
                ∃ (n_2 : Int),
                  QSpec Try.prog (12 : Nat) [Value.int IntKind.i64 a, Value.int IntKind.i64 k] { π := m.π, sz := n, uf := m.uf : M }
                      (Value.tuple #[Value.int IntKind.i64 n_1, Value.int IntKind.i64 n_2]) ∧
                    ∃ (n_3 : Int),
                      ∃ (n_4 : Int),
                        QSpec Try.prog (12 : Nat) [Value.int IntKind.i64 b, Value.int IntKind.i64 k] { π := m.π, sz := n, uf := m.uf : M }
                            (Value.tuple #[Value.int IntKind.i64 n_3, Value.int IntKind.i64 n_4]) ∧
                          ifB (n_2 != (0 : Int))
                            (Done
                              (Value.tuple #[Value.agg #[Value.int IntKind.i64 (0 : Int), Value.int IntKind.i64 (0 : Int)], Value.int IntKind.i64 (10 : Int)] =
                                Value.tuple #[Value.agg #[Value.int IntKind.i64 (shiftLo a b k), Value.int IntKind.i64 (shiftHi a b k)], Value.int IntKind.i64 (shiftE a b k)]))
                            (ifB (n_4 != (0 : Int))
                              (Done
                                (Value.tuple #[Value.agg #[Value.int IntKind.i64 (0 : Int), Value.int IntKind.i64 (0 : Int)], Value.int IntKind.i64 (10 : Int)] =
                                  Value.tuple #[Value.agg #[Value.int IntKind.i64 (shiftLo a b k), Value.int IntKind.i64 (shiftHi a b k)], Value.int IntKind.i64 (shiftE a b k)]))
                              (Done
                                (Value.tuple #[Value.agg #[Value.int IntKind.i64 n_1, Value.int IntKind.i64 n_3], Value.int IntKind.i64 (0 : Int)] =
                                  Value.tuple #[Value.agg #[Value.int IntKind.i64 (shiftLo a b k), Value.int IntKind.i64 (shiftHi a b k)], Value.int IntKind.i64 (shiftE a b k)]))))) (by kernel_rfl) ?_
  refine ⟨rfl, _, may_q a b _, ?_⟩
  by_cases h : b < a
  · have h' : decide (a ≤ b) = false := by simpa using h
    rw [h']
    exact ⟨by simp [shiftLo, shiftHi, shiftE, h]⟩
  · have h' : decide (a ≤ b) = true := by simp; omega
    rw [h']
    refine ⟨_, _, add_q a k ha hk _, _, _, add_q b k hb hk _, ?_⟩
    by_cases h1 : In64 (a + k) <;> by_cases h2 : In64 (b + k) <;> simp [addE, addV, shiftLo, shiftHi, shiftE, h, h1, h2, ifB, done_iff]
theorem div_facts (a b : Int) (ha : 0 ≤ a) (hb : 1 ≤ b) : 0 ≤ a / b ∧ a / b ≤ a ∧ 0 ≤ a % b ∧ a % b < b ∧ a / b * b = a - a % b ∧ a / b ≤ a - a % b := by
  have h1 := Int.ediv_nonneg ha (by omega : 0 ≤ b)
  have h2 := Int.emod_nonneg a (by omega : b ≠ 0)
  have h3 := Int.emod_lt_of_pos a (by omega : 0 < b)
  have h4 := Int.mul_ediv_add_emod a b
  have h5 := Int.ediv_le_self b ha
  have h6 : a / b * 1 ≤ a / b * b := Int.mul_le_mul_of_nonneg_left hb h1
  have h7 : a / b * b = a - a % b := by rw [Int.mul_comm]; omega
  exact ⟨h1, h5, h2, h3, h7, by omega⟩
theorem share_q (a b c : Int) (ha : InU a) (hb : In64 b) (hc : In64 c) (m : M) : QSpec Try.prog 19 [U a, I b, I c] m (U (shareV a b c)) := by
  refine QSpec.of_vc Try.func19 (ann := fun _ => noAnn) fun n hn => ?_
  refine vc_by (X :=
      true = true ∧
        ifB (decide (b < (1 : Int))) (Done (Value.int IntKind.u64 (0 : Int) = Value.int IntKind.u64 (shareV a b c)))
          (ifB (decide (c < (0 : Int))) (Done (Value.int IntKind.u64 (0 : Int) = Value.int IntKind.u64 (shareV a b c)))
            (ifB (decide (c ≥ b)) (Done (Value.int IntKind.u64 (0 : Int) = Value.int IntKind.u64 (shareV a b c)))
              (true = true ∧
                IntKind.u64.wrap b ≠ (0 : Int) ∧
                  IntKind.u64.wrap b ≠ (0 : Int) ∧
                    ifB (decide (IntKind.u64.wrap c < a.tmod (IntKind.u64.wrap b)))
                      (Done (Value.int IntKind.u64 (IntKind.u64.wrap (IntKind.u64.wrap (a.tdiv (IntKind.u64.wrap b)) + (1 : Int))) = Value.int IntKind.u64 (shareV a b c)))
                      (Done (Value.int IntKind.u64 (IntKind.u64.wrap (a.tdiv (IntKind.u64.wrap b))) = Value.int IntKind.u64 (shareV a b c))))))) (by kernel_rfl) ?_
  unfold InU at ha
  unfold In64 at hb hc
  refine ⟨rfl, ifB_intro (fun h => ⟨?_⟩) (fun h => ifB_intro (fun h2 => ⟨?_⟩) (fun h2 => ifB_intro (fun h3 => ⟨?_⟩) (fun h3 => ?_)))⟩
  · simp at h; simp [shareV, h]
  · simp at h h2; simp [shareV, h2]
  · simp at h h2 h3; simp [shareV, h3]
  · simp at h h2 h3
    have hw : IntKind.u64.wrap b = b := by simp [IntKind.wrap_u64]; omega
    have hw2 : IntKind.u64.wrap c = c := by simp [IntKind.wrap_u64]; omega
    rw [hw, hw2, Int.tdiv_eq_ediv_of_nonneg ha.1, Int.tmod_eq_emod_of_nonneg ha.1]
    have hd := div_facts a b ha.1 (by omega)
    refine ⟨rfl, by omega, by omega, ifB_intro (fun h4 => ⟨?_⟩) (fun h4 => ⟨?_⟩)⟩
    · simp at h4
      have hne : ¬ (b < 1 ∨ c < 0 ∨ b ≤ c) := by omega
      simp [shareV, h4, hne, IntKind.wrap_u64]
      omega
    · simp at h4
      have hne : ¬ (b < 1 ∨ c < 0 ∨ b ≤ c) := by omega
      have h4' : ¬ c < a % b := by omega
      simp [shareV, h4', hne, IntKind.wrap_u64]
      omega
theorem rshare_q (a b c : Int) (ha : InU a) (hb : In64 b) (hc : In64 c) (m : M) : QSpec Try.prog 22 [U a, I b, I c] m (U (shareV a b c)) := by
  refine QSpec.of_vc Try.func22 (ann := fun _ => noAnn) fun n hn => ?_
  refine vc_by (X :=
      true = true ∧
        ifB (decide (b < (1 : Int))) (Done (Value.int IntKind.u64 (0 : Int) = Value.int IntKind.u64 (shareV a b c)))
          (ifB (decide (c < (0 : Int))) (Done (Value.int IntKind.u64 (0 : Int) = Value.int IntKind.u64 (shareV a b c)))
            (ifB (decide (c ≥ b)) (Done (Value.int IntKind.u64 (0 : Int) = Value.int IntKind.u64 (shareV a b c)))
              (IntKind.u64.wrap b ≠ (0 : Int) ∧
                ifB (decide (IntKind.u64.wrap c < IntKind.u64.wrap (a - IntKind.u64.wrap (IntKind.u64.wrap (a.tdiv (IntKind.u64.wrap b)) * IntKind.u64.wrap b))))
                  (Done (Value.int IntKind.u64 (IntKind.u64.wrap (IntKind.u64.wrap (a.tdiv (IntKind.u64.wrap b)) + (1 : Int))) = Value.int IntKind.u64 (shareV a b c)))
                  (Done (Value.int IntKind.u64 (IntKind.u64.wrap (a.tdiv (IntKind.u64.wrap b))) = Value.int IntKind.u64 (shareV a b c))))))) (by kernel_rfl) ?_
  unfold InU at ha
  unfold In64 at hb hc
  refine ⟨rfl, ifB_intro (fun h => ⟨?_⟩) (fun h => ifB_intro (fun h2 => ⟨?_⟩) (fun h2 => ifB_intro (fun h3 => ⟨?_⟩) (fun h3 => ?_)))⟩
  · simp at h; simp [shareV, h]
  · simp at h h2; simp [shareV, h2]
  · simp at h h2 h3; simp [shareV, h3]
  · simp at h h2 h3
    have hw : IntKind.u64.wrap b = b := by simp [IntKind.wrap_u64]; omega
    have hw2 : IntKind.u64.wrap c = c := by simp [IntKind.wrap_u64]; omega
    have hd := div_facts a b ha.1 (by omega)
    have hw3 : IntKind.u64.wrap (a / b) = a / b := by simp [IntKind.wrap_u64]; omega
    rw [hw, hw2, Int.tdiv_eq_ediv_of_nonneg ha.1, hw3, hd.2.2.2.2.1]
    have hw4 : IntKind.u64.wrap (a - IntKind.u64.wrap (a - a % b)) = a % b := by simp [IntKind.wrap_u64]; omega
    rw [hw4]
    have hne : ¬ (b < 1 ∨ c < 0 ∨ b ≤ c) := by omega
    refine ⟨by omega, ifB_intro (fun h4 => ⟨?_⟩) (fun h4 => ⟨?_⟩)⟩
    · simp at h4
      simp [shareV, h4, hne, IntKind.wrap_u64]
      omega
    · simp at h4
      have h4' : ¬ c < a % b := by omega
      simp [shareV, h4', hne]
theorem fit_q (a : Int) (ha : InU a) (m : M) : QSpec Try.prog 20 [U a] m (I (fitV a)) := by
  refine QSpec.of_vc Try.func20 (ann := fun _ => noAnn) fun n hn => ?_
  refine vc_by (X :=
      true = true ∧ Done (Value.int IntKind.i64 (IntKind.i64.wrap (if (9223372036854775807 : Int) < a then (9223372036854775807 : Int) else a)) = Value.int IntKind.i64 (fitV a))) (by kernel_rfl) ?_
  refine ⟨rfl, ⟨?_⟩⟩
  simp [fitV, IntKind.wrap_i64, InU] at *
  omega
theorem rfit_q (a : Int) (ha : InU a) (m : M) : QSpec Try.prog 21 [U a] m (I (fitV a)) := by
  refine QSpec.of_vc Try.func21 (ann := fun _ => noAnn) fun n hn => ?_
  refine vc_by (X :=
      true = true ∧ Done (Value.int IntKind.i64 (IntKind.i64.wrap (if (9223372036854775807 : Int) < a then (9223372036854775807 : Int) else a)) = Value.int IntKind.i64 (fitV a))) (by kernel_rfl) ?_
  refine ⟨rfl, ⟨?_⟩⟩
  simp [fitV, IntKind.wrap_i64, InU] at *
  omega
theorem rhas_q (a b v : Int) (m : M) : QSpec Try.prog 33 [sp a b, I v] m (.bool (hasB a b v)) := by
  refine QSpec.of_vc Try.func33 (ann := fun _ => noAnn) fun n hn => ?_
  refine vc_by (X :=
      true = true ∧ ifB (decide (a ≤ v)) (Done (Value.bool (decide (v ≤ b)) = Value.bool (hasB a b v))) (Done (Value.bool false = Value.bool (hasB a b v)))) (by kernel_rfl) ?_
  refine ⟨rfl, ?_⟩
  repeat' (refine ifB_intro (fun h => ?_) (fun h => ?_))
  all_goals (refine ⟨?_⟩; simp [hasB, h])

def wideHi (W : Int) : Int := IntKind.i64.wrap (W / 18446744073709551616)
def wideLo (W : Int) : Int := W % 18446744073709551616
abbrev wide (W : Int) : Value := .agg #[I (wideHi W), U (wideLo W)]
theorem add64 (x y c : Int) (hx : 0 ≤ x ∧ x < 18446744073709551616) (hy : 0 ≤ y ∧ y < 18446744073709551616) (hc : c = 0 ∨ c = 1) : CallV Try.prog 37 [U x, U y, U c] (.tuple #[U ((x + y + c) % 18446744073709551616), U ((x + y + c) / 18446744073709551616)]) := by
  refine ⟨?_⟩
  rcases hc with rfl | rfl
  all_goals
    show (Value.tuple #[.int .u64 (Int.ofNat ((x.toNat + y.toNat + Int.toNat _) % Extern.MathBitsCarry.m64)), .int .u64 (Int.ofNat ((x.toNat + y.toNat + Int.toNat _) / Extern.MathBitsCarry.m64))]) = _
    simp only [Extern.MathBitsCarry.m64, Value.tuple.injEq, Array.mk.injEq, List.cons.injEq, Value.int.injEq, true_and, and_true]
    constructor <;> simp <;> omega
theorem plus_q (W k : Int) (hk : In64 k) (m : M) : QSpec Try.prog 40 [wide W, I k] m (wide (W + k)) := by
  refine QSpec.of_vc Try.func40 (ann := fun _ => noAnn) fun n hn => ?_
  refine vc_by (X :=
      true = true ∧
        ∃ (n : Int),
          ∃ (n_1 : Int),
            CallV Try.prog (37 : Nat) [Value.int IntKind.u64 (wideLo W), Value.int IntKind.u64 (IntKind.u64.wrap k), Value.int IntKind.u64 (0 : Int)]
                (Value.tuple #[Value.int IntKind.u64 n, Value.int IntKind.u64 n_1]) ∧
              ifB (decide (k < (0 : Int)))
                (Done
                  (Value.agg #[Value.int IntKind.i64 (IntKind.i64.wrap (IntKind.i64.wrap (wideHi W + IntKind.i64.wrap n_1) - (1 : Int))), Value.int IntKind.u64 n] =
                    Value.agg #[Value.int IntKind.i64 (wideHi (W + k)), Value.int IntKind.u64 (wideLo (W + k))]))
                (Done
                  (Value.agg #[Value.int IntKind.i64 (IntKind.i64.wrap (wideHi W + IntKind.i64.wrap n_1)), Value.int IntKind.u64 n] =
                    Value.agg #[Value.int IntKind.i64 (wideHi (W + k)), Value.int IntKind.u64 (wideLo (W + k))]))) (by kernel_rfl) ?_
  unfold In64 at hk
  refine ⟨rfl, _, _, add64 _ _ _ (by unfold wideLo; omega) (by simp [IntKind.wrap_u64]; omega) (.inl rfl), ifB_intro (fun h => ⟨?_⟩) (fun h => ⟨?_⟩)⟩
  all_goals
    simp at h
    simp [wideHi, wideLo, IntKind.wrap_i64, IntKind.wrap_u64]
    omega
theorem not_int (k : Int) (hk : In64 k) : IntKind.i64.wrap ((BitVec.ofInt IntKind.i64.bits (-1) ^^^ BitVec.ofInt IntKind.i64.bits k).toNat : Int) = -k - 1 := by
  have e1 : BitVec.ofInt IntKind.i64.bits (-1) = BitVec.allOnes 64 := rfl
  have e2 : (BitVec.allOnes 64 ^^^ BitVec.ofInt 64 k) = ~~~ (BitVec.ofInt 64 k) := by rw [BitVec.xor_comm]; exact BitVec.xor_allOnes
  rw [e1]
  show IntKind.i64.wrap ((BitVec.allOnes 64 ^^^ BitVec.ofInt 64 k).toNat : Int) = -k - 1
  rw [e2, BitVec.toNat_not, BitVec.toNat_ofInt]
  unfold In64 at hk
  simp [IntKind.wrap_i64]
  omega
theorem less_q (W k : Int) (hk : In64 k) (m : M) : QSpec Try.prog 36 [wide W, I k] m (wide (W - k)) := by
  refine QSpec.of_vc Try.func36 (ann := fun _ => noAnn) fun n hn => ?_
  refine vc_by (X :=
      true = true ∧
        ∃ (n_1 : Int),
          ∃ (n_2 : Int),
            QSpec Try.prog (40 : Nat)
                [Value.agg #[Value.int IntKind.i64 (wideHi W), Value.int IntKind.u64 (wideLo W)],
                  Value.int IntKind.i64 (IntKind.i64.wrap (↑(BitVec.ofInt (64 : Nat) (if true = true then (-1 : Int) else IntKind.i64.max) ^^^ BitVec.ofInt (64 : Nat) k).toNat : Int))]
                { π := m.π, sz := n, uf := m.uf : M } (Value.agg #[Value.int IntKind.i64 n_1, Value.int IntKind.u64 n_2]) ∧
              ∃ (n_3 : Int),
                ∃ (n_4 : Int),
                  QSpec Try.prog (40 : Nat) [Value.agg #[Value.int IntKind.i64 n_1, Value.int IntKind.u64 n_2], Value.int IntKind.i64 (1 : Int)] { π := m.π, sz := n, uf := m.uf : M }
                      (Value.agg #[Value.int IntKind.i64 n_3, Value.int IntKind.u64 n_4]) ∧
                    Done (Value.agg #[Value.int IntKind.i64 n_3, Value.int IntKind.u64 n_4] = Value.agg #[Value.int IntKind.i64 (wideHi (W - k)), Value.int IntKind.u64 (wideLo (W - k))])) (by kernel_rfl) ?_
  have e : IntKind.i64.wrap ((BitVec.ofInt 64 (if true = true then -1 else IntKind.i64.max) ^^^ BitVec.ofInt 64 k).toNat : Int) = -k - 1 := not_int k hk
  rw [e]
  have e2 : W + (-k - 1) + 1 = W - k := by omega
  have hk' : In64 (-k - 1) := by unfold In64 at *; omega
  have h1 := plus_q (W + (-k - 1)) 1 (by decide) { m with sz := n }
  rw [e2] at h1
  exact ⟨rfl, _, _, plus_q W (-k - 1) hk' _, _, _, h1, ⟨rfl⟩⟩
theorem int_q (W : Int) (h1 : -85070591730234615865843651857942052864 ≤ W) (h2 : W ≤ 85070591730234615865843651857942052864) (m : M) :
    QSpec Try.prog 39 [wide W] m (.tuple #[I (IntKind.i64.wrap W), .bool (decide (In64 W))]) := by
  refine QSpec.of_vc Try.func39 (ann := fun _ => noAnn) fun n hn => ?_
  refine vc_by (X :=
      true = true ∧
        true = true ∧
          ifB (wideHi W == (0 : Int))
            (ifB (decide (wideLo W < (9223372036854775808 : Int)))
              (Done
                (Value.tuple #[Value.int IntKind.i64 (IntKind.i64.wrap (wideLo W)), Value.bool true] =
                  Value.tuple #[Value.int IntKind.i64 (IntKind.i64.wrap W), Value.bool (decide (In64 W))]))
              (ifB (wideHi W == (-1 : Int))
                (Done
                  (Value.tuple #[Value.int IntKind.i64 (IntKind.i64.wrap (wideLo W)), Value.bool (decide (wideLo W ≥ (9223372036854775808 : Int)))] =
                    Value.tuple #[Value.int IntKind.i64 (IntKind.i64.wrap W), Value.bool (decide (In64 W))]))
                (Done
                  (Value.tuple #[Value.int IntKind.i64 (IntKind.i64.wrap (wideLo W)), Value.bool false] =
                    Value.tuple #[Value.int IntKind.i64 (IntKind.i64.wrap W), Value.bool (decide (In64 W))]))))
            (ifB (wideHi W == (-1 : Int))
              (Done
                (Value.tuple #[Value.int IntKind.i64 (IntKind.i64.wrap (wideLo W)), Value.bool (decide (wideLo W ≥ (9223372036854775808 : Int)))] =
                  Value.tuple #[Value.int IntKind.i64 (IntKind.i64.wrap W), Value.bool (decide (In64 W))]))
              (Done
                (Value.tuple #[Value.int IntKind.i64 (IntKind.i64.wrap (wideLo W)), Value.bool false] =
                  Value.tuple #[Value.int IntKind.i64 (IntKind.i64.wrap W), Value.bool (decide (In64 W))])))) (by kernel_rfl) ?_
  refine ⟨rfl, rfl, ?_⟩
  repeat' (refine ifB_intro (fun h => ?_) (fun h => ?_))
  all_goals refine ⟨?_⟩
  all_goals simp only [Value.tuple.injEq, Array.mk.injEq, List.cons.injEq, Value.bool.injEq, and_true, eq_comm (a := true), eq_comm (a := false), decide_eq_true_eq, decide_eq_false_iff_not, decide_eq_decide, beq_iff_eq, beq_eq_false_iff_ne] at *
  all_goals simp [wideHi, wideLo, IntKind.wrap_i64, In64] at *
  all_goals omega
theorem told_q (W : Int) (h1 : -85070591730234615865843651857942052864 ≤ W) (h2 : W ≤ 85070591730234615865843651857942052864) (m : M) :
    QSpec Try.prog 34 [wide W] m (.tuple #[I (if In64 W then W else 0), I (if In64 W then 0 else 10)]) := by
  refine QSpec.of_vc Try.func34 (ann := fun _ => noAnn) fun n hn => ?_
  refine vc_by (X :=
      true = true ∧
        ∃ (n_1 : Int),
          ∃ (b : Bool),
            QSpec Try.prog (39 : Nat) [Value.agg #[Value.int IntKind.i64 (wideHi W), Value.int IntKind.u64 (wideLo W)]] { π := m.π, sz := n, uf := m.uf : M }
                (Value.tuple #[Value.int IntKind.i64 n_1, Value.bool b]) ∧
              ifB (!b)
                (Done
                  (Value.tuple #[Value.int IntKind.i64 (0 : Int), Value.int IntKind.i64 (10 : Int)] =
                    Value.tuple #[Value.int IntKind.i64 (if In64 W then W else (0 : Int)), Value.int IntKind.i64 (if In64 W then (0 : Int) else (10 : Int))]))
                (Done
                  (Value.tuple #[Value.int IntKind.i64 n_1, Value.int IntKind.i64 (0 : Int)] =
                    Value.tuple #[Value.int IntKind.i64 (if In64 W then W else (0 : Int)), Value.int IntKind.i64 (if In64 W then (0 : Int) else (10 : Int))]))) (by kernel_rfl) ?_
  refine ⟨rfl, _, _, int_q W h1 h2 _, ?_⟩
  by_cases h : In64 W
  · simp [h, ifB, done_iff]
    simp [In64, IntKind.wrap_i64] at *; omega
  · simp [h, ifB, done_iff]

/-- the sum of many, in order -/
def sumI (l : List Int) : Int := l.foldl (· + ·) 0
theorem foldl_add (l : List Int) (a : Int) : l.foldl (· + ·) a = a + l.foldl (· + ·) 0 := by
  induction l generalizing a with
  | nil => simp
  | cons x r ih => simp only [List.foldl_cons]; rw [ih, ih (0 + x)]; omega
theorem sumI_take (l : List Int) (k : Nat) (h : k < l.length) : sumI (l.take (k + 1)) = sumI (l.take k) + l[k] := by
  unfold sumI
  rw [List.take_succ_eq_append_getElem h, List.foldl_append]
  simp
theorem sumI_bound (l : List Int) (h : ∀ x ∈ l, In64 x) : -9223372036854775808 * (l.length : Int) ≤ sumI l ∧ sumI l ≤ 9223372036854775807 * (l.length : Int) := by
  induction l with
  | nil => simp [sumI]
  | cons x r ih =>
    have := ih (fun y hy => h y (by simp [hy]))
    have hx := h x (by simp)
    unfold In64 at hx
    have e : sumI (x :: r) = x + sumI r := by simp only [sumI, List.foldl_cons]; rw [foldl_add]; simp
    rw [e]
    simp only [List.length_cons, Int.natCast_add]
    omega
abbrev ints (l : List Int) : List Value := l.flatMap fun x => [I x]
theorem ints_len (l : List Int) : (ints l).length = l.length := by
  induction l with
  | nil => rfl
  | cons x r ih => simp only [ints, List.flatMap_cons, List.length_append, List.length_cons, List.length_nil] at *; omega
theorem ints_at {m : M} {b o i : Nat} {l : List Int} (h : CellsAt m b o (ints l)) (hi : i < l.length) : CellsAt m b (o + i) [I l[i]] := by
  have := CellsAt.elem (k := 1) (enc := fun x => [I x]) (fun _ => rfl) l o i hi h
  simpa using this

def ofAnn (a : Option Addr) (c : Nat) (l : List Int) (m : M) : Ann where
  A := Nat
  inv k := k ≤ l.length
  st k := [(4, .val (I k)), (0, .val (.slice a l.length c)), (3, .own 2 0), (2, .own 0 0)]
  own k := [(0, ⟨53, [I 0, U 0]⟩), (2, ⟨53, [I (wideHi (sumI (l.take k))), U (wideLo (sumI (l.take k)))]⟩)]
  m _ := m
  μ k := l.length - k
theorem of_q (a : Option Addr) (c : Nat) (l : List Int) (hl : ∀ x ∈ l, In64 x) (hn : l.length ≤ 140737488355328) (m : M) (h : Row m a (ints l)) :
    QSpec Try.prog 35 [.slice a l.length c] m (wide (sumI l)) := by
  refine QSpec.of_vc Try.func35 (ann := fun n _ => ofAnn a c l { m with sz := n }) fun n hn => ?_
  refine vc_by (X :=
      true = true ∧
        (∃ (a_1 : Nat),
            a_1 ≤ l.length ∧
              { π := m.π, sz := n, uf := m.uf : M } = { π := m.π, sz := n, uf := m.uf : M } ∧
                ((SV.val (Value.int IntKind.i64 (0 : Int)) = SV.val (Value.int IntKind.i64 (↑a_1 : Int)) ∧ true = true) ∧
                    (SV.val (Value.slice a l.length c) = SV.val (Value.slice a l.length c) ∧ true = true) ∧
                      (SV.own ((0 : Nat) + (1 : Nat) + (1 : Nat)) (0 : Nat) = SV.own (2 : Nat) (0 : Nat) ∧ true = true) ∧
                        (SV.own ((0 : Nat) + (0 : Nat)) (0 : Nat) = SV.own (0 : Nat) (0 : Nat) ∧ true = true) ∧ True) ∧
                  (some { ty := (53 : Nat), cs := [Value.int IntKind.i64 (0 : Int), Value.int IntKind.u64 (0 : Int)] : Bx } =
                        some { ty := (53 : TypeId), cs := [Value.int IntKind.i64 (0 : Int), Value.int IntKind.u64 (0 : Int)] : Bx } ∧
                      true = true) ∧
                    (some { ty := (53 : Nat), cs := [Value.int IntKind.i64 (0 : Int), Value.int IntKind.u64 (0 : Int)] : Bx } =
                          some { ty := (53 : TypeId), cs := [Value.int IntKind.i64 (wideHi (sumI (List.take a_1 l))), Value.int IntKind.u64 (wideLo (sumI (List.take a_1 l)))] : Bx } ∧
                        true = true) ∧
                      True) ∧
          ∀ (a_1 : Nat),
            a_1 ≤ l.length →
              ifB (decide ((↑a_1 : Int) < (↑l.length : Int)))
                (true = true ∧
                  ∃ (b : Nat),
                    ∃ (off : Nat),
                      a = some { block := b, off := off : Addr } ∧
                        ((0 : Int) ≤ (↑a_1 : Int) ∧ (↑a_1 : Int) < (↑l.length : Int)) ∧
                          ∃ (n_1 : Int),
                            CellsAt { π := m.π, sz := n, uf := m.uf : M } b (off + (↑a_1 : Int).toNat * (1 : Nat)) [Value.int IntKind.i64 n_1] ∧
                              ∃ (n_2 : Int),
                                ∃ (n_3 : Int),
                                  QSpec Try.prog (40 : Nat)
                                      [Value.agg #[Value.int IntKind.i64 (wideHi (sumI (List.take a_1 l))), Value.int IntKind.u64 (wideLo (sumI (List.take a_1 l)))],
                                        Value.int IntKind.i64 n_1]
                                      { π := m.π, sz := n, uf := m.uf : M } (Value.agg #[Value.int IntKind.i64 n_2, Value.int IntKind.u64 n_3]) ∧
                                    ∃ (a' : Nat),
                                      (a' ≤ l.length ∧
                                          { π := m.π, sz := n, uf := m.uf : M } = { π := m.π, sz := n, uf := m.uf : M } ∧
                                            ((SV.val (Value.int IntKind.i64 (IntKind.i64.wrap ((↑a_1 : Int) + (1 : Int)))) = SV.val (Value.int IntKind.i64 (↑a' : Int)) ∧ true = true) ∧
                                                (SV.val (Value.slice a l.length c) = SV.val (Value.slice a l.length c) ∧ true = true) ∧
                                                  (SV.own (2 : Nat) (0 : Nat) = SV.own (2 : Nat) (0 : Nat) ∧ true = true) ∧
                                                    (SV.own (0 : Nat) (0 : Nat) = SV.own (0 : Nat) (0 : Nat) ∧ true = true) ∧ True) ∧
                                              (some { ty := (53 : TypeId), cs := [Value.int IntKind.i64 (0 : Int), Value.int IntKind.u64 (0 : Int)] : Bx } =
                                                    some { ty := (53 : TypeId), cs := [Value.int IntKind.i64 (0 : Int), Value.int IntKind.u64 (0 : Int)] : Bx } ∧
                                                  true = true) ∧
                                                (some { ty := (53 : TypeId), cs := [Value.int IntKind.i64 n_2, Value.int IntKind.u64 n_3] : Bx } =
                                                      some
                                                        { ty := (53 : TypeId),
                                                          cs := [Value.int IntKind.i64 (wideHi (sumI (List.take a' l))), Value.int IntKind.u64 (wideLo (sumI (List.take a' l)))] : Bx } ∧
                                                    true = true) ∧
                                                  True) ∧
                                        l.length - a' < l.length - a_1)
                (Done
                  (Value.agg #[Value.int IntKind.i64 (wideHi (sumI (List.take a_1 l))), Value.int IntKind.u64 (wideLo (sumI (List.take a_1 l)))] =
                    Value.agg #[Value.int IntKind.i64 (wideHi (sumI l)), Value.int IntKind.u64 (wideLo (sumI l))]))) (by kernel_rfl) ?_
  have h' := h.sz hn
  refine ⟨rfl, ⟨0, by simp [sumI, wideHi, wideLo, IntKind.wrap_i64]⟩, fun k hk => ifB_intro (fun hb => ?_) (fun hb => ⟨?_⟩)⟩
  · have hk2 : k < l.length := by simpa using hb
    obtain ⟨b, o, rfl, hc⟩ := h'.cells (by rw [ints_len]; omega)
    refine ⟨rfl, b, o, rfl, by omega, l[k], by simpa using ints_at hc hk2, _, _, plus_q _ _ (hl _ (List.getElem_mem hk2)) _, k + 1, ⟨hk2, rfl, ⟨⟨?_, rfl⟩, by simp⟩, ?_⟩, by omega⟩
    · simp [IntKind.wrap_i64]; omega
    · rw [sumI_take l k hk2]; simp
  · have : k = l.length := by simp at hb; omega
    subst this
    simp
end Go.Proofs.Ytfagpihpelgmiaa
