/-
  Contracts of functions of this seat: what each hands back, and what it leaves of memory (n01, opn, nums). Nothing here is trusted: Lean checks it.
-/
import Derived.Test.YtfagpihpelgmiaaVcLem
import Derived.Test.YtfagpihpelgmiaaVcOwned
import Derived.Test.YtfagpihpelgmiaaRows
import Derived.Test.YtfagpihpelgmiaaVcOpen
set_option linter.unusedVariables false
set_option linter.unusedSimpArgs false
namespace Go.Proofs.Ytfagpihpelgmiaa
open Go.Vc Go.RowKit
set_option maxRecDepth 100000

abbrev I (n : Int) : Value := .int .i64 n

abbrev U (n : Int) : Value := .int .u64 n

abbrev sp (lo hi : Int) : Value := .agg #[.int .i64 lo, .int .i64 hi]

def In64 (n : Int) : Prop := -9223372036854775808 ≤ n ∧ n ≤ 9223372036854775807

instance (n : Int) : Decidable (In64 n) := by unfold In64; infer_instance

def InU (n : Int) : Prop := 0 ≤ n ∧ n ≤ 18446744073709551615

def addV (a b : Int) : Int := if In64 (a + b) then a + b else 0

def addE (a b : Int) : Int := if In64 (a + b) then 0 else 10

def subV (a b : Int) : Int := if In64 (a - b) then a - b else 0

def subE (a b : Int) : Int := if In64 (a - b) then 0 else 10

def hasB (lo hi v : Int) : Bool := decide (lo ≤ v) && decide (v ≤ hi)

def roomD (lo hi v : Int) : Int := if hasB lo hi v then v - lo else 0

def roomU (lo hi v : Int) : Int := if hasB lo hi v then hi - v else 0

def meetOk (a b c d : Int) : Bool := decide (a ≤ b) && (decide (c ≤ d) && decide (max a c ≤ min b d))

def meetLo (a b c d : Int) : Int := if meetOk a b c d then max a c else 0

def meetHi (a b c d : Int) : Int := if meetOk a b c d then min b d else 0

def shiftE (a b k : Int) : Int := if b < a then 1 else if In64 (a + k) ∧ In64 (b + k) then 0 else 10

def shiftLo (a b k : Int) : Int := if b < a then 0 else if In64 (a + k) ∧ In64 (b + k) then a + k else 0

def shiftHi (a b k : Int) : Int := if b < a then 0 else if In64 (a + k) ∧ In64 (b + k) then b + k else 0

def shareV (n p i : Int) : Int := if p < 1 ∨ i < 0 ∨ p ≤ i then 0 else if i < n % p then n / p + 1 else n / p

def fitV (n : Int) : Int := min n 9223372036854775807

theorem add_q (a b : Int) (ha : In64 a) (hb : In64 b) (m : M) : QSpec Try.prog 12 [I a, I b] m (.tuple #[I (addV a b), I (addE a b)]) := by
  refine QSpec.of_vc Try.func12 (ann := fun _ => noAnn) fun n hn => ?_
  refine vc_by (X :=
      true = true ∧
      ifB (decide (a ≥ (0 : Int)))
      (ifB (decide (b ≥ (0 : Int)))
      (ifB (decide (IntKind.i64.wrap (a + b) < (0 : Int)))
      (Done
      (Value.tuple #[Value.int IntKind.i64 (0 : Int), Value.int IntKind.i64 (10 : Int)] = Value.tuple #[Value.int IntKind.i64 (addV a b), Value.int IntKind.i64 (addE a b)]))
      (ifB (decide (a < (0 : Int)))
      (ifB (decide (b < (0 : Int)))
      (ifB (decide (IntKind.i64.wrap (a + b) ≥ (0 : Int)))
      (Done
      (Value.tuple #[Value.int IntKind.i64 (0 : Int), Value.int IntKind.i64 (10 : Int)] =
      Value.tuple #[Value.int IntKind.i64 (addV a b), Value.int IntKind.i64 (addE a b)]))
      (Done
      (Value.tuple #[Value.int IntKind.i64 (IntKind.i64.wrap (a + b)), Value.int IntKind.i64 (0 : Int)] =
      Value.tuple #[Value.int IntKind.i64 (addV a b), Value.int IntKind.i64 (addE a b)])))
      (Done
      (Value.tuple #[Value.int IntKind.i64 (IntKind.i64.wrap (a + b)), Value.int IntKind.i64 (0 : Int)] =
      Value.tuple #[Value.int IntKind.i64 (addV a b), Value.int IntKind.i64 (addE a b)])))
      (Done
      (Value.tuple #[Value.int IntKind.i64 (IntKind.i64.wrap (a + b)), Value.int IntKind.i64 (0 : Int)] =
      Value.tuple #[Value.int IntKind.i64 (addV a b), Value.int IntKind.i64 (addE a b)]))))
      (ifB (decide (a < (0 : Int)))
      (ifB (decide (b < (0 : Int)))
      (ifB (decide (IntKind.i64.wrap (a + b) ≥ (0 : Int)))
      (Done
      (Value.tuple #[Value.int IntKind.i64 (0 : Int), Value.int IntKind.i64 (10 : Int)] =
      Value.tuple #[Value.int IntKind.i64 (addV a b), Value.int IntKind.i64 (addE a b)]))
      (Done
      (Value.tuple #[Value.int IntKind.i64 (IntKind.i64.wrap (a + b)), Value.int IntKind.i64 (0 : Int)] =
      Value.tuple #[Value.int IntKind.i64 (addV a b), Value.int IntKind.i64 (addE a b)])))
      (Done
      (Value.tuple #[Value.int IntKind.i64 (IntKind.i64.wrap (a + b)), Value.int IntKind.i64 (0 : Int)] =
      Value.tuple #[Value.int IntKind.i64 (addV a b), Value.int IntKind.i64 (addE a b)])))
      (Done
      (Value.tuple #[Value.int IntKind.i64 (IntKind.i64.wrap (a + b)), Value.int IntKind.i64 (0 : Int)] =
      Value.tuple #[Value.int IntKind.i64 (addV a b), Value.int IntKind.i64 (addE a b)]))))
      (ifB (decide (a < (0 : Int)))
      (ifB (decide (b < (0 : Int)))
      (ifB (decide (IntKind.i64.wrap (a + b) ≥ (0 : Int)))
      (Done
      (Value.tuple #[Value.int IntKind.i64 (0 : Int), Value.int IntKind.i64 (10 : Int)] = Value.tuple #[Value.int IntKind.i64 (addV a b), Value.int IntKind.i64 (addE a b)]))
      (Done
      (Value.tuple #[Value.int IntKind.i64 (IntKind.i64.wrap (a + b)), Value.int IntKind.i64 (0 : Int)] =
      Value.tuple #[Value.int IntKind.i64 (addV a b), Value.int IntKind.i64 (addE a b)])))
      (Done
      (Value.tuple #[Value.int IntKind.i64 (IntKind.i64.wrap (a + b)), Value.int IntKind.i64 (0 : Int)] =
      Value.tuple #[Value.int IntKind.i64 (addV a b), Value.int IntKind.i64 (addE a b)])))
      (Done
      (Value.tuple #[Value.int IntKind.i64 (IntKind.i64.wrap (a + b)), Value.int IntKind.i64 (0 : Int)] =
      Value.tuple #[Value.int IntKind.i64 (addV a b), Value.int IntKind.i64 (addE a b)])))) (by kernel_rfl) ?_
  refine ⟨rfl, ?_⟩
  repeat' (refine ifB_intro (fun h => ?_) (fun h => ?_))
  all_goals refine ⟨?_⟩
  all_goals (by_cases hin : In64 (a + b) <;> simp [addV, addE, hin] <;> simp [IntKind.wrap_i64, In64] at * <;> omega)

theorem sub_q (a b : Int) (ha : In64 a) (hb : In64 b) (m : M) : QSpec Try.prog 14 [I a, I b] m (.tuple #[I (subV a b), I (subE a b)]) := by
  refine QSpec.of_vc Try.func14 (ann := fun _ => noAnn) fun n hn => ?_
  refine vc_by (X :=
      true = true ∧
      ifB (decide (a ≥ (0 : Int)))
      (ifB (decide (b < (0 : Int)))
      (ifB (decide (IntKind.i64.wrap (a - b) < (0 : Int)))
      (Done
      (Value.tuple #[Value.int IntKind.i64 (0 : Int), Value.int IntKind.i64 (10 : Int)] = Value.tuple #[Value.int IntKind.i64 (subV a b), Value.int IntKind.i64 (subE a b)]))
      (ifB (decide (a < (0 : Int)))
      (ifB (decide (b ≥ (0 : Int)))
      (ifB (decide (IntKind.i64.wrap (a - b) ≥ (0 : Int)))
      (Done
      (Value.tuple #[Value.int IntKind.i64 (0 : Int), Value.int IntKind.i64 (10 : Int)] =
      Value.tuple #[Value.int IntKind.i64 (subV a b), Value.int IntKind.i64 (subE a b)]))
      (Done
      (Value.tuple #[Value.int IntKind.i64 (IntKind.i64.wrap (a - b)), Value.int IntKind.i64 (0 : Int)] =
      Value.tuple #[Value.int IntKind.i64 (subV a b), Value.int IntKind.i64 (subE a b)])))
      (Done
      (Value.tuple #[Value.int IntKind.i64 (IntKind.i64.wrap (a - b)), Value.int IntKind.i64 (0 : Int)] =
      Value.tuple #[Value.int IntKind.i64 (subV a b), Value.int IntKind.i64 (subE a b)])))
      (Done
      (Value.tuple #[Value.int IntKind.i64 (IntKind.i64.wrap (a - b)), Value.int IntKind.i64 (0 : Int)] =
      Value.tuple #[Value.int IntKind.i64 (subV a b), Value.int IntKind.i64 (subE a b)]))))
      (ifB (decide (a < (0 : Int)))
      (ifB (decide (b ≥ (0 : Int)))
      (ifB (decide (IntKind.i64.wrap (a - b) ≥ (0 : Int)))
      (Done
      (Value.tuple #[Value.int IntKind.i64 (0 : Int), Value.int IntKind.i64 (10 : Int)] =
      Value.tuple #[Value.int IntKind.i64 (subV a b), Value.int IntKind.i64 (subE a b)]))
      (Done
      (Value.tuple #[Value.int IntKind.i64 (IntKind.i64.wrap (a - b)), Value.int IntKind.i64 (0 : Int)] =
      Value.tuple #[Value.int IntKind.i64 (subV a b), Value.int IntKind.i64 (subE a b)])))
      (Done
      (Value.tuple #[Value.int IntKind.i64 (IntKind.i64.wrap (a - b)), Value.int IntKind.i64 (0 : Int)] =
      Value.tuple #[Value.int IntKind.i64 (subV a b), Value.int IntKind.i64 (subE a b)])))
      (Done
      (Value.tuple #[Value.int IntKind.i64 (IntKind.i64.wrap (a - b)), Value.int IntKind.i64 (0 : Int)] =
      Value.tuple #[Value.int IntKind.i64 (subV a b), Value.int IntKind.i64 (subE a b)]))))
      (ifB (decide (a < (0 : Int)))
      (ifB (decide (b ≥ (0 : Int)))
      (ifB (decide (IntKind.i64.wrap (a - b) ≥ (0 : Int)))
      (Done
      (Value.tuple #[Value.int IntKind.i64 (0 : Int), Value.int IntKind.i64 (10 : Int)] = Value.tuple #[Value.int IntKind.i64 (subV a b), Value.int IntKind.i64 (subE a b)]))
      (Done
      (Value.tuple #[Value.int IntKind.i64 (IntKind.i64.wrap (a - b)), Value.int IntKind.i64 (0 : Int)] =
      Value.tuple #[Value.int IntKind.i64 (subV a b), Value.int IntKind.i64 (subE a b)])))
      (Done
      (Value.tuple #[Value.int IntKind.i64 (IntKind.i64.wrap (a - b)), Value.int IntKind.i64 (0 : Int)] =
      Value.tuple #[Value.int IntKind.i64 (subV a b), Value.int IntKind.i64 (subE a b)])))
      (Done
      (Value.tuple #[Value.int IntKind.i64 (IntKind.i64.wrap (a - b)), Value.int IntKind.i64 (0 : Int)] =
      Value.tuple #[Value.int IntKind.i64 (subV a b), Value.int IntKind.i64 (subE a b)])))) (by kernel_rfl) ?_
  refine ⟨rfl, ?_⟩
  repeat' (refine ifB_intro (fun h => ?_) (fun h => ?_))
  all_goals refine ⟨?_⟩
  all_goals (by_cases hin : In64 (a - b) <;> simp [subV, subE, hin] <;> simp [IntKind.wrap_i64, In64] at * <;> omega)

theorem may_q (a b : Int) (m : M) : QSpec Try.prog 17 [sp a b] m (.bool (decide (a ≤ b))) := by
  refine QSpec.of_vc Try.func17 (ann := fun _ => noAnn) fun n hn => ?_
  refine vc_by (X :=
      true = true ∧ Done (Value.bool (decide (a ≤ b)) = Value.bool (decide (a ≤ b)))) (by kernel_rfl) ?_
  exact ⟨rfl, ⟨rfl⟩⟩

theorem has_q (a b v : Int) (m : M) : QSpec Try.prog 16 [sp a b, I v] m (.bool (hasB a b v)) := by
  refine QSpec.of_vc Try.func16 (ann := fun _ => noAnn) fun n hn => ?_
  refine vc_by (X :=
      true = true ∧ ifB (decide (a ≤ v)) (Done (Value.bool (decide (v ≤ b)) = Value.bool (hasB a b v))) (Done (Value.bool false = Value.bool (hasB a b v)))) (by kernel_rfl) ?_
  refine ⟨rfl, ?_⟩
  repeat' (refine ifB_intro (fun h => ?_) (fun h => ?_))
  all_goals (refine ⟨?_⟩; simp [hasB, h])

theorem awake_q (m : M) : QSpec Try.prog 13 [] m (.bool true) := by
  refine QSpec.of_vc Try.func13 (ann := fun _ => noAnn) fun n hn => ?_
  refine vc_by (X :=
      true = true ∧
      ∃ (n_1 : Int),
      ∃ (n_2 : Int),
      QSpec Try.prog (12 : Nat) [Value.int IntKind.i64 (2 : Int), Value.int IntKind.i64 (3 : Int)] { π := m.π, sz := n, uf := m.uf : M }
      (Value.tuple #[Value.int IntKind.i64 n_1, Value.int IntKind.i64 n_2]) ∧
      ifB (n_2 == (0 : Int))
      (ifB (n_1 == (5 : Int))
      (∃ (b : Bool),
      QSpec Try.prog (17 : Nat) [Value.agg #[Value.int IntKind.i64 (1 : Int), Value.int IntKind.i64 (2 : Int)]] { π := m.π, sz := n, uf := m.uf : M } (Value.bool b) ∧
      Done (Value.bool b = Value.bool true))
      (Done (Value.bool false = Value.bool true)))
      (Done (Value.bool false = Value.bool true))) (by kernel_rfl) ?_
  refine ⟨rfl, addV 2 3, addE 2 3, add_q 2 3 (by decide) (by decide) _, ?_⟩
  refine ifB_intro (fun h => ?_) (fun h => absurd h (by decide))
  refine ifB_intro (fun h => ?_) (fun h => absurd h (by decide))
  exact ⟨_, may_q 1 2 _, ⟨rfl⟩⟩

theorem room_q (a b v : Int) (ha : In64 a) (hb : In64 b) (hv : In64 v) (m : M) : QSpec Try.prog 15 [sp a b, I v] m (.tuple #[U (roomD a b v), U (roomU a b v)]) := by
  refine QSpec.of_vc Try.func15 (ann := fun _ => noAnn) fun n hn => ?_
  refine vc_by (X :=
      true = true ∧
      ∃ (b_1 : Bool),
      QSpec Try.prog (16 : Nat) [Value.agg #[Value.int IntKind.i64 a, Value.int IntKind.i64 b], Value.int IntKind.i64 v] { π := m.π, sz := n, uf := m.uf : M } (Value.bool b_1) ∧
      ifB (!b_1)
      (Done
      (Value.tuple #[Value.int IntKind.u64 (0 : Int), Value.int IntKind.u64 (0 : Int)] =
      Value.tuple #[Value.int IntKind.u64 (roomD a b v), Value.int IntKind.u64 (roomU a b v)]))
      (true = true ∧
      Done
      (Value.tuple
      #[Value.int IntKind.u64 (IntKind.u64.wrap (IntKind.u64.wrap v - IntKind.u64.wrap a)),
      Value.int IntKind.u64 (IntKind.u64.wrap (IntKind.u64.wrap b - IntKind.u64.wrap v))] =
      Value.tuple #[Value.int IntKind.u64 (roomD a b v), Value.int IntKind.u64 (roomU a b v)]))) (by kernel_rfl) ?_
  refine ⟨rfl, _, has_q a b v _, ?_⟩
  cases hh : hasB a b v
  · exact ⟨by simp [roomD, roomU, hh]⟩
  · refine ⟨rfl, ⟨?_⟩⟩
    simp [hasB] at hh
    simp [roomD, roomU, hasB, hh]
    simp [IntKind.wrap_u64, In64] at *
    omega

theorem meet_q (a b c d : Int) (m : M) : QSpec Try.prog 18 [sp a b, sp c d] m (.tuple #[sp (meetLo a b c d) (meetHi a b c d), .bool (meetOk a b c d)]) := by
  have e1 : (if c > a then c else a) = max a c := by omega
  have e2 : (if d < b then d else b) = min b d := by omega
  refine QSpec.of_vc Try.func18 (ann := fun _ => noAnn) fun n hn => ?_
  refine vc_by (X :=
      true = true ∧
      ∃ (b_1 : Bool),
      QSpec Try.prog (17 : Nat) [Value.agg #[Value.int IntKind.i64 a, Value.int IntKind.i64 b]] { π := m.π, sz := n, uf := m.uf : M } (Value.bool b_1) ∧
      ifB (!b_1)
      (Done
      (Value.tuple #[Value.agg #[Value.int IntKind.i64 (0 : Int), Value.int IntKind.i64 (0 : Int)], Value.bool false] =
      Value.tuple #[Value.agg #[Value.int IntKind.i64 (meetLo a b c d), Value.int IntKind.i64 (meetHi a b c d)], Value.bool (meetOk a b c d)]))
      (∃ (b_2 : Bool),
      QSpec Try.prog (17 : Nat) [Value.agg #[Value.int IntKind.i64 c, Value.int IntKind.i64 d]] { π := m.π, sz := n, uf := m.uf : M } (Value.bool b_2) ∧
      ifB (!b_2)
      (Done
      (Value.tuple #[Value.agg #[Value.int IntKind.i64 (0 : Int), Value.int IntKind.i64 (0 : Int)], Value.bool false] =
      Value.tuple #[Value.agg #[Value.int IntKind.i64 (meetLo a b c d), Value.int IntKind.i64 (meetHi a b c d)], Value.bool (meetOk a b c d)]))
      (∃ (b_3 : Bool),
      QSpec Try.prog (17 : Nat) [Value.agg #[Value.int IntKind.i64 (if c > a then c else a), Value.int IntKind.i64 (if d < b then d else b)]]
      { π := m.π, sz := n, uf := m.uf : M } (Value.bool b_3) ∧
      ifB (!b_3)
      (Done
      (Value.tuple #[Value.agg #[Value.int IntKind.i64 (0 : Int), Value.int IntKind.i64 (0 : Int)], Value.bool false] =
      Value.tuple #[Value.agg #[Value.int IntKind.i64 (meetLo a b c d), Value.int IntKind.i64 (meetHi a b c d)], Value.bool (meetOk a b c d)]))
      (Done
      (Value.tuple #[Value.agg #[Value.int IntKind.i64 (if c > a then c else a), Value.int IntKind.i64 (if d < b then d else b)], Value.bool true] =
      Value.tuple #[Value.agg #[Value.int IntKind.i64 (meetLo a b c d), Value.int IntKind.i64 (meetHi a b c d)], Value.bool (meetOk a b c d)]))))) (by kernel_rfl) ?_
  rw [e1, e2]
  refine ⟨rfl, _, may_q a b _, ifB_intro (fun h => ?_) (fun h => ⟨_, may_q c d _, ifB_intro (fun h2 => ?_) (fun h2 => ⟨_, may_q _ _ _, ifB_intro (fun h3 => ?_) (fun h3 => ?_)⟩)⟩)⟩
  all_goals refine ⟨?_⟩
  all_goals simp at *
  all_goals simp [meetLo, meetHi, meetOk, *]
  all_goals omega

theorem add_ok (a b : Int) : addE a b = 0 ↔ In64 (a + b) := by unfold addE; split <;> simp [*]

theorem shift_q (a b k : Int) (ha : In64 a) (hb : In64 b) (hk : In64 k) (m : M) : QSpec Try.prog 31 [sp a b, I k] m (.tuple #[sp (shiftLo a b k) (shiftHi a b k), I (shiftE a b k)]) := by
  refine QSpec.of_vc Try.func31 (ann := fun _ => noAnn) fun n hn => ?_
  refine vc_by (X :=
      true = true ∧
      ∃ (b_1 : Bool),
      QSpec Try.prog (17 : Nat) [Value.agg #[Value.int IntKind.i64 a, Value.int IntKind.i64 b]] { π := m.π, sz := n, uf := m.uf : M } (Value.bool b_1) ∧
      ifB (!b_1)
      (Done
      (Value.tuple #[Value.agg #[Value.int IntKind.i64 (0 : Int), Value.int IntKind.i64 (0 : Int)], Value.int IntKind.i64 (1 : Int)] =
      Value.tuple #[Value.agg #[Value.int IntKind.i64 (shiftLo a b k), Value.int IntKind.i64 (shiftHi a b k)], Value.int IntKind.i64 (shiftE a b k)]))
      (∃ (n_1 : Int),
      ∃ (n_2 : Int),
      QSpec Try.prog (12 : Nat) [Value.int IntKind.i64 a, Value.int IntKind.i64 k] { π := m.π, sz := n, uf := m.uf : M }
      (Value.tuple #[Value.int IntKind.i64 n_1, Value.int IntKind.i64 n_2]) ∧
      ∃ (n_3 : Int),
      ∃ (n_4 : Int),
      QSpec Try.prog (12 : Nat) [Value.int IntKind.i64 b, Value.int IntKind.i64 k] { π := m.π, sz := n, uf := m.uf : M }
      (Value.tuple #[Value.int IntKind.i64 n_3, Value.int IntKind.i64 n_4]) ∧
      ifB (n_2 != (0 : Int))
      (Done
      (Value.tuple #[Value.agg #[Value.int IntKind.i64 (0 : Int), Value.int IntKind.i64 (0 : Int)], Value.int IntKind.i64 (10 : Int)] =
      Value.tuple #[Value.agg #[Value.int IntKind.i64 (shiftLo a b k), Value.int IntKind.i64 (shiftHi a b k)], Value.int IntKind.i64 (shiftE a b k)]))
      (ifB (n_4 != (0 : Int))
      (Done
      (Value.tuple #[Value.agg #[Value.int IntKind.i64 (0 : Int), Value.int IntKind.i64 (0 : Int)], Value.int IntKind.i64 (10 : Int)] =
      Value.tuple #[Value.agg #[Value.int IntKind.i64 (shiftLo a b k), Value.int IntKind.i64 (shiftHi a b k)], Value.int IntKind.i64 (shiftE a b k)]))
      (Done
      (Value.tuple #[Value.agg #[Value.int IntKind.i64 n_1, Value.int IntKind.i64 n_3], Value.int IntKind.i64 (0 : Int)] =
      Value.tuple #[Value.agg #[Value.int IntKind.i64 (shiftLo a b k), Value.int IntKind.i64 (shiftHi a b k)], Value.int IntKind.i64 (shiftE a b k)]))))) (by kernel_rfl) ?_
  refine ⟨rfl, _, may_q a b _, ?_⟩
  by_cases h : b < a
  · have h' : decide (a ≤ b) = false := by simpa using h
    rw [h']
    exact ⟨by simp [shiftLo, shiftHi, shiftE, h]⟩
  · have h' : decide (a ≤ b) = true := by simp; omega
    rw [h']
    refine ⟨_, _, add_q a k ha hk _, _, _, add_q b k hb hk _, ?_⟩
    by_cases h1 : In64 (a + k) <;> by_cases h2 : In64 (b + k) <;> simp [addE, addV, shiftLo, shiftHi, shiftE, h, h1, h2, ifB, done_iff]

theorem div_facts (a b : Int) (ha : 0 ≤ a) (hb : 1 ≤ b) : 0 ≤ a / b ∧ a / b ≤ a ∧ 0 ≤ a % b ∧ a % b < b ∧ a / b * b = a - a % b ∧ a / b ≤ a - a % b := by
  have h1 := Int.ediv_nonneg ha (by omega : 0 ≤ b)
  have h2 := Int.emod_nonneg a (by omega : b ≠ 0)
  have h3 := Int.emod_lt_of_pos a (by omega : 0 < b)
  have h4 := Int.mul_ediv_add_emod a b
  have h5 := Int.ediv_le_self b ha
  have h6 : a / b * 1 ≤ a / b * b := Int.mul_le_mul_of_nonneg_left hb h1
  have h7 : a / b * b = a - a % b := by rw [Int.mul_comm]; omega
  exact ⟨h1, h5, h2, h3, h7, by omega⟩

theorem share_q (a b c : Int) (ha : InU a) (hb : In64 b) (hc : In64 c) (m : M) : QSpec Try.prog 19 [U a, I b, I c] m (U (shareV a b c)) := by
  refine QSpec.of_vc Try.func19 (ann := fun _ => noAnn) fun n hn => ?_
  refine vc_by (X :=
      true = true ∧
      ifB (decide (b < (1 : Int))) (Done (Value.int IntKind.u64 (0 : Int) = Value.int IntKind.u64 (shareV a b c)))
      (ifB (decide (c < (0 : Int))) (Done (Value.int IntKind.u64 (0 : Int) = Value.int IntKind.u64 (shareV a b c)))
      (ifB (decide (c ≥ b)) (Done (Value.int IntKind.u64 (0 : Int) = Value.int IntKind.u64 (shareV a b c)))
      (true = true ∧
      IntKind.u64.wrap b ≠ (0 : Int) ∧
      IntKind.u64.wrap b ≠ (0 : Int) ∧
      ifB (decide (IntKind.u64.wrap c < a.tmod (IntKind.u64.wrap b)))
      (Done (Value.int IntKind.u64 (IntKind.u64.wrap (IntKind.u64.wrap (a.tdiv (IntKind.u64.wrap b)) + (1 : Int))) = Value.int IntKind.u64 (shareV a b c)))
      (Done (Value.int IntKind.u64 (IntKind.u64.wrap (a.tdiv (IntKind.u64.wrap b))) = Value.int IntKind.u64 (shareV a b c))))))) (by kernel_rfl) ?_
  unfold InU at ha
  unfold In64 at hb hc
  refine ⟨rfl, ifB_intro (fun h => ⟨?_⟩) (fun h => ifB_intro (fun h2 => ⟨?_⟩) (fun h2 => ifB_intro (fun h3 => ⟨?_⟩) (fun h3 => ?_)))⟩
  · simp at h; simp [shareV, h]
  · simp at h h2; simp [shareV, h2]
  · simp at h h2 h3; simp [shareV, h3]
  · simp at h h2 h3
    have hw : IntKind.u64.wrap b = b := by simp [IntKind.wrap_u64]; omega
    have hw2 : IntKind.u64.wrap c = c := by simp [IntKind.wrap_u64]; omega
    rw [hw, hw2, Int.tdiv_eq_ediv_of_nonneg ha.1, Int.tmod_eq_emod_of_nonneg ha.1]
    have hd := div_facts a b ha.1 (by omega)
    refine ⟨rfl, by omega, by omega, ifB_intro (fun h4 => ⟨?_⟩) (fun h4 => ⟨?_⟩)⟩
    · simp at h4
      have hne : ¬ (b < 1 ∨ c < 0 ∨ b ≤ c) := by omega
      simp [shareV, h4, hne, IntKind.wrap_u64]
      omega
    · simp at h4
      have hne : ¬ (b < 1 ∨ c < 0 ∨ b ≤ c) := by omega
      have h4' : ¬ c < a % b := by omega
      simp [shareV, h4', hne, IntKind.wrap_u64]
      omega

theorem rshare_q (a b c : Int) (ha : InU a) (hb : In64 b) (hc : In64 c) (m : M) : QSpec Try.prog 22 [U a, I b, I c] m (U (shareV a b c)) := by
  refine QSpec.of_vc Try.func22 (ann := fun _ => noAnn) fun n hn => ?_
  refine vc_by (X :=
      true = true ∧
      ifB (decide (b < (1 : Int))) (Done (Value.int IntKind.u64 (0 : Int) = Value.int IntKind.u64 (shareV a b c)))
      (ifB (decide (c < (0 : Int))) (Done (Value.int IntKind.u64 (0 : Int) = Value.int IntKind.u64 (shareV a b c)))
      (ifB (decide (c ≥ b)) (Done (Value.int IntKind.u64 (0 : Int) = Value.int IntKind.u64 (shareV a b c)))
      (IntKind.u64.wrap b ≠ (0 : Int) ∧
      ifB (decide (IntKind.u64.wrap c < IntKind.u64.wrap (a - IntKind.u64.wrap (IntKind.u64.wrap (a.tdiv (IntKind.u64.wrap b)) * IntKind.u64.wrap b))))
      (Done (Value.int IntKind.u64 (IntKind.u64.wrap (IntKind.u64.wrap (a.tdiv (IntKind.u64.wrap b)) + (1 : Int))) = Value.int IntKind.u64 (shareV a b c)))
      (Done (Value.int IntKind.u64 (IntKind.u64.wrap (a.tdiv (IntKind.u64.wrap b))) = Value.int IntKind.u64 (shareV a b c))))))) (by kernel_rfl) ?_
  unfold InU at ha
  unfold In64 at hb hc
  refine ⟨rfl, ifB_intro (fun h => ⟨?_⟩) (fun h => ifB_intro (fun h2 => ⟨?_⟩) (fun h2 => ifB_intro (fun h3 => ⟨?_⟩) (fun h3 => ?_)))⟩
  · simp at h; simp [shareV, h]
  · simp at h h2; simp [shareV, h2]
  · simp at h h2 h3; simp [shareV, h3]
  · simp at h h2 h3
    have hw : IntKind.u64.wrap b = b := by simp [IntKind.wrap_u64]; omega
    have hw2 : IntKind.u64.wrap c = c := by simp [IntKind.wrap_u64]; omega
    have hd := div_facts a b ha.1 (by omega)
    have hw3 : IntKind.u64.wrap (a / b) = a / b := by simp [IntKind.wrap_u64]; omega
    rw [hw, hw2, Int.tdiv_eq_ediv_of_nonneg ha.1, hw3, hd.2.2.2.2.1]
    have hw4 : IntKind.u64.wrap (a - IntKind.u64.wrap (a - a % b)) = a % b := by simp [IntKind.wrap_u64]; omega
    rw [hw4]
    have hne : ¬ (b < 1 ∨ c < 0 ∨ b ≤ c) := by omega
    refine ⟨by omega, ifB_intro (fun h4 => ⟨?_⟩) (fun h4 => ⟨?_⟩)⟩
    · simp at h4
      simp [shareV, h4, hne, IntKind.wrap_u64]
      omega
    · simp at h4
      have h4' : ¬ c < a % b := by omega
      simp [shareV, h4', hne]

theorem fit_q (a : Int) (ha : InU a) (m : M) : QSpec Try.prog 20 [U a] m (I (fitV a)) := by
  refine QSpec.of_vc Try.func20 (ann := fun _ => noAnn) fun n hn => ?_
  refine vc_by (X :=
      true = true ∧ Done (Value.int IntKind.i64 (IntKind.i64.wrap (if (9223372036854775807 : Int) < a then (9223372036854775807 : Int) else a)) = Value.int IntKind.i64 (fitV a))) (by kernel_rfl) ?_
  refine ⟨rfl, ⟨?_⟩⟩
  simp [fitV, IntKind.wrap_i64, InU] at *
  omega

theorem rfit_q (a : Int) (ha : InU a) (m : M) : QSpec Try.prog 21 [U a] m (I (fitV a)) := by
  refine QSpec.of_vc Try.func21 (ann := fun _ => noAnn) fun n hn => ?_
  refine vc_by (X :=
      true = true ∧ Done (Value.int IntKind.i64 (IntKind.i64.wrap (if (9223372036854775807 : Int) < a then (9223372036854775807 : Int) else a)) = Value.int IntKind.i64 (fitV a))) (by kernel_rfl) ?_
  refine ⟨rfl, ⟨?_⟩⟩
  simp [fitV, IntKind.wrap_i64, InU] at *
  omega

theorem rhas_q (a b v : Int) (m : M) : QSpec Try.prog 33 [sp a b, I v] m (.bool (hasB a b v)) := by
  refine QSpec.of_vc Try.func33 (ann := fun _ => noAnn) fun n hn => ?_
  refine vc_by (X :=
      true = true ∧ ifB (decide (a ≤ v)) (Done (Value.bool (decide (v ≤ b)) = Value.bool (hasB a b v))) (Done (Value.bool false = Value.bool (hasB a b v)))) (by kernel_rfl) ?_
  refine ⟨rfl, ?_⟩
  repeat' (refine ifB_intro (fun h => ?_) (fun h => ?_))
  all_goals (refine ⟨?_⟩; simp [hasB, h])

def wideHi (W : Int) : Int := IntKind.i64.wrap (W / 18446744073709551616)

def wideLo (W : Int) : Int := W % 18446744073709551616

abbrev wide (W : Int) : Value := .agg #[I (wideHi W), U (wideLo W)]

theorem add64 (x y c : Int) (hx : 0 ≤ x ∧ x < 18446744073709551616) (hy : 0 ≤ y ∧ y < 18446744073709551616) (hc : c = 0 ∨ c = 1) : CallV Try.prog 37 [U x, U y, U c] (.tuple #[U ((x + y + c) % 18446744073709551616), U ((x + y + c) / 18446744073709551616)]) := by
  refine ⟨?_⟩
  rcases hc with rfl | rfl
  all_goals
    show (Value.tuple #[.int .u64 (Int.ofNat ((x.toNat + y.toNat + Int.toNat _) % Extern.MathBitsCarry.m64)), .int .u64 (Int.ofNat ((x.toNat + y.toNat + Int.toNat _) / Extern.MathBitsCarry.m64))]) = _
    simp only [Extern.MathBitsCarry.m64, Value.tuple.injEq, Array.mk.injEq, List.cons.injEq, Value.int.injEq, true_and, and_true]
    constructor <;> simp <;> omega

theorem plus_q (W k : Int) (hk : In64 k) (m : M) : QSpec Try.prog 40 [wide W, I k] m (wide (W + k)) := by
  refine QSpec.of_vc Try.func40 (ann := fun _ => noAnn) fun n hn => ?_
  refine vc_by (X :=
      true = true ∧
      ∃ (n : Int),
      ∃ (n_1 : Int),
      CallV Try.prog (37 : Nat) [Value.int IntKind.u64 (wideLo W), Value.int IntKind.u64 (IntKind.u64.wrap k), Value.int IntKind.u64 (0 : Int)]
      (Value.tuple #[Value.int IntKind.u64 n, Value.int IntKind.u64 n_1]) ∧
      ifB (decide (k < (0 : Int)))
      (Done
      (Value.agg #[Value.int IntKind.i64 (IntKind.i64.wrap (IntKind.i64.wrap (wideHi W + IntKind.i64.wrap n_1) - (1 : Int))), Value.int IntKind.u64 n] =
      Value.agg #[Value.int IntKind.i64 (wideHi (W + k)), Value.int IntKind.u64 (wideLo (W + k))]))
      (Done
      (Value.agg #[Value.int IntKind.i64 (IntKind.i64.wrap (wideHi W + IntKind.i64.wrap n_1)), Value.int IntKind.u64 n] =
      Value.agg #[Value.int IntKind.i64 (wideHi (W + k)), Value.int IntKind.u64 (wideLo (W + k))]))) (by kernel_rfl) ?_
  unfold In64 at hk
  refine ⟨rfl, _, _, add64 _ _ _ (by unfold wideLo; omega) (by simp [IntKind.wrap_u64]; omega) (.inl rfl), ifB_intro (fun h => ⟨?_⟩) (fun h => ⟨?_⟩)⟩
  all_goals
    simp at h
    simp [wideHi, wideLo, IntKind.wrap_i64, IntKind.wrap_u64]
    omega

theorem not_int (k : Int) (hk : In64 k) : IntKind.i64.wrap ((BitVec.ofInt IntKind.i64.bits (-1) ^^^ BitVec.ofInt IntKind.i64.bits k).toNat : Int) = -k - 1 := by
  have e1 : BitVec.ofInt IntKind.i64.bits (-1) = BitVec.allOnes 64 := rfl
  have e2 : (BitVec.allOnes 64 ^^^ BitVec.ofInt 64 k) = ~~~ (BitVec.ofInt 64 k) := by rw [BitVec.xor_comm]; exact BitVec.xor_allOnes
  rw [e1]
  show IntKind.i64.wrap ((BitVec.allOnes 64 ^^^ BitVec.ofInt 64 k).toNat : Int) = -k - 1
  rw [e2, BitVec.toNat_not, BitVec.toNat_ofInt]
  unfold In64 at hk
  simp [IntKind.wrap_i64]
  omega

theorem less_q (W k : Int) (hk : In64 k) (m : M) : QSpec Try.prog 36 [wide W, I k] m (wide (W - k)) := by
  refine QSpec.of_vc Try.func36 (ann := fun _ => noAnn) fun n hn => ?_
  refine vc_by (X :=
      true = true ∧
      ∃ (n_1 : Int),
      ∃ (n_2 : Int),
      QSpec Try.prog (40 : Nat)
      [Value.agg #[Value.int IntKind.i64 (wideHi W), Value.int IntKind.u64 (wideLo W)],
      Value.int IntKind.i64 (IntKind.i64.wrap (↑(BitVec.ofInt (64 : Nat) (if true = true then (-1 : Int) else IntKind.i64.max) ^^^ BitVec.ofInt (64 : Nat) k).toNat : Int))]
      { π := m.π, sz := n, uf := m.uf : M } (Value.agg #[Value.int IntKind.i64 n_1, Value.int IntKind.u64 n_2]) ∧
      ∃ (n_3 : Int),
      ∃ (n_4 : Int),
      QSpec Try.prog (40 : Nat) [Value.agg #[Value.int IntKind.i64 n_1, Value.int IntKind.u64 n_2], Value.int IntKind.i64 (1 : Int)] { π := m.π, sz := n, uf := m.uf : M }
      (Value.agg #[Value.int IntKind.i64 n_3, Value.int IntKind.u64 n_4]) ∧
      Done (Value.agg #[Value.int IntKind.i64 n_3, Value.int IntKind.u64 n_4] = Value.agg #[Value.int IntKind.i64 (wideHi (W - k)), Value.int IntKind.u64 (wideLo (W - k))])) (by kernel_rfl) ?_
  have e : IntKind.i64.wrap ((BitVec.ofInt 64 (if true = true then -1 else IntKind.i64.max) ^^^ BitVec.ofInt 64 k).toNat : Int) = -k - 1 := not_int k hk
  rw [e]
  have e2 : W + (-k - 1) + 1 = W - k := by omega
  have hk' : In64 (-k - 1) := by unfold In64 at *; omega
  have h1 := plus_q (W + (-k - 1)) 1 (by decide) { m with sz := n }
  rw [e2] at h1
  exact ⟨rfl, _, _, plus_q W (-k - 1) hk' _, _, _, h1, ⟨rfl⟩⟩

theorem int_q (W : Int) (h1 : -85070591730234615865843651857942052864 ≤ W) (h2 : W ≤ 85070591730234615865843651857942052864) (m : M) :
    QSpec Try.prog 39 [wide W] m (.tuple #[I (IntKind.i64.wrap W), .bool (decide (In64 W))]) := by
  refine QSpec.of_vc Try.func39 (ann := fun _ => noAnn) fun n hn => ?_
  refine vc_by (X :=
      true = true ∧
      true = true ∧
      ifB (wideHi W == (0 : Int))
      (ifB (decide (wideLo W < (9223372036854775808 : Int)))
      (Done
      (Value.tuple #[Value.int IntKind.i64 (IntKind.i64.wrap (wideLo W)), Value.bool true] =
      Value.tuple #[Value.int IntKind.i64 (IntKind.i64.wrap W), Value.bool (decide (In64 W))]))
      (ifB (wideHi W == (-1 : Int))
      (Done
      (Value.tuple #[Value.int IntKind.i64 (IntKind.i64.wrap (wideLo W)), Value.bool (decide (wideLo W ≥ (9223372036854775808 : Int)))] =
      Value.tuple #[Value.int IntKind.i64 (IntKind.i64.wrap W), Value.bool (decide (In64 W))]))
      (Done
      (Value.tuple #[Value.int IntKind.i64 (IntKind.i64.wrap (wideLo W)), Value.bool false] =
      Value.tuple #[Value.int IntKind.i64 (IntKind.i64.wrap W), Value.bool (decide (In64 W))]))))
      (ifB (wideHi W == (-1 : Int))
      (Done
      (Value.tuple #[Value.int IntKind.i64 (IntKind.i64.wrap (wideLo W)), Value.bool (decide (wideLo W ≥ (9223372036854775808 : Int)))] =
      Value.tuple #[Value.int IntKind.i64 (IntKind.i64.wrap W), Value.bool (decide (In64 W))]))
      (Done
      (Value.tuple #[Value.int IntKind.i64 (IntKind.i64.wrap (wideLo W)), Value.bool false] =
      Value.tuple #[Value.int IntKind.i64 (IntKind.i64.wrap W), Value.bool (decide (In64 W))])))) (by kernel_rfl) ?_
  refine ⟨rfl, rfl, ?_⟩
  repeat' (refine ifB_intro (fun h => ?_) (fun h => ?_))
  all_goals refine ⟨?_⟩
  all_goals simp only [Value.tuple.injEq, Array.mk.injEq, List.cons.injEq, Value.bool.injEq, and_true, eq_comm (a := true), eq_comm (a := false), decide_eq_true_eq, decide_eq_false_iff_not, decide_eq_decide, beq_iff_eq, beq_eq_false_iff_ne] at *
  all_goals simp [wideHi, wideLo, IntKind.wrap_i64, In64] at *
  all_goals omega

theorem told_q (W : Int) (h1 : -85070591730234615865843651857942052864 ≤ W) (h2 : W ≤ 85070591730234615865843651857942052864) (m : M) :
    QSpec Try.prog 34 [wide W] m (.tuple #[I (if In64 W then W else 0), I (if In64 W then 0 else 10)]) := by
  refine QSpec.of_vc Try.func34 (ann := fun _ => noAnn) fun n hn => ?_
  refine vc_by (X :=
      true = true ∧
      ∃ (n_1 : Int),
      ∃ (b : Bool),
      QSpec Try.prog (39 : Nat) [Value.agg #[Value.int IntKind.i64 (wideHi W), Value.int IntKind.u64 (wideLo W)]] { π := m.π, sz := n, uf := m.uf : M }
      (Value.tuple #[Value.int IntKind.i64 n_1, Value.bool b]) ∧
      ifB (!b)
      (Done
      (Value.tuple #[Value.int IntKind.i64 (0 : Int), Value.int IntKind.i64 (10 : Int)] =
      Value.tuple #[Value.int IntKind.i64 (if In64 W then W else (0 : Int)), Value.int IntKind.i64 (if In64 W then (0 : Int) else (10 : Int))]))
      (Done
      (Value.tuple #[Value.int IntKind.i64 n_1, Value.int IntKind.i64 (0 : Int)] =
      Value.tuple #[Value.int IntKind.i64 (if In64 W then W else (0 : Int)), Value.int IntKind.i64 (if In64 W then (0 : Int) else (10 : Int))]))) (by kernel_rfl) ?_
  refine ⟨rfl, _, _, int_q W h1 h2 _, ?_⟩
  by_cases h : In64 W
  · simp [h, ifB, done_iff]
    simp [In64, IntKind.wrap_i64] at *; omega
  · simp [h, ifB, done_iff]

/-- the sum of many, in order -/
def sumI (l : List Int) : Int := l.foldl (· + ·) 0

theorem foldl_add (l : List Int) (a : Int) : l.foldl (· + ·) a = a + l.foldl (· + ·) 0 := by
  induction l generalizing a with
  | nil => simp
  | cons x r ih => simp only [List.foldl_cons]; rw [ih, ih (0 + x)]; omega

theorem sumI_take (l : List Int) (k : Nat) (h : k < l.length) : sumI (l.take (k + 1)) = sumI (l.take k) + l[k] := by
  unfold sumI
  rw [List.take_succ_eq_append_getElem h, List.foldl_append]
  simp

theorem sumI_bound (l : List Int) (h : ∀ x ∈ l, In64 x) : -9223372036854775808 * (l.length : Int) ≤ sumI l ∧ sumI l ≤ 9223372036854775807 * (l.length : Int) := by
  induction l with
  | nil => simp [sumI]
  | cons x r ih =>
    have := ih (fun y hy => h y (by simp [hy]))
    have hx := h x (by simp)
    unfold In64 at hx
    have e : sumI (x :: r) = x + sumI r := by simp only [sumI, List.foldl_cons]; rw [foldl_add]; simp
    rw [e]
    simp only [List.length_cons, Int.natCast_add]
    omega

abbrev ints (l : List Int) : List Value := l.flatMap fun x => [I x]

theorem ints_len (l : List Int) : (ints l).length = l.length := by
  induction l with
  | nil => rfl
  | cons x r ih => simp only [ints, List.flatMap_cons, List.length_append, List.length_cons, List.length_nil] at *; omega

theorem ints_at {m : M} {b o i : Nat} {l : List Int} (h : CellsAt m b o (ints l)) (hi : i < l.length) : CellsAt m b (o + i) [I l[i]] := by
  have := CellsAt.elem (k := 1) (enc := fun x => [I x]) (fun _ => rfl) l o i hi h
  simpa using this

def ofAnn (a : Option Addr) (c : Nat) (l : List Int) (m : M) : Ann where
  A := Nat
  inv k := k ≤ l.length
  st k := [(4, .val (I k)), (0, .val (.slice a l.length c)), (3, .own 2 0), (2, .own 0 0)]
  own k := [(0, ⟨53, [I 0, U 0]⟩), (2, ⟨53, [I (wideHi (sumI (l.take k))), U (wideLo (sumI (l.take k)))]⟩)]
  m _ := m
  μ k := l.length - k

theorem of_q (a : Option Addr) (c : Nat) (l : List Int) (hl : ∀ x ∈ l, In64 x) (hn : l.length ≤ 140737488355328) (m : M) (h : Row m a (ints l)) :
    QSpec Try.prog 35 [.slice a l.length c] m (wide (sumI l)) := by
  refine QSpec.of_vc Try.func35 (ann := fun n _ => ofAnn a c l { m with sz := n }) fun n hn => ?_
  refine vc_by (X :=
      true = true ∧
      (∃ (a_1 : Nat),
      a_1 ≤ l.length ∧
      { π := m.π, sz := n, uf := m.uf : M } = { π := m.π, sz := n, uf := m.uf : M } ∧
      ((SV.val (Value.int IntKind.i64 (0 : Int)) = SV.val (Value.int IntKind.i64 (↑a_1 : Int)) ∧ true = true) ∧
      (SV.val (Value.slice a l.length c) = SV.val (Value.slice a l.length c) ∧ true = true) ∧
      (SV.own ((0 : Nat) + (1 : Nat) + (1 : Nat)) (0 : Nat) = SV.own (2 : Nat) (0 : Nat) ∧ true = true) ∧
      (SV.own ((0 : Nat) + (0 : Nat)) (0 : Nat) = SV.own (0 : Nat) (0 : Nat) ∧ true = true) ∧ True) ∧
      (some { ty := (53 : Nat), cs := [Value.int IntKind.i64 (0 : Int), Value.int IntKind.u64 (0 : Int)] : Bx } =
      some { ty := (53 : TypeId), cs := [Value.int IntKind.i64 (0 : Int), Value.int IntKind.u64 (0 : Int)] : Bx } ∧
      true = true) ∧
      (some { ty := (53 : Nat), cs := [Value.int IntKind.i64 (0 : Int), Value.int IntKind.u64 (0 : Int)] : Bx } =
      some { ty := (53 : TypeId), cs := [Value.int IntKind.i64 (wideHi (sumI (List.take a_1 l))), Value.int IntKind.u64 (wideLo (sumI (List.take a_1 l)))] : Bx } ∧
      true = true) ∧
      True) ∧
      ∀ (a_1 : Nat),
      a_1 ≤ l.length →
      ifB (decide ((↑a_1 : Int) < (↑l.length : Int)))
      (true = true ∧
      ∃ (b : Nat),
      ∃ (off : Nat),
      a = some { block := b, off := off : Addr } ∧
      ((0 : Int) ≤ (↑a_1 : Int) ∧ (↑a_1 : Int) < (↑l.length : Int)) ∧
      ∃ (n_1 : Int),
      CellsAt { π := m.π, sz := n, uf := m.uf : M } b (off + (↑a_1 : Int).toNat * (1 : Nat)) [Value.int IntKind.i64 n_1] ∧
      ∃ (n_2 : Int),
      ∃ (n_3 : Int),
      QSpec Try.prog (40 : Nat)
      [Value.agg #[Value.int IntKind.i64 (wideHi (sumI (List.take a_1 l))), Value.int IntKind.u64 (wideLo (sumI (List.take a_1 l)))],
      Value.int IntKind.i64 n_1]
      { π := m.π, sz := n, uf := m.uf : M } (Value.agg #[Value.int IntKind.i64 n_2, Value.int IntKind.u64 n_3]) ∧
      ∃ (a' : Nat),
      (a' ≤ l.length ∧
      { π := m.π, sz := n, uf := m.uf : M } = { π := m.π, sz := n, uf := m.uf : M } ∧
      ((SV.val (Value.int IntKind.i64 (IntKind.i64.wrap ((↑a_1 : Int) + (1 : Int)))) = SV.val (Value.int IntKind.i64 (↑a' : Int)) ∧ true = true) ∧
      (SV.val (Value.slice a l.length c) = SV.val (Value.slice a l.length c) ∧ true = true) ∧
      (SV.own (2 : Nat) (0 : Nat) = SV.own (2 : Nat) (0 : Nat) ∧ true = true) ∧
      (SV.own (0 : Nat) (0 : Nat) = SV.own (0 : Nat) (0 : Nat) ∧ true = true) ∧ True) ∧
      (some { ty := (53 : TypeId), cs := [Value.int IntKind.i64 (0 : Int), Value.int IntKind.u64 (0 : Int)] : Bx } =
      some { ty := (53 : TypeId), cs := [Value.int IntKind.i64 (0 : Int), Value.int IntKind.u64 (0 : Int)] : Bx } ∧
      true = true) ∧
      (some { ty := (53 : TypeId), cs := [Value.int IntKind.i64 n_2, Value.int IntKind.u64 n_3] : Bx } =
      some
      { ty := (53 : TypeId), cs := [Value.int IntKind.i64 (wideHi (sumI (List.take a' l))), Value.int IntKind.u64 (wideLo (sumI (List.take a' l)))] : Bx } ∧
      true = true) ∧
      True) ∧
      l.length - a' < l.length - a_1)
      (Done
      (Value.agg #[Value.int IntKind.i64 (wideHi (sumI (List.take a_1 l))), Value.int IntKind.u64 (wideLo (sumI (List.take a_1 l)))] =
      Value.agg #[Value.int IntKind.i64 (wideHi (sumI l)), Value.int IntKind.u64 (wideLo (sumI l))]))) (by kernel_rfl) ?_
  have h' := h.sz hn
  refine ⟨rfl, ⟨0, by simp [sumI, wideHi, wideLo, IntKind.wrap_i64]⟩, fun k hk => ifB_intro (fun hb => ?_) (fun hb => ⟨?_⟩)⟩
  · have hk2 : k < l.length := by simpa using hb
    obtain ⟨b, o, rfl, hc⟩ := h'.cells (by rw [ints_len]; omega)
    refine ⟨rfl, b, o, rfl, by omega, l[k], by simpa using ints_at hc hk2, _, _, plus_q _ _ (hl _ (List.getElem_mem hk2)) _, k + 1, ⟨hk2, rfl, ⟨⟨?_, rfl⟩, by simp⟩, ?_⟩, by omega⟩
    · simp [IntKind.wrap_i64]; omega
    · rw [sumI_take l k hk2]; simp
  · have : k = l.length := by simp at hb; omega
    subst this
    simp

theorem row2 {m : M} {b : Nat} (a c : Int) : Row (m.newBlock b [I a, I c]) (some ⟨b, 0, none⟩) (ints [a, c]) := .at _ _ _ (by simp only [M.newBlock]; omega) cellsAt_new

theorem row1 {m : M} {b : Nat} (a : Int) : Row (m.newBlock b [I a]) (some ⟨b, 0, none⟩) (ints [a]) := .at _ _ _ (by simp only [M.newBlock]; omega) cellsAt_new

theorem radd_q (a b : Int) (ha : In64 a) (hb : In64 b) (m : M) : QSpec Try.prog 23 [I a, I b] m (.tuple #[I (addV a b), I (addE a b)]) := by
  refine QSpec.of_vc Try.func23 (ann := fun _ => noAnn) fun n hn => ?_
  refine vc_by (X :=
      true = true ∧
      true = true ∧
      ∀ (b_1 : Nat),
      n ≤ b_1 →
      ∃ (n_1 : Int),
      ∃ (n_2 : Int),
      QSpec Try.prog (35 : Nat) [Value.slice (some { block := b_1, off := (0 : Nat) : Addr }) (2 : Nat) (2 : Nat)]
      ({ π := m.π, sz := n, uf := m.uf : M }.newBlock b_1 [Value.int IntKind.i64 a, Value.int IntKind.i64 b])
      (Value.agg #[Value.int IntKind.i64 n_1, Value.int IntKind.u64 n_2]) ∧
      ∃ (n_3 : Int),
      ∃ (n_4 : Int),
      QSpec Try.prog (34 : Nat) [Value.agg #[Value.int IntKind.i64 n_1, Value.int IntKind.u64 n_2]]
      ({ π := m.π, sz := n, uf := m.uf : M }.newBlock b_1 [Value.int IntKind.i64 a, Value.int IntKind.i64 b])
      (Value.tuple #[Value.int IntKind.i64 n_3, Value.int IntKind.i64 n_4]) ∧
      Done (Value.tuple #[Value.int IntKind.i64 n_3, Value.int IntKind.i64 n_4] = Value.tuple #[Value.int IntKind.i64 (addV a b), Value.int IntKind.i64 (addE a b)])) (by kernel_rfl) ?_
  have e : sumI [a, b] = a + b := by simp [sumI]
  refine ⟨rfl, rfl, fun k hk => ⟨_, _, of_q (some ⟨k, 0, none⟩) 2 [a, b] (by simp [ha, hb]) (by simp) _ (row2 a b), ?_⟩⟩
  rw [e]
  unfold In64 at ha hb
  exact ⟨_, _, told_q (a + b) (by omega) (by omega) _, ⟨rfl⟩⟩

theorem rsub_q (a b : Int) (ha : In64 a) (hb : In64 b) (m : M) : QSpec Try.prog 24 [I a, I b] m (.tuple #[I (subV a b), I (subE a b)]) := by
  refine QSpec.of_vc Try.func24 (ann := fun _ => noAnn) fun n hn => ?_
  refine vc_by (X :=
      true = true ∧
      true = true ∧
      ∀ (b_1 : Nat),
      n ≤ b_1 →
      ∃ (n_1 : Int),
      ∃ (n_2 : Int),
      QSpec Try.prog (35 : Nat) [Value.slice (some { block := b_1, off := (0 : Nat) : Addr }) (1 : Nat) (1 : Nat)]
      ({ π := m.π, sz := n, uf := m.uf : M }.newBlock b_1 [Value.int IntKind.i64 a]) (Value.agg #[Value.int IntKind.i64 n_1, Value.int IntKind.u64 n_2]) ∧
      ∃ (n_3 : Int),
      ∃ (n_4 : Int),
      QSpec Try.prog (36 : Nat) [Value.agg #[Value.int IntKind.i64 n_1, Value.int IntKind.u64 n_2], Value.int IntKind.i64 b]
      ({ π := m.π, sz := n, uf := m.uf : M }.newBlock b_1 [Value.int IntKind.i64 a]) (Value.agg #[Value.int IntKind.i64 n_3, Value.int IntKind.u64 n_4]) ∧
      ∃ (n_5 : Int),
      ∃ (n_6 : Int),
      QSpec Try.prog (34 : Nat) [Value.agg #[Value.int IntKind.i64 n_3, Value.int IntKind.u64 n_4]]
      ({ π := m.π, sz := n, uf := m.uf : M }.newBlock b_1 [Value.int IntKind.i64 a]) (Value.tuple #[Value.int IntKind.i64 n_5, Value.int IntKind.i64 n_6]) ∧
      Done
      (Value.tuple #[Value.int IntKind.i64 n_5, Value.int IntKind.i64 n_6] =
      Value.tuple #[Value.int IntKind.i64 (subV a b), Value.int IntKind.i64 (subE a b)])) (by kernel_rfl) ?_
  have e : sumI [a] = a := by simp [sumI]
  refine ⟨rfl, rfl, fun k hk => ⟨_, _, of_q (some ⟨k, 0, none⟩) 1 [a] (by simp [ha]) (by simp) _ (row1 a), ?_⟩⟩
  rw [e]
  refine ⟨_, _, less_q a b hb _, ?_⟩
  unfold In64 at ha hb
  exact ⟨_, _, told_q (a - b) (by omega) (by omega) _, ⟨rfl⟩⟩

theorem rmeet_q (a b c d : Int) (m : M) : QSpec Try.prog 30 [sp a b, sp c d] m (.tuple #[sp (meetLo a b c d) (meetHi a b c d), .bool (meetOk a b c d)]) := by
  have e1 : (if c > a then c else a) = max a c := by omega
  have e2 : (if d < b then d else b) = min b d := by omega
  refine QSpec.of_vc Try.func30 (ann := fun _ => noAnn) fun n hn => ?_
  refine vc_by (X :=
      true = true ∧
      ifB (decide ((if c > a then c else a) > if d < b then d else b))
      (Done
      (Value.tuple #[Value.agg #[Value.int IntKind.i64 (0 : Int), Value.int IntKind.i64 (0 : Int)], Value.bool false] =
      Value.tuple #[Value.agg #[Value.int IntKind.i64 (meetLo a b c d), Value.int IntKind.i64 (meetHi a b c d)], Value.bool (meetOk a b c d)]))
      (Done
      (Value.tuple #[Value.agg #[Value.int IntKind.i64 (if c > a then c else a), Value.int IntKind.i64 (if d < b then d else b)], Value.bool true] =
      Value.tuple #[Value.agg #[Value.int IntKind.i64 (meetLo a b c d), Value.int IntKind.i64 (meetHi a b c d)], Value.bool (meetOk a b c d)]))) (by kernel_rfl) ?_
  rw [e1, e2]
  refine ⟨rfl, ifB_intro (fun h => ⟨?_⟩) (fun h => ⟨?_⟩)⟩
  · have : meetOk a b c d = false := by simp [meetOk] at *; omega
    simp [meetLo, meetHi, this]
  · have : meetOk a b c d = true := by simp [meetOk] at *; omega
    simp [meetLo, meetHi, this]

theorem rshift_q (a b k : Int) (ha : In64 a) (hb : In64 b) (hk : In64 k) (m : M) : QSpec Try.prog 32 [sp a b, I k] m (.tuple #[sp (shiftLo a b k) (shiftHi a b k), I (shiftE a b k)]) := by
  refine QSpec.of_vc Try.func32 (ann := fun _ => noAnn) fun n hn => ?_
  refine vc_by (X :=
      true = true ∧
      ifB (decide (a > b))
      (Done
      (Value.tuple #[Value.agg #[Value.int IntKind.i64 (0 : Int), Value.int IntKind.i64 (0 : Int)], Value.int IntKind.i64 (1 : Int)] =
      Value.tuple #[Value.agg #[Value.int IntKind.i64 (shiftLo a b k), Value.int IntKind.i64 (shiftHi a b k)], Value.int IntKind.i64 (shiftE a b k)]))
      (∃ (n_1 : Int),
      ∃ (n_2 : Int),
      QSpec Try.prog (23 : Nat) [Value.int IntKind.i64 a, Value.int IntKind.i64 k] { π := m.π, sz := n, uf := m.uf : M }
      (Value.tuple #[Value.int IntKind.i64 n_1, Value.int IntKind.i64 n_2]) ∧
      ∃ (n_3 : Int),
      ∃ (n_4 : Int),
      QSpec Try.prog (23 : Nat) [Value.int IntKind.i64 b, Value.int IntKind.i64 k] { π := m.π, sz := n, uf := m.uf : M }
      (Value.tuple #[Value.int IntKind.i64 n_3, Value.int IntKind.i64 n_4]) ∧
      ifB (n_2 != (0 : Int))
      (Done
      (Value.tuple #[Value.agg #[Value.int IntKind.i64 (0 : Int), Value.int IntKind.i64 (0 : Int)], Value.int IntKind.i64 (10 : Int)] =
      Value.tuple #[Value.agg #[Value.int IntKind.i64 (shiftLo a b k), Value.int IntKind.i64 (shiftHi a b k)], Value.int IntKind.i64 (shiftE a b k)]))
      (ifB (n_4 != (0 : Int))
      (Done
      (Value.tuple #[Value.agg #[Value.int IntKind.i64 (0 : Int), Value.int IntKind.i64 (0 : Int)], Value.int IntKind.i64 (10 : Int)] =
      Value.tuple #[Value.agg #[Value.int IntKind.i64 (shiftLo a b k), Value.int IntKind.i64 (shiftHi a b k)], Value.int IntKind.i64 (shiftE a b k)]))
      (Done
      (Value.tuple #[Value.agg #[Value.int IntKind.i64 n_1, Value.int IntKind.i64 n_3], Value.int IntKind.i64 (0 : Int)] =
      Value.tuple #[Value.agg #[Value.int IntKind.i64 (shiftLo a b k), Value.int IntKind.i64 (shiftHi a b k)], Value.int IntKind.i64 (shiftE a b k)]))))) (by kernel_rfl) ?_
  refine ⟨rfl, ifB_intro (fun h => ⟨?_⟩) (fun h => ⟨_, _, radd_q a k ha hk _, _, _, radd_q b k hb hk _, ?_⟩)⟩
  · simp at h; simp [shiftLo, shiftHi, shiftE, h]
  · simp at h
    have h' : ¬ b < a := by omega
    by_cases h1 : In64 (a + k) <;> by_cases h2 : In64 (b + k) <;> simp [addE, addV, shiftLo, shiftHi, shiftE, h', h1, h2, ifB, done_iff]

theorem rsum_q (a : Option Addr) (c : Nat) (l : List Int) (hl : ∀ x ∈ l, In64 x) (hn : l.length ≤ 140737488355328) (m : M) (h : Row m a (ints l)) :
    QSpec Try.prog 27 [.slice a l.length c] m (.tuple #[I (if In64 (sumI l) then sumI l else 0), I (if In64 (sumI l) then 0 else 10)]) := by
  refine QSpec.of_vc Try.func27 (ann := fun _ => noAnn) fun n hn => ?_
  refine vc_by (X :=
      true = true ∧
      ∃ (n_1 : Int),
      ∃ (n_2 : Int),
      QSpec Try.prog (35 : Nat) [Value.slice a l.length c] { π := m.π, sz := n, uf := m.uf : M } (Value.agg #[Value.int IntKind.i64 n_1, Value.int IntKind.u64 n_2]) ∧
      ∃ (n_3 : Int),
      ∃ (n_4 : Int),
      QSpec Try.prog (34 : Nat) [Value.agg #[Value.int IntKind.i64 n_1, Value.int IntKind.u64 n_2]] { π := m.π, sz := n, uf := m.uf : M }
      (Value.tuple #[Value.int IntKind.i64 n_3, Value.int IntKind.i64 n_4]) ∧
      Done
      (Value.tuple #[Value.int IntKind.i64 n_3, Value.int IntKind.i64 n_4] =
      Value.tuple #[Value.int IntKind.i64 (if In64 (sumI l) then sumI l else (0 : Int)), Value.int IntKind.i64 (if In64 (sumI l) then (0 : Int) else (10 : Int))])) (by kernel_rfl) ?_
  have hb := sumI_bound l hl
  exact ⟨rfl, _, _, of_q a c l hl (by assumption) _ (h.sz hn), _, _, told_q _ (by omega) (by omega) _, ⟨rfl⟩⟩

theorem numback (a b : Int) (ha : In64 a) (hb : In64 b) (m : M) : QSpec Try.prog 3 [I a, I b] m (.bool true) := by
  refine QSpec.of_vc Try.func3 (ann := fun _ => noAnn) fun n hn => ?_
  refine vc_by (X :=
      true = true ∧
      ∃ (n_1 : Int),
      ∃ (n_2 : Int),
      QSpec Try.prog (12 : Nat) [Value.int IntKind.i64 a, Value.int IntKind.i64 b] { π := m.π, sz := n, uf := m.uf : M }
      (Value.tuple #[Value.int IntKind.i64 n_1, Value.int IntKind.i64 n_2]) ∧
      ∃ (n_3 : Int),
      ∃ (n_4 : Int),
      QSpec Try.prog (12 : Nat) [Value.int IntKind.i64 b, Value.int IntKind.i64 a] { π := m.π, sz := n, uf := m.uf : M }
      (Value.tuple #[Value.int IntKind.i64 n_3, Value.int IntKind.i64 n_4]) ∧
      ∃ (b_1 : Bool),
      QSpec Try.prog (13 : Nat) [] { π := m.π, sz := n, uf := m.uf : M } (Value.bool b_1) ∧
      ifB (!b_1) (Done (Value.bool false = Value.bool true))
      (ifB (n_1 != n_3) (Done (Value.bool false = Value.bool true))
      (ifB (n_2 != n_4) (Done (Value.bool false = Value.bool true))
      (ifB (n_2 != (0 : Int))
      (∃ (n_5 : Int),
      ∃ (n_6 : Int),
      QSpec Try.prog (14 : Nat) [Value.int IntKind.i64 a, Value.int IntKind.i64 b] { π := m.π, sz := n, uf := m.uf : M }
      (Value.tuple #[Value.int IntKind.i64 n_5, Value.int IntKind.i64 n_6]) ∧
      ifB (n_1 == (0 : Int))
      (ifB (n_2 == (10 : Int)) (Done (Value.bool (n_6 == (0 : Int)) = Value.bool true)) (Done (Value.bool false = Value.bool true)))
      (Done (Value.bool false = Value.bool true)))
      (∃ (n_5 : Int),
      ∃ (n_6 : Int),
      QSpec Try.prog (14 : Nat) [Value.int IntKind.i64 n_1, Value.int IntKind.i64 b] { π := m.π, sz := n, uf := m.uf : M }
      (Value.tuple #[Value.int IntKind.i64 n_5, Value.int IntKind.i64 n_6]) ∧
      ifB (n_6 == (0 : Int)) (Done (Value.bool (n_5 == a) = Value.bool true)) (Done (Value.bool false = Value.bool true))))))) (by kernel_rfl) ?_
  have hc : In64 (addV a b) := by unfold addV; split <;> simp_all [In64]
  have e : addV b a = addV a b ∧ addE b a = addE a b := by simp only [addV, addE, Int.add_comm b a, and_self]
  refine ⟨rfl, _, _, add_q a b ha hb _, _, _, add_q b a hb ha _, _, awake_q _, ?_⟩
  rw [e.1, e.2]
  simp only [bne_self_eq_false, Bool.not_true, ifB]
  refine ifB_intro (fun h => ⟨_, _, sub_q a b ha hb _, ?_⟩) (fun h => ⟨_, _, sub_q _ b hc hb _, ?_⟩)
  · simp only [bne_iff_ne, ne_eq, add_ok] at h
    have h2 : In64 (a - b) := by unfold In64 at *; omega
    simp [addV, addE, subE, h, h2, done_iff]
  · simp only [bne_eq_false_iff_eq, add_ok] at h
    have h3 : addV a b = a + b := by simp [addV, h]
    rw [h3]
    have h2 : a + b - b = a := by omega
    simp [subE, subV, h2, ha, done_iff]

theorem numrooms (a b v : Int) (ha : In64 a) (hb : In64 b) (hv : In64 v) (m : M) : QSpec Try.prog 4 [sp a b, I v] m (.bool true) := by
  refine QSpec.of_vc Try.func4 (ann := fun _ => noAnn) fun n hn => ?_
  refine vc_by (X :=
      true = true ∧
      ∃ (n_1 : Int),
      ∃ (n_2 : Int),
      QSpec Try.prog (15 : Nat) [Value.agg #[Value.int IntKind.i64 a, Value.int IntKind.i64 b], Value.int IntKind.i64 v] { π := m.π, sz := n, uf := m.uf : M }
      (Value.tuple #[Value.int IntKind.u64 n_1, Value.int IntKind.u64 n_2]) ∧
      ∃ (b_1 : Bool),
      QSpec Try.prog (13 : Nat) [] { π := m.π, sz := n, uf := m.uf : M } (Value.bool b_1) ∧
      ifB (!b_1) (Done (Value.bool false = Value.bool true))
      (∃ (b_2 : Bool),
      QSpec Try.prog (16 : Nat) [Value.agg #[Value.int IntKind.i64 a, Value.int IntKind.i64 b], Value.int IntKind.i64 v] { π := m.π, sz := n, uf := m.uf : M }
      (Value.bool b_2) ∧
      ifB (!b_2) (ifB (n_1 == (0 : Int)) (Done (Value.bool (n_2 == (0 : Int)) = Value.bool true)) (Done (Value.bool false = Value.bool true)))
      (∃ (b_3 : Bool),
      QSpec Try.prog (17 : Nat) [Value.agg #[Value.int IntKind.i64 a, Value.int IntKind.i64 b]] { π := m.π, sz := n, uf := m.uf : M } (Value.bool b_3) ∧
      ifB b_3
      (ifB (IntKind.u64.wrap (IntKind.u64.wrap v - n_1) == IntKind.u64.wrap a)
      (ifB (IntKind.u64.wrap (IntKind.u64.wrap v + n_2) == IntKind.u64.wrap b)
      (Done (Value.bool (IntKind.u64.wrap (n_1 + n_2) == IntKind.u64.wrap (IntKind.u64.wrap b - IntKind.u64.wrap a)) = Value.bool true))
      (Done (Value.bool false = Value.bool true)))
      (Done (Value.bool false = Value.bool true)))
      (Done (Value.bool false = Value.bool true))))) (by kernel_rfl) ?_
  refine ⟨rfl, _, _, room_q a b v ha hb hv _, _, awake_q _, ⟨_, has_q a b v _, ?_⟩⟩
  cases hh : hasB a b v
  · simp [roomD, roomU, hh, ifB, done_iff]
  · refine ⟨_, may_q a b _, ?_⟩
    simp [hasB] at hh
    have h1 : decide (a ≤ b) = true := by simp; omega
    rw [h1]
    unfold In64 at *
    refine ifB_true (ifB_intro (fun h => ifB_intro (fun h' => ⟨?_⟩) (fun h' => ⟨?_⟩)) (fun h => ⟨?_⟩))
    all_goals
      simp [roomD, roomU, hasB, hh, IntKind.wrap_u64] at *
      try omega

theorem nummeets (a b c d v : Int) (m : M) : QSpec Try.prog 5 [sp a b, sp c d, I v] m (.bool true) := by
  refine QSpec.of_vc Try.func5 (ann := fun _ => noAnn) fun n hn => ?_
  refine vc_by (X :=
      true = true ∧
      ∃ (n_1 : Int),
      ∃ (n_2 : Int),
      ∃ (b_1 : Bool),
      QSpec Try.prog (18 : Nat) [Value.agg #[Value.int IntKind.i64 a, Value.int IntKind.i64 b], Value.agg #[Value.int IntKind.i64 c, Value.int IntKind.i64 d]]
      { π := m.π, sz := n, uf := m.uf : M } (Value.tuple #[Value.agg #[Value.int IntKind.i64 n_1, Value.int IntKind.i64 n_2], Value.bool b_1]) ∧
      ∃ (n_3 : Int),
      ∃ (n_4 : Int),
      ∃ (b_2 : Bool),
      QSpec Try.prog (18 : Nat) [Value.agg #[Value.int IntKind.i64 c, Value.int IntKind.i64 d], Value.agg #[Value.int IntKind.i64 a, Value.int IntKind.i64 b]]
      { π := m.π, sz := n, uf := m.uf : M } (Value.tuple #[Value.agg #[Value.int IntKind.i64 n_3, Value.int IntKind.i64 n_4], Value.bool b_2]) ∧
      ∃ (b_3 : Bool),
      QSpec Try.prog (13 : Nat) [] { π := m.π, sz := n, uf := m.uf : M } (Value.bool b_3) ∧
      ifB (!b_3) (Done (Value.bool false = Value.bool true))
      (ifB (!(n_1 == n_3 && (n_2 == n_4 && true))) (Done (Value.bool false = Value.bool true))
      (ifB (!b_1 == b_2) (Done (Value.bool false = Value.bool true))
      (ifB (!b_1)
      (ifB (n_1 == (0 : Int) && (n_2 == (0 : Int) && true))
      (∃ (b_4 : Bool),
      QSpec Try.prog (16 : Nat) [Value.agg #[Value.int IntKind.i64 a, Value.int IntKind.i64 b], Value.int IntKind.i64 v]
      { π := m.π, sz := n, uf := m.uf : M } (Value.bool b_4) ∧
      ifB b_4
      (∃ (b : Bool),
      QSpec Try.prog (16 : Nat) [Value.agg #[Value.int IntKind.i64 c, Value.int IntKind.i64 d], Value.int IntKind.i64 v]
      { π := m.π, sz := n, uf := m.uf : M } (Value.bool b) ∧
      Done ((Value.bool !b) = Value.bool true))
      (Done (Value.bool true = Value.bool true)))
      (Done (Value.bool false = Value.bool true)))
      (true = true ∧
      ∃ (b_4 : Bool),
      QSpec Try.prog (17 : Nat) [Value.agg #[Value.int IntKind.i64 n_1, Value.int IntKind.i64 n_2]] { π := m.π, sz := n, uf := m.uf : M }
      (Value.bool b_4) ∧
      ifB b_4
      (∃ (b_5 : Bool),
      QSpec Try.prog (16 : Nat) [Value.agg #[Value.int IntKind.i64 n_1, Value.int IntKind.i64 n_2], Value.int IntKind.i64 v]
      { π := m.π, sz := n, uf := m.uf : M } (Value.bool b_5) ∧
      ∃ (b_6 : Bool),
      QSpec Try.prog (16 : Nat) [Value.agg #[Value.int IntKind.i64 a, Value.int IntKind.i64 b], Value.int IntKind.i64 v]
      { π := m.π, sz := n, uf := m.uf : M } (Value.bool b_6) ∧
      ifB b_6
      (∃ (b_7 : Bool),
      QSpec Try.prog (16 : Nat) [Value.agg #[Value.int IntKind.i64 c, Value.int IntKind.i64 d], Value.int IntKind.i64 v]
      { π := m.π, sz := n, uf := m.uf : M } (Value.bool b_7) ∧
      ifB (b_5 == b_7)
      (∃ (b_8 : Bool),
      QSpec Try.prog (16 : Nat) [Value.agg #[Value.int IntKind.i64 n_1, Value.int IntKind.i64 n_2], Value.int IntKind.i64 n_1]
      { π := m.π, sz := n, uf := m.uf : M } (Value.bool b_8) ∧
      ifB b_8
      (∃ (b_9 : Bool),
      QSpec Try.prog (16 : Nat) [Value.agg #[Value.int IntKind.i64 a, Value.int IntKind.i64 b], Value.int IntKind.i64 n_2]
      { π := m.π, sz := n, uf := m.uf : M } (Value.bool b_9) ∧
      ifB b_9
      (∃ (b : Bool),
      QSpec Try.prog (16 : Nat)
      [Value.agg #[Value.int IntKind.i64 c, Value.int IntKind.i64 d], Value.int IntKind.i64 n_1]
      { π := m.π, sz := n, uf := m.uf : M } (Value.bool b) ∧
      Done (Value.bool b = Value.bool true))
      (Done (Value.bool false = Value.bool true)))
      (Done (Value.bool false = Value.bool true)))
      (Done (Value.bool false = Value.bool true)))
      (ifB (b_5 == false)
      (∃ (b_7 : Bool),
      QSpec Try.prog (16 : Nat) [Value.agg #[Value.int IntKind.i64 n_1, Value.int IntKind.i64 n_2], Value.int IntKind.i64 n_1]
      { π := m.π, sz := n, uf := m.uf : M } (Value.bool b_7) ∧
      ifB b_7
      (∃ (b_8 : Bool),
      QSpec Try.prog (16 : Nat) [Value.agg #[Value.int IntKind.i64 a, Value.int IntKind.i64 b], Value.int IntKind.i64 n_2]
      { π := m.π, sz := n, uf := m.uf : M } (Value.bool b_8) ∧
      ifB b_8
      (∃ (b : Bool),
      QSpec Try.prog (16 : Nat) [Value.agg #[Value.int IntKind.i64 c, Value.int IntKind.i64 d], Value.int IntKind.i64 n_1]
      { π := m.π, sz := n, uf := m.uf : M } (Value.bool b) ∧
      Done (Value.bool b = Value.bool true))
      (Done (Value.bool false = Value.bool true)))
      (Done (Value.bool false = Value.bool true)))
      (Done (Value.bool false = Value.bool true))))
      (Done (Value.bool false = Value.bool true))))))) (by kernel_rfl) ?_
  have e : meetOk c d a b = meetOk a b c d := by rw [Bool.eq_iff_iff]; simp [meetOk]; omega
  have e1 : meetLo c d a b = meetLo a b c d := by simp only [meetLo, e, Int.max_comm c a]
  have e2 : meetHi c d a b = meetHi a b c d := by simp only [meetHi, e, Int.min_comm d b]
  refine ⟨rfl, _, _, _, meet_q a b c d _, _, _, _, meet_q c d a b _, _, awake_q _, ?_⟩
  rw [e, e1, e2]
  cases hm : meetOk a b c d
  · have h0 : meetLo a b c d = 0 ∧ meetHi a b c d = 0 := by simp [meetLo, meetHi, hm]
    rw [h0.1, h0.2]
    refine ⟨_, has_q _ _ _ _, ifB_intro (fun h => ⟨_, has_q _ _ _ _, ⟨?_⟩⟩) (fun h => ⟨rfl⟩)⟩
    simp [meetOk, hasB] at *
    omega
  · have h0 : meetLo a b c d = max a c ∧ meetHi a b c d = min b d := by simp [meetLo, meetHi, hm]
    rw [h0.1, h0.2]
    simp only [beq_self_eq_true, Bool.and_self, Bool.not_true, ifB]
    simp [meetOk] at hm
    have h1 : decide (max a c ≤ min b d) = true := by simp; omega
    refine ⟨trivial, _, may_q _ _ _, ?_⟩
    rw [h1]
    refine ⟨_, has_q _ _ _ _, _, has_q _ _ _ _, ?_⟩
    have h2 : hasB (max a c) (min b d) (max a c) = true := by simp [hasB]; omega
    have h3 : hasB a b (min b d) = true := by simp [hasB]; omega
    have h4 : hasB c d (max a c) = true := by simp [hasB]; omega
    refine ifB_intro (fun h => ⟨_, has_q _ _ _ _, ifB_intro (fun h5 => ⟨_, has_q _ _ _ _, ?_⟩) (fun h5 => ⟨?_⟩)⟩) (fun h => ifB_intro (fun h5 => ⟨_, has_q _ _ _ _, ?_⟩) (fun h5 => ⟨?_⟩))
    · rw [h2]; refine ⟨_, has_q _ _ _ _, ?_⟩; rw [h3]; exact ⟨_, has_q _ _ _ _, ⟨by rw [h4]⟩⟩
    · rw [beq_eq_false_iff_ne] at h5
      exact absurd (by rw [Bool.eq_iff_iff]; simp [hasB] at *; omega) h5
    · rw [h2]; refine ⟨_, has_q _ _ _ _, ?_⟩; rw [h3]; exact ⟨_, has_q _ _ _ _, ⟨by rw [h4]⟩⟩
    · rw [beq_eq_false_iff_ne] at h5
      exact absurd (by rw [Bool.eq_iff_iff]; simp [hasB] at *; omega) h5

theorem numshares (a b c : Int) (ha : InU a) (hb : In64 b) (hc : In64 c) (m : M) : QSpec Try.prog 7 [U a, I b, I c] m (.bool true) := by
  refine QSpec.of_vc Try.func7 (ann := fun _ => noAnn) fun n hn => ?_
  refine vc_by (X :=
      true = true ∧
      ∃ (b_1 : Bool),
      QSpec Try.prog (13 : Nat) [] { π := m.π, sz := n, uf := m.uf : M } (Value.bool b_1) ∧
      ifB b_1
      (∃ (n_1 : Int),
      QSpec Try.prog (20 : Nat) [Value.int IntKind.u64 a] { π := m.π, sz := n, uf := m.uf : M } (Value.int IntKind.i64 n_1) ∧
      ∃ (n_2 : Int),
      QSpec Try.prog (21 : Nat) [Value.int IntKind.u64 a] { π := m.π, sz := n, uf := m.uf : M } (Value.int IntKind.i64 n_2) ∧
      ifB (n_1 == n_2)
      (∃ (n_3 : Int),
      QSpec Try.prog (19 : Nat) [Value.int IntKind.u64 a, Value.int IntKind.i64 b, Value.int IntKind.i64 c] { π := m.π, sz := n, uf := m.uf : M }
      (Value.int IntKind.u64 n_3) ∧
      ∃ (n_4 : Int),
      QSpec Try.prog (22 : Nat) [Value.int IntKind.u64 a, Value.int IntKind.i64 b, Value.int IntKind.i64 c] { π := m.π, sz := n, uf := m.uf : M }
      (Value.int IntKind.u64 n_4) ∧
      Done (Value.bool (n_3 == n_4) = Value.bool true))
      (Done (Value.bool false = Value.bool true)))
      (Done (Value.bool false = Value.bool true))) (by kernel_rfl) ?_
  refine ⟨rfl, _, awake_q _, _, fit_q a ha _, _, rfit_q a ha _, ?_⟩
  simp only [beq_self_eq_true, ifB]
  exact ⟨_, share_q a b c ha hb hc _, _, rshare_q a b c ha hb hc _, ⟨by simp⟩⟩

theorem numadds (a b : Int) (ha : In64 a) (hb : In64 b) (m : M) : QSpec Try.prog 8 [I a, I b] m (.bool true) := by
  refine QSpec.of_vc Try.func8 (ann := fun _ => noAnn) fun n hn => ?_
  refine vc_by (X :=
      true = true ∧
      ∃ (n_1 : Int),
      ∃ (n_2 : Int),
      QSpec Try.prog (12 : Nat) [Value.int IntKind.i64 a, Value.int IntKind.i64 b] { π := m.π, sz := n, uf := m.uf : M }
      (Value.tuple #[Value.int IntKind.i64 n_1, Value.int IntKind.i64 n_2]) ∧
      ∃ (n_3 : Int),
      ∃ (n_4 : Int),
      QSpec Try.prog (14 : Nat) [Value.int IntKind.i64 a, Value.int IntKind.i64 b] { π := m.π, sz := n, uf := m.uf : M }
      (Value.tuple #[Value.int IntKind.i64 n_3, Value.int IntKind.i64 n_4]) ∧
      ∃ (n_5 : Int),
      ∃ (n_6 : Int),
      QSpec Try.prog (23 : Nat) [Value.int IntKind.i64 a, Value.int IntKind.i64 b] { π := m.π, sz := n, uf := m.uf : M }
      (Value.tuple #[Value.int IntKind.i64 n_5, Value.int IntKind.i64 n_6]) ∧
      ∃ (n_7 : Int),
      ∃ (n_8 : Int),
      QSpec Try.prog (24 : Nat) [Value.int IntKind.i64 a, Value.int IntKind.i64 b] { π := m.π, sz := n, uf := m.uf : M }
      (Value.tuple #[Value.int IntKind.i64 n_7, Value.int IntKind.i64 n_8]) ∧
      ∃ (b : Bool),
      QSpec Try.prog (13 : Nat) [] { π := m.π, sz := n, uf := m.uf : M } (Value.bool b) ∧
      ifB b
      (ifB (n_1 == n_5)
      (ifB (n_2 == n_6) (ifB (n_3 == n_7) (Done (Value.bool (n_4 == n_8) = Value.bool true)) (Done (Value.bool false = Value.bool true)))
      (Done (Value.bool false = Value.bool true)))
      (Done (Value.bool false = Value.bool true)))
      (Done (Value.bool false = Value.bool true))) (by kernel_rfl) ?_
  refine ⟨rfl, _, _, add_q a b ha hb _, _, _, sub_q a b ha hb _, _, _, radd_q a b ha hb _, _, _, rsub_q a b ha hb _, _, awake_q _, ?_⟩
  simp [ifB, done_iff]

theorem ofNat63 (n : Int) : n.fdiv (2 ^ 63) = n / 9223372036854775808 := by rw [Int.fdiv_eq_ediv_of_nonneg _ (by decide)]; rfl

theorem sum_q (a : Option Addr) (c : Nat) (l : List Int) (hl : ∀ x ∈ l, In64 x) (hn : l.length ≤ 140737488355328) (m : M) (h : Row m a (ints l)) :
    QSpec Try.prog 26 [.slice a l.length c] m (.tuple #[I (if In64 (sumI l) then sumI l else 0), I (if In64 (sumI l) then 0 else 10)]) := by
  refine QSpec.of_vc Try.func26 (ann := fun n _ => { A := Nat, inv := fun k => k ≤ l.length, st := fun k => [(12, .val (I k)), (11, .val (I l.length)), (10, .val (.slice a l.length c)), (5, .val (U (wideLo (sumI (l.take k))))), (4, .val (U (IntKind.u64.wrap (sumI (l.take k) / 18446744073709551616))))], own := fun _ => [], m := fun _ => { m with sz := n }, μ := fun k => l.length - k }) fun n hn => ?_
  refine vc_by (X :=
      true = true ∧
      (∃ (a_1 : Nat),
      a_1 ≤ l.length ∧
      { π := m.π, sz := n, uf := m.uf : M } = { π := m.π, sz := n, uf := m.uf : M } ∧
      ((SV.val (Value.int IntKind.i64 (0 : Int)) = SV.val (Value.int IntKind.i64 (↑a_1 : Int)) ∧ true = true) ∧
      (SV.val (Value.int IntKind.i64 (↑l.length : Int)) = SV.val (Value.int IntKind.i64 (↑l.length : Int)) ∧ true = true) ∧
      (SV.val (Value.slice a l.length c) = SV.val (Value.slice a l.length c) ∧ true = true) ∧
      (SV.val (Value.int IntKind.u64 (0 : Int)) = SV.val (Value.int IntKind.u64 (wideLo (sumI (List.take a_1 l)))) ∧ true = true) ∧
      (SV.val (Value.int IntKind.u64 (0 : Int)) = SV.val (Value.int IntKind.u64 (IntKind.u64.wrap (sumI (List.take a_1 l) / (18446744073709551616 : Int)))) ∧
      true = true) ∧
      True) ∧
      True) ∧
      ∀ (a_1 : Nat),
      a_1 ≤ l.length →
      ifB (decide ((↑a_1 : Int) < (↑l.length : Int)))
      (∃ (b : Nat),
      ∃ (off : Nat),
      a = some { block := b, off := off : Addr } ∧
      ((0 : Int) ≤ (↑a_1 : Int) ∧ (↑a_1 : Int) < (↑l.length : Int)) ∧
      ∃ (n_1 : Int),
      CellsAt { π := m.π, sz := n, uf := m.uf : M } b (off + (↑a_1 : Int).toNat * (1 : Nat)) [Value.int IntKind.i64 n_1] ∧
      ∃ (n_2 : Int),
      ∃ (n_3 : Int),
      CallV Try.prog (37 : Nat)
      [Value.int IntKind.u64 (wideLo (sumI (List.take a_1 l))), Value.int IntKind.u64 (IntKind.u64.wrap n_1), Value.int IntKind.u64 (0 : Int)]
      (Value.tuple #[Value.int IntKind.u64 n_2, Value.int IntKind.u64 n_3]) ∧
      ∃ (n_4 : Int),
      ∃ (n_5 : Int),
      CallV Try.prog (37 : Nat)
      [Value.int IntKind.u64 (IntKind.u64.wrap (sumI (List.take a_1 l) / (18446744073709551616 : Int))),
      Value.int IntKind.u64 (IntKind.u64.wrap (n_1.fdiv ((2 : Int) ^ (63 : Nat)))), Value.int IntKind.u64 n_3]
      (Value.tuple #[Value.int IntKind.u64 n_4, Value.int IntKind.u64 n_5]) ∧
      ∃ (a' : Nat),
      (a' ≤ l.length ∧
      { π := m.π, sz := n, uf := m.uf : M } = { π := m.π, sz := n, uf := m.uf : M } ∧
      ((SV.val (Value.int IntKind.i64 (IntKind.i64.wrap ((↑a_1 : Int) + (1 : Int)))) = SV.val (Value.int IntKind.i64 (↑a' : Int)) ∧
      true = true) ∧
      (SV.val (Value.int IntKind.i64 (↑l.length : Int)) = SV.val (Value.int IntKind.i64 (↑l.length : Int)) ∧ true = true) ∧
      (SV.val (Value.slice a l.length c) = SV.val (Value.slice a l.length c) ∧ true = true) ∧
      (SV.val (Value.int IntKind.u64 n_2) = SV.val (Value.int IntKind.u64 (wideLo (sumI (List.take a' l)))) ∧ true = true) ∧
      (SV.val (Value.int IntKind.u64 n_4) =
      SV.val (Value.int IntKind.u64 (IntKind.u64.wrap (sumI (List.take a' l) / (18446744073709551616 : Int)))) ∧
      true = true) ∧
      True) ∧
      True) ∧
      l.length - a' < l.length - a_1)
      (ifB
      (IntKind.u64.wrap (sumI (List.take a_1 l) / (18446744073709551616 : Int)) !=
      IntKind.u64.wrap ((IntKind.i64.wrap (wideLo (sumI (List.take a_1 l)))).fdiv ((2 : Int) ^ (63 : Nat))))
      (Done
      (Value.tuple #[Value.int IntKind.i64 (0 : Int), Value.int IntKind.i64 (10 : Int)] =
      Value.tuple #[Value.int IntKind.i64 (if In64 (sumI l) then sumI l else (0 : Int)), Value.int IntKind.i64 (if In64 (sumI l) then (0 : Int) else (10 : Int))]))
      (Done
      (Value.tuple #[Value.int IntKind.i64 (IntKind.i64.wrap (wideLo (sumI (List.take a_1 l)))), Value.int IntKind.i64 (0 : Int)] =
      Value.tuple #[Value.int IntKind.i64 (if In64 (sumI l) then sumI l else (0 : Int)), Value.int IntKind.i64 (if In64 (sumI l) then (0 : Int) else (10 : Int))])))) (by kernel_rfl) ?_
  have h' := h.sz hn
  refine ⟨rfl, ⟨0, by simp [sumI, wideLo, IntKind.wrap_u64]⟩, fun k hk => ifB_intro (fun hb => ?_) (fun hb => ?_)⟩
  · have hk2 : k < l.length := by simpa using hb
    obtain ⟨b, o, rfl, hc⟩ := h'.cells (by rw [ints_len]; omega)
    have hx := hl _ (List.getElem_mem hk2)
    unfold In64 at hx
    refine ⟨b, o, rfl, by omega, l[k], by simpa using ints_at hc hk2, _, _, add64 _ _ _ (by unfold wideLo; omega) (by simp [IntKind.wrap_u64]; omega) (.inl rfl), _, _, add64 _ _ _ (by simp [IntKind.wrap_u64]; omega) (by simp [IntKind.wrap_u64]; omega) (by unfold wideLo; simp [IntKind.wrap_u64]; omega), k + 1, ⟨hk2, rfl, ⟨⟨?_, rfl⟩, by simp, by simp, ⟨?_, rfl⟩, ⟨?_, rfl⟩, trivial⟩, trivial⟩, by omega⟩
    · simp [IntKind.wrap_i64]; omega
    · rw [sumI_take l k hk2]; simp [wideLo, IntKind.wrap_u64]
    · rw [sumI_take l k hk2, ofNat63]
      have hi : (sumI (l.take k) + l[k]) / 18446744073709551616 = sumI (l.take k) / 18446744073709551616 + l[k] / 9223372036854775808 + (wideLo (sumI (l.take k)) + IntKind.u64.wrap l[k] + 0) / 18446744073709551616 := by simp [wideLo, IntKind.wrap_u64]; omega
      rw [hi]
      generalize sumI (l.take k) / 18446744073709551616 = p
      generalize l[k] / 9223372036854775808 = r
      generalize (wideLo (sumI (l.take k)) + IntKind.u64.wrap l[k] + 0) / 18446744073709551616 = t
      simp [IntKind.wrap_u64]; omega
  · have : k = l.length := by simp at hb; omega
    subst this
    rw [List.take_length, ofNat63]
    have hb := sumI_bound l hl
    by_cases hin : In64 (sumI l)
    · rw [if_pos hin, if_pos hin]
      unfold In64 at hin
      refine ifB_intro (fun h => ?_) (fun h => ⟨?_⟩)
      · simp [wideLo, IntKind.wrap_u64, IntKind.wrap_i64] at h; omega
      · simp [wideLo, IntKind.wrap_i64]; omega
    · rw [if_neg hin, if_neg hin]
      unfold In64 at hin
      refine ifB_intro (fun h => ⟨rfl⟩) (fun h => ?_)
      · simp [wideLo, IntKind.wrap_u64, IntKind.wrap_i64] at h; omega

/-- what the first k parts have together -/
def shareS (a b : Int) (k : Nat) : Int := k * (a / b) + min (k : Int) (a % b)

theorem share_at (a b : Int) (k : Nat) (h1 : 1 ≤ b) (h2 : (k : Int) < b) : shareV a b k = a / b + (if (k : Int) < a % b then 1 else 0) := by
  have : ¬ (b < 1 ∨ (k : Int) < 0 ∨ b ≤ k) := by omega
  unfold shareV
  rw [if_neg this]
  split <;> simp

theorem share_step (a b : Int) (k : Nat) (h1 : 1 ≤ b) (h2 : (k : Int) < b) : shareS a b (k + 1) = shareS a b k + shareV a b k := by
  rw [share_at a b k h1 h2]
  unfold shareS
  push_cast
  rw [Int.add_mul, Int.one_mul]
  split <;> omega

theorem numparts (a b : Int) (ha : InU a) (hb : In64 b) (m : M) : QSpec Try.prog 6 [U a, I b] m (.bool true) := by
  refine QSpec.of_vc Try.func6 (ann := fun n _ => { A := Nat, inv := fun k : Nat => (k : Int) ≤ b, st := fun k => [(6, .val (I k)), (1, .val (I b)), (0, .val (U a)), (5, .val (U (shareS a b k)))], own := fun _ => [], m := fun _ => { m with sz := n }, μ := fun k : Nat => (b - k).toNat }) fun n hn => ?_
  refine vc_by (X :=
      true = true ∧
      ∃ (b_1 : Bool),
      QSpec Try.prog (13 : Nat) [] { π := m.π, sz := n, uf := m.uf : M } (Value.bool b_1) ∧
      ifB (!b_1) (Done (Value.bool false = Value.bool true))
      (ifB (decide (b < (1 : Int)))
      (ifB (decide (b > (300 : Int))) (Done (Value.bool true = Value.bool true))
      (∃ (n_1 : Int),
      QSpec Try.prog (19 : Nat) [Value.int IntKind.u64 a, Value.int IntKind.i64 b, Value.int IntKind.i64 (0 : Int)] { π := m.π, sz := n, uf := m.uf : M }
      (Value.int IntKind.u64 n_1) ∧
      Done (Value.bool (n_1 == (0 : Int)) = Value.bool true)))
      (ifB (decide (b > (300 : Int)))
      (ifB (decide (b > (300 : Int))) (Done (Value.bool true = Value.bool true))
      (∃ (n_1 : Int),
      QSpec Try.prog (19 : Nat) [Value.int IntKind.u64 a, Value.int IntKind.i64 b, Value.int IntKind.i64 (0 : Int)] { π := m.π, sz := n, uf := m.uf : M }
      (Value.int IntKind.u64 n_1) ∧
      Done (Value.bool (n_1 == (0 : Int)) = Value.bool true)))
      ((∃ (a_1 : Nat),
      (↑a_1 : Int) ≤ b ∧
      { π := m.π, sz := n, uf := m.uf : M } = { π := m.π, sz := n, uf := m.uf : M } ∧
      ((SV.val (Value.int IntKind.i64 (0 : Int)) = SV.val (Value.int IntKind.i64 (↑a_1 : Int)) ∧ true = true) ∧
      (SV.val (Value.int IntKind.i64 b) = SV.val (Value.int IntKind.i64 b) ∧ true = true) ∧
      (SV.val (Value.int IntKind.u64 a) = SV.val (Value.int IntKind.u64 a) ∧ true = true) ∧
      (SV.val (Value.int IntKind.u64 (0 : Int)) = SV.val (Value.int IntKind.u64 (shareS a b a_1)) ∧ true = true) ∧ True) ∧
      True) ∧
      ∀ (a_1 : Nat),
      (↑a_1 : Int) ≤ b →
      ifB (decide ((↑a_1 : Int) < b))
      (∃ (n_1 : Int),
      QSpec Try.prog (19 : Nat) [Value.int IntKind.u64 a, Value.int IntKind.i64 b, Value.int IntKind.i64 (↑a_1 : Int)] { π := m.π, sz := n, uf := m.uf : M }
      (Value.int IntKind.u64 n_1) ∧
      ifB (decide ((↑a_1 : Int) > (0 : Int)))
      (∃ (n_2 : Int),
      QSpec Try.prog (19 : Nat) [Value.int IntKind.u64 a, Value.int IntKind.i64 b, Value.int IntKind.i64 (IntKind.i64.wrap ((↑a_1 : Int) - (1 : Int)))]
      { π := m.π, sz := n, uf := m.uf : M } (Value.int IntKind.u64 n_2) ∧
      ifB (decide (n_1 > n_2)) (Done (Value.bool false = Value.bool true))
      (∃ (n_3 : Int),
      QSpec Try.prog (19 : Nat) [Value.int IntKind.u64 a, Value.int IntKind.i64 b, Value.int IntKind.i64 (0 : Int)]
      { π := m.π, sz := n, uf := m.uf : M } (Value.int IntKind.u64 n_3) ∧
      ifB (decide (IntKind.u64.wrap (n_3 - n_1) > (1 : Int))) (Done (Value.bool false = Value.bool true))
      (∃ (a' : Nat),
      ((↑a' : Int) ≤ b ∧
      { π := m.π, sz := n, uf := m.uf : M } = { π := m.π, sz := n, uf := m.uf : M } ∧
      ((SV.val (Value.int IntKind.i64 (IntKind.i64.wrap ((↑a_1 : Int) + (1 : Int)))) = SV.val (Value.int IntKind.i64 (↑a' : Int)) ∧
      true = true) ∧
      (SV.val (Value.int IntKind.i64 b) = SV.val (Value.int IntKind.i64 b) ∧ true = true) ∧
      (SV.val (Value.int IntKind.u64 a) = SV.val (Value.int IntKind.u64 a) ∧ true = true) ∧
      (SV.val (Value.int IntKind.u64 (IntKind.u64.wrap (shareS a b a_1 + n_1))) = SV.val (Value.int IntKind.u64 (shareS a b a')) ∧
      true = true) ∧
      True) ∧
      True) ∧
      (b - (↑a' : Int)).toNat < (b - (↑a_1 : Int)).toNat)))
      (∃ (n_2 : Int),
      QSpec Try.prog (19 : Nat) [Value.int IntKind.u64 a, Value.int IntKind.i64 b, Value.int IntKind.i64 (0 : Int)] { π := m.π, sz := n, uf := m.uf : M }
      (Value.int IntKind.u64 n_2) ∧
      ifB (decide (IntKind.u64.wrap (n_2 - n_1) > (1 : Int))) (Done (Value.bool false = Value.bool true))
      (∃ (a' : Nat),
      ((↑a' : Int) ≤ b ∧
      { π := m.π, sz := n, uf := m.uf : M } = { π := m.π, sz := n, uf := m.uf : M } ∧
      ((SV.val (Value.int IntKind.i64 (IntKind.i64.wrap ((↑a_1 : Int) + (1 : Int)))) = SV.val (Value.int IntKind.i64 (↑a' : Int)) ∧ true = true) ∧
      (SV.val (Value.int IntKind.i64 b) = SV.val (Value.int IntKind.i64 b) ∧ true = true) ∧
      (SV.val (Value.int IntKind.u64 a) = SV.val (Value.int IntKind.u64 a) ∧ true = true) ∧
      (SV.val (Value.int IntKind.u64 (IntKind.u64.wrap (shareS a b a_1 + n_1))) = SV.val (Value.int IntKind.u64 (shareS a b a')) ∧
      true = true) ∧
      True) ∧
      True) ∧
      (b - (↑a' : Int)).toNat < (b - (↑a_1 : Int)).toNat)))
      (ifB (shareS a b a_1 == a)
      (∃ (n_1 : Int),
      QSpec Try.prog (19 : Nat) [Value.int IntKind.u64 a, Value.int IntKind.i64 b, Value.int IntKind.i64 b] { π := m.π, sz := n, uf := m.uf : M }
      (Value.int IntKind.u64 n_1) ∧
      ifB (n_1 == (0 : Int))
      (∃ (n_2 : Int),
      QSpec Try.prog (19 : Nat) [Value.int IntKind.u64 a, Value.int IntKind.i64 b, Value.int IntKind.i64 (-1 : Int)] { π := m.π, sz := n, uf := m.uf : M }
      (Value.int IntKind.u64 n_2) ∧
      Done (Value.bool (n_2 == (0 : Int)) = Value.bool true))
      (Done (Value.bool false = Value.bool true)))
      (Done (Value.bool false = Value.bool true))))))) (by kernel_rfl) ?_
  unfold In64 at hb
  have hz : ∀ x : Int, x < 0 ∨ b ≤ x ∨ b < 1 → shareV a b x = 0 := fun x hx => by unfold shareV; rw [if_pos (by omega)]
  have i64 : ∀ x : Int, -1 ≤ x → x ≤ 300 → In64 x := fun x h1 h2 => by unfold In64; omega
  refine ⟨rfl, _, awake_q _, ifB_false (ifB_intro (fun h1 => ifB_intro (fun h2 => ⟨rfl⟩) (fun h2 => ⟨_, share_q a b 0 ha hb (by decide) _, ⟨?_⟩⟩)) (fun h1 => ifB_intro (fun h2 => ?_) (fun h2 => ?_)))⟩
  · simp only [decide_eq_true_eq] at h1
    rw [hz 0 (by omega)]; rfl
  · rw [h2]; exact ⟨rfl⟩
  · simp only [decide_eq_false_iff_not] at h1 h2
    have hd := div_facts a b ha.1 (by omega)
    unfold InU at ha
    have hS : ∀ k : Nat, (k : Int) ≤ b → 0 ≤ shareS a b k ∧ shareS a b k ≤ a := fun k hk => by
      have e1 : (k : Int) * (a / b) ≤ b * (a / b) := Int.mul_le_mul_of_nonneg_right hk hd.1
      have e2 : 0 ≤ (k : Int) * (a / b) := Int.mul_nonneg (by omega) hd.1
      rw [Int.mul_comm b] at e1
      unfold shareS
      omega
    refine ⟨⟨0, by simp [shareS]; omega⟩, fun k hk => ifB_intro (fun hb2 => ?_) (fun hb2 => ?_)⟩
    · simp only [decide_eq_true_eq] at hb2
      have hk64 := i64 k (by omega) (by omega)
      have e0 := share_at a b 0 (by omega) (by omega)
      have ek := share_at a b k (by omega) hb2
      have hs1 := hS k hk
      have hs2 := hS (k + 1) (by omega)
      rw [share_step a b k (by omega) hb2] at hs2
      have hstep : ∃ a', ((a' : Nat) : Int) ≤ b ∧ a' = k + 1 := ⟨k + 1, by omega, rfl⟩
      have w1 : IntKind.i64.wrap ((k : Int) + 1) = ((k + 1 : Nat) : Int) := by simp [IntKind.wrap_i64]; omega
      have w2 : IntKind.u64.wrap (shareS a b k + shareV a b k) = shareS a b (k + 1) := by rw [share_step a b k (by omega) hb2]; simp [IntKind.wrap_u64]; omega
      have w3 : IntKind.u64.wrap (shareV a b 0 - shareV a b k) ≤ 1 := by
        simp at e0
        rw [e0, ek]; simp [IntKind.wrap_u64]; omega
      refine ⟨_, share_q a b k ha hb hk64 _, ifB_intro (fun h3 => ?_) (fun h3 => ⟨_, share_q a b 0 ha hb (by decide) _, ifB_intro (fun h4 => ?_) (fun h4 => ⟨k + 1, ⟨by omega, rfl, ⟨⟨by rw [w1], rfl⟩, ⟨rfl, rfl⟩, ⟨rfl, rfl⟩, ⟨by rw [w2], rfl⟩, trivial⟩, trivial⟩, by omega⟩)⟩)⟩
      · simp only [decide_eq_true_eq] at h3
        obtain ⟨j, rfl⟩ : ∃ j, k = j + 1 := ⟨k - 1, by omega⟩
        have w4 : IntKind.i64.wrap (((j + 1 : Nat) : Int) - 1) = (j : Int) := by simp [IntKind.wrap_i64]; omega
        have ej := share_at a b j (by omega) (by omega)
        rw [w4]
        refine ⟨_, share_q a b j ha hb (i64 j (by omega) (by omega)) _, ifB_intro (fun h4 => ?_) (fun h4 => ⟨_, share_q a b 0 ha hb (by decide) _, ifB_intro (fun h4 => ?_) (fun h4 => ⟨j + 2, ⟨by omega, rfl, ⟨⟨by rw [w1], rfl⟩, ⟨rfl, rfl⟩, ⟨rfl, rfl⟩, ⟨by rw [w2], rfl⟩, trivial⟩, trivial⟩, by omega⟩)⟩)⟩
        · simp only [decide_eq_true_eq] at h4
          rw [ej, ek] at h4
          omega
        · simp only [decide_eq_true_eq] at h4
          omega
      · simp only [decide_eq_true_eq] at h4
        omega
    · simp only [decide_eq_false_iff_not] at hb2
      have : (k : Int) = b := by omega
      have e : shareS a b k = a := by unfold shareS; rw [this, Int.mul_comm]; omega
      rw [e]
      refine ifB_intro (fun h5 => ⟨_, share_q a b b ha hb hb _, ?_⟩) (fun h5 => by simp at h5)
      rw [hz b (by omega)]
      refine ifB_true ⟨_, share_q a b (-1) ha hb (by decide) _, ⟨?_⟩⟩
      rw [hz (-1) (by omega)]; rfl

theorem sumI_append (a b : List Int) : sumI (a ++ b) = sumI a + sumI b := by
  unfold sumI
  rw [List.foldl_append, foldl_add]

theorem sumI_reverse (l : List Int) : sumI l.reverse = sumI l := by
  induction l with
  | nil => rfl
  | cons x r ih =>
    rw [List.reverse_cons, sumI_append, ih, show x :: r = [x] ++ r from rfl, sumI_append]
    omega

structure OrdX where
  j : Nat
  a : Option Addr
  c : Nat
  m : M

def ordAnn (a : Option Addr) (c : Nat) (l : List Int) (k : Int) (m : M) : Ann where
  A := OrdX
  inv x := x.j ≤ l.length ∧ OwnB m.sz (fun _ => False) x.m 1 x.a x.j x.c (ints (l.reverse.take x.j)) ∧ Agree m.sz m x.m
  st x := [(6, .val (I ((l.length : Int) - 1 - x.j))), (5, .val (.slice x.a x.j x.c)), (0, .val (.slice a l.length c)), (1, .val (I k))]
  own _ := []
  m x := x.m
  μ x := l.length - x.j

theorem numorder (a : Option Addr) (c : Nat) (l : List Int) (k : Int) (hlc : l.length ≤ c) (hl : ∀ x ∈ l, In64 x) (hk : In64 k) (hn : l.length ≤ 17592186043904) (m : M) (h : Row m a (ints l)) : QSpec Try.prog 10 [.slice a l.length c, I k] m (.bool true) := by
  refine QSpec.of_vc Try.func10 (ann := fun n _ => ordAnn a c l k { m with sz := n }) fun n hn => ?_
  refine vc_by (X :=
      true = true ∧
      (∃ (a_1 : OrdX),
      (a_1.j ≤ l.length ∧
      OwnB n (fun (x : Nat) => False) a_1.m (1 : Nat) a_1.a a_1.j a_1.c (ints (List.take a_1.j l.reverse)) ∧ Agree n { π := m.π, sz := n, uf := m.uf : M } a_1.m) ∧
      { π := m.π, sz := n, uf := m.uf : M } = a_1.m ∧
      ((SV.val (Value.int IntKind.i64 (IntKind.i64.wrap ((↑l.length : Int) - (1 : Int)))) = SV.val (Value.int IntKind.i64 ((↑l.length : Int) - (1 : Int) - (↑a_1.j : Int))) ∧
      true = true) ∧
      (SV.val (Value.slice none (0 : Nat) (0 : Nat)) = SV.val (Value.slice a_1.a a_1.j a_1.c) ∧ true = true) ∧
      (SV.val (Value.slice a l.length c) = SV.val (Value.slice a l.length c) ∧ true = true) ∧
      (SV.val (Value.int IntKind.i64 k) = SV.val (Value.int IntKind.i64 k) ∧ true = true) ∧ True) ∧
      True) ∧
      ∀ (a_1 : OrdX),
      a_1.j ≤ l.length ∧
      OwnB n (fun (x : Nat) => False) a_1.m (1 : Nat) a_1.a a_1.j a_1.c (ints (List.take a_1.j l.reverse)) ∧ Agree n { π := m.π, sz := n, uf := m.uf : M } a_1.m →
      ifB (decide ((↑l.length : Int) - (1 : Int) - (↑a_1.j : Int) ≥ (0 : Int)))
      (∃ (b : Nat),
      ∃ (off : Nat),
      a = some { block := b, off := off : Addr } ∧
      ((0 : Int) ≤ (↑l.length : Int) - (1 : Int) - (↑a_1.j : Int) ∧ (↑l.length : Int) - (1 : Int) - (↑a_1.j : Int) < (↑l.length : Int)) ∧
      ∃ (n_1 : Int),
      CellsAt a_1.m b (off + ((↑l.length : Int) - (1 : Int) - (↑a_1.j : Int)).toNat * (1 : Nat)) [Value.int IntKind.i64 n_1] ∧
      true = true ∧
      ∀ (b : Nat),
      a_1.m.sz ≤ b →
      ∃ (old : List Value),
      ∃ (src : List Value),
      AppPre n (fun (x : Nat) => False) (a_1.m.newBlock b [Value.int IntKind.i64 n_1]) (1 : Nat) (8 : Nat) a_1.a a_1.j a_1.c
      (some { block := b, off := (0 : Nat) : Addr }) (1 : Nat) old src ∧
      ∀ (a' : Option Addr) (c' : Nat) (m' : M),
      AppPost Try.prog (3 : Nat) (a_1.m.newBlock b [Value.int IntKind.i64 n_1]) (1 : Nat) a_1.a a_1.j a_1.c (1 : Nat) old src a' c' m' →
      ∃ (a'_1 : OrdX),
      ((a'_1.j ≤ l.length ∧
      OwnB n (fun (x : Nat) => False) a'_1.m (1 : Nat) a'_1.a a'_1.j a'_1.c (ints (List.take a'_1.j l.reverse)) ∧
      Agree n { π := m.π, sz := n, uf := m.uf : M } a'_1.m) ∧
      m' = a'_1.m ∧
      ((SV.val (Value.int IntKind.i64 (IntKind.i64.wrap ((↑l.length : Int) - (1 : Int) - (↑a_1.j : Int) - (1 : Int)))) =
      SV.val (Value.int IntKind.i64 ((↑l.length : Int) - (1 : Int) - (↑a'_1.j : Int))) ∧
      true = true) ∧
      (SV.val (Value.slice a' (a_1.j + (1 : Nat)) c') = SV.val (Value.slice a'_1.a a'_1.j a'_1.c) ∧ true = true) ∧
      (SV.val (Value.slice a l.length c) = SV.val (Value.slice a l.length c) ∧ true = true) ∧
      (SV.val (Value.int IntKind.i64 k) = SV.val (Value.int IntKind.i64 k) ∧ true = true) ∧ True) ∧
      True) ∧
      l.length - a'_1.j < l.length - a_1.j)
      (∃ (n : Int),
      ∃ (n_1 : Int),
      QSpec Try.prog (26 : Nat) [Value.slice a l.length c] a_1.m (Value.tuple #[Value.int IntKind.i64 n, Value.int IntKind.i64 n_1]) ∧
      ∃ (n_2 : Int),
      ∃ (n_3 : Int),
      QSpec Try.prog (26 : Nat) [Value.slice a_1.a a_1.j a_1.c] a_1.m (Value.tuple #[Value.int IntKind.i64 n_2, Value.int IntKind.i64 n_3]) ∧
      ∃ (b : Bool),
      QSpec Try.prog (13 : Nat) [] a_1.m (Value.bool b) ∧
      ifB (!b) (Done (Value.bool false = Value.bool true))
      (ifB (n != n_2) (Done (Value.bool false = Value.bool true))
      (ifB (n_1 != n_3) (Done (Value.bool false = Value.bool true))
      ((true = true ∧
      (0 : Int) ≤ (0 : Int) ∧
      ((0 : Int) ≤
      if (if (↑l.length : Int) < k then (↑l.length : Int) else k) > (0 : Int) then if (↑l.length : Int) < k then (↑l.length : Int) else k
      else (0 : Int)) ∧
      (if (if (↑l.length : Int) < k then (↑l.length : Int) else k) > (0 : Int) then if (↑l.length : Int) < k then (↑l.length : Int) else k
      else (0 : Int)) ≤
      (↑c : Int) ∧
      True) ∧
      ∃ (n_4 : Int),
      ∃ (n_5 : Int),
      QSpec Try.prog (26 : Nat)
      [Value.slice (if (↑c : Int).toNat = (0 : Nat) then a else Option.map (fun (x : Addr) => x) a)
      ((if (if (↑l.length : Int) < k then (↑l.length : Int) else k) > (0 : Int) then if (↑l.length : Int) < k then (↑l.length : Int) else k
      else (0 : Int)).toNat -
      (0 : Nat))
      ((↑c : Int).toNat - (0 : Nat))]
      a_1.m (Value.tuple #[Value.int IntKind.i64 n_4, Value.int IntKind.i64 n_5]) ∧
      (true = true ∧
      ((0 : Int) ≤
      if (if (↑l.length : Int) < k then (↑l.length : Int) else k) > (0 : Int) then if (↑l.length : Int) < k then (↑l.length : Int) else k
      else (0 : Int)) ∧
      (if (if (↑l.length : Int) < k then (↑l.length : Int) else k) > (0 : Int) then if (↑l.length : Int) < k then (↑l.length : Int) else k
      else (0 : Int)) ≤
      (↑l.length : Int) ∧
      True ∧ True) ∧
      ∃ (n_6 : Int),
      ∃ (n_7 : Int),
      QSpec Try.prog (26 : Nat)
      [Value.slice
      (if
      (↑c : Int).toNat =
      (if (if (↑l.length : Int) < k then (↑l.length : Int) else k) > (0 : Int) then
      if (↑l.length : Int) < k then (↑l.length : Int) else k
      else (0 : Int)).toNat then
      a
      else
      Option.map
      (fun (x : Addr) =>
      x.add
      ((if (if (↑l.length : Int) < k then (↑l.length : Int) else k) > (0 : Int) then
      if (↑l.length : Int) < k then (↑l.length : Int) else k
      else (0 : Int)).toNat *
      Try.prog.types[(3 : Nat)].size))
      a)
      ((↑l.length : Int).toNat -
      (if (if (↑l.length : Int) < k then (↑l.length : Int) else k) > (0 : Int) then
      if (↑l.length : Int) < k then (↑l.length : Int) else k
      else (0 : Int)).toNat)
      ((↑c : Int).toNat -
      (if (if (↑l.length : Int) < k then (↑l.length : Int) else k) > (0 : Int) then
      if (↑l.length : Int) < k then (↑l.length : Int) else k
      else (0 : Int)).toNat)]
      a_1.m (Value.tuple #[Value.int IntKind.i64 n_6, Value.int IntKind.i64 n_7]) ∧
      ifB (n_5 != (0 : Int)) (Done (Value.bool true = Value.bool true))
      (ifB (n_7 != (0 : Int)) (Done (Value.bool true = Value.bool true))
      (∃ (n_8 : Int),
      ∃ (n_9 : Int),
      QSpec Try.prog (12 : Nat) [Value.int IntKind.i64 n_4, Value.int IntKind.i64 n_6] a_1.m
      (Value.tuple #[Value.int IntKind.i64 n_8, Value.int IntKind.i64 n_9]) ∧
      ifB (n_8 == n) (Done (Value.bool (n_9 == n_1) = Value.bool true)) (Done (Value.bool false = Value.bool true))))))))) (by kernel_rfl) ?_
  have h' := h.sz hn
  refine ⟨rfl, ⟨⟨0, none, 0, { m with sz := n }⟩, ⟨Nat.zero_le _, .nil, Agree.refl _ _⟩, rfl, ⟨⟨?_, rfl⟩, ⟨rfl, rfl⟩, ⟨rfl, rfl⟩, ⟨rfl, rfl⟩, trivial⟩, trivial⟩, fun x ⟨hx1, hx2, hx3⟩ => ifB_intro (fun hb => ?_) (fun hb => ?_)⟩
  · simp [IntKind.wrap_i64]; omega
  · simp only [decide_eq_true_eq, ge_iff_le] at hb
    have hr := h'.agree hx3
    obtain ⟨b, o, rfl, hc⟩ := hr.cells (by rw [ints_len]; omega)
    have hlt : l.length - 1 - x.j < l.length := by omega
    have e1 : ((l.length : Int) - 1 - x.j).toNat = l.length - 1 - x.j := by omega
    rw [e1]
    refine ⟨b, o, rfl, by omega, l[l.length - 1 - x.j], by simpa using ints_at hc hlt, rfl, fun b2 hb2 => ⟨ints (l.reverse.take x.j), [I l[l.length - 1 - x.j]], ?_, fun a' c' m' hp => ⟨⟨x.j + 1, a', c', m'⟩, ⟨⟨by simp only; omega, ?_, ?_⟩, rfl, ⟨⟨?_, rfl⟩, ⟨rfl, rfl⟩, ⟨rfl, rfl⟩, ⟨rfl, rfl⟩, trivial⟩, trivial⟩, by simp only; omega⟩⟩⟩
    · have ho : OwnB n (fun _ => False) (x.m.newBlock b2 [I l[l.length - 1 - x.j]]) 1 x.a x.j x.c (ints (l.reverse.take x.j)) :=
        hx2.of (by simp only [M.newBlock]; omega) fun b' o' _ hb' => ⟨newBlock_other (by omega), .inr⟩
      exact ho.appPre Row.new rfl rfl ⟨by omega, by omega⟩
    · have ho : OwnB n (fun _ => False) (x.m.newBlock b2 [I l[l.length - 1 - x.j]]) 1 x.a x.j x.c (ints (l.reverse.take x.j)) :=
        hx2.of (by simp only [M.newBlock]; omega) fun b' o' _ hb' => ⟨newBlock_other (by omega), .inr⟩
      have := ho.append hp rfl (zeroRow_len (z := I 0) rfl rfl rfl) (by simp only [M.newBlock]; have := hx3.2.2; simp only at this; omega)
      rw [List.take_succ_eq_append_getElem (by simp; omega), List.getElem_reverse]
      simpa [ints] using this
    · have ho : OwnB n (fun _ => False) (x.m.newBlock b2 [I l[l.length - 1 - x.j]]) 1 x.a x.j x.c (ints (l.reverse.take x.j)) :=
        hx2.of (by simp only [M.newBlock]; omega) fun b' o' _ hb' => ⟨newBlock_other (by omega), .inr⟩
      have h3 := hx3.2.2
      simp only at h3
      exact (hx3.trans (newBlock_agreeB (by omega))).trans (hp.agree (by simp only [M.newBlock]; omega) ho)
    · simp [IntKind.wrap_i64]; omega
  · simp only [decide_eq_false_iff_not, ge_iff_le] at hb
    have hj : x.j = l.length := by omega
    have hr := h'.agree hx3
    have hb2 := hx2.row
    rw [hj, ← List.length_reverse, List.take_length] at hb2
    have hS := sum_q a c l hl (by omega) x.m hr
    have hS2 := sum_q x.a x.c l.reverse (fun y hy => hl y (by simpa using hy)) (by simp; omega) x.m hb2
    have er := sumI_reverse l
    rw [er, List.length_reverse, ← hj] at hS2
    refine ⟨_, _, hS, _, _, hS2, _, awake_q _, ifB_false ?_⟩
    simp only [bne_self_eq_false]
    refine ifB_false (ifB_false ?_)
    obtain ⟨K, hK, hKl⟩ : ∃ K : Nat, (if (if (l.length : Int) < k then (l.length : Int) else k) > 0 then (if (l.length : Int) < k then (l.length : Int) else k) else 0) = (K : Int) ∧ K ≤ l.length :=
      ⟨((if (if (l.length : Int) < k then (l.length : Int) else k) > 0 then (if (l.length : Int) < k then (l.length : Int) else k) else 0)).toNat, by split <;> split <;> omega, by split <;> split <;> omega⟩
    rw [hK]
    simp only [Int.toNat_natCast]
    have e0 : l.take K ++ l.drop K = l := List.take_append_drop K l
    have hrk : Row x.m a (ints (l.take K) ++ ints (l.drop K)) := by rw [← List.flatMap_append, e0]; exact hr
    have hlk : (l.take K).length = K := by simp; omega
    have hdk : (l.drop K).length = l.length - K := by simp
    have h1 : Row x.m (if c = 0 then a else a.map fun y => y.add 0) (ints (l.take K)) :=
      Row.sub (cs := []) hrk.take rfl fun e => by
        have : l.take K = [] := by apply List.eq_nil_of_length_eq_zero; omega
        rw [this]; rfl
    have h2 : Row x.m (if c = K then a else a.map fun y => y.add (K * 1)) (ints (l.drop K)) :=
      Row.sub hrk (by rw [ints_len, hlk]; omega) fun e => by
        have : l.drop K = [] := by apply List.eq_nil_of_length_eq_zero; omega
        rw [this]; rfl
    have hS3 := sum_q _ c (l.take K) (fun y hy => hl y (List.mem_of_mem_take hy)) (by omega) x.m h1
    have hS4 := sum_q _ (c - K) (l.drop K) (fun y hy => hl y (List.mem_of_mem_drop hy)) (by omega) x.m h2
    have hsum : sumI l = sumI (l.take K) + sumI (l.drop K) := by rw [← sumI_append, e0]
    rw [hlk] at hS3
    rw [hdk] at hS4
    refine ⟨⟨trivial, by decide, Int.natCast_nonneg _, Int.ofNat_le.2 (by omega), trivial⟩, _, _, hS3, ⟨trivial, Int.natCast_nonneg _, Int.ofNat_le.2 hKl, trivial, trivial⟩, _, _, hS4, ?_⟩
    by_cases i1 : In64 (sumI (l.take K))
    · by_cases i2 : In64 (sumI (l.drop K))
      · rw [if_pos i1, if_pos i1, if_pos i2, if_pos i2]
        refine ifB_false (ifB_false ⟨_, _, add_q _ _ i1 i2 _, ?_⟩)
        simp only [addV, addE, ← hsum]
        simp [ifB, done_iff]
      · rw [if_neg i2, if_neg i2]
        exact ifB_intro (fun _ => ⟨trivial⟩) fun _ => ifB_true ⟨trivial⟩
    · rw [if_neg i1, if_neg i1]
      exact ifB_true ⟨trivial⟩

end Go.Proofs.Ytfagpihpelgmiaa
set_option linter.unusedVariables false
set_option linter.unusedSimpArgs false
namespace Go.Proofs.Ytfagpihpelgmiaa
open Go.Vc Go.RowKit Go.ChangeShapes Go.WideShapes Go.ChangeAt
set_option maxRecDepth 100000

theorem bulk_mem {H : Type} {d : DataW H} : ∀ {l : List (DataW H)}, d ∈ l → Rows.uptoBulk d ≤ Rows.uptoBulkAll l
  | x :: r, h => by
    simp only [Rows.uptoBulkAll]
    rcases List.mem_cons.1 h with e | e
    · subst e; omega
    · have := bulk_mem e; omega

theorem bulk_pos {H : Type} (d : DataW H) : 1 ≤ Rows.uptoBulk d := by
  cases d with
  | lit l => cases l <;> simp [Rows.uptoBulk]
  | _ => simp [Rows.uptoBulk]

theorem bulk_len {H : Type} : ∀ (l : List (DataW H)), l.length ≤ Rows.uptoBulkAll l
  | [] => by simp
  | x :: r => by have := bulk_pos x; have := bulk_len r; simp only [Rows.uptoBulkAll, List.length_cons]; omega

theorem bound_upto (H : Type) : Bound (H := H) 1048576 (fun d => Rows.uptoBulk d ≤ 1048576) where
  str l h _ := by simp [Rows.uptoBulk] at h; omega
  sl el sp h := by
    simp only [Rows.uptoBulk] at h
    have h1 := bulk_len el
    have h2 := bulk_len sp
    refine ⟨fun _ => by omega, fun x hx => ?_⟩
    rcases hx with hx | hx
    · have := bulk_mem hx; omega
    · have := bulk_mem hx; omega
  agg ps h x hx := by simp only [Rows.uptoBulk] at h; have := bulk_mem hx; omega

theorem bound_any (H : Type) : Bound (H := H) 9223372036854775807 (fun _ => True) where
  str l _ h := h
  sl el sp _ := ⟨fun h => h, fun _ _ => trivial⟩
  agg ps _ x _ := trivial

variable {H : Type} {enc : TypeId × Value → H} {W : World} {r : Reach} {b0 : Nat} {v : Value} {d : DataW H} {p : List MemPlace} {N : Nat} {Bd : DataW H → Prop}

theorem in64_of {n : Int} (h : IntKind.min .i64 ≤ n ∧ n ≤ IntKind.max .i64) : In64 n := by
  simpa [In64, IntKind.min, IntKind.max, IntKind.signed, IntKind.bits] using h

theorem open_i (hv : Value.okWide Try.prog W r b0 3 v) (h : DataW.Trod enc Try.prog W 0 (fun _ => true) true 3 v d p) : ∃ n : Int, v = I n ∧ In64 n := by
  obtain ⟨n, rfl⟩ := okWide_int Try.underlying3 hv
  obtain ⟨fuel, hf⟩ := h
  obtain ⟨n', hn, -, hw⟩ := DataW.trod_int Try.underlying3 hf
  cases hn
  exact ⟨n, rfl, in64_of (by simpa [Lit.wf] using hw)⟩

theorem open_b (hv : Value.okWide Try.prog W r b0 4 v) : ∃ b : Bool, v = .bool b := okWide_bool Try.underlying4 hv

theorem open_s (B : Bound N Bd) (hv : Value.okWide Try.prog W r b0 9 v) (h : DataW.Trod enc Try.prog W 0 (fun _ => true) true 9 v d p) (hb : Bd d) : ∃ s : ByteArray, v = .string s ∧ s.size ≤ N := by
  obtain ⟨s, rfl⟩ := okWide_string Try.underlying9 hv
  obtain ⟨fuel, hf⟩ := h
  have hr := rd_of_trod B 1 fuel 9 _ _ hf hb
  have e := Try.underlying9
  simp only [Rd, e] at hr
  obtain ⟨s', hs, hl⟩ := hr
  simp [Value.cells] at hs
  subst hs
  exact ⟨s, rfl, hl⟩

/-- a struct's cells -/
theorem open_agg {fs : Array Field} {t : TypeId} {k : Nat} (ht : Try.prog.underlying t = some (.struct fs)) (hk : Try.prog.cellsOf t = k) (hv : Value.okWide Try.prog W r b0 t v) : ∃ cs : List Value, v = .agg cs.toArray ∧ cs.length = k := by
  obtain ⟨cs, rfl, hs⟩ := okWide_struct ht hv
  exact ⟨cs.toList, by simp, by simpa using hs.trans hk⟩

/-- the rows of a list, one by one -/
theorem rows_list {α : Type} {e : α → List Value} {p : α → Prop} : ∀ (rows : List (List Value)), (∀ r ∈ rows, ∃ x : α, r = e x ∧ p x) → ∃ z : List α, z.length = rows.length ∧ rows.flatten = z.flatMap e ∧ ∀ x ∈ z, p x
  | [], _ => ⟨[], rfl, rfl, fun x hx => by simp at hx⟩
  | r :: rs, h => by
    obtain ⟨z, h1, h2, h3⟩ := rows_list rs fun r hr => h r (by simp [hr])
    obtain ⟨n, rfl, hn⟩ := h r (by simp)
    refine ⟨n :: z, by simp [h1], by simp only [List.flatten_cons, h2, List.flatMap_cons], fun x hx => ?_⟩
    rcases List.mem_cons.1 hx with e | e
    · subst e; exact hn
    · exact h3 x e

theorem open_ints (B : Bound N Bd) (hv : Value.okWide Try.prog W r b0 41 v) (h : DataW.Trod enc Try.prog W 0 (fun _ => true) true 41 v d p) (hb : Bd d) :
    ∃ (a : Option Addr) (c : Nat) (z : List Int), v = .slice a z.length c ∧ z.length ≤ N ∧ (∀ x ∈ z, In64 x) ∧ Row (M.all W) a (ints z) := by
  obtain ⟨a, len, cap, rfl⟩ := okWide_slice Try.underlying41 hv
  obtain ⟨fuel, hf⟩ := h
  have hr := rd_of_trod B 2 fuel 41 _ _ hf hb
  simp only [Rd, Try.underlying41, Try.underlying3] at hr
  obtain ⟨a', cap', rows, hcs, h1, h2, h3, h4, h5⟩ := hr
  obtain ⟨z, hz, he, hi⟩ := rows_list (α := Int) (e := fun n => [I n]) (p := In64) rows fun r hr => by
    obtain ⟨-, n, hn, hw⟩ := h4 r hr
    exact ⟨n, hn, in64_of hw⟩
  simp [Value.cells] at hcs
  obtain ⟨rfl, rfl, rfl⟩ := hcs
  rw [he] at h5
  exact ⟨a, cap, z, by rw [hz], by omega, hi, h5⟩

end Go.Proofs.Ytfagpihpelgmiaa
set_option linter.unusedVariables false
set_option linter.unusedSimpArgs false
namespace Go.Proofs.Ytfagpihpelgmiaa
open Go.Vc Go.RowKit
set_option maxRecDepth 100000

theorem plain_q (a a2 : Option Addr) (c c2 : Nat) (l : List Int) (l2 : List Int) (hn1 : l.length ≤ 140737488355328) (m : M) (h : Row m a (ints l)) (h2 : Row m a2 (ints l2)) :
    QSpec Try.prog 38 [.slice a l.length c, .slice a2 l2.length c2] m (.bool (decide (l = l2))) := by
  refine QSpec.of_vc Try.func38 (ann := fun n _ => { A := Nat, inv := fun k => k ≤ l.length ∧ l.take k = l2.take k, st := fun k => [(5, .val (I k)), (0, .val (.slice a l.length c)), (1, .val (.slice a2 l2.length c2))], own := fun _ => [], m := fun _ => { m with sz := n }, μ := fun k => (l.length - k) }) fun n hn => ?_
  refine vc_by (X :=
      true = true ∧
      ifB ((↑l.length : Int) != (↑l2.length : Int)) (Done (Value.bool false = Value.bool (decide (l = l2))))
      ((∃ (a_1 : Nat),
      (a_1 ≤ l.length ∧ List.take a_1 l = List.take a_1 l2) ∧
      { π := m.π, sz := n, uf := m.uf : M } = { π := m.π, sz := n, uf := m.uf : M } ∧
      ((SV.val (Value.int IntKind.i64 (0 : Int)) = SV.val (Value.int IntKind.i64 (↑a_1 : Int)) ∧ true = true) ∧
      (SV.val (Value.slice a l.length c) = SV.val (Value.slice a l.length c) ∧ true = true) ∧
      (SV.val (Value.slice a2 l2.length c2) = SV.val (Value.slice a2 l2.length c2) ∧ true = true) ∧ True) ∧
      True) ∧
      ∀ (a_1 : Nat),
      a_1 ≤ l.length ∧ List.take a_1 l = List.take a_1 l2 →
      ifB (decide ((↑a_1 : Int) < (↑l.length : Int)))
      (true = true ∧
      ∃ (b : Nat),
      ∃ (off : Nat),
      a = some { block := b, off := off : Addr } ∧
      ((0 : Int) ≤ (↑a_1 : Int) ∧ (↑a_1 : Int) < (↑l.length : Int)) ∧
      ∃ (n_1 : Int),
      CellsAt { π := m.π, sz := n, uf := m.uf : M } b (off + (↑a_1 : Int).toNat * (1 : Nat)) [Value.int IntKind.i64 n_1] ∧
      ∃ (b : Nat),
      ∃ (off : Nat),
      a2 = some { block := b, off := off : Addr } ∧
      ((0 : Int) ≤ (↑a_1 : Int) ∧ (↑a_1 : Int) < (↑l2.length : Int)) ∧
      ∃ (n_2 : Int),
      CellsAt { π := m.π, sz := n, uf := m.uf : M } b (off + (↑a_1 : Int).toNat * (1 : Nat)) [Value.int IntKind.i64 n_2] ∧
      ifB (n_1 != n_2) (Done (Value.bool false = Value.bool (decide (l = l2))))
      (∃ (a' : Nat),
      ((a' ≤ l.length ∧ List.take a' l = List.take a' l2) ∧
      { π := m.π, sz := n, uf := m.uf : M } = { π := m.π, sz := n, uf := m.uf : M } ∧
      ((SV.val (Value.int IntKind.i64 (IntKind.i64.wrap ((↑a_1 : Int) + (1 : Int)))) = SV.val (Value.int IntKind.i64 (↑a' : Int)) ∧
      true = true) ∧
      (SV.val (Value.slice a l.length c) = SV.val (Value.slice a l.length c) ∧ true = true) ∧
      (SV.val (Value.slice a2 l2.length c2) = SV.val (Value.slice a2 l2.length c2) ∧ true = true) ∧ True) ∧
      True) ∧
      l.length - a' < l.length - a_1))
      (Done (Value.bool true = Value.bool (decide (l = l2)))))) (by kernel_rfl) ?_
  have h' := h.sz hn
  have h2' := h2.sz hn
  refine ⟨rfl, ifB_intro (fun hb => ⟨?_⟩) (fun hb => ⟨⟨0, by simp⟩, fun k hk => ifB_intro (fun hb2 => ?_) (fun hb2 => ⟨?_⟩)⟩)⟩
  · have : l ≠ l2 := fun e => by subst e; simp at hb
    simp [this]
  · have hlen : l.length = l2.length := by simp at hb; omega
    have hk2 : k < l.length := by simpa using hb2
    obtain ⟨b, o, rfl, hc⟩ := h'.cells (by rw [ints_len]; omega)
    obtain ⟨b2, o2, rfl, hc2⟩ := h2'.cells (by rw [ints_len]; omega)
    refine ⟨rfl, b, o, rfl, by omega, l[k], by simpa using ints_at hc hk2, b2, o2, rfl, by omega, l2[k], by simpa using ints_at hc2 (by omega : k < l2.length), ifB_intro (fun h3 => ⟨?_⟩) (fun h3 => ⟨k + 1, ⟨⟨hk2, ?_⟩, rfl, ⟨⟨?_, rfl⟩, ⟨rfl, rfl⟩, ⟨rfl, rfl⟩, trivial⟩, trivial⟩, by omega⟩)⟩
    · have : l ≠ l2 := fun e => by subst e; simp at h3
      simp [this]
    · have h3 : l[k] = l2[k] := by simpa using h3
      rw [List.take_succ_eq_append_getElem hk2, List.take_succ_eq_append_getElem (by omega : k < l2.length), hk.2, h3]
    · simp [IntKind.wrap_i64]; omega
  · have hlen : l.length = l2.length := by simp at hb; omega
    have : k = l.length := by simp at hb2; omega
    have e := hk.2
    rw [this, List.take_length, hlen, List.take_length] at e
    simp [e]

/-- what 'Own' hands back -/
structure Owned (m : M) (cs marks : List Value) (len cap : Nat) (v : Value) (m' : M) : Prop where
  out : ∃ b, v = .slice (some ⟨b, 0, none⟩) len cap ∧ m.sz ≤ b ∧ b < m'.sz ∧ CellsAt m' b 0 (cs ++ marks)

theorem one_ints (l : List Int) : oneCells (ints l) = true := by
  induction l with
  | nil => rfl
  | cons x r ih => exact Bool.and_eq_true_iff.2 ⟨rfl, ih⟩

theorem own_q (a : Option Addr) (c : Nat) (l : List Int) (mk : Int) (hn : l.length ≤ 17592186043904) (m : M) (h : Row m a (ints l)) :
    Vc.Spec Try.prog 25 [.slice a l.length c, I mk] m (Owned m (ints l) [I mk, I mk] l.length (l.length + 2)) := by
  refine Vc.Spec.of_vc Try.func25 (ann := noAnn) ?_
  refine vc_by (X :=
      true = true ∧
      ((0 : Int) ≤ (0 : Int) ∧
      (0 : Int) ≤ IntKind.i64.wrap ((↑l.length : Int) + (2 : Int)) ∧
      (↑(8 : Nat) : Int) * IntKind.i64.wrap ((↑l.length : Int) + (2 : Int)) ≤ (281474976710656 : Int) ∧
      IntKind.i64.wrap ((↑l.length : Int) + (2 : Int)) ≤ (9223372036854775807 : Int)) ∧
      ∀ (b : Nat),
      m.sz ≤ b →
      ∃ (old : List Value),
      ∃ (src : List Value),
      AppPre m.sz (fun (x : Nat) => False)
      (m.newBlock b (madeCells #[Value.int IntKind.i64 (0 : Int)] ((IntKind.i64.wrap ((↑l.length : Int) + (2 : Int))).toNat * (1 : Nat))).toList) (1 : Nat) (8 : Nat)
      (some { block := b, off := (0 : Nat) : Addr }) (0 : Nat) (IntKind.i64.wrap ((↑l.length : Int) + (2 : Int))).toNat a l.length old src ∧
      ∀ (a' : Option Addr) (c' : Nat) (m' : M),
      AppPost Try.prog (3 : Nat)
      (m.newBlock b (madeCells #[Value.int IntKind.i64 (0 : Int)] ((IntKind.i64.wrap ((↑l.length : Int) + (2 : Int))).toNat * (1 : Nat))).toList) (1 : Nat)
      (some { block := b, off := (0 : Nat) : Addr }) (0 : Nat) (IntKind.i64.wrap ((↑l.length : Int) + (2 : Int))).toNat l.length old src a' c' m' →
      true = true ∧
      ∀ (b : Nat),
      m'.sz ≤ b →
      ∃ (old : List Value),
      ∃ (src : List Value),
      AppPre m.sz (fun (x : Nat) => False) (m'.newBlock b [Value.int IntKind.i64 mk, Value.int IntKind.i64 mk]) (1 : Nat) (8 : Nat) a' ((0 : Nat) + l.length)
      c' (some { block := b, off := (0 : Nat) : Addr }) (2 : Nat) old src ∧
      ∀ (a'_1 : Option Addr) (c'_1 : Nat) (m'_1 : M),
      AppPost Try.prog (3 : Nat) (m'.newBlock b [Value.int IntKind.i64 mk, Value.int IntKind.i64 mk]) (1 : Nat) a' ((0 : Nat) + l.length) c' (2 : Nat) old
      src a'_1 c'_1 m'_1 →
      (true = true ∧ (0 : Int) ≤ (0 : Int) ∧ (0 : Int) ≤ (↑l.length : Int) ∧ (↑l.length : Int) ≤ (↑c'_1 : Int) ∧ True) ∧
      Done
      (Owned m (ints l) [Value.int IntKind.i64 mk, Value.int IntKind.i64 mk] l.length (l.length + (2 : Nat))
      (Value.slice (if (↑c'_1 : Int).toNat = (0 : Nat) then a'_1 else Option.map (fun (x : Addr) => x) a'_1) ((↑l.length : Int).toNat - (0 : Nat))
      ((↑c'_1 : Int).toNat - (0 : Nat)))
      m'_1)) (by kernel_rfl) ?_
  have e : IntKind.i64.wrap ((l.length : Int) + 2) = ((l.length + 2 : Nat) : Int) := by simp [IntKind.wrap_i64]; omega
  rw [e]
  simp only [Int.toNat_natCast]
  refine ⟨trivial, by omega, fun b hb => ?_⟩
  have hz : ∀ k, (zeroRow Try.prog 3 k).length = k * 1 := zeroRow_len (z := I 0) rfl rfl rfl
  obtain ⟨p1, p2⟩ := owned_calc (P := Try.prog) (e := 3) (size := 1) (bytes := 8) (len := l.length) (m := m) (b := b) (z := (madeCells #[I 0] ((l.length + 2) * 1)).toList) (cs := ints l) (marks := [I mk, I mk]) hb h (by rw [ints_len]; omega) (one_ints l) rfl rfl hz (by simp [madeCells]) (by omega)
  refine ⟨[], ints l, p1, fun a' c' m' hp => ⟨trivial, fun b2 hb2 => ?_⟩⟩
  obtain ⟨p3, p4⟩ := p2 a' c' m' hp b2 hb2
  refine ⟨ints l, [I mk, I mk], p3, fun a'' c'' m'' hp2 => ?_⟩
  obtain ⟨rfl, rfl, q3, q4⟩ := p4 a'' c'' m'' hp2
  exact ⟨⟨trivial, by omega, by omega, by omega, trivial⟩, ⟨⟨b, by simp, hb, q3, q4.2⟩⟩⟩

theorem kept_q (b : Nat) (l : List Int) (a2 : Option Addr) (c2 : Nat) (mk : Int) (hn : l.length ≤ 17592186043904) (m : M) (hb : b < m.sz) (h : CellsAt m b 0 (ints l ++ [I mk, I mk])) (h2 : Row m a2 (ints l)) :
    QSpec Try.prog 28 [.slice (some ⟨b, 0, none⟩) l.length (l.length + 2), .slice a2 l.length c2, I mk] m (.bool true) := by
  refine QSpec.of_vc Try.func28 (ann := fun _ => noAnn) fun n hn => ?_
  refine vc_by (X :=
      true = true ∧
      ifB ((↑l.length : Int) != (↑l.length : Int)) (Done (Value.bool false = Value.bool true))
      (ifB (decide ((↑(l.length + (2 : Nat)) : Int) < IntKind.i64.wrap ((↑l.length : Int) + (2 : Int)))) (Done (Value.bool false = Value.bool true))
      ((true = true ∧
      (0 : Int) ≤ (0 : Int) ∧
      (0 : Int) ≤ IntKind.i64.wrap ((↑l.length : Int) + (2 : Int)) ∧ IntKind.i64.wrap ((↑l.length : Int) + (2 : Int)) ≤ (↑(l.length + (2 : Nat)) : Int) ∧ True) ∧
      ∃ (b_1 : Bool),
      QSpec Try.prog (38 : Nat) [Value.slice (some { block := b, off := (0 : Nat) : Addr }) l.length (l.length + (2 : Nat)), Value.slice a2 l.length c2]
      { π := m.π, sz := n, uf := m.uf : M } (Value.bool b_1) ∧
      ifB b_1
      (∃ (b_2 : Nat),
      ∃ (off : Nat),
      some { block := b, off := (0 : Nat) : Addr } = some { block := b_2, off := off : Addr } ∧
      ((0 : Int) ≤ (↑l.length : Int) ∧ (↑l.length : Int) < (↑((IntKind.i64.wrap ((↑l.length : Int) + (2 : Int))).toNat - (0 : Nat)) : Int)) ∧
      ∃ (n_1 : Int),
      CellsAt { π := m.π, sz := n, uf := m.uf : M } b_2 (off + (↑l.length : Int).toNat * (1 : Nat)) [Value.int IntKind.i64 n_1] ∧
      ifB (n_1 == mk)
      (∃ (b_3 : Nat),
      ∃ (off : Nat),
      some { block := b, off := (0 : Nat) : Addr } = some { block := b_3, off := off : Addr } ∧
      ((0 : Int) ≤ IntKind.i64.wrap ((↑l.length : Int) + (1 : Int)) ∧
      IntKind.i64.wrap ((↑l.length : Int) + (1 : Int)) < (↑((IntKind.i64.wrap ((↑l.length : Int) + (2 : Int))).toNat - (0 : Nat)) : Int)) ∧
      ∃ (n_2 : Int),
      CellsAt { π := m.π, sz := n, uf := m.uf : M } b_3 (off + (IntKind.i64.wrap ((↑l.length : Int) + (1 : Int))).toNat * (1 : Nat))
      [Value.int IntKind.i64 n_2] ∧
      Done (Value.bool (n_2 == mk) = Value.bool true))
      (Done (Value.bool false = Value.bool true)))
      (Done (Value.bool false = Value.bool true))))) (by kernel_rfl) ?_
  have e : IntKind.i64.wrap ((l.length : Int) + 2) = ((l.length + 2 : Nat) : Int) := by simp [IntKind.wrap_i64]; omega
  have e1 : IntKind.i64.wrap ((l.length : Int) + 1) = ((l.length + 1 : Nat) : Int) := by simp [IntKind.wrap_i64]; omega
  rw [e, e1]
  simp only [Int.toNat_natCast]
  have hk := h.drop
  rw [ints_len] at hk
  have hq := plain_q (some ⟨b, 0, none⟩) a2 (l.length + 2) c2 l l (by omega) { m with sz := n } (.at _ _ _ (Nat.lt_of_lt_of_le hb hn) ⟨h.take.out⟩) (h2.sz hn)
  refine ⟨trivial, ifB_intro (fun h3 => by simp at h3) (fun h3 => ifB_intro (fun h4 => by simp at h4) (fun h4 => ⟨⟨trivial, by omega, by omega, by omega, trivial⟩, _, hq, ?_⟩))⟩
  have et : decide (l = l) = true := by simp
  rw [et]
  refine ⟨b, 0, by simp, by constructor <;> simp <;> omega, mk, ⟨fun j hj => ?_⟩, ifB_intro (fun h5 => ⟨b, 0, by simp, by constructor <;> simp <;> omega, mk, ⟨fun j hj => ?_⟩, ⟨by simp⟩⟩) (fun h5 => by simp at h5)⟩
  · have := hk.out 0 (by simp)
    simp at hj; subst hj
    simpa using this
  · have := hk.out 1 (by simp)
    simp at hj; subst hj
    simpa [Nat.add_assoc] using this

theorem numsums (a : Option Addr) (c : Nat) (l : List Int) (hl : ∀ x ∈ l, In64 x) (hn : l.length ≤ 17592186043904) (m : M) (h : Row m a (ints l)) : QSpec Try.prog 9 [.slice a l.length c] m (.bool true) := by
  refine QSpec.of_vc Try.func9 (ann := fun _ => noAnn) fun n hn => ?_
  refine vc_by (X :=
      true = true ∧
      ∃ (S' : Nat → Prop),
      (∀ (b : Nat), S' b → m.uf b ∧ (n ≤ b ∨ False)) ∧
      ∀ (n_1 : Nat),
      n ≤ n_1 →
      SpecW Try.prog (25 : Nat) [Value.slice a l.length c, Value.int IntKind.i64 (71 : Int)] { π := m.π, sz := n_1, uf := m.uf : M } S' fun (v : Value) (m' : M) =>
      ∃ (a_2 : Option Addr),
      ∃ (n : Nat),
      ∃ (c_1 : Nat),
      v = Value.slice a_2 n c_1 ∧
      ∃ (n_2 : Int),
      ∃ (n_3 : Int),
      QSpec Try.prog (26 : Nat) [Value.slice a_2 n c_1] m' (Value.tuple #[Value.int IntKind.i64 n_2, Value.int IntKind.i64 n_3]) ∧
      ∃ (n_4 : Int),
      ∃ (n_5 : Int),
      QSpec Try.prog (27 : Nat) [Value.slice a l.length c] m' (Value.tuple #[Value.int IntKind.i64 n_4, Value.int IntKind.i64 n_5]) ∧
      ∃ (b : Bool),
      QSpec Try.prog (13 : Nat) [] m' (Value.bool b) ∧
      ifB b
      (ifB (n_2 == n_4)
      (ifB (n_3 == n_5)
      (∃ (b : Bool),
      QSpec Try.prog (28 : Nat) [Value.slice a_2 n c_1, Value.slice a l.length c, Value.int IntKind.i64 (71 : Int)] m' (Value.bool b) ∧
      Done (Value.bool b = Value.bool true))
      (Done (Value.bool false = Value.bool true)))
      (Done (Value.bool false = Value.bool true)))
      (Done (Value.bool false = Value.bool true))) (by kernel_rfl) ?_
  refine ⟨rfl, _, noS, fun n1 hn1 => (own_q a c l 71 (by assumption) _ (h.sz (by omega))).monoW fun v m' hag ⟨b, hv, hb1, hb2, hc⟩ => ⟨_, _, _, hv, ?_⟩⟩
  have hr := (h.sz (n := n1) (by omega)).agree hag
  refine ⟨_, _, sum_q _ _ l hl (by omega) m' (.at _ _ _ hb2 hc.take), _, _, rsum_q a c l hl (by omega) m' hr, _, awake_q _, ?_⟩
  refine ifB_true ?_
  simp only [beq_self_eq_true]
  exact ifB_true (ifB_true ⟨_, kept_q b l a c 71 (by assumption) m' hb2 hc hr, ⟨rfl⟩⟩)

end Go.Proofs.Ytfagpihpelgmiaa
