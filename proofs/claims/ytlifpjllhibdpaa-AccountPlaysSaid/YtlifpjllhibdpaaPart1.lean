/-
  Contracts of functions of this seat: what each hands back, and what it leaves of memory (n15, acc1, acc2, acc3, acc4, acc5, acc6, opn, acc7, acc8). Nothing here is trusted: Lean checks it.
-/
import Derived.Test.YtlifpjllhibdpaaVcLem
import Derived.Test.YtlifpjllhibdpaaVcOwned
import Derived.Test.YtlifpjllhibdpaaRows
import Derived.Test.YtlifpjllhibdpaaVcRow
import Derived.Test.YtlifpjllhibdpaaVcOpen
set_option linter.unusedVariables false
set_option linter.unusedSimpArgs false
namespace Go.Proofs.Ytlifpjllhibdpaa
open Go.Vc Go.RowKit
set_option maxRecDepth 100000

abbrev I (n : Int) : Value := .int .i64 n

abbrev U (n : Int) : Value := .int .u64 n

abbrev sp (lo hi : Int) : Value := .agg #[.int .i64 lo, .int .i64 hi]

def In64 (n : Int) : Prop := -9223372036854775808 ≤ n ∧ n ≤ 9223372036854775807

instance (n : Int) : Decidable (In64 n) := by unfold In64; infer_instance

def InU (n : Int) : Prop := 0 ≤ n ∧ n ≤ 18446744073709551615

def addV (a b : Int) : Int := if In64 (a + b) then a + b else 0

def addE (a b : Int) : Int := if In64 (a + b) then 0 else 10

def subV (a b : Int) : Int := if In64 (a - b) then a - b else 0

def subE (a b : Int) : Int := if In64 (a - b) then 0 else 10

def hasB (lo hi v : Int) : Bool := decide (lo ≤ v) && decide (v ≤ hi)

def roomD (lo hi v : Int) : Int := if hasB lo hi v then v - lo else 0

def roomU (lo hi v : Int) : Int := if hasB lo hi v then hi - v else 0

def meetOk (a b c d : Int) : Bool := decide (a ≤ b) && (decide (c ≤ d) && decide (max a c ≤ min b d))

def meetLo (a b c d : Int) : Int := if meetOk a b c d then max a c else 0

def meetHi (a b c d : Int) : Int := if meetOk a b c d then min b d else 0

def shiftE (a b k : Int) : Int := if b < a then 1 else if In64 (a + k) ∧ In64 (b + k) then 0 else 10

def shiftLo (a b k : Int) : Int := if b < a then 0 else if In64 (a + k) ∧ In64 (b + k) then a + k else 0

def shiftHi (a b k : Int) : Int := if b < a then 0 else if In64 (a + k) ∧ In64 (b + k) then b + k else 0

def shareV (n p i : Int) : Int := if p < 1 ∨ i < 0 ∨ p ≤ i then 0 else if i < n % p then n / p + 1 else n / p

def fitV (n : Int) : Int := min n 9223372036854775807

theorem add_q (a b : Int) (ha : In64 a) (hb : In64 b) (m : M) : QSpec Try.prog 78 [I a, I b] m (.tuple #[I (addV a b), I (addE a b)]) := by
  refine QSpec.of_vc Try.func78 (ann := fun _ => noAnn) fun n hn => ?_
  refine vc_by (X :=
      true = true ∧
      ifB (decide (a ≥ (0 : Int)))
      (ifB (decide (b ≥ (0 : Int)))
      (ifB (decide (IntKind.i64.wrap (a + b) < (0 : Int)))
      (Done
      (Value.tuple #[Value.int IntKind.i64 (0 : Int), Value.int IntKind.i64 (10 : Int)] = Value.tuple #[Value.int IntKind.i64 (addV a b), Value.int IntKind.i64 (addE a b)]))
      (ifB (decide (a < (0 : Int)))
      (ifB (decide (b < (0 : Int)))
      (ifB (decide (IntKind.i64.wrap (a + b) ≥ (0 : Int)))
      (Done
      (Value.tuple #[Value.int IntKind.i64 (0 : Int), Value.int IntKind.i64 (10 : Int)] =
      Value.tuple #[Value.int IntKind.i64 (addV a b), Value.int IntKind.i64 (addE a b)]))
      (Done
      (Value.tuple #[Value.int IntKind.i64 (IntKind.i64.wrap (a + b)), Value.int IntKind.i64 (0 : Int)] =
      Value.tuple #[Value.int IntKind.i64 (addV a b), Value.int IntKind.i64 (addE a b)])))
      (Done
      (Value.tuple #[Value.int IntKind.i64 (IntKind.i64.wrap (a + b)), Value.int IntKind.i64 (0 : Int)] =
      Value.tuple #[Value.int IntKind.i64 (addV a b), Value.int IntKind.i64 (addE a b)])))
      (Done
      (Value.tuple #[Value.int IntKind.i64 (IntKind.i64.wrap (a + b)), Value.int IntKind.i64 (0 : Int)] =
      Value.tuple #[Value.int IntKind.i64 (addV a b), Value.int IntKind.i64 (addE a b)]))))
      (ifB (decide (a < (0 : Int)))
      (ifB (decide (b < (0 : Int)))
      (ifB (decide (IntKind.i64.wrap (a + b) ≥ (0 : Int)))
      (Done
      (Value.tuple #[Value.int IntKind.i64 (0 : Int), Value.int IntKind.i64 (10 : Int)] =
      Value.tuple #[Value.int IntKind.i64 (addV a b), Value.int IntKind.i64 (addE a b)]))
      (Done
      (Value.tuple #[Value.int IntKind.i64 (IntKind.i64.wrap (a + b)), Value.int IntKind.i64 (0 : Int)] =
      Value.tuple #[Value.int IntKind.i64 (addV a b), Value.int IntKind.i64 (addE a b)])))
      (Done
      (Value.tuple #[Value.int IntKind.i64 (IntKind.i64.wrap (a + b)), Value.int IntKind.i64 (0 : Int)] =
      Value.tuple #[Value.int IntKind.i64 (addV a b), Value.int IntKind.i64 (addE a b)])))
      (Done
      (Value.tuple #[Value.int IntKind.i64 (IntKind.i64.wrap (a + b)), Value.int IntKind.i64 (0 : Int)] =
      Value.tuple #[Value.int IntKind.i64 (addV a b), Value.int IntKind.i64 (addE a b)]))))
      (ifB (decide (a < (0 : Int)))
      (ifB (decide (b < (0 : Int)))
      (ifB (decide (IntKind.i64.wrap (a + b) ≥ (0 : Int)))
      (Done
      (Value.tuple #[Value.int IntKind.i64 (0 : Int), Value.int IntKind.i64 (10 : Int)] = Value.tuple #[Value.int IntKind.i64 (addV a b), Value.int IntKind.i64 (addE a b)]))
      (Done
      (Value.tuple #[Value.int IntKind.i64 (IntKind.i64.wrap (a + b)), Value.int IntKind.i64 (0 : Int)] =
      Value.tuple #[Value.int IntKind.i64 (addV a b), Value.int IntKind.i64 (addE a b)])))
      (Done
      (Value.tuple #[Value.int IntKind.i64 (IntKind.i64.wrap (a + b)), Value.int IntKind.i64 (0 : Int)] =
      Value.tuple #[Value.int IntKind.i64 (addV a b), Value.int IntKind.i64 (addE a b)])))
      (Done
      (Value.tuple #[Value.int IntKind.i64 (IntKind.i64.wrap (a + b)), Value.int IntKind.i64 (0 : Int)] =
      Value.tuple #[Value.int IntKind.i64 (addV a b), Value.int IntKind.i64 (addE a b)])))) (by kernel_rfl) ?_
  refine ⟨rfl, ?_⟩
  repeat' (refine ifB_intro (fun h => ?_) (fun h => ?_))
  all_goals refine ⟨?_⟩
  all_goals (by_cases hin : In64 (a + b) <;> simp [addV, addE, hin] <;> simp [IntKind.wrap_i64, In64] at * <;> omega)

theorem has_q (a b v : Int) (m : M) : QSpec Try.prog 62 [sp a b, I v] m (.bool (hasB a b v)) := by
  refine QSpec.of_vc Try.func62 (ann := fun _ => noAnn) fun n hn => ?_
  refine vc_by (X :=
      true = true ∧ ifB (decide (a ≤ v)) (Done (Value.bool (decide (v ≤ b)) = Value.bool (hasB a b v))) (Done (Value.bool false = Value.bool (hasB a b v)))) (by kernel_rfl) ?_
  refine ⟨rfl, ?_⟩
  repeat' (refine ifB_intro (fun h => ?_) (fun h => ?_))
  all_goals (refine ⟨?_⟩; simp [hasB, h])

theorem add_ok (a b : Int) : addE a b = 0 ↔ In64 (a + b) := by unfold addE; split <;> simp [*]

theorem div_facts (a b : Int) (ha : 0 ≤ a) (hb : 1 ≤ b) : 0 ≤ a / b ∧ a / b ≤ a ∧ 0 ≤ a % b ∧ a % b < b ∧ a / b * b = a - a % b ∧ a / b ≤ a - a % b := by
  have h1 := Int.ediv_nonneg ha (by omega : 0 ≤ b)
  have h2 := Int.emod_nonneg a (by omega : b ≠ 0)
  have h3 := Int.emod_lt_of_pos a (by omega : 0 < b)
  have h4 := Int.mul_ediv_add_emod a b
  have h5 := Int.ediv_le_self b ha
  have h6 : a / b * 1 ≤ a / b * b := Int.mul_le_mul_of_nonneg_left hb h1
  have h7 : a / b * b = a - a % b := by rw [Int.mul_comm]; omega
  exact ⟨h1, h5, h2, h3, h7, by omega⟩

theorem share_q (a b c : Int) (ha : InU a) (hb : In64 b) (hc : In64 c) (m : M) : QSpec Try.prog 58 [U a, I b, I c] m (U (shareV a b c)) := by
  refine QSpec.of_vc Try.func58 (ann := fun _ => noAnn) fun n hn => ?_
  refine vc_by (X :=
      true = true ∧
      ifB (decide (b < (1 : Int))) (Done (Value.int IntKind.u64 (0 : Int) = Value.int IntKind.u64 (shareV a b c)))
      (ifB (decide (c < (0 : Int))) (Done (Value.int IntKind.u64 (0 : Int) = Value.int IntKind.u64 (shareV a b c)))
      (ifB (decide (c ≥ b)) (Done (Value.int IntKind.u64 (0 : Int) = Value.int IntKind.u64 (shareV a b c)))
      (true = true ∧
      IntKind.u64.wrap b ≠ (0 : Int) ∧
      IntKind.u64.wrap b ≠ (0 : Int) ∧
      ifB (decide (IntKind.u64.wrap c < a.tmod (IntKind.u64.wrap b)))
      (Done (Value.int IntKind.u64 (IntKind.u64.wrap (IntKind.u64.wrap (a.tdiv (IntKind.u64.wrap b)) + (1 : Int))) = Value.int IntKind.u64 (shareV a b c)))
      (Done (Value.int IntKind.u64 (IntKind.u64.wrap (a.tdiv (IntKind.u64.wrap b))) = Value.int IntKind.u64 (shareV a b c))))))) (by kernel_rfl) ?_
  unfold InU at ha
  unfold In64 at hb hc
  refine ⟨rfl, ifB_intro (fun h => ⟨?_⟩) (fun h => ifB_intro (fun h2 => ⟨?_⟩) (fun h2 => ifB_intro (fun h3 => ⟨?_⟩) (fun h3 => ?_)))⟩
  · simp at h; simp [shareV, h]
  · simp at h h2; simp [shareV, h2]
  · simp at h h2 h3; simp [shareV, h3]
  · simp at h h2 h3
    have hw : IntKind.u64.wrap b = b := by simp [IntKind.wrap_u64]; omega
    have hw2 : IntKind.u64.wrap c = c := by simp [IntKind.wrap_u64]; omega
    rw [hw, hw2, Int.tdiv_eq_ediv_of_nonneg ha.1, Int.tmod_eq_emod_of_nonneg ha.1]
    have hd := div_facts a b ha.1 (by omega)
    refine ⟨rfl, by omega, by omega, ifB_intro (fun h4 => ⟨?_⟩) (fun h4 => ⟨?_⟩)⟩
    · simp at h4
      have hne : ¬ (b < 1 ∨ c < 0 ∨ b ≤ c) := by omega
      simp [shareV, h4, hne, IntKind.wrap_u64]
      omega
    · simp at h4
      have hne : ¬ (b < 1 ∨ c < 0 ∨ b ≤ c) := by omega
      have h4' : ¬ c < a % b := by omega
      simp [shareV, h4', hne, IntKind.wrap_u64]
      omega

theorem rshare_q (a b c : Int) (ha : InU a) (hb : In64 b) (hc : In64 c) (m : M) : QSpec Try.prog 81 [U a, I b, I c] m (U (shareV a b c)) := by
  refine QSpec.of_vc Try.func81 (ann := fun _ => noAnn) fun n hn => ?_
  refine vc_by (X :=
      true = true ∧
      ifB (decide (b < (1 : Int))) (Done (Value.int IntKind.u64 (0 : Int) = Value.int IntKind.u64 (shareV a b c)))
      (ifB (decide (c < (0 : Int))) (Done (Value.int IntKind.u64 (0 : Int) = Value.int IntKind.u64 (shareV a b c)))
      (ifB (decide (c ≥ b)) (Done (Value.int IntKind.u64 (0 : Int) = Value.int IntKind.u64 (shareV a b c)))
      (IntKind.u64.wrap b ≠ (0 : Int) ∧
      ifB (decide (IntKind.u64.wrap c < IntKind.u64.wrap (a - IntKind.u64.wrap (IntKind.u64.wrap (a.tdiv (IntKind.u64.wrap b)) * IntKind.u64.wrap b))))
      (Done (Value.int IntKind.u64 (IntKind.u64.wrap (IntKind.u64.wrap (a.tdiv (IntKind.u64.wrap b)) + (1 : Int))) = Value.int IntKind.u64 (shareV a b c)))
      (Done (Value.int IntKind.u64 (IntKind.u64.wrap (a.tdiv (IntKind.u64.wrap b))) = Value.int IntKind.u64 (shareV a b c))))))) (by kernel_rfl) ?_
  unfold InU at ha
  unfold In64 at hb hc
  refine ⟨rfl, ifB_intro (fun h => ⟨?_⟩) (fun h => ifB_intro (fun h2 => ⟨?_⟩) (fun h2 => ifB_intro (fun h3 => ⟨?_⟩) (fun h3 => ?_)))⟩
  · simp at h; simp [shareV, h]
  · simp at h h2; simp [shareV, h2]
  · simp at h h2 h3; simp [shareV, h3]
  · simp at h h2 h3
    have hw : IntKind.u64.wrap b = b := by simp [IntKind.wrap_u64]; omega
    have hw2 : IntKind.u64.wrap c = c := by simp [IntKind.wrap_u64]; omega
    have hd := div_facts a b ha.1 (by omega)
    have hw3 : IntKind.u64.wrap (a / b) = a / b := by simp [IntKind.wrap_u64]; omega
    rw [hw, hw2, Int.tdiv_eq_ediv_of_nonneg ha.1, hw3, hd.2.2.2.2.1]
    have hw4 : IntKind.u64.wrap (a - IntKind.u64.wrap (a - a % b)) = a % b := by simp [IntKind.wrap_u64]; omega
    rw [hw4]
    have hne : ¬ (b < 1 ∨ c < 0 ∨ b ≤ c) := by omega
    refine ⟨by omega, ifB_intro (fun h4 => ⟨?_⟩) (fun h4 => ⟨?_⟩)⟩
    · simp at h4
      simp [shareV, h4, hne, IntKind.wrap_u64]
      omega
    · simp at h4
      have h4' : ¬ c < a % b := by omega
      simp [shareV, h4', hne]

theorem fit_q (a : Int) (ha : InU a) (m : M) : QSpec Try.prog 57 [U a] m (I (fitV a)) := by
  refine QSpec.of_vc Try.func57 (ann := fun _ => noAnn) fun n hn => ?_
  refine vc_by (X :=
      true = true ∧ Done (Value.int IntKind.i64 (IntKind.i64.wrap (if (9223372036854775807 : Int) < a then (9223372036854775807 : Int) else a)) = Value.int IntKind.i64 (fitV a))) (by kernel_rfl) ?_
  refine ⟨rfl, ⟨?_⟩⟩
  simp [fitV, IntKind.wrap_i64, InU] at *
  omega

theorem rfit_q (a : Int) (ha : InU a) (m : M) : QSpec Try.prog 86 [U a] m (I (fitV a)) := by
  refine QSpec.of_vc Try.func86 (ann := fun _ => noAnn) fun n hn => ?_
  refine vc_by (X :=
      true = true ∧ Done (Value.int IntKind.i64 (IntKind.i64.wrap (if (9223372036854775807 : Int) < a then (9223372036854775807 : Int) else a)) = Value.int IntKind.i64 (fitV a))) (by kernel_rfl) ?_
  refine ⟨rfl, ⟨?_⟩⟩
  simp [fitV, IntKind.wrap_i64, InU] at *
  omega

theorem rhas_q (a b v : Int) (m : M) : QSpec Try.prog 40 [sp a b, I v] m (.bool (hasB a b v)) := by
  refine QSpec.of_vc Try.func40 (ann := fun _ => noAnn) fun n hn => ?_
  refine vc_by (X :=
      true = true ∧ ifB (decide (a ≤ v)) (Done (Value.bool (decide (v ≤ b)) = Value.bool (hasB a b v))) (Done (Value.bool false = Value.bool (hasB a b v)))) (by kernel_rfl) ?_
  refine ⟨rfl, ?_⟩
  repeat' (refine ifB_intro (fun h => ?_) (fun h => ?_))
  all_goals (refine ⟨?_⟩; simp [hasB, h])

def wideHi (W : Int) : Int := IntKind.i64.wrap (W / 18446744073709551616)

def wideLo (W : Int) : Int := W % 18446744073709551616

abbrev wide (W : Int) : Value := .agg #[I (wideHi W), U (wideLo W)]

theorem add64 (x y c : Int) (hx : 0 ≤ x ∧ x < 18446744073709551616) (hy : 0 ≤ y ∧ y < 18446744073709551616) (hc : c = 0 ∨ c = 1) : CallV Try.prog 52 [U x, U y, U c] (.tuple #[U ((x + y + c) % 18446744073709551616), U ((x + y + c) / 18446744073709551616)]) := by
  refine ⟨?_⟩
  rcases hc with rfl | rfl
  all_goals
    show (Value.tuple #[.int .u64 (Int.ofNat ((x.toNat + y.toNat + Int.toNat _) % Extern.MathBitsCarry.m64)), .int .u64 (Int.ofNat ((x.toNat + y.toNat + Int.toNat _) / Extern.MathBitsCarry.m64))]) = _
    simp only [Extern.MathBitsCarry.m64, Value.tuple.injEq, Array.mk.injEq, List.cons.injEq, Value.int.injEq, true_and, and_true]
    constructor <;> simp <;> omega

theorem plus_q (W k : Int) (hk : In64 k) (m : M) : QSpec Try.prog 31 [wide W, I k] m (wide (W + k)) := by
  refine QSpec.of_vc Try.func31 (ann := fun _ => noAnn) fun n hn => ?_
  refine vc_by (X :=
      true = true ∧
      ∃ (n : Int),
      ∃ (n_1 : Int),
      CallV Try.prog (52 : Nat) [Value.int IntKind.u64 (wideLo W), Value.int IntKind.u64 (IntKind.u64.wrap k), Value.int IntKind.u64 (0 : Int)]
      (Value.tuple #[Value.int IntKind.u64 n, Value.int IntKind.u64 n_1]) ∧
      ifB (decide (k < (0 : Int)))
      (Done
      (Value.agg #[Value.int IntKind.i64 (IntKind.i64.wrap (IntKind.i64.wrap (wideHi W + IntKind.i64.wrap n_1) - (1 : Int))), Value.int IntKind.u64 n] =
      Value.agg #[Value.int IntKind.i64 (wideHi (W + k)), Value.int IntKind.u64 (wideLo (W + k))]))
      (Done
      (Value.agg #[Value.int IntKind.i64 (IntKind.i64.wrap (wideHi W + IntKind.i64.wrap n_1)), Value.int IntKind.u64 n] =
      Value.agg #[Value.int IntKind.i64 (wideHi (W + k)), Value.int IntKind.u64 (wideLo (W + k))]))) (by kernel_rfl) ?_
  unfold In64 at hk
  refine ⟨rfl, _, _, add64 _ _ _ (by unfold wideLo; omega) (by simp [IntKind.wrap_u64]; omega) (.inl rfl), ifB_intro (fun h => ⟨?_⟩) (fun h => ⟨?_⟩)⟩
  all_goals
    simp at h
    simp [wideHi, wideLo, IntKind.wrap_i64, IntKind.wrap_u64]
    omega

theorem not_int (k : Int) (hk : In64 k) : IntKind.i64.wrap ((BitVec.ofInt IntKind.i64.bits (-1) ^^^ BitVec.ofInt IntKind.i64.bits k).toNat : Int) = -k - 1 := by
  have e1 : BitVec.ofInt IntKind.i64.bits (-1) = BitVec.allOnes 64 := rfl
  have e2 : (BitVec.allOnes 64 ^^^ BitVec.ofInt 64 k) = ~~~ (BitVec.ofInt 64 k) := by rw [BitVec.xor_comm]; exact BitVec.xor_allOnes
  rw [e1]
  show IntKind.i64.wrap ((BitVec.allOnes 64 ^^^ BitVec.ofInt 64 k).toNat : Int) = -k - 1
  rw [e2, BitVec.toNat_not, BitVec.toNat_ofInt]
  unfold In64 at hk
  simp [IntKind.wrap_i64]
  omega

theorem less_q (W k : Int) (hk : In64 k) (m : M) : QSpec Try.prog 43 [wide W, I k] m (wide (W - k)) := by
  refine QSpec.of_vc Try.func43 (ann := fun _ => noAnn) fun n hn => ?_
  refine vc_by (X :=
      true = true ∧
      ∃ (n_1 : Int),
      ∃ (n_2 : Int),
      QSpec Try.prog (31 : Nat)
      [Value.agg #[Value.int IntKind.i64 (wideHi W), Value.int IntKind.u64 (wideLo W)],
      Value.int IntKind.i64 (IntKind.i64.wrap (↑(BitVec.ofInt (64 : Nat) (if true = true then (-1 : Int) else IntKind.i64.max) ^^^ BitVec.ofInt (64 : Nat) k).toNat : Int))]
      { π := m.π, sz := n, uf := m.uf : M } (Value.agg #[Value.int IntKind.i64 n_1, Value.int IntKind.u64 n_2]) ∧
      ∃ (n_3 : Int),
      ∃ (n_4 : Int),
      QSpec Try.prog (31 : Nat) [Value.agg #[Value.int IntKind.i64 n_1, Value.int IntKind.u64 n_2], Value.int IntKind.i64 (1 : Int)] { π := m.π, sz := n, uf := m.uf : M }
      (Value.agg #[Value.int IntKind.i64 n_3, Value.int IntKind.u64 n_4]) ∧
      Done (Value.agg #[Value.int IntKind.i64 n_3, Value.int IntKind.u64 n_4] = Value.agg #[Value.int IntKind.i64 (wideHi (W - k)), Value.int IntKind.u64 (wideLo (W - k))])) (by kernel_rfl) ?_
  have e : IntKind.i64.wrap ((BitVec.ofInt 64 (if true = true then -1 else IntKind.i64.max) ^^^ BitVec.ofInt 64 k).toNat : Int) = -k - 1 := not_int k hk
  rw [e]
  have e2 : W + (-k - 1) + 1 = W - k := by omega
  have hk' : In64 (-k - 1) := by unfold In64 at *; omega
  have h1 := plus_q (W + (-k - 1)) 1 (by decide) { m with sz := n }
  rw [e2] at h1
  exact ⟨rfl, _, _, plus_q W (-k - 1) hk' _, _, _, h1, ⟨rfl⟩⟩

theorem int_q (W : Int) (h1 : -85070591730234615865843651857942052864 ≤ W) (h2 : W ≤ 85070591730234615865843651857942052864) (m : M) :
    QSpec Try.prog 32 [wide W] m (.tuple #[I (IntKind.i64.wrap W), .bool (decide (In64 W))]) := by
  refine QSpec.of_vc Try.func32 (ann := fun _ => noAnn) fun n hn => ?_
  refine vc_by (X :=
      true = true ∧
      true = true ∧
      ifB (wideHi W == (0 : Int))
      (ifB (decide (wideLo W < (9223372036854775808 : Int)))
      (Done
      (Value.tuple #[Value.int IntKind.i64 (IntKind.i64.wrap (wideLo W)), Value.bool true] =
      Value.tuple #[Value.int IntKind.i64 (IntKind.i64.wrap W), Value.bool (decide (In64 W))]))
      (ifB (wideHi W == (-1 : Int))
      (Done
      (Value.tuple #[Value.int IntKind.i64 (IntKind.i64.wrap (wideLo W)), Value.bool (decide (wideLo W ≥ (9223372036854775808 : Int)))] =
      Value.tuple #[Value.int IntKind.i64 (IntKind.i64.wrap W), Value.bool (decide (In64 W))]))
      (Done
      (Value.tuple #[Value.int IntKind.i64 (IntKind.i64.wrap (wideLo W)), Value.bool false] =
      Value.tuple #[Value.int IntKind.i64 (IntKind.i64.wrap W), Value.bool (decide (In64 W))]))))
      (ifB (wideHi W == (-1 : Int))
      (Done
      (Value.tuple #[Value.int IntKind.i64 (IntKind.i64.wrap (wideLo W)), Value.bool (decide (wideLo W ≥ (9223372036854775808 : Int)))] =
      Value.tuple #[Value.int IntKind.i64 (IntKind.i64.wrap W), Value.bool (decide (In64 W))]))
      (Done
      (Value.tuple #[Value.int IntKind.i64 (IntKind.i64.wrap (wideLo W)), Value.bool false] =
      Value.tuple #[Value.int IntKind.i64 (IntKind.i64.wrap W), Value.bool (decide (In64 W))])))) (by kernel_rfl) ?_
  refine ⟨rfl, rfl, ?_⟩
  repeat' (refine ifB_intro (fun h => ?_) (fun h => ?_))
  all_goals refine ⟨?_⟩
  all_goals simp only [Value.tuple.injEq, Array.mk.injEq, List.cons.injEq, Value.bool.injEq, and_true, eq_comm (a := true), eq_comm (a := false), decide_eq_true_eq, decide_eq_false_iff_not, decide_eq_decide, beq_iff_eq, beq_eq_false_iff_ne] at *
  all_goals simp [wideHi, wideLo, IntKind.wrap_i64, In64] at *
  all_goals omega

/-- the sum of many, in order -/
def sumI (l : List Int) : Int := l.foldl (· + ·) 0

theorem foldl_add (l : List Int) (a : Int) : l.foldl (· + ·) a = a + l.foldl (· + ·) 0 := by
  induction l generalizing a with
  | nil => simp
  | cons x r ih => simp only [List.foldl_cons]; rw [ih, ih (0 + x)]; omega

theorem sumI_take (l : List Int) (k : Nat) (h : k < l.length) : sumI (l.take (k + 1)) = sumI (l.take k) + l[k] := by
  unfold sumI
  rw [List.take_succ_eq_append_getElem h, List.foldl_append]
  simp

theorem sumI_bound (l : List Int) (h : ∀ x ∈ l, In64 x) : -9223372036854775808 * (l.length : Int) ≤ sumI l ∧ sumI l ≤ 9223372036854775807 * (l.length : Int) := by
  induction l with
  | nil => simp [sumI]
  | cons x r ih =>
    have := ih (fun y hy => h y (by simp [hy]))
    have hx := h x (by simp)
    unfold In64 at hx
    have e : sumI (x :: r) = x + sumI r := by simp only [sumI, List.foldl_cons]; rw [foldl_add]; simp
    rw [e]
    simp only [List.length_cons, Int.natCast_add]
    omega

abbrev ints (l : List Int) : List Value := l.flatMap fun x => [I x]

theorem ints_len (l : List Int) : (ints l).length = l.length := by
  induction l with
  | nil => rfl
  | cons x r ih => simp only [ints, List.flatMap_cons, List.length_append, List.length_cons, List.length_nil] at *; omega

theorem ints_at {m : M} {b o i : Nat} {l : List Int} (h : CellsAt m b o (ints l)) (hi : i < l.length) : CellsAt m b (o + i) [I l[i]] := by
  have := CellsAt.elem (k := 1) (enc := fun x => [I x]) (fun _ => rfl) l o i hi h
  simpa using this

def ofAnn (a : Option Addr) (c : Nat) (l : List Int) (m : M) : Ann where
  A := Nat
  inv k := k ≤ l.length
  st k := [(4, .val (I k)), (0, .val (.slice a l.length c)), (3, .own 2 0), (2, .own 0 0)]
  own k := [(0, ⟨52, [I 0, U 0]⟩), (2, ⟨52, [I (wideHi (sumI (l.take k))), U (wideLo (sumI (l.take k)))]⟩)]
  m _ := m
  μ k := l.length - k

theorem of_q (a : Option Addr) (c : Nat) (l : List Int) (hl : ∀ x ∈ l, In64 x) (hn : l.length ≤ 140737488355328) (m : M) (h : Row m a (ints l)) :
    QSpec Try.prog 29 [.slice a l.length c] m (wide (sumI l)) := by
  refine QSpec.of_vc Try.func29 (ann := fun n _ => ofAnn a c l { m with sz := n }) fun n hn => ?_
  refine vc_by (X :=
      true = true ∧
      (∃ (a_1 : Nat),
      a_1 ≤ l.length ∧
      { π := m.π, sz := n, uf := m.uf : M } = { π := m.π, sz := n, uf := m.uf : M } ∧
      ((SV.val (Value.int IntKind.i64 (0 : Int)) = SV.val (Value.int IntKind.i64 (↑a_1 : Int)) ∧ true = true) ∧
      (SV.val (Value.slice a l.length c) = SV.val (Value.slice a l.length c) ∧ true = true) ∧
      (SV.own ((0 : Nat) + (1 : Nat) + (1 : Nat)) (0 : Nat) = SV.own (2 : Nat) (0 : Nat) ∧ true = true) ∧
      (SV.own ((0 : Nat) + (0 : Nat)) (0 : Nat) = SV.own (0 : Nat) (0 : Nat) ∧ true = true) ∧ True) ∧
      (some { ty := (52 : Nat), cs := [Value.int IntKind.i64 (0 : Int), Value.int IntKind.u64 (0 : Int)] : Bx } =
      some { ty := (52 : TypeId), cs := [Value.int IntKind.i64 (0 : Int), Value.int IntKind.u64 (0 : Int)] : Bx } ∧
      true = true) ∧
      (some { ty := (52 : Nat), cs := [Value.int IntKind.i64 (0 : Int), Value.int IntKind.u64 (0 : Int)] : Bx } =
      some { ty := (52 : TypeId), cs := [Value.int IntKind.i64 (wideHi (sumI (List.take a_1 l))), Value.int IntKind.u64 (wideLo (sumI (List.take a_1 l)))] : Bx } ∧
      true = true) ∧
      True) ∧
      ∀ (a_1 : Nat),
      a_1 ≤ l.length →
      ifB (decide ((↑a_1 : Int) < (↑l.length : Int)))
      (true = true ∧
      ∃ (b : Nat),
      ∃ (off : Nat),
      a = some { block := b, off := off : Addr } ∧
      ((0 : Int) ≤ (↑a_1 : Int) ∧ (↑a_1 : Int) < (↑l.length : Int)) ∧
      ∃ (n_1 : Int),
      CellsAt { π := m.π, sz := n, uf := m.uf : M } b (off + (↑a_1 : Int).toNat * (1 : Nat)) [Value.int IntKind.i64 n_1] ∧
      ∃ (n_2 : Int),
      ∃ (n_3 : Int),
      QSpec Try.prog (31 : Nat)
      [Value.agg #[Value.int IntKind.i64 (wideHi (sumI (List.take a_1 l))), Value.int IntKind.u64 (wideLo (sumI (List.take a_1 l)))],
      Value.int IntKind.i64 n_1]
      { π := m.π, sz := n, uf := m.uf : M } (Value.agg #[Value.int IntKind.i64 n_2, Value.int IntKind.u64 n_3]) ∧
      ∃ (a' : Nat),
      (a' ≤ l.length ∧
      { π := m.π, sz := n, uf := m.uf : M } = { π := m.π, sz := n, uf := m.uf : M } ∧
      ((SV.val (Value.int IntKind.i64 (IntKind.i64.wrap ((↑a_1 : Int) + (1 : Int)))) = SV.val (Value.int IntKind.i64 (↑a' : Int)) ∧ true = true) ∧
      (SV.val (Value.slice a l.length c) = SV.val (Value.slice a l.length c) ∧ true = true) ∧
      (SV.own (2 : Nat) (0 : Nat) = SV.own (2 : Nat) (0 : Nat) ∧ true = true) ∧
      (SV.own (0 : Nat) (0 : Nat) = SV.own (0 : Nat) (0 : Nat) ∧ true = true) ∧ True) ∧
      (some { ty := (52 : TypeId), cs := [Value.int IntKind.i64 (0 : Int), Value.int IntKind.u64 (0 : Int)] : Bx } =
      some { ty := (52 : TypeId), cs := [Value.int IntKind.i64 (0 : Int), Value.int IntKind.u64 (0 : Int)] : Bx } ∧
      true = true) ∧
      (some { ty := (52 : TypeId), cs := [Value.int IntKind.i64 n_2, Value.int IntKind.u64 n_3] : Bx } =
      some
      { ty := (52 : TypeId), cs := [Value.int IntKind.i64 (wideHi (sumI (List.take a' l))), Value.int IntKind.u64 (wideLo (sumI (List.take a' l)))] : Bx } ∧
      true = true) ∧
      True) ∧
      l.length - a' < l.length - a_1)
      (Done
      (Value.agg #[Value.int IntKind.i64 (wideHi (sumI (List.take a_1 l))), Value.int IntKind.u64 (wideLo (sumI (List.take a_1 l)))] =
      Value.agg #[Value.int IntKind.i64 (wideHi (sumI l)), Value.int IntKind.u64 (wideLo (sumI l))]))) (by kernel_rfl) ?_
  have h' := h.sz hn
  refine ⟨rfl, ⟨0, by simp [sumI, wideHi, wideLo, IntKind.wrap_i64]⟩, fun k hk => ifB_intro (fun hb => ?_) (fun hb => ⟨?_⟩)⟩
  · have hk2 : k < l.length := by simpa using hb
    obtain ⟨b, o, rfl, hc⟩ := h'.cells (by rw [ints_len]; omega)
    refine ⟨rfl, b, o, rfl, by omega, l[k], by simpa using ints_at hc hk2, _, _, plus_q _ _ (hl _ (List.getElem_mem hk2)) _, k + 1, ⟨hk2, rfl, ⟨⟨?_, rfl⟩, by simp⟩, ?_⟩, by omega⟩
    · simp [IntKind.wrap_i64]; omega
    · rw [sumI_take l k hk2]; simp
  · have : k = l.length := by simp at hb; omega
    subst this
    simp

theorem row2 {m : M} {b : Nat} (a c : Int) : Row (m.newBlock b [I a, I c]) (some ⟨b, 0, none⟩) (ints [a, c]) := .at _ _ _ (by simp only [M.newBlock]; omega) cellsAt_new

theorem row1 {m : M} {b : Nat} (a : Int) : Row (m.newBlock b [I a]) (some ⟨b, 0, none⟩) (ints [a]) := .at _ _ _ (by simp only [M.newBlock]; omega) cellsAt_new

theorem ofNat63 (n : Int) : n.fdiv (2 ^ 63) = n / 9223372036854775808 := by rw [Int.fdiv_eq_ediv_of_nonneg _ (by decide)]; rfl

theorem sum_q (a : Option Addr) (c : Nat) (l : List Int) (hl : ∀ x ∈ l, In64 x) (hn : l.length ≤ 140737488355328) (m : M) (h : Row m a (ints l)) :
    QSpec Try.prog 73 [.slice a l.length c] m (.tuple #[I (if In64 (sumI l) then sumI l else 0), I (if In64 (sumI l) then 0 else 10)]) := by
  refine QSpec.of_vc Try.func73 (ann := fun n _ => { A := Nat, inv := fun k => k ≤ l.length, st := fun k => [(12, .val (I k)), (11, .val (I l.length)), (10, .val (.slice a l.length c)), (5, .val (U (wideLo (sumI (l.take k))))), (4, .val (U (IntKind.u64.wrap (sumI (l.take k) / 18446744073709551616))))], own := fun _ => [], m := fun _ => { m with sz := n }, μ := fun k => l.length - k }) fun n hn => ?_
  refine vc_by (X :=
      true = true ∧
      (∃ (a_1 : Nat),
      a_1 ≤ l.length ∧
      { π := m.π, sz := n, uf := m.uf : M } = { π := m.π, sz := n, uf := m.uf : M } ∧
      ((SV.val (Value.int IntKind.i64 (0 : Int)) = SV.val (Value.int IntKind.i64 (↑a_1 : Int)) ∧ true = true) ∧
      (SV.val (Value.int IntKind.i64 (↑l.length : Int)) = SV.val (Value.int IntKind.i64 (↑l.length : Int)) ∧ true = true) ∧
      (SV.val (Value.slice a l.length c) = SV.val (Value.slice a l.length c) ∧ true = true) ∧
      (SV.val (Value.int IntKind.u64 (0 : Int)) = SV.val (Value.int IntKind.u64 (wideLo (sumI (List.take a_1 l)))) ∧ true = true) ∧
      (SV.val (Value.int IntKind.u64 (0 : Int)) = SV.val (Value.int IntKind.u64 (IntKind.u64.wrap (sumI (List.take a_1 l) / (18446744073709551616 : Int)))) ∧
      true = true) ∧
      True) ∧
      True) ∧
      ∀ (a_1 : Nat),
      a_1 ≤ l.length →
      ifB (decide ((↑a_1 : Int) < (↑l.length : Int)))
      (∃ (b : Nat),
      ∃ (off : Nat),
      a = some { block := b, off := off : Addr } ∧
      ((0 : Int) ≤ (↑a_1 : Int) ∧ (↑a_1 : Int) < (↑l.length : Int)) ∧
      ∃ (n_1 : Int),
      CellsAt { π := m.π, sz := n, uf := m.uf : M } b (off + (↑a_1 : Int).toNat * (1 : Nat)) [Value.int IntKind.i64 n_1] ∧
      ∃ (n_2 : Int),
      ∃ (n_3 : Int),
      CallV Try.prog (52 : Nat)
      [Value.int IntKind.u64 (wideLo (sumI (List.take a_1 l))), Value.int IntKind.u64 (IntKind.u64.wrap n_1), Value.int IntKind.u64 (0 : Int)]
      (Value.tuple #[Value.int IntKind.u64 n_2, Value.int IntKind.u64 n_3]) ∧
      ∃ (n_4 : Int),
      ∃ (n_5 : Int),
      CallV Try.prog (52 : Nat)
      [Value.int IntKind.u64 (IntKind.u64.wrap (sumI (List.take a_1 l) / (18446744073709551616 : Int))),
      Value.int IntKind.u64 (IntKind.u64.wrap (n_1.fdiv ((2 : Int) ^ (63 : Nat)))), Value.int IntKind.u64 n_3]
      (Value.tuple #[Value.int IntKind.u64 n_4, Value.int IntKind.u64 n_5]) ∧
      ∃ (a' : Nat),
      (a' ≤ l.length ∧
      { π := m.π, sz := n, uf := m.uf : M } = { π := m.π, sz := n, uf := m.uf : M } ∧
      ((SV.val (Value.int IntKind.i64 (IntKind.i64.wrap ((↑a_1 : Int) + (1 : Int)))) = SV.val (Value.int IntKind.i64 (↑a' : Int)) ∧
      true = true) ∧
      (SV.val (Value.int IntKind.i64 (↑l.length : Int)) = SV.val (Value.int IntKind.i64 (↑l.length : Int)) ∧ true = true) ∧
      (SV.val (Value.slice a l.length c) = SV.val (Value.slice a l.length c) ∧ true = true) ∧
      (SV.val (Value.int IntKind.u64 n_2) = SV.val (Value.int IntKind.u64 (wideLo (sumI (List.take a' l)))) ∧ true = true) ∧
      (SV.val (Value.int IntKind.u64 n_4) =
      SV.val (Value.int IntKind.u64 (IntKind.u64.wrap (sumI (List.take a' l) / (18446744073709551616 : Int)))) ∧
      true = true) ∧
      True) ∧
      True) ∧
      l.length - a' < l.length - a_1)
      (ifB
      (IntKind.u64.wrap (sumI (List.take a_1 l) / (18446744073709551616 : Int)) !=
      IntKind.u64.wrap ((IntKind.i64.wrap (wideLo (sumI (List.take a_1 l)))).fdiv ((2 : Int) ^ (63 : Nat))))
      (Done
      (Value.tuple #[Value.int IntKind.i64 (0 : Int), Value.int IntKind.i64 (10 : Int)] =
      Value.tuple #[Value.int IntKind.i64 (if In64 (sumI l) then sumI l else (0 : Int)), Value.int IntKind.i64 (if In64 (sumI l) then (0 : Int) else (10 : Int))]))
      (Done
      (Value.tuple #[Value.int IntKind.i64 (IntKind.i64.wrap (wideLo (sumI (List.take a_1 l)))), Value.int IntKind.i64 (0 : Int)] =
      Value.tuple #[Value.int IntKind.i64 (if In64 (sumI l) then sumI l else (0 : Int)), Value.int IntKind.i64 (if In64 (sumI l) then (0 : Int) else (10 : Int))])))) (by kernel_rfl) ?_
  have h' := h.sz hn
  refine ⟨rfl, ⟨0, by simp [sumI, wideLo, IntKind.wrap_u64]⟩, fun k hk => ifB_intro (fun hb => ?_) (fun hb => ?_)⟩
  · have hk2 : k < l.length := by simpa using hb
    obtain ⟨b, o, rfl, hc⟩ := h'.cells (by rw [ints_len]; omega)
    have hx := hl _ (List.getElem_mem hk2)
    unfold In64 at hx
    refine ⟨b, o, rfl, by omega, l[k], by simpa using ints_at hc hk2, _, _, add64 _ _ _ (by unfold wideLo; omega) (by simp [IntKind.wrap_u64]; omega) (.inl rfl), _, _, add64 _ _ _ (by simp [IntKind.wrap_u64]; omega) (by simp [IntKind.wrap_u64]; omega) (by unfold wideLo; simp [IntKind.wrap_u64]; omega), k + 1, ⟨hk2, rfl, ⟨⟨?_, rfl⟩, by simp, by simp, ⟨?_, rfl⟩, ⟨?_, rfl⟩, trivial⟩, trivial⟩, by omega⟩
    · simp [IntKind.wrap_i64]; omega
    · rw [sumI_take l k hk2]; simp [wideLo, IntKind.wrap_u64]
    · rw [sumI_take l k hk2, ofNat63]
      have hi : (sumI (l.take k) + l[k]) / 18446744073709551616 = sumI (l.take k) / 18446744073709551616 + l[k] / 9223372036854775808 + (wideLo (sumI (l.take k)) + IntKind.u64.wrap l[k] + 0) / 18446744073709551616 := by simp [wideLo, IntKind.wrap_u64]; omega
      rw [hi]
      generalize sumI (l.take k) / 18446744073709551616 = p
      generalize l[k] / 9223372036854775808 = r
      generalize (wideLo (sumI (l.take k)) + IntKind.u64.wrap l[k] + 0) / 18446744073709551616 = t
      simp [IntKind.wrap_u64]; omega
  · have : k = l.length := by simp at hb; omega
    subst this
    rw [List.take_length, ofNat63]
    have hb := sumI_bound l hl
    by_cases hin : In64 (sumI l)
    · rw [if_pos hin, if_pos hin]
      unfold In64 at hin
      refine ifB_intro (fun h => ?_) (fun h => ⟨?_⟩)
      · simp [wideLo, IntKind.wrap_u64, IntKind.wrap_i64] at h; omega
      · simp [wideLo, IntKind.wrap_i64]; omega
    · rw [if_neg hin, if_neg hin]
      unfold In64 at hin
      refine ifB_intro (fun h => ⟨rfl⟩) (fun h => ?_)
      · simp [wideLo, IntKind.wrap_u64, IntKind.wrap_i64] at h; omega

/-- what the first k parts have together -/
def shareS (a b : Int) (k : Nat) : Int := k * (a / b) + min (k : Int) (a % b)

theorem share_at (a b : Int) (k : Nat) (h1 : 1 ≤ b) (h2 : (k : Int) < b) : shareV a b k = a / b + (if (k : Int) < a % b then 1 else 0) := by
  have : ¬ (b < 1 ∨ (k : Int) < 0 ∨ b ≤ k) := by omega
  unfold shareV
  rw [if_neg this]
  split <;> simp

theorem share_step (a b : Int) (k : Nat) (h1 : 1 ≤ b) (h2 : (k : Int) < b) : shareS a b (k + 1) = shareS a b k + shareV a b k := by
  rw [share_at a b k h1 h2]
  unfold shareS
  push_cast
  rw [Int.add_mul, Int.one_mul]
  split <;> omega

theorem sumI_append (a b : List Int) : sumI (a ++ b) = sumI a + sumI b := by
  unfold sumI
  rw [List.foldl_append, foldl_add]

theorem sumI_reverse (l : List Int) : sumI l.reverse = sumI l := by
  induction l with
  | nil => rfl
  | cons x r ih =>
    rw [List.reverse_cons, sumI_append, ih, show x :: r = [x] ++ r from rfl, sumI_append]
    omega

structure OrdX where
  j : Nat
  a : Option Addr
  c : Nat
  m : M

def ordAnn (a : Option Addr) (c : Nat) (l : List Int) (k : Int) (m : M) : Ann where
  A := OrdX
  inv x := x.j ≤ l.length ∧ OwnB m.sz (fun _ => False) x.m 1 x.a x.j x.c (ints (l.reverse.take x.j)) ∧ Agree m.sz m x.m
  st x := [(6, .val (I ((l.length : Int) - 1 - x.j))), (5, .val (.slice x.a x.j x.c)), (0, .val (.slice a l.length c)), (1, .val (I k))]
  own _ := []
  m x := x.m
  μ x := l.length - x.j

end Go.Proofs.Ytlifpjllhibdpaa
set_option linter.unusedVariables false
set_option linter.unusedSimpArgs false
namespace Go.Proofs.Ytlifpjllhibdpaa
open Go.Vc Go.RowKit

structure Hd where
  nd : Int
  le : Int
  up : Int
  dn : Int

structure Lk where
  cl : Int
  sq : Int
  hm : Int
  n : Int

structure Ac where
  key : ByteArray
  lo : Int
  hi : Int
  base : Int
  round : Int
  hs : List Hd
  lk : Lk

def Hd.wf (h : Hd) : Prop := In64 h.nd ∧ In64 h.le ∧ In64 h.up ∧ In64 h.dn

def Lk.wf (h : Lk) : Prop := In64 h.cl ∧ In64 h.sq ∧ In64 h.hm ∧ In64 h.n

structure Ac.wf (x : Ac) : Prop where
  key : x.key.size ≤ 9223372036854775807
  lo : In64 x.lo
  hi : In64 x.hi
  base : In64 x.base
  round : In64 x.round
  hs : ∀ h ∈ x.hs, h.wf
  len : x.hs.length ≤ 9223372036854775807
  lk : x.lk.wf

abbrev encH (h : Hd) : List Value := [I h.nd, I h.le, I h.up, I h.dn]

abbrev hds (l : List Hd) : List Value := l.flatMap encH

abbrev lkc (k : Lk) : List Value := [I k.cl, I k.sq, I k.hm, I k.n]

abbrev acc (x : Ac) (a : Option Addr) (c : Nat) : List Value := [.string x.key, I x.lo, I x.hi, I x.base, I x.round, .slice a x.hs.length c, I x.lk.cl, I x.lk.sq, I x.lk.hm, I x.lk.n]

abbrev acv (x : Ac) (a : Option Addr) (c : Nat) : Value := .agg #[.string x.key, I x.lo, I x.hi, I x.base, I x.round, .slice a x.hs.length c, I x.lk.cl, I x.lk.sq, I x.lk.hm, I x.lk.n]

theorem hds_len (l : List Hd) : (hds l).length = l.length * 4 := by
  induction l with
  | nil => rfl
  | cons x r ih => simp only [hds, List.flatMap_cons, List.length_append, List.length_cons, List.length_nil] at *; omega

theorem hd_at {m : M} {b o i : Nat} {l : List Hd} (h : CellsAt m b o (hds l)) (hi : i < l.length) : CellsAt m b (o + i * 4) (encH l[i]) :=
  CellsAt.elem (k := 4) (enc := encH) (fun _ => rfl) l o i hi h

def hdB (last : Int) (h : Hd) : Bool := decide (last < h.nd) && decide (h.nd ≤ 5) && decide (1 ≤ h.le) && decide (0 ≤ h.up) && decide (0 ≤ h.dn)

def holdB : Int → List Hd → Bool
  | _, [] => true
  | last, h :: r => hdB last h && holdB h.nd r

def lastNd (l : List Hd) : Nat → Int
  | 0 => 0
  | k + 1 => match l[k]? with | some h => h.nd | none => 0

theorem holdB_drop {l : List Hd} {k : Nat} (hk : k < l.length) (last : Int) : holdB last (l.drop k) = (hdB last l[k] && holdB l[k].nd (l.drop (k + 1))) := by
  rw [List.drop_eq_getElem_cons hk]; rfl

theorem lastNd_succ {l : List Hd} {k : Nat} (hk : k < l.length) : lastNd l (k + 1) = l[k].nd := by
  simp [lastNd, List.getElem?_eq_getElem hk]

theorem hold_bounds : ∀ (l : List Hd) (last : Int), holdB last l = true → (l.length : Int) ≤ 5 - last ∨ l = []
  | [], _, _ => .inr rfl
  | h :: r, last, hb => by
    simp only [holdB, hdB, Bool.and_eq_true, decide_eq_true_eq] at hb
    left
    rcases hold_bounds r h.nd hb.2 with h1 | rfl
    · simp only [List.length_cons]; omega
    · simp only [List.length_cons, List.length_nil]; omega

theorem hold_len {l : List Hd} (h : holdB 0 l = true) : l.length ≤ 5 := by
  rcases hold_bounds l 0 h with h1 | rfl
  · omega
  · simp

theorem holders_q (a : Option Addr) (c : Nat) (l : List Hd) (hn : l.length ≤ 9223372036854775807) (m : M) (h : Row m a (hds l)) :
    QSpec Try.prog 72 [.slice a l.length c] m (.bool (holdB 0 l)) := by
  refine QSpec.of_vc Try.func72 (ann := fun n _ => { A := Nat, inv := fun k => k ≤ l.length ∧ holdB 0 l = holdB (lastNd l k) (l.drop k), st := fun k => [(8, .val (I k)), (7, .val (I l.length)), (6, .val (.slice a l.length c)), (3, .val (I (lastNd l k)))], own := fun _ => [], m := fun _ => { m with sz := n }, μ := fun k => l.length - k }) fun n hn => ?_
  refine vc_by (X :=
      true = true ∧
      (∃ (a_1 : Nat),
      (a_1 ≤ l.length ∧ holdB (0 : Int) l = holdB (lastNd l a_1) (List.drop a_1 l)) ∧
      { π := m.π, sz := n, uf := m.uf : M } = { π := m.π, sz := n, uf := m.uf : M } ∧
      ((SV.val (Value.int IntKind.i64 (0 : Int)) = SV.val (Value.int IntKind.i64 (↑a_1 : Int)) ∧ true = true) ∧
      (SV.val (Value.int IntKind.i64 (↑l.length : Int)) = SV.val (Value.int IntKind.i64 (↑l.length : Int)) ∧ true = true) ∧
      (SV.val (Value.slice a l.length c) = SV.val (Value.slice a l.length c) ∧ true = true) ∧
      (SV.val (Value.int IntKind.i64 (0 : Int)) = SV.val (Value.int IntKind.i64 (lastNd l a_1)) ∧ true = true) ∧ True) ∧
      True) ∧
      ∀ (a_1 : Nat),
      a_1 ≤ l.length ∧ holdB (0 : Int) l = holdB (lastNd l a_1) (List.drop a_1 l) →
      ifB (decide ((↑a_1 : Int) < (↑l.length : Int)))
      (∃ (b : Nat),
      ∃ (off : Nat),
      a = some { block := b, off := off : Addr } ∧
      ((0 : Int) ≤ (↑a_1 : Int) ∧ (↑a_1 : Int) < (↑l.length : Int)) ∧
      ∃ (n_1 : Int),
      ∃ (n_2 : Int),
      ∃ (n_3 : Int),
      ∃ (n_4 : Int),
      CellsAt { π := m.π, sz := n, uf := m.uf : M } b (off + (↑a_1 : Int).toNat * (4 : Nat))
      [Value.int IntKind.i64 n_1, Value.int IntKind.i64 n_2, Value.int IntKind.i64 n_3, Value.int IntKind.i64 n_4] ∧
      ifB (decide (n_1 ≤ lastNd l a_1)) (Done (Value.bool false = Value.bool (holdB (0 : Int) l)))
      (ifB (decide (n_1 > (5 : Int))) (Done (Value.bool false = Value.bool (holdB (0 : Int) l)))
      (ifB (decide (n_2 < (1 : Int))) (Done (Value.bool false = Value.bool (holdB (0 : Int) l)))
      (ifB (decide (n_3 < (0 : Int))) (Done (Value.bool false = Value.bool (holdB (0 : Int) l)))
      (ifB (decide (n_4 < (0 : Int))) (Done (Value.bool false = Value.bool (holdB (0 : Int) l)))
      (∃ (a' : Nat),
      ((a' ≤ l.length ∧ holdB (0 : Int) l = holdB (lastNd l a') (List.drop a' l)) ∧
      { π := m.π, sz := n, uf := m.uf : M } = { π := m.π, sz := n, uf := m.uf : M } ∧
      ((SV.val (Value.int IntKind.i64 (IntKind.i64.wrap ((↑a_1 : Int) + (1 : Int)))) = SV.val (Value.int IntKind.i64 (↑a' : Int)) ∧
      true = true) ∧
      (SV.val (Value.int IntKind.i64 (↑l.length : Int)) = SV.val (Value.int IntKind.i64 (↑l.length : Int)) ∧ true = true) ∧
      (SV.val (Value.slice a l.length c) = SV.val (Value.slice a l.length c) ∧ true = true) ∧
      (SV.val (Value.int IntKind.i64 n_1) = SV.val (Value.int IntKind.i64 (lastNd l a')) ∧ true = true) ∧ True) ∧
      True) ∧
      l.length - a' < l.length - a_1))))))
      (Done (Value.bool true = Value.bool (holdB (0 : Int) l)))) (by kernel_rfl) ?_
  have h' := h.sz hn
  refine ⟨rfl, ⟨0, by simp [lastNd]⟩, fun k ⟨hk, hq⟩ => ifB_intro (fun hb => ?_) (fun hb => ⟨?_⟩)⟩
  · have hk2 : k < l.length := by simpa using hb
    obtain ⟨b, o, rfl, hc⟩ := h'.cells (by rw [hds_len]; omega)
    have w1 : IntKind.i64.wrap ((k : Int) + 1) = ((k + 1 : Nat) : Int) := by simp [IntKind.wrap_i64]; omega
    rw [holdB_drop hk2] at hq
    refine ⟨b, o, rfl, by omega, _, _, _, _, by simpa using hd_at hc hk2, ?_⟩
    refine ifB_intro (fun h1 => ⟨?_⟩) (fun h1 => ifB_intro (fun h2 => ⟨?_⟩) (fun h2 => ifB_intro (fun h3 => ⟨?_⟩) (fun h3 => ifB_intro (fun h4 => ⟨?_⟩) (fun h4 => ifB_intro (fun h5 => ⟨?_⟩) (fun h5 => ⟨k + 1, ⟨⟨hk2, ?_⟩, rfl, ⟨⟨by rw [w1], rfl⟩, ⟨rfl, rfl⟩, ⟨rfl, rfl⟩, ⟨by rw [lastNd_succ hk2], rfl⟩, trivial⟩, trivial⟩, by omega⟩)))))
    · rw [hq]; simp [hdB] at *; omega
    · rw [hq]; simp [hdB] at *; omega
    · rw [hq]; simp [hdB] at *; omega
    · rw [hq]; simp [hdB] at *; omega
    · rw [hq]; simp [hdB] at *; omega
    · rw [hq, lastNd_succ hk2]; simp [hdB] at *; omega
  · have : k = l.length := by simp at hb; omega
    rw [hq, this]; simp [holdB]

end Go.Proofs.Ytlifpjllhibdpaa
set_option linter.unusedVariables false
set_option linter.unusedSimpArgs false
namespace Go.Proofs.Ytlifpjllhibdpaa
open Go.Vc Go.RowKit

def clip (n : Int) : Int := if In64 n then n else 0

abbrev upsL (x : Ac) : List Int := x.base :: x.hs.map (·.up)

abbrev dnsL (x : Ac) : List Int := x.base :: x.hs.map (-·.dn)

structure LentX where
  k : Nat
  a1 : Option Addr
  c1 : Nat
  a2 : Option Addr
  c2 : Nat
  m : M

structure LentI (x : Ac) (m : M) (y : LentX) : Prop where
  k : y.k ≤ x.hs.length
  o1 : OwnB m.sz (fun _ => False) y.m 1 y.a1 (y.k + 1) y.c1 (ints ((upsL x).take (y.k + 1)))
  o2 : OwnB m.sz (fun _ => False) y.m 1 y.a2 (y.k + 1) y.c2 (ints ((dnsL x).take (y.k + 1)))
  ap : Apart y.a1 y.a2
  ag : Agree m.sz m y.m

def lentAnn (x : Ac) (a : Option Addr) (c : Nat) (m : M) : Nat → Ann
  | 2 => {
    A := LentX
    inv y := LentI x m y ∧ y.k = 0
    st y := [(1, .own 0 0), (5, .val (.slice y.a1 1 y.c1)), (6, .val (.slice y.a2 1 y.c2))]
    own _ := [(0, ⟨28, acc x a c⟩)]
    m y := y.m
    μ y := 0
    cut := true }
  | _ => {
    A := LentX
    inv y := LentI x m y
    st y := [(20, .val (I y.k)), (19, .val (I x.hs.length)), (18, .val (.slice a x.hs.length c)), (5, .val (.slice y.a1 (y.k + 1) y.c1)), (6, .val (.slice y.a2 (y.k + 1) y.c2))]
    own _ := []
    m y := y.m
    μ y := x.hs.length - y.k }

theorem lent_q (x : Ac) (a : Option Addr) (c : Nat) (hx : x.wf) (hn : x.hs.length ≤ 5) (hd : ∀ h ∈ x.hs, 0 ≤ h.up ∧ 0 ≤ h.dn) (m : M) (h : Row m a (hds x.hs)) :
    QSpec Try.prog 47 [acv x a c] m (.tuple #[I (clip (sumI (upsL x))), I (clip (sumI (dnsL x))), .bool (decide (In64 (sumI (upsL x))) && decide (In64 (sumI (dnsL x))))]) := by
  refine QSpec.of_vc Try.func47 (ann := fun n => lentAnn x a c { m with sz := n }) fun n hn => ?_
  refine vc_by (X :=
      true = true ∧
      (true = true ∧
      (true = true ∧
      ∀ (b : Nat),
      n ≤ b →
      MLe { π := m.π, sz := n, uf := m.uf : M } ({ π := m.π, sz := n, uf := m.uf : M }.newBlock b [Value.int IntKind.i64 x.base]) ∧
      (true = true ∧
      ∀ (b_1 : Nat),
      max n (b + (1 : Nat)) ≤ b_1 →
      MLe ({ π := m.π, sz := n, uf := m.uf : M }.newBlock b [Value.int IntKind.i64 x.base])
      (({ π := m.π, sz := n, uf := m.uf : M }.newBlock b [Value.int IntKind.i64 x.base]).newBlock b_1 [Value.int IntKind.i64 x.base]) ∧
      ∃ (x_1 : LentX),
      (LentI x { π := m.π, sz := n, uf := m.uf : M } x_1 ∧ x_1.k = (0 : Nat)) ∧
      ({ π := m.π, sz := n, uf := m.uf : M }.newBlock b [Value.int IntKind.i64 x.base]).newBlock b_1 [Value.int IntKind.i64 x.base] = x_1.m ∧
      ((SV.own ((0 : Nat) + (0 : Nat)) (0 : Nat) = SV.own (0 : Nat) (0 : Nat) ∧ true = true) ∧
      (SV.val (Value.slice (some { block := b, off := (0 : Nat) : Addr }) (1 : Nat) (1 : Nat)) = SV.val (Value.slice x_1.a1 (1 : Nat) x_1.c1) ∧
      true = true) ∧
      (SV.val (Value.slice (some { block := b_1, off := (0 : Nat) : Addr }) (1 : Nat) (1 : Nat)) = SV.val (Value.slice x_1.a2 (1 : Nat) x_1.c2) ∧
      true = true) ∧
      True) ∧
      (some
      { ty := (28 : Nat), cs := [Value.string x.key, Value.int IntKind.i64 x.lo, Value.int IntKind.i64 x.hi, Value.int IntKind.i64 x.base, Value.int IntKind.i64 x.round, Value.slice a x.hs.length c, Value.int IntKind.i64 x.lk.cl, Value.int IntKind.i64 x.lk.sq, Value.int IntKind.i64 x.lk.hm, Value.int IntKind.i64 x.lk.n] : Bx } =
      some
      { ty := (28 : TypeId), cs := [Value.string x.key, Value.int IntKind.i64 x.lo, Value.int IntKind.i64 x.hi, Value.int IntKind.i64 x.base, Value.int IntKind.i64 x.round, Value.slice a x.hs.length c, Value.int IntKind.i64 x.lk.cl, Value.int IntKind.i64 x.lk.sq, Value.int IntKind.i64 x.lk.hm, Value.int IntKind.i64 x.lk.n] : Bx } ∧
      true = true) ∧
      True) ∧
      True) ∧
      (true = true ∧
      ∀ (b : Nat),
      n ≤ b →
      MLe { π := m.π, sz := n, uf := m.uf : M } ({ π := m.π, sz := n, uf := m.uf : M }.newBlock b [Value.int IntKind.i64 x.base]) ∧
      (true = true ∧
      ∀ (b_1 : Nat),
      max n (b + (1 : Nat)) ≤ b_1 →
      MLe ({ π := m.π, sz := n, uf := m.uf : M }.newBlock b [Value.int IntKind.i64 x.base])
      (({ π := m.π, sz := n, uf := m.uf : M }.newBlock b [Value.int IntKind.i64 x.base]).newBlock b_1 [Value.int IntKind.i64 x.base]) ∧
      ∃ (x_1 : LentX),
      (LentI x { π := m.π, sz := n, uf := m.uf : M } x_1 ∧ x_1.k = (0 : Nat)) ∧
      ({ π := m.π, sz := n, uf := m.uf : M }.newBlock b [Value.int IntKind.i64 x.base]).newBlock b_1 [Value.int IntKind.i64 x.base] = x_1.m ∧
      ((SV.own ((0 : Nat) + (0 : Nat)) (0 : Nat) = SV.own (0 : Nat) (0 : Nat) ∧ true = true) ∧
      (SV.val (Value.slice (some { block := b_1, off := (0 : Nat) : Addr }) (1 : Nat) (1 : Nat)) = SV.val (Value.slice x_1.a1 (1 : Nat) x_1.c1) ∧
      true = true) ∧
      (SV.val (Value.slice (some { block := b, off := (0 : Nat) : Addr }) (1 : Nat) (1 : Nat)) = SV.val (Value.slice x_1.a2 (1 : Nat) x_1.c2) ∧
      true = true) ∧
      True) ∧
      (some
      { ty := (28 : Nat), cs := [Value.string x.key, Value.int IntKind.i64 x.lo, Value.int IntKind.i64 x.hi, Value.int IntKind.i64 x.base, Value.int IntKind.i64 x.round, Value.slice a x.hs.length c, Value.int IntKind.i64 x.lk.cl, Value.int IntKind.i64 x.lk.sq, Value.int IntKind.i64 x.lk.hm, Value.int IntKind.i64 x.lk.n] : Bx } =
      some
      { ty := (28 : TypeId), cs := [Value.string x.key, Value.int IntKind.i64 x.lo, Value.int IntKind.i64 x.hi, Value.int IntKind.i64 x.base, Value.int IntKind.i64 x.round, Value.slice a x.hs.length c, Value.int IntKind.i64 x.lk.cl, Value.int IntKind.i64 x.lk.sq, Value.int IntKind.i64 x.lk.hm, Value.int IntKind.i64 x.lk.n] : Bx } ∧
      true = true) ∧
      True) ∧
      True) ∧
      True) ∧
      ∀ (x_1 : LentX),
      LentI x { π := m.π, sz := n, uf := m.uf : M } x_1 ∧ x_1.k = (0 : Nat) →
      (∃ (a_2 : LentX),
      LentI x { π := m.π, sz := n, uf := m.uf : M } a_2 ∧
      x_1.m = a_2.m ∧
      ((SV.val (Value.int IntKind.i64 (0 : Int)) = SV.val (Value.int IntKind.i64 (↑a_2.k : Int)) ∧ true = true) ∧
      (SV.val (Value.int IntKind.i64 (↑x.hs.length : Int)) = SV.val (Value.int IntKind.i64 (↑x.hs.length : Int)) ∧ true = true) ∧
      (SV.val (Value.slice a x.hs.length c) = SV.val (Value.slice a x.hs.length c) ∧ true = true) ∧
      (SV.val (Value.slice x_1.a1 (1 : Nat) x_1.c1) = SV.val (Value.slice a_2.a1 (a_2.k + (1 : Nat)) a_2.c1) ∧ true = true) ∧
      (SV.val (Value.slice x_1.a2 (1 : Nat) x_1.c2) = SV.val (Value.slice a_2.a2 (a_2.k + (1 : Nat)) a_2.c2) ∧ true = true) ∧ True) ∧
      True) ∧
      ∀ (a_2 : LentX),
      LentI x { π := m.π, sz := n, uf := m.uf : M } a_2 →
      ifB (decide ((↑a_2.k : Int) < (↑x.hs.length : Int)))
      (∃ (b : Nat),
      ∃ (off : Nat),
      a = some { block := b, off := off : Addr } ∧
      ((0 : Int) ≤ (↑a_2.k : Int) ∧ (↑a_2.k : Int) < (↑x.hs.length : Int)) ∧
      ∃ (n_1 : Int),
      ∃ (n_2 : Int),
      ∃ (n_3 : Int),
      ∃ (n_4 : Int),
      CellsAt a_2.m b (off + (↑a_2.k : Int).toNat * (4 : Nat))
      [Value.int IntKind.i64 n_1, Value.int IntKind.i64 n_2, Value.int IntKind.i64 n_3, Value.int IntKind.i64 n_4] ∧
      true = true ∧
      ∀ (b : Nat),
      a_2.m.sz ≤ b →
      ∃ (old : List Value),
      ∃ (src : List Value),
      AppPre n (fun (x : Nat) => False) (a_2.m.newBlock b [Value.int IntKind.i64 n_3]) (1 : Nat) (8 : Nat) a_2.a1 (a_2.k + (1 : Nat)) a_2.c1
      (some { block := b, off := (0 : Nat) : Addr }) (1 : Nat) old src ∧
      ∀ (a' : Option Addr) (c' : Nat) (m' : M),
      AppPost Try.prog (3 : Nat) (a_2.m.newBlock b [Value.int IntKind.i64 n_3]) (1 : Nat) a_2.a1 (a_2.k + (1 : Nat)) a_2.c1 (1 : Nat) old
      src a' c' m' →
      true = true ∧
      ∀ (b : Nat),
      m'.sz ≤ b →
      ∃ (old : List Value),
      ∃ (src : List Value),
      AppPre n (fun (x : Nat) => False) (m'.newBlock b [Value.int IntKind.i64 (IntKind.i64.wrap ((0 : Int) - n_4))]) (1 : Nat)
      (8 : Nat) a_2.a2 (a_2.k + (1 : Nat)) a_2.c2 (some { block := b, off := (0 : Nat) : Addr }) (1 : Nat) old src ∧
      ∀ (a'_1 : Option Addr) (c'_1 : Nat) (m'_1 : M),
      AppPost Try.prog (3 : Nat) (m'.newBlock b [Value.int IntKind.i64 (IntKind.i64.wrap ((0 : Int) - n_4))]) (1 : Nat)
      a_2.a2 (a_2.k + (1 : Nat)) a_2.c2 (1 : Nat) old src a'_1 c'_1 m'_1 →
      ∃ (a'_2 : LentX),
      (LentI x { π := m.π, sz := n, uf := m.uf : M } a'_2 ∧
      m'_1 = a'_2.m ∧
      ((SV.val (Value.int IntKind.i64 (IntKind.i64.wrap ((↑a_2.k : Int) + (1 : Int)))) =
      SV.val (Value.int IntKind.i64 (↑a'_2.k : Int)) ∧
      true = true) ∧
      (SV.val (Value.int IntKind.i64 (↑x.hs.length : Int)) =
      SV.val (Value.int IntKind.i64 (↑x.hs.length : Int)) ∧
      true = true) ∧
      (SV.val (Value.slice a x.hs.length c) = SV.val (Value.slice a x.hs.length c) ∧ true = true) ∧
      (SV.val (Value.slice a' (a_2.k + (1 : Nat) + (1 : Nat)) c') =
      SV.val (Value.slice a'_2.a1 (a'_2.k + (1 : Nat)) a'_2.c1) ∧
      true = true) ∧
      (SV.val (Value.slice a'_1 (a_2.k + (1 : Nat) + (1 : Nat)) c'_1) =
      SV.val (Value.slice a'_2.a2 (a'_2.k + (1 : Nat)) a'_2.c2) ∧
      true = true) ∧
      True) ∧
      True) ∧
      x.hs.length - a'_2.k < x.hs.length - a_2.k)
      (∃ (n : Int),
      ∃ (n_1 : Int),
      QSpec Try.prog (73 : Nat) [Value.slice a_2.a1 (a_2.k + (1 : Nat)) a_2.c1] a_2.m (Value.tuple #[Value.int IntKind.i64 n, Value.int IntKind.i64 n_1]) ∧
      ∃ (n_2 : Int),
      ∃ (n_3 : Int),
      QSpec Try.prog (73 : Nat) [Value.slice a_2.a2 (a_2.k + (1 : Nat)) a_2.c2] a_2.m (Value.tuple #[Value.int IntKind.i64 n_2, Value.int IntKind.i64 n_3]) ∧
      ifB (n_1 == (0 : Int))
      (Done
      (Value.tuple #[Value.int IntKind.i64 n, Value.int IntKind.i64 n_2, Value.bool (n_3 == (0 : Int))] =
      Value.tuple
      #[Value.int IntKind.i64 (clip (sumI (upsL x))), Value.int IntKind.i64 (clip (sumI (dnsL x))),
      Value.bool (decide (In64 (sumI (upsL x))) && decide (In64 (sumI (dnsL x))))]))
      (Done
      (Value.tuple #[Value.int IntKind.i64 n, Value.int IntKind.i64 n_2, Value.bool false] =
      Value.tuple
      #[Value.int IntKind.i64 (clip (sumI (upsL x))), Value.int IntKind.i64 (clip (sumI (dnsL x))),
      Value.bool (decide (In64 (sumI (upsL x))) && decide (In64 (sumI (dnsL x))))])))) (by kernel_rfl) ?_
  have h' := h.sz hn
  have z1 : ∀ k, (zeroRow Try.prog 3 k).length = k * 1 := zrLen (by kernel_rfl)
  have i1 : ∀ b b2, n ≤ b → max n (b + 1) ≤ b2 → LentI x { m with sz := n } ⟨0, some ⟨b, 0, none⟩, 1, some ⟨b2, 0, none⟩, 1, (({ m with sz := n } : M).newBlock b [I x.base]).newBlock b2 [I x.base]⟩ := fun b b2 hb hb2 =>
    ⟨Nat.zero_le _, (OwnB.fresh (cs := [I x.base]) hb rfl).newBlock (by rw [newBlock_sz]; exact hb2), OwnB.fresh (cs := [I x.base]) (by show n ≤ b2; omega) rfl, Apart.symm (Apart.new fun b' o e => by cases e; omega),
      (newBlock_agreeB hb).trans (newBlock_agreeB (by show n ≤ b2; omega))⟩
  have i2 : ∀ b b2, n ≤ b → max n (b + 1) ≤ b2 → LentI x { m with sz := n } ⟨0, some ⟨b2, 0, none⟩, 1, some ⟨b, 0, none⟩, 1, (({ m with sz := n } : M).newBlock b [I x.base]).newBlock b2 [I x.base]⟩ := fun b b2 hb hb2 => by
    have := i1 b b2 hb hb2
    exact ⟨this.k, this.o2, this.o1, this.ap.symm, this.ag⟩
  refine ⟨rfl, ⟨rfl, ⟨rfl, fun b hb => ⟨MLe.newBlock hb, ⟨rfl, fun b2 hb2 => ⟨MLe.newBlock hb2, _, ⟨i1 b b2 hb hb2, rfl⟩, by simp⟩⟩, trivial⟩⟩, ⟨rfl, fun b hb => ⟨MLe.newBlock hb, ⟨rfl, fun b2 hb2 => ⟨MLe.newBlock hb2, _, ⟨i2 b b2 hb hb2, rfl⟩, by simp⟩⟩, trivial⟩⟩, trivial⟩,
    fun y ⟨hy, hy0⟩ => ⟨⟨y, hy, by simp [hy0]⟩, fun y hy => ifB_intro (fun hb => ?_) (fun hb => ?_)⟩⟩
  · have hk2 : y.k < x.hs.length := by simpa using hb
    have hy2 := hy.ag.2.2
    simp only at hy2
    obtain ⟨b, o, rfl, hc⟩ := (h'.agree hy.ag).cells (by rw [hds_len]; omega)
    have w1 : IntKind.i64.wrap ((y.k : Int) + 1) = ((y.k + 1 : Nat) : Int) := by simp [IntKind.wrap_i64]; omega
    have hw := (hx.hs _ (List.getElem_mem hk2)).2.2.2
    have hd2 := (hd _ (List.getElem_mem hk2)).2
    have w2 : IntKind.i64.wrap (0 - x.hs[y.k].dn) = - x.hs[y.k].dn := by unfold In64 at hw; simp [IntKind.wrap_i64]; omega
    refine ⟨b, o, rfl, by omega, _, _, _, _, by simpa using hd_at hc hk2, rfl, fun b1 hb1 => ?_⟩
    obtain ⟨p1, p2⟩ := hy.o1.push (P := Try.prog) (e := 3) (bytes := 8) (src := [I x.hs[y.k].up]) hb1 (by simp only; omega) rfl rfl (by omega) z1
    refine ⟨_, _, p1, fun a1 c1 m1 hp1 => ⟨rfl, fun b2 hb2 => ?_⟩⟩
    obtain ⟨q1, q2⟩ := p2 a1 c1 m1 hp1
    have ap1 : Apart a1 y.a2 := hp1.apart hy.ap fun b o e => by have := hy.o2.lt e; simp only [M.newBlock]; omega
    have oo := (hy.o2.newBlock (ds := [I x.hs[y.k].up]) hb1).other hp1 hy.ap
    obtain ⟨p3, p4⟩ := oo.push (P := Try.prog) (e := 3) (bytes := 8) (src := [I (IntKind.i64.wrap (0 - x.hs[y.k].dn))]) hb2 (by simp only; omega) rfl rfl (by omega) z1
    refine ⟨_, _, p3, fun a2 c2 m2 hp2 => ?_⟩
    obtain ⟨q3, q4⟩ := p4 a2 c2 m2 hp2
    have ap2 : Apart a2 a1 := hp2.apart ap1.symm fun b o e => by have := q1.lt e; simp only [M.newBlock]; omega
    have oo2 := (q1.newBlock (ds := [I (IntKind.i64.wrap (0 - x.hs[y.k].dn))]) hb2).other hp2 ap1.symm
    have e1 : ints ((upsL x).take (y.k + 1)) ++ [I x.hs[y.k].up] = ints ((upsL x).take (y.k + 1 + 1)) := by
      simp only [upsL, List.take_succ_cons, List.flatMap_cons]
      rw [List.take_succ_eq_append_getElem (l := x.hs.map (·.up)) (i := y.k) (by simpa using hk2)]
      simp
    have e2 : ints ((dnsL x).take (y.k + 1)) ++ [I (IntKind.i64.wrap (0 - x.hs[y.k].dn))] = ints ((dnsL x).take (y.k + 1 + 1)) := by
      rw [w2]
      simp only [dnsL, List.take_succ_cons, List.flatMap_cons]
      rw [List.take_succ_eq_append_getElem (l := x.hs.map (-·.dn)) (i := y.k) (by simpa using hk2)]
      simp
    rw [e1] at oo2
    rw [e2] at q3
    refine ⟨⟨y.k + 1, a1, c1, a2, c2, m2⟩, ⟨⟨hk2, oo2, q3, ap2.symm, ?_⟩, by simp [w1]⟩, by simp only; omega⟩
    have g1 := (newBlock_agreeB (B := n) (m := y.m) (cs := [I x.hs[y.k].up]) (by omega : n ≤ b1)).trans (hp1.agree (by simp only [M.newBlock]; omega) (hy.o1.newBlock hb1))
    have g2 := (newBlock_agreeB (B := n) (m := m1) (cs := [I (IntKind.i64.wrap (0 - x.hs[y.k].dn))]) (by omega : n ≤ b2)).trans (hp2.agree (by simp only [M.newBlock]; omega) (oo.newBlock hb2))
    exact (hy.ag.trans g1).trans g2
  · have hk2 : y.k = x.hs.length := by have := hy.k; simp at hb; omega
    have r1 := hy.o1.row
    have r2 := hy.o2.row
    rw [hk2, List.take_of_length_le (by simp)] at r1 r2
    have b1 : ∀ v ∈ upsL x, In64 v := fun v hv => by
      rcases List.mem_cons.1 hv with rfl | hv
      · exact hx.base
      · obtain ⟨h, hh, rfl⟩ := List.mem_map.1 hv
        exact (hx.hs h hh).2.2.1
    have b2 : ∀ v ∈ dnsL x, In64 v := fun v hv => by
      rcases List.mem_cons.1 hv with rfl | hv
      · exact hx.base
      · obtain ⟨h, hh, rfl⟩ := List.mem_map.1 hv
        have h1 := (hx.hs h hh).2.2.2
        have h2 := (hd h hh).2
        unfold In64 at *; omega
    have s1 := sum_q _ y.c1 _ b1 (by simp; omega) y.m r1
    have s2 := sum_q _ y.c2 _ b2 (by simp; omega) y.m r2
    simp only [List.length_cons, List.length_map, ← hk2] at s1 s2
    refine ⟨_, _, s1, _, _, s2, ?_⟩
    by_cases i1 : In64 (sumI (upsL x)) <;> by_cases i2 : In64 (sumI (dnsL x)) <;> simp [clip, i1, i2, ifB, done_iff]

end Go.Proofs.Ytlifpjllhibdpaa
set_option linter.unusedVariables false
set_option linter.unusedSimpArgs false
namespace Go.Proofs.Ytlifpjllhibdpaa
open Go.Vc Go.RowKit

def keeperB (k : Lk) : Bool := decide (1 ≤ k.cl) && decide (1 ≤ k.sq) && decide (1 ≤ k.hm) && decide (k.hm < 8)

def fitsB (x : Ac) (k : Lk) : Bool := hasB x.lo x.hi (x.base + k.n)

def lkZ (k : Lk) : Bool := decide (k.cl = 0) && decide (k.sq = 0) && decide (k.hm = 0) && decide (k.n = 0)

def lockB (x : Ac) : Bool := if x.lk.cl = 0 then lkZ x.lk else keeperB x.lk && x.hs.isEmpty && fitsB x x.lk

def keyB (k : ByteArray) : Bool := decide (1 ≤ k.size) && decide (k.size ≤ 16)

def rightB (x : Ac) : Bool := keyB x.key && hasB x.lo x.hi x.base && decide (0 ≤ x.round) && holdB 0 x.hs && decide (sumI (upsL x) ≤ x.hi) && decide (x.lo ≤ sumI (dnsL x)) && lockB x

theorem keeper_q (k : Lk) (m : M) : QSpec Try.prog 59 [.agg #[I k.cl, I k.sq, I k.hm, I k.n]] m (.bool (keeperB k)) := by
  refine QSpec.of_vc Try.func59 (ann := fun _ => noAnn) fun n hn => ?_
  refine vc_by (X :=
      true = true ∧
      ifB (decide (k.cl ≥ (1 : Int)))
      (ifB (decide (k.sq ≥ (1 : Int)))
      (ifB (decide (k.hm ≥ (1 : Int))) (Done (Value.bool (decide (k.hm < (8 : Int))) = Value.bool (keeperB k))) (Done (Value.bool false = Value.bool (keeperB k))))
      (Done (Value.bool false = Value.bool (keeperB k))))
      (Done (Value.bool false = Value.bool (keeperB k)))) (by kernel_rfl) ?_
  refine ⟨rfl, ?_⟩
  repeat' (refine ifB_intro (fun h => ?_) (fun h => ?_))
  all_goals (refine ⟨?_⟩; simp at *; simp [keeperB]; omega)

theorem fits_q (x : Ac) (a : Option Addr) (c : Nat) (k : Lk) (hx : x.wf) (hk : k.wf) (m : M) : QSpec Try.prog 61 [acv x a c, .agg #[I k.cl, I k.sq, I k.hm, I k.n]] m (.bool (fitsB x k)) := by
  refine QSpec.of_vc Try.func61 (ann := fun _ => noAnn) fun n hn => ?_
  refine vc_by (X :=
      true = true ∧
      ∃ (n_1 : Int),
      ∃ (n_2 : Int),
      QSpec Try.prog (78 : Nat) [Value.int IntKind.i64 x.base, Value.int IntKind.i64 k.n] { π := m.π, sz := n, uf := m.uf : M }
      (Value.tuple #[Value.int IntKind.i64 n_1, Value.int IntKind.i64 n_2]) ∧
      ifB (n_2 == (0 : Int))
      (∃ (b : Bool),
      QSpec Try.prog (62 : Nat) [Value.agg #[Value.int IntKind.i64 x.lo, Value.int IntKind.i64 x.hi], Value.int IntKind.i64 n_1] { π := m.π, sz := n, uf := m.uf : M }
      (Value.bool b) ∧
      Done (Value.bool b = Value.bool (fitsB x k)))
      (Done (Value.bool false = Value.bool (fitsB x k)))) (by kernel_rfl) ?_
  refine ⟨rfl, _, _, add_q _ _ hx.base hk.2.2.2 _, ?_⟩
  by_cases hin : In64 (x.base + k.n)
  · simp only [addE, addV, hin, if_true]
    exact ⟨_, has_q _ _ _ _, ⟨rfl⟩⟩
  · simp only [addE, addV, hin, if_false]
    refine ifB_intro (fun h => by simp at h) (fun _ => ⟨?_⟩)
    have h1 := hx.lo
    have h2 := hx.hi
    unfold In64 at *
    simp [fitsB, hasB]; omega

theorem sumI_cons (a : Int) (l : List Int) : sumI (a :: l) = a + sumI l := by
  simp only [sumI, List.foldl_cons]; rw [foldl_add]; simp

theorem sumI_nonneg : ∀ (l : List Int), (∀ x ∈ l, 0 ≤ x) → 0 ≤ sumI l
  | [], _ => by simp [sumI]
  | x :: r, h => by rw [sumI_cons]; have := h x (by simp); have := sumI_nonneg r fun y hy => h y (by simp [hy]); omega

theorem sumI_nonpos : ∀ (l : List Int), (∀ x ∈ l, x ≤ 0) → sumI l ≤ 0
  | [], _ => by simp [sumI]
  | x :: r, h => by rw [sumI_cons]; have := h x (by simp); have := sumI_nonpos r fun y hy => h y (by simp [hy]); omega

theorem hold_mem : ∀ (l : List Hd) (last : Int), holdB last l = true → ∀ h ∈ l, last < h.nd ∧ h.nd ≤ 5 ∧ 1 ≤ h.le ∧ 0 ≤ h.up ∧ 0 ≤ h.dn
  | x :: r, last, hb, h, hm => by
    simp only [holdB, hdB, Bool.and_eq_true, decide_eq_true_eq] at hb
    rcases List.mem_cons.1 hm with rfl | hm
    · omega
    · have := hold_mem r x.nd hb.2 h hm
      omega

theorem up_ge {x : Ac} (h : holdB 0 x.hs = true) : x.base ≤ sumI (upsL x) ∧ sumI (dnsL x) ≤ x.base := by
  have hm := hold_mem _ _ h
  have h1 := sumI_nonneg (x.hs.map (·.up)) fun y hy => by obtain ⟨z, hz, rfl⟩ := List.mem_map.1 hy; exact (hm z hz).2.2.2.1
  have h2 := sumI_nonpos (x.hs.map (-·.dn)) fun y hy => by obtain ⟨z, hz, rfl⟩ := List.mem_map.1 hy; have := (hm z hz).2.2.2.2; omega
  simp only [upsL, dnsL, sumI_cons]
  omega

theorem right_q (x : Ac) (a : Option Addr) (c : Nat) (hx : x.wf) (m : M) (h : Row m a (hds x.hs)) : QSpec Try.prog 45 [acv x a c] m (.bool (rightB x)) := by
  refine QSpec.of_vc Try.func45 (ann := fun _ => noAnn) fun n hn => ?_
  refine vc_by (X :=
      true = true ∧
      ifB (decide ((↑x.key.size : Int) < (1 : Int))) (Done (Value.bool false = Value.bool (rightB x)))
      (ifB (decide ((↑x.key.size : Int) > (16 : Int))) (Done (Value.bool false = Value.bool (rightB x)))
      (∃ (b : Bool),
      QSpec Try.prog (62 : Nat) [Value.agg #[Value.int IntKind.i64 x.lo, Value.int IntKind.i64 x.hi], Value.int IntKind.i64 x.base] { π := m.π, sz := n, uf := m.uf : M }
      (Value.bool b) ∧
      ifB (!b) (Done (Value.bool false = Value.bool (rightB x)))
      (ifB (decide (x.round < (0 : Int))) (Done (Value.bool false = Value.bool (rightB x)))
      (∃ (b : Bool),
      QSpec Try.prog (72 : Nat) [Value.slice a x.hs.length c] { π := m.π, sz := n, uf := m.uf : M } (Value.bool b) ∧
      ifB (!b) (Done (Value.bool false = Value.bool (rightB x)))
      (∃ (n_1 : Int),
      ∃ (n_2 : Int),
      ∃ (b : Bool),
      QSpec Try.prog (47 : Nat)
      [Value.agg
      #[Value.string x.key, Value.int IntKind.i64 x.lo, Value.int IntKind.i64 x.hi, Value.int IntKind.i64 x.base, Value.int IntKind.i64 x.round,
      Value.slice a x.hs.length c, Value.int IntKind.i64 x.lk.cl, Value.int IntKind.i64 x.lk.sq, Value.int IntKind.i64 x.lk.hm,
      Value.int IntKind.i64 x.lk.n]]
      { π := m.π, sz := n, uf := m.uf : M } (Value.tuple #[Value.int IntKind.i64 n_1, Value.int IntKind.i64 n_2, Value.bool b]) ∧
      ifB (!b) (Done (Value.bool false = Value.bool (rightB x)))
      (ifB (decide (n_1 > x.hi)) (Done (Value.bool false = Value.bool (rightB x)))
      (ifB (decide (n_2 < x.lo)) (Done (Value.bool false = Value.bool (rightB x)))
      (ifB (x.lk.cl == (0 : Int))
      (Done
      (Value.bool (x.lk.cl == (0 : Int) && (x.lk.sq == (0 : Int) && (x.lk.hm == (0 : Int) && (x.lk.n == (0 : Int) && true)))) =
      Value.bool (rightB x)))
      (∃ (b : Bool),
      QSpec Try.prog (59 : Nat)
      [Value.agg #[Value.int IntKind.i64 x.lk.cl, Value.int IntKind.i64 x.lk.sq, Value.int IntKind.i64 x.lk.hm, Value.int IntKind.i64 x.lk.n]]
      { π := m.π, sz := n, uf := m.uf : M } (Value.bool b) ∧
      ifB b
      (ifB ((↑x.hs.length : Int) == (0 : Int))
      (∃ (b : Bool),
      QSpec Try.prog (61 : Nat)
      [Value.agg
      #[Value.string x.key, Value.int IntKind.i64 x.lo, Value.int IntKind.i64 x.hi, Value.int IntKind.i64 x.base,
      Value.int IntKind.i64 x.round, Value.slice a x.hs.length c, Value.int IntKind.i64 x.lk.cl, Value.int IntKind.i64 x.lk.sq,
      Value.int IntKind.i64 x.lk.hm, Value.int IntKind.i64 x.lk.n],
      Value.agg
      #[Value.int IntKind.i64 x.lk.cl, Value.int IntKind.i64 x.lk.sq, Value.int IntKind.i64 x.lk.hm, Value.int IntKind.i64 x.lk.n]]
      { π := m.π, sz := n, uf := m.uf : M } (Value.bool b) ∧
      Done (Value.bool b = Value.bool (rightB x)))
      (Done (Value.bool false = Value.bool (rightB x))))
      (Done (Value.bool false = Value.bool (rightB x))))))))))))) (by kernel_rfl) ?_
  have h' := h.sz hn
  refine ⟨rfl, ifB_intro (fun h1 => ⟨?_⟩) (fun h1 => ifB_intro (fun h2 => ⟨?_⟩) (fun h2 => ⟨_, has_q _ _ _ _, ifB_intro (fun h3 => ⟨?_⟩) (fun h3 => ifB_intro (fun h4 => ⟨?_⟩) (fun h4 => ⟨_, holders_q a c x.hs hx.len _ h', ifB_intro (fun h5 => ⟨?_⟩) (fun h5 => ?_)⟩))⟩))⟩
  · simp at h1; simp [rightB, keyB]; omega
  · simp at h2; simp [rightB, keyB]; omega
  · simp at h3; simp [rightB, h3]
  · simp at h4; simp [rightB]; omega
  · simp at h5; simp [rightB, h5]
  · have h5 : holdB 0 x.hs = true := by simpa using h5
    have hm := hold_mem _ _ h5
    have hge := up_ge h5
    have hk : keyB x.key = true := by simp at h1 h2; simp [keyB]; omega
    have hh : hasB x.lo x.hi x.base = true := by simpa using h3
    have hr : 0 ≤ x.round := by simpa using h4
    have hlo := hx.lo
    have hhi := hx.hi
    have hhb : x.lo ≤ x.base ∧ x.base ≤ x.hi := by simpa [hasB] using hh
    have hR : rightB x = (decide (sumI (upsL x) ≤ x.hi) && decide (x.lo ≤ sumI (dnsL x)) && lockB x) := by simp [rightB, hk, hh, hr, h5]
    have hl : QSpec Try.prog 47 [acv x a c] { m with sz := n } (.tuple #[I (clip (sumI (upsL x))), I (clip (sumI (dnsL x))), .bool (decide (In64 (sumI (upsL x))) && decide (In64 (sumI (dnsL x))))]) :=
      lent_q x a c hx (hold_len h5) (fun y hy => (hm y hy).2.2.2) _ h'
    rw [hR]
    refine ⟨_, _, _, hl, ?_⟩
    by_cases i1 : In64 (sumI (upsL x))
    · by_cases i2 : In64 (sumI (dnsL x))
      · simp only [i1, i2, decide_true, Bool.and_self, Bool.not_true, clip, if_true]
        refine ifB_false (ifB_intro (fun h6 => ⟨?_⟩) (fun h6 => ifB_intro (fun h7 => ⟨?_⟩) (fun h7 => ?_)))
        · simp at h6; simp; omega
        · simp at h7; simp; omega
        · have h6 : sumI (upsL x) ≤ x.hi := by simp at h6; omega
          have h7 : x.lo ≤ sumI (dnsL x) := by simp at h7; omega
          simp only [h6, h7, decide_true, Bool.true_and]
          refine ifB_intro (fun h8 => ⟨?_⟩) (fun h8 => ⟨_, keeper_q _ _, ifB_intro (fun h9 => ifB_intro (fun h10 => ⟨_, fits_q x a c x.lk hx hx.lk _, ⟨?_⟩⟩) (fun h10 => ⟨?_⟩)) (fun h9 => ⟨?_⟩)⟩)
          · simp at h8; simp [lockB, h8, lkZ, Bool.beq_eq_decide_eq, Bool.and_assoc]
          · simp at h8 h10; simp [lockB, h8, h9, h10]
          · simp at h8 h10; simp [lockB, h8, h10]
          · simp at h8 h9; simp [lockB, h8, h9]
      · simp only [i2, decide_false, Bool.and_false, Bool.not_false]
        refine ifB_true ⟨?_⟩
        unfold In64 at *
        simp; omega
    · simp only [i1, decide_false, Bool.false_and, Bool.not_false]
      refine ifB_true ⟨?_⟩
      unfold In64 at *
      simp; omega

end Go.Proofs.Ytlifpjllhibdpaa
set_option linter.unusedVariables false
set_option linter.unusedSimpArgs false
namespace Go.Proofs.Ytlifpjllhibdpaa
open Go.Vc Go.RowKit

theorem check_q (x : Ac) (a : Option Addr) (c : Nat) (hx : x.wf) (m : M) (h : Row m a (hds x.hs)) : QSpec Try.prog 22 [acv x a c] m (I (if rightB x then 0 else 21)) := by
  refine QSpec.of_vc Try.func22 (ann := fun _ => noAnn) fun n hn => ?_
  refine vc_by (X :=
      true = true ∧
      ∃ (b : Bool),
      QSpec Try.prog (45 : Nat)
      [Value.agg
      #[Value.string x.key, Value.int IntKind.i64 x.lo, Value.int IntKind.i64 x.hi, Value.int IntKind.i64 x.base, Value.int IntKind.i64 x.round, Value.slice a x.hs.length c,
      Value.int IntKind.i64 x.lk.cl, Value.int IntKind.i64 x.lk.sq, Value.int IntKind.i64 x.lk.hm, Value.int IntKind.i64 x.lk.n]]
      { π := m.π, sz := n, uf := m.uf : M } (Value.bool b) ∧
      ifB (!b) (Done (Value.int IntKind.i64 (21 : Int) = Value.int IntKind.i64 (if rightB x = true then (0 : Int) else (21 : Int))))
      (Done (Value.int IntKind.i64 (0 : Int) = Value.int IntKind.i64 (if rightB x = true then (0 : Int) else (21 : Int))))) (by kernel_rfl) ?_
  refine ⟨rfl, _, right_q x a c hx _ (h.sz hn), ?_⟩
  cases rightB x <;> exact ⟨rfl⟩

theorem one_hds (l : List Hd) : oneCells (hds l) = true := by
  induction l with
  | nil => rfl
  | cons x r ih => exact Bool.and_eq_true_iff.2 ⟨rfl, Bool.and_eq_true_iff.2 ⟨rfl, Bool.and_eq_true_iff.2 ⟨rfl, Bool.and_eq_true_iff.2 ⟨rfl, ih⟩⟩⟩⟩

theorem zr_hd (k : Nat) : (zeroRow Try.prog 31 k).length = k * 4 := zrLen (by kernel_rfl) k

theorem clone_q (l : List Hd) (a : Option Addr) (c : Nat) (hn : l.length ≤ 4398046511000) (h0 : a = none → l = []) (m : M) (h : Row m a (hds l)) : Vc.Spec Try.prog 74 [.slice a l.length c] m (fun v m' => ∃ a' c', v = .slice a' l.length c' ∧ NewR m.sz (fun _ => False) m' 4 a' l.length c' (hds l)) := by
  refine Vc.Spec.of_vc Try.func74 (ann := noAnn) ?_
  refine vc_by (X :=
      true = true ∧
      ifB a.isNone
      (Done
      (∃ (a' : Option Addr),
      ∃ (c' : Nat), Value.slice none (0 : Nat) (0 : Nat) = Value.slice a' l.length c' ∧ NewR m.sz (fun (x : Nat) => False) m (4 : Nat) a' l.length c' (hds l)))
      (true = true ∧
      ∀ (b : Nat),
      m.sz ≤ b →
      ∃ (old : List Value),
      ∃ (src : List Value),
      AppPre m.sz (fun (x : Nat) => False) (m.newBlock b []) (4 : Nat) (32 : Nat) (some { block := b, off := (0 : Nat) : Addr }) (0 : Nat) (0 : Nat) a l.length old src ∧
      ∀ (a' : Option Addr) (c' : Nat) (m' : M),
      AppPost Try.prog (31 : Nat) (m.newBlock b []) (4 : Nat) (some { block := b, off := (0 : Nat) : Addr }) (0 : Nat) (0 : Nat) l.length old src a' c' m' →
      Done
      (∃ (a'_1 : Option Addr),
      ∃ (c'_1 : Nat),
      Value.slice a' ((0 : Nat) + l.length) c' = Value.slice a'_1 l.length c'_1 ∧ NewR m.sz (fun (x : Nat) => False) m' (4 : Nat) a'_1 l.length c'_1 (hds l)))) (by kernel_rfl) ?_
  refine ⟨rfl, ifB_intro (fun h1 => ⟨?_⟩) (fun h1 => ⟨rfl, fun b hb => ?_⟩)⟩
  · have : l = [] := h0 (by simpa using h1)
    subst this
    exact ⟨_, _, rfl, .nil _⟩
  · have ho : OwnB m.sz (fun _ => False) (m.newBlock b []) 4 (some ⟨b, 0, none⟩) 0 0 [] := OwnB.fresh hb rfl
    have hr : Row (m.newBlock b []) a (hds l) := h.newBlock hb
    refine ⟨_, _, ho.appPre hr (hds_len l) (one_hds l) (by omega), fun a' c' m' hp => ⟨a', c', by simp, .own ?_⟩⟩
    have := ho.append hp (hds_len l) zr_hd (by simp only [M.newBlock]; omega)
    simpa using this

theorem copied_q (x : Ac) (a : Option Addr) (c : Nat) (hn : x.hs.length ≤ 4398046511000) (h0 : a = none → x.hs = []) (m : M) (h : Row m a (hds x.hs)) : Vc.Spec Try.prog 49 [acv x a c] m (fun v m' => ∃ a' c', v = acv x a' c' ∧ NewR m.sz (fun _ => False) m' 4 a' x.hs.length c' (hds x.hs)) := by
  refine Vc.Spec.of_vc Try.func49 (ann := noAnn) ?_
  refine vc_by (X :=
      true = true ∧
      ∃ (S' : Nat → Prop),
      (∀ (b : Nat), S' b → m.uf b ∧ (m.sz ≤ b ∨ False)) ∧
      ∀ (n : Nat),
      m.sz ≤ n →
      SpecW Try.prog (74 : Nat) [Value.slice a x.hs.length c] { π := m.π, sz := n, uf := m.uf : M } S' fun (v : Value) (m' : M) =>
      ∃ (a : Option Addr),
      ∃ (n : Nat),
      ∃ (c : Nat),
      v = Value.slice a n c ∧
      Done
      (∃ (a' : Option Addr),
      ∃ (c' : Nat),
      Value.agg
      #[Value.string x.key, Value.int IntKind.i64 x.lo, Value.int IntKind.i64 x.hi, Value.int IntKind.i64 x.base, Value.int IntKind.i64 x.round,
      Value.slice a n c, Value.int IntKind.i64 x.lk.cl, Value.int IntKind.i64 x.lk.sq, Value.int IntKind.i64 x.lk.hm, Value.int IntKind.i64 x.lk.n] =
      Value.agg
      #[Value.string x.key, Value.int IntKind.i64 x.lo, Value.int IntKind.i64 x.hi, Value.int IntKind.i64 x.base, Value.int IntKind.i64 x.round,
      Value.slice a' x.hs.length c', Value.int IntKind.i64 x.lk.cl, Value.int IntKind.i64 x.lk.sq, Value.int IntKind.i64 x.lk.hm,
      Value.int IntKind.i64 x.lk.n] ∧
      NewR m.sz (fun (x : Nat) => False) m' (4 : Nat) a' x.hs.length c' (hds x.hs))) (by kernel_rfl) ?_
  refine ⟨rfl, _, noS, fun n hn' => (clone_q x.hs a c hn h0 _ (h.sz hn')).monoW fun v m' hag ⟨a', c', hv, hr⟩ => ⟨a', _, c', hv, ⟨a', c', rfl, ?_⟩⟩⟩
  exact hr.lower hn'

def ac0 : Ac := ⟨.empty, 0, 0, 0, 0, [], ⟨0, 0, 0, 0⟩⟩

theorem new_q (k : ByteArray) (m : M) : QSpec Try.prog 13 [.string k] m (.tuple #[acv { ac0 with key := if keyB k then k else .empty } none 0, I (if keyB k then 0 else 1)]) := by
  refine QSpec.of_vc Try.func13 (ann := fun _ => noAnn) fun n hn => ?_
  refine vc_by (X :=
      true = true ∧
      ifB (decide ((↑k.size : Int) < (1 : Int)))
      (Done
      (Value.tuple
      #[Value.agg
      #[Value.string { data := #[] : ByteArray }, Value.int IntKind.i64 (0 : Int), Value.int IntKind.i64 (0 : Int), Value.int IntKind.i64 (0 : Int),
      Value.int IntKind.i64 (0 : Int), Value.slice none (0 : Nat) (0 : Nat), Value.int IntKind.i64 (0 : Int), Value.int IntKind.i64 (0 : Int),
      Value.int IntKind.i64 (0 : Int), Value.int IntKind.i64 (0 : Int)],
      Value.int IntKind.i64 (1 : Int)] =
      Value.tuple
      #[Value.agg
      #[Value.string (if keyB k = true then k else ByteArray.empty), Value.int IntKind.i64 (0 : Int), Value.int IntKind.i64 (0 : Int), Value.int IntKind.i64 (0 : Int),
      Value.int IntKind.i64 (0 : Int), Value.slice none (0 : Nat) (0 : Nat), Value.int IntKind.i64 (0 : Int), Value.int IntKind.i64 (0 : Int),
      Value.int IntKind.i64 (0 : Int), Value.int IntKind.i64 (0 : Int)],
      Value.int IntKind.i64 (if keyB k = true then (0 : Int) else (1 : Int))]))
      (ifB (decide ((↑k.size : Int) > (16 : Int)))
      (Done
      (Value.tuple
      #[Value.agg
      #[Value.string { data := #[] : ByteArray }, Value.int IntKind.i64 (0 : Int), Value.int IntKind.i64 (0 : Int), Value.int IntKind.i64 (0 : Int),
      Value.int IntKind.i64 (0 : Int), Value.slice none (0 : Nat) (0 : Nat), Value.int IntKind.i64 (0 : Int), Value.int IntKind.i64 (0 : Int),
      Value.int IntKind.i64 (0 : Int), Value.int IntKind.i64 (0 : Int)],
      Value.int IntKind.i64 (1 : Int)] =
      Value.tuple
      #[Value.agg
      #[Value.string (if keyB k = true then k else ByteArray.empty), Value.int IntKind.i64 (0 : Int), Value.int IntKind.i64 (0 : Int), Value.int IntKind.i64 (0 : Int),
      Value.int IntKind.i64 (0 : Int), Value.slice none (0 : Nat) (0 : Nat), Value.int IntKind.i64 (0 : Int), Value.int IntKind.i64 (0 : Int),
      Value.int IntKind.i64 (0 : Int), Value.int IntKind.i64 (0 : Int)],
      Value.int IntKind.i64 (if keyB k = true then (0 : Int) else (1 : Int))]))
      (Done
      (Value.tuple
      #[Value.agg
      #[Value.string k, Value.int IntKind.i64 (0 : Int), Value.int IntKind.i64 (0 : Int), Value.int IntKind.i64 (0 : Int), Value.int IntKind.i64 (0 : Int),
      Value.slice none (0 : Nat) (0 : Nat), Value.int IntKind.i64 (0 : Int), Value.int IntKind.i64 (0 : Int), Value.int IntKind.i64 (0 : Int),
      Value.int IntKind.i64 (0 : Int)],
      Value.int IntKind.i64 (0 : Int)] =
      Value.tuple
      #[Value.agg
      #[Value.string (if keyB k = true then k else ByteArray.empty), Value.int IntKind.i64 (0 : Int), Value.int IntKind.i64 (0 : Int), Value.int IntKind.i64 (0 : Int),
      Value.int IntKind.i64 (0 : Int), Value.slice none (0 : Nat) (0 : Nat), Value.int IntKind.i64 (0 : Int), Value.int IntKind.i64 (0 : Int),
      Value.int IntKind.i64 (0 : Int), Value.int IntKind.i64 (0 : Int)],
      Value.int IntKind.i64 (if keyB k = true then (0 : Int) else (1 : Int))])))) (by kernel_rfl) ?_
  refine ⟨rfl, ifB_intro (fun h => ⟨?_⟩) (fun h => ifB_intro (fun h2 => ⟨?_⟩) (fun h2 => ⟨?_⟩))⟩
  · have : keyB k = false := by simp at h; simp [keyB]; omega
    simp [this]; rfl
  · have : keyB k = false := by simp at h2; simp [keyB]; omega
    simp [this]; rfl
  · have : keyB k = true := by simp at h h2; simp [keyB]; omega
    simp [this]

theorem locked_q (x : Ac) (a : Option Addr) (c : Nat) (m : M) : QSpec Try.prog 46 [acv x a c] m (.bool (decide (x.lk.cl ≠ 0))) := by
  refine QSpec.of_vc Try.func46 (ann := fun _ => noAnn) fun n hn => ?_
  refine vc_by (X :=
      true = true ∧ Done (Value.bool (x.lk.cl != (0 : Int)) = Value.bool (decide (x.lk.cl ≠ (0 : Int))))) (by kernel_rfl) ?_
  exact ⟨rfl, ⟨by simp [bne, Bool.beq_eq_decide_eq]⟩⟩

def roomDn (x : Ac) : Int := if rightB x && decide (x.lk.cl = 0) then sumI (dnsL x) - x.lo else 0

def roomUp (x : Ac) : Int := if rightB x && decide (x.lk.cl = 0) then x.hi - sumI (upsL x) else 0

structure RightP (x : Ac) : Prop where
  key : keyB x.key = true
  has : x.lo ≤ x.base ∧ x.base ≤ x.hi
  round : 0 ≤ x.round
  hold : holdB 0 x.hs = true
  up : sumI (upsL x) ≤ x.hi
  dn : x.lo ≤ sumI (dnsL x)
  lock : lockB x = true

theorem right_iff (x : Ac) : rightB x = true ↔ RightP x := by
  simp only [rightB, hasB, Bool.and_eq_true, decide_eq_true_eq]
  constructor
  · rintro ⟨⟨⟨⟨⟨⟨h1, h2⟩, h3⟩, h4⟩, h5⟩, h6⟩, h7⟩; exact ⟨h1, h2, h3, h4, h5, h6, h7⟩
  · rintro ⟨h1, h2, h3, h4, h5, h6, h7⟩; exact ⟨⟨⟨⟨⟨⟨h1, h2⟩, h3⟩, h4⟩, h5⟩, h6⟩, h7⟩

theorem RightP.bounds {x : Ac} (h : RightP x) (hx : x.wf) : In64 (sumI (upsL x)) ∧ In64 (sumI (dnsL x)) ∧ x.base ≤ sumI (upsL x) ∧ sumI (dnsL x) ≤ x.base := by
  have h1 := up_ge h.hold
  have h2 := h.up
  have h3 := h.dn
  have h4 := h.has
  have h5 := hx.lo
  have h6 := hx.hi
  unfold In64 at *
  omega

theorem room_q (x : Ac) (a : Option Addr) (c : Nat) (hx : x.wf) (m : M) (h : Row m a (hds x.hs)) : QSpec Try.prog 15 [acv x a c] m (.tuple #[U (roomDn x), U (roomUp x)]) := by
  refine QSpec.of_vc Try.func15 (ann := fun _ => noAnn) fun n hn => ?_
  refine vc_by (X :=
      true = true ∧
      ∃ (b : Bool),
      QSpec Try.prog (45 : Nat)
      [Value.agg
      #[Value.string x.key, Value.int IntKind.i64 x.lo, Value.int IntKind.i64 x.hi, Value.int IntKind.i64 x.base, Value.int IntKind.i64 x.round, Value.slice a x.hs.length c,
      Value.int IntKind.i64 x.lk.cl, Value.int IntKind.i64 x.lk.sq, Value.int IntKind.i64 x.lk.hm, Value.int IntKind.i64 x.lk.n]]
      { π := m.π, sz := n, uf := m.uf : M } (Value.bool b) ∧
      ifB (!b)
      (Done (Value.tuple #[Value.int IntKind.u64 (0 : Int), Value.int IntKind.u64 (0 : Int)] = Value.tuple #[Value.int IntKind.u64 (roomDn x), Value.int IntKind.u64 (roomUp x)]))
      (∃ (b : Bool),
      QSpec Try.prog (46 : Nat)
      [Value.agg
      #[Value.string x.key, Value.int IntKind.i64 x.lo, Value.int IntKind.i64 x.hi, Value.int IntKind.i64 x.base, Value.int IntKind.i64 x.round,
      Value.slice a x.hs.length c, Value.int IntKind.i64 x.lk.cl, Value.int IntKind.i64 x.lk.sq, Value.int IntKind.i64 x.lk.hm, Value.int IntKind.i64 x.lk.n]]
      { π := m.π, sz := n, uf := m.uf : M } (Value.bool b) ∧
      ifB b
      (Done
      (Value.tuple #[Value.int IntKind.u64 (0 : Int), Value.int IntKind.u64 (0 : Int)] =
      Value.tuple #[Value.int IntKind.u64 (roomDn x), Value.int IntKind.u64 (roomUp x)]))
      (∃ (n_1 : Int),
      ∃ (n_2 : Int),
      ∃ (b : Bool),
      QSpec Try.prog (47 : Nat)
      [Value.agg
      #[Value.string x.key, Value.int IntKind.i64 x.lo, Value.int IntKind.i64 x.hi, Value.int IntKind.i64 x.base, Value.int IntKind.i64 x.round,
      Value.slice a x.hs.length c, Value.int IntKind.i64 x.lk.cl, Value.int IntKind.i64 x.lk.sq, Value.int IntKind.i64 x.lk.hm,
      Value.int IntKind.i64 x.lk.n]]
      { π := m.π, sz := n, uf := m.uf : M } (Value.tuple #[Value.int IntKind.i64 n_1, Value.int IntKind.i64 n_2, Value.bool b]) ∧
      true = true ∧
      Done
      (Value.tuple
      #[Value.int IntKind.u64 (IntKind.u64.wrap (IntKind.u64.wrap n_2 - IntKind.u64.wrap x.lo)),
      Value.int IntKind.u64 (IntKind.u64.wrap (IntKind.u64.wrap x.hi - IntKind.u64.wrap n_1))] =
      Value.tuple #[Value.int IntKind.u64 (roomDn x), Value.int IntKind.u64 (roomUp x)])))) (by kernel_rfl) ?_
  refine ⟨rfl, _, right_q x a c hx _ (h.sz hn), ?_⟩
  cases hr : rightB x
  · exact ifB_true ⟨by simp [roomDn, roomUp, hr]⟩
  · refine ifB_false ⟨_, locked_q x a c _, ?_⟩
    by_cases hl : x.lk.cl = 0
    · have hp := (right_iff x).1 hr
      have hm := hold_mem _ _ hp.hold
      have hb := hp.bounds hx
      have hl' : decide (x.lk.cl ≠ 0) = false := by simp [hl]
      rw [hl']
      refine ifB_false ?_
      refine ⟨_, _, _, lent_q x a c hx (hold_len hp.hold) (fun y hy => (hm y hy).2.2.2) _ (h.sz hn), rfl, ⟨?_⟩⟩
      have h4 := hp.up
      have h5 := hp.dn
      have h6 := hx.lo
      have h7 := hx.hi
      simp only [clip, hb.1, hb.2.1, if_true, roomDn, roomUp, hr, hl, decide_true, Bool.and_self]
      have h8 := hb.1
      have h9 := hb.2.1
      unfold In64 at *
      simp [IntKind.wrap_u64]
      omega
    · have hl' : decide (x.lk.cl ≠ 0) = true := by simp [hl]
      rw [hl']
      exact ifB_true ⟨by simp [roomDn, roomUp, hl]⟩

def totB (x : Ac) : Bool := rightB x && decide (x.lk.cl = 0) && x.hs.isEmpty

theorem total_q (x : Ac) (a : Option Addr) (c : Nat) (hx : x.wf) (m : M) (h : Row m a (hds x.hs)) : QSpec Try.prog 17 [acv x a c] m (.tuple #[I (if totB x then x.base else 0), .bool (totB x)]) := by
  refine QSpec.of_vc Try.func17 (ann := fun _ => noAnn) fun n hn => ?_
  refine vc_by (X :=
      true = true ∧
      ∃ (b : Bool),
      QSpec Try.prog (45 : Nat)
      [Value.agg
      #[Value.string x.key, Value.int IntKind.i64 x.lo, Value.int IntKind.i64 x.hi, Value.int IntKind.i64 x.base, Value.int IntKind.i64 x.round, Value.slice a x.hs.length c,
      Value.int IntKind.i64 x.lk.cl, Value.int IntKind.i64 x.lk.sq, Value.int IntKind.i64 x.lk.hm, Value.int IntKind.i64 x.lk.n]]
      { π := m.π, sz := n, uf := m.uf : M } (Value.bool b) ∧
      ifB (!b)
      (Done
      (Value.tuple #[Value.int IntKind.i64 (0 : Int), Value.bool false] =
      Value.tuple #[Value.int IntKind.i64 (if totB x = true then x.base else (0 : Int)), Value.bool (totB x)]))
      (∃ (b : Bool),
      QSpec Try.prog (46 : Nat)
      [Value.agg
      #[Value.string x.key, Value.int IntKind.i64 x.lo, Value.int IntKind.i64 x.hi, Value.int IntKind.i64 x.base, Value.int IntKind.i64 x.round,
      Value.slice a x.hs.length c, Value.int IntKind.i64 x.lk.cl, Value.int IntKind.i64 x.lk.sq, Value.int IntKind.i64 x.lk.hm, Value.int IntKind.i64 x.lk.n]]
      { π := m.π, sz := n, uf := m.uf : M } (Value.bool b) ∧
      ifB b
      (Done
      (Value.tuple #[Value.int IntKind.i64 (0 : Int), Value.bool false] =
      Value.tuple #[Value.int IntKind.i64 (if totB x = true then x.base else (0 : Int)), Value.bool (totB x)]))
      (ifB (decide ((↑x.hs.length : Int) > (0 : Int)))
      (Done
      (Value.tuple #[Value.int IntKind.i64 (0 : Int), Value.bool false] =
      Value.tuple #[Value.int IntKind.i64 (if totB x = true then x.base else (0 : Int)), Value.bool (totB x)]))
      (Done
      (Value.tuple #[Value.int IntKind.i64 x.base, Value.bool true] =
      Value.tuple #[Value.int IntKind.i64 (if totB x = true then x.base else (0 : Int)), Value.bool (totB x)]))))) (by kernel_rfl) ?_
  refine ⟨rfl, _, right_q x a c hx _ (h.sz hn), ?_⟩
  cases hr : rightB x
  · exact ifB_true ⟨by simp [totB, hr]⟩
  · refine ifB_false ⟨_, locked_q x a c _, ifB_intro (fun h1 => ⟨?_⟩) (fun h1 => ifB_intro (fun h2 => ⟨?_⟩) (fun h2 => ⟨?_⟩))⟩
    · simp at h1; simp [totB, h1]
    · have : x.hs ≠ [] := fun e => by simp [e] at h2
      simp [totB, this]
    · have : x.hs = [] := by simpa using h2
      simp at h1; simp [totB, hr, h1, this]

def hd0 : Hd := ⟨0, 0, 0, 0⟩

abbrev hdv (h : Hd) : Value := .agg #[I h.nd, I h.le, I h.up, I h.dn]

def fndH (l : List Hd) (nd : Int) : Option Hd := l.find? (fun h => h.nd == nd)

def findH (x : Ac) (nd : Int) : Hd := if rightB x then (fndH x.hs nd).getD hd0 else hd0

def findB (x : Ac) (nd : Int) : Bool := rightB x && (fndH x.hs nd).isSome

theorem fndH_drop {l : List Hd} {k : Nat} (hk : k < l.length) (nd : Int) : fndH (l.drop k) nd = if l[k].nd = nd then some l[k] else fndH (l.drop (k + 1)) nd := by
  rw [List.drop_eq_getElem_cons hk]
  unfold fndH
  rw [List.find?_cons]
  by_cases h : l[k].nd = nd
  · simp [h]
  · have : (l[k].nd == nd) = false := by simpa using h
    simp [h, this]

theorem find_q (x : Ac) (a : Option Addr) (c : Nat) (nd : Int) (hx : x.wf) (m : M) (h : Row m a (hds x.hs)) : QSpec Try.prog 19 [acv x a c, I nd] m (.tuple #[hdv (findH x nd), .bool (findB x nd)]) := by
  refine QSpec.of_vc Try.func19 (ann := fun n _ => { A := Nat, inv := fun k => k ≤ x.hs.length ∧ fndH x.hs nd = fndH (x.hs.drop k) nd, st := fun k => [(15, .val (I k)), (14, .val (I x.hs.length)), (13, .val (.slice a x.hs.length c)), (1, .val (I nd)), (4, .own 1 0)], own := fun _ => [(1, ⟨31, [I 0, I 0, I 0, I 0]⟩)], m := fun _ => { m with sz := n }, μ := fun k => x.hs.length - k }) fun n hn => ?_
  refine vc_by (X :=
      true = true ∧
      ∃ (b : Bool),
      QSpec Try.prog (45 : Nat)
      [Value.agg
      #[Value.string x.key, Value.int IntKind.i64 x.lo, Value.int IntKind.i64 x.hi, Value.int IntKind.i64 x.base, Value.int IntKind.i64 x.round, Value.slice a x.hs.length c,
      Value.int IntKind.i64 x.lk.cl, Value.int IntKind.i64 x.lk.sq, Value.int IntKind.i64 x.lk.hm, Value.int IntKind.i64 x.lk.n]]
      { π := m.π, sz := n, uf := m.uf : M } (Value.bool b) ∧
      ifB (!b)
      (Done
      (Value.tuple
      #[Value.agg #[Value.int IntKind.i64 (0 : Int), Value.int IntKind.i64 (0 : Int), Value.int IntKind.i64 (0 : Int), Value.int IntKind.i64 (0 : Int)], Value.bool false] =
      Value.tuple
      #[Value.agg
      #[Value.int IntKind.i64 (findH x nd).nd, Value.int IntKind.i64 (findH x nd).le, Value.int IntKind.i64 (findH x nd).up, Value.int IntKind.i64 (findH x nd).dn],
      Value.bool (findB x nd)]))
      ((∃ (a_1 : Nat),
      (a_1 ≤ x.hs.length ∧ fndH x.hs nd = fndH (List.drop a_1 x.hs) nd) ∧
      { π := m.π, sz := n, uf := m.uf : M } = { π := m.π, sz := n, uf := m.uf : M } ∧
      ((SV.val (Value.int IntKind.i64 (0 : Int)) = SV.val (Value.int IntKind.i64 (↑a_1 : Int)) ∧ true = true) ∧
      (SV.val (Value.int IntKind.i64 (↑x.hs.length : Int)) = SV.val (Value.int IntKind.i64 (↑x.hs.length : Int)) ∧ true = true) ∧
      (SV.val (Value.slice a x.hs.length c) = SV.val (Value.slice a x.hs.length c) ∧ true = true) ∧
      (SV.val (Value.int IntKind.i64 nd) = SV.val (Value.int IntKind.i64 nd) ∧ true = true) ∧
      (SV.own ((0 : Nat) + (1 : Nat)) (0 : Nat) = SV.own (1 : Nat) (0 : Nat) ∧ true = true) ∧ True) ∧
      (some
      { ty := (31 : Nat), cs := [Value.int IntKind.i64 (0 : Int), Value.int IntKind.i64 (0 : Int), Value.int IntKind.i64 (0 : Int), Value.int IntKind.i64 (0 : Int)] : Bx } =
      some
      { ty := (31 : TypeId), cs := [Value.int IntKind.i64 (0 : Int), Value.int IntKind.i64 (0 : Int), Value.int IntKind.i64 (0 : Int), Value.int IntKind.i64 (0 : Int)] : Bx } ∧
      true = true) ∧
      True) ∧
      ∀ (a_1 : Nat),
      a_1 ≤ x.hs.length ∧ fndH x.hs nd = fndH (List.drop a_1 x.hs) nd →
      ifB (decide ((↑a_1 : Int) < (↑x.hs.length : Int)))
      (∃ (b : Nat),
      ∃ (off : Nat),
      a = some { block := b, off := off : Addr } ∧
      ((0 : Int) ≤ (↑a_1 : Int) ∧ (↑a_1 : Int) < (↑x.hs.length : Int)) ∧
      ∃ (n_1 : Int),
      ∃ (n_2 : Int),
      ∃ (n_3 : Int),
      ∃ (n_4 : Int),
      CellsAt { π := m.π, sz := n, uf := m.uf : M } b (off + (↑a_1 : Int).toNat * (4 : Nat))
      [Value.int IntKind.i64 n_1, Value.int IntKind.i64 n_2, Value.int IntKind.i64 n_3, Value.int IntKind.i64 n_4] ∧
      ifB (n_1 == nd)
      (Done
      (Value.tuple
      #[Value.agg #[Value.int IntKind.i64 n_1, Value.int IntKind.i64 n_2, Value.int IntKind.i64 n_3, Value.int IntKind.i64 n_4],
      Value.bool true] =
      Value.tuple
      #[Value.agg
      #[Value.int IntKind.i64 (findH x nd).nd, Value.int IntKind.i64 (findH x nd).le, Value.int IntKind.i64 (findH x nd).up,
      Value.int IntKind.i64 (findH x nd).dn],
      Value.bool (findB x nd)]))
      (∃ (a' : Nat),
      ((a' ≤ x.hs.length ∧ fndH x.hs nd = fndH (List.drop a' x.hs) nd) ∧
      { π := m.π, sz := n, uf := m.uf : M } = { π := m.π, sz := n, uf := m.uf : M } ∧
      ((SV.val (Value.int IntKind.i64 (IntKind.i64.wrap ((↑a_1 : Int) + (1 : Int)))) = SV.val (Value.int IntKind.i64 (↑a' : Int)) ∧
      true = true) ∧
      (SV.val (Value.int IntKind.i64 (↑x.hs.length : Int)) = SV.val (Value.int IntKind.i64 (↑x.hs.length : Int)) ∧ true = true) ∧
      (SV.val (Value.slice a x.hs.length c) = SV.val (Value.slice a x.hs.length c) ∧ true = true) ∧
      (SV.val (Value.int IntKind.i64 nd) = SV.val (Value.int IntKind.i64 nd) ∧ true = true) ∧
      (SV.own (1 : Nat) (0 : Nat) = SV.own (1 : Nat) (0 : Nat) ∧ true = true) ∧ True) ∧
      (some
      { ty := (31 : TypeId), cs := [Value.int IntKind.i64 (0 : Int), Value.int IntKind.i64 (0 : Int), Value.int IntKind.i64 (0 : Int), Value.int IntKind.i64 (0 : Int)] : Bx } =
      some
      { ty := (31 : TypeId), cs := [Value.int IntKind.i64 (0 : Int), Value.int IntKind.i64 (0 : Int), Value.int IntKind.i64 (0 : Int), Value.int IntKind.i64 (0 : Int)] : Bx } ∧
      true = true) ∧
      True) ∧
      x.hs.length - a' < x.hs.length - a_1))
      (Done
      (Value.tuple
      #[Value.agg #[Value.int IntKind.i64 (0 : Int), Value.int IntKind.i64 (0 : Int), Value.int IntKind.i64 (0 : Int), Value.int IntKind.i64 (0 : Int)],
      Value.bool false] =
      Value.tuple
      #[Value.agg
      #[Value.int IntKind.i64 (findH x nd).nd, Value.int IntKind.i64 (findH x nd).le, Value.int IntKind.i64 (findH x nd).up,
      Value.int IntKind.i64 (findH x nd).dn],
      Value.bool (findB x nd)])))) (by kernel_rfl) ?_
  have h' := h.sz hn
  refine ⟨rfl, _, right_q x a c hx _ h', ?_⟩
  cases hr : rightB x
  · exact ifB_true ⟨by simp [findH, findB, hr, hd0]⟩
  · refine ifB_false ⟨⟨0, by simp⟩, fun k ⟨hk, hq⟩ => ifB_intro (fun hb => ?_) (fun hb => ⟨?_⟩)⟩
    · have hk2 : k < x.hs.length := by simpa using hb
      obtain ⟨b, o, rfl, hc⟩ := h'.cells (by rw [hds_len]; omega)
      have hlen := hx.len
      have w1 : IntKind.i64.wrap ((k : Int) + 1) = ((k + 1 : Nat) : Int) := by simp [IntKind.wrap_i64]; omega
      rw [fndH_drop hk2] at hq
      refine ⟨b, o, rfl, by omega, _, _, _, _, by simpa using hd_at hc hk2, ifB_intro (fun h1 => ⟨?_⟩) (fun h1 => ⟨k + 1, ⟨⟨hk2, ?_⟩, by simp [w1]⟩, by omega⟩)⟩
      · simp at h1; simp [findH, findB, hr, hq, h1]
      · simp at h1; simp [hq, h1]
    · have : k = x.hs.length := by simp at hb; omega
      subst this
      simp [fndH] at hq
      simp [findH, findB, hr, fndH, hd0]
      have : List.find? (fun h => h.nd == nd) x.hs = none := by simpa using hq
      simp [this]
      exact hq

def plainB (x : Ac) : Bool := rightB x && decide (x.lo = 0) && decide (x.hi = 0) && decide (x.base = 0) && x.hs.isEmpty && decide (x.round = 0) && decide (x.lk.cl = 0)

theorem plain_acc_q (x : Ac) (a : Option Addr) (c : Nat) (hx : x.wf) (m : M) (h : Row m a (hds x.hs)) : QSpec Try.prog 24 [acv x a c] m (.bool (plainB x)) := by
  refine QSpec.of_vc Try.func24 (ann := fun _ => noAnn) fun n hn => ?_
  refine vc_by (X :=
      true = true ∧
      ∃ (b : Bool),
      QSpec Try.prog (45 : Nat)
      [Value.agg
      #[Value.string x.key, Value.int IntKind.i64 x.lo, Value.int IntKind.i64 x.hi, Value.int IntKind.i64 x.base, Value.int IntKind.i64 x.round, Value.slice a x.hs.length c,
      Value.int IntKind.i64 x.lk.cl, Value.int IntKind.i64 x.lk.sq, Value.int IntKind.i64 x.lk.hm, Value.int IntKind.i64 x.lk.n]]
      { π := m.π, sz := n, uf := m.uf : M } (Value.bool b) ∧
      ifB b
      (ifB (x.lo == (0 : Int) && (x.hi == (0 : Int) && true))
      (ifB (x.base == (0 : Int))
      (ifB ((↑x.hs.length : Int) == (0 : Int))
      (ifB (x.round == (0 : Int))
      (∃ (b : Bool),
      QSpec Try.prog (46 : Nat)
      [Value.agg
      #[Value.string x.key, Value.int IntKind.i64 x.lo, Value.int IntKind.i64 x.hi, Value.int IntKind.i64 x.base, Value.int IntKind.i64 x.round,
      Value.slice a x.hs.length c, Value.int IntKind.i64 x.lk.cl, Value.int IntKind.i64 x.lk.sq, Value.int IntKind.i64 x.lk.hm, Value.int IntKind.i64 x.lk.n]]
      { π := m.π, sz := n, uf := m.uf : M } (Value.bool b) ∧
      Done ((Value.bool !b) = Value.bool (plainB x)))
      (Done (Value.bool false = Value.bool (plainB x))))
      (Done (Value.bool false = Value.bool (plainB x))))
      (Done (Value.bool false = Value.bool (plainB x))))
      (Done (Value.bool false = Value.bool (plainB x))))
      (Done (Value.bool false = Value.bool (plainB x)))) (by kernel_rfl) ?_
  refine ⟨rfl, _, right_q x a c hx _ (h.sz hn), ifB_intro (fun h0 => ifB_intro (fun h1 => ifB_intro (fun h2 => ifB_intro (fun h3 => ifB_intro (fun h4 => ⟨_, locked_q x a c _, ⟨?_⟩⟩) (fun h4 => ⟨?_⟩)) (fun h3 => ⟨?_⟩)) (fun h2 => ⟨?_⟩)) (fun h1 => ⟨?_⟩)) (fun h0 => ⟨?_⟩)⟩
  all_goals simp at *
  all_goals simp [plainB, *]
  all_goals (intro e1 e2; exact absurd e2 (h1 e1))

end Go.Proofs.Ytlifpjllhibdpaa
set_option linter.unusedVariables false
set_option linter.unusedSimpArgs false
namespace Go.Proofs.Ytlifpjllhibdpaa
open Go.Vc Go.RowKit

theorem above_q (W k : Int) (hW : -85070591730234615865843651857942052864 ≤ W ∧ W ≤ 85070591730234615865843651857942052864) (hk : In64 k) (m : M) : QSpec Try.prog 42 [wide W, I k] m (.bool (decide (W > k))) := by
  refine QSpec.of_vc Try.func42 (ann := fun _ => noAnn) fun n hn => ?_
  refine vc_by (X :=
      true = true ∧
      ∃ (n_1 : Int),
      ∃ (n_2 : Int),
      QSpec Try.prog (43 : Nat) [Value.agg #[Value.int IntKind.i64 (wideHi W), Value.int IntKind.u64 (wideLo W)], Value.int IntKind.i64 k] { π := m.π, sz := n, uf := m.uf : M }
      (Value.agg #[Value.int IntKind.i64 n_1, Value.int IntKind.u64 n_2]) ∧
      ifB (decide (n_1 > (0 : Int))) (Done (Value.bool true = Value.bool (decide (W > k))))
      (ifB (n_1 == (0 : Int)) (Done (Value.bool (decide (n_2 > (0 : Int))) = Value.bool (decide (W > k)))) (Done (Value.bool false = Value.bool (decide (W > k)))))) (by kernel_rfl) ?_
  refine ⟨rfl, _, _, less_q W k hk _, ?_⟩
  unfold In64 at hk
  refine ifB_intro (fun h => ⟨?_⟩) (fun h => ifB_intro (fun h2 => ⟨?_⟩) (fun h2 => ⟨?_⟩))
  all_goals simp only [Value.bool.injEq, eq_comm (a := true), eq_comm (a := false), decide_eq_true_eq, decide_eq_false_iff_not, decide_eq_decide, beq_iff_eq, beq_eq_false_iff_ne] at *
  all_goals simp [wideHi, wideLo, IntKind.wrap_i64] at *
  all_goals omega

theorem rkey_q (k : ByteArray) (m : M) : QSpec Try.prog 39 [.string k] m (.bool (keyB k)) := by
  refine QSpec.of_vc Try.func39 (ann := fun _ => noAnn) fun n hn => ?_
  refine vc_by (X :=
      true = true ∧
      ifB (decide ((↑k.size : Int) ≥ (1 : Int))) (Done (Value.bool (decide ((↑k.size : Int) ≤ (16 : Int))) = Value.bool (keyB k))) (Done (Value.bool false = Value.bool (keyB k)))) (by kernel_rfl) ?_
  refine ⟨rfl, ifB_intro (fun h => ⟨?_⟩) (fun h => ⟨?_⟩)⟩
  · have h1 : 1 ≤ k.size := by simp at h; omega
    simp [keyB, h1]; omega
  · simp at h; simp [keyB]; omega

theorem rlocked_q (k : Lk) (m : M) : QSpec Try.prog 44 [.agg #[I k.cl, I k.sq, I k.hm, I k.n]] m (.bool (keeperB k)) := by
  refine QSpec.of_vc Try.func44 (ann := fun _ => noAnn) fun n hn => ?_
  refine vc_by (X :=
      true = true ∧
      ifB (decide (k.cl ≥ (1 : Int)))
      (ifB (decide (k.sq ≥ (1 : Int)))
      (ifB (decide (k.hm ≥ (1 : Int))) (Done (Value.bool (decide (k.hm < (8 : Int))) = Value.bool (keeperB k))) (Done (Value.bool false = Value.bool (keeperB k))))
      (Done (Value.bool false = Value.bool (keeperB k))))
      (Done (Value.bool false = Value.bool (keeperB k)))) (by kernel_rfl) ?_
  refine ⟨rfl, ?_⟩
  repeat' (refine ifB_intro (fun h => ?_) (fun h => ?_))
  all_goals (refine ⟨?_⟩; simp at *; simp [keeperB]; omega)

structure EndsX where
  k : Nat
  m : M

def endsAnn (x : Ac) (a : Option Addr) (c : Nat) (m : M) : Nat → Ann
  | 2 => {
    A := M
    inv y := Agree m.sz m y
    st y := [(1, .own 0 0), (2, .own 1 0), (3, .own 2 0), (4, .own 11 0), (5, .own 12 0)]
    own _ := [(0, ⟨28, acc x a c⟩), (1, ⟨52, [I 0, U 0]⟩), (2, ⟨52, [I 0, U 0]⟩), (11, ⟨52, [I (wideHi x.base), U (wideLo x.base)]⟩), (12, ⟨52, [I (wideHi x.base), U (wideLo x.base)]⟩)]
    m y := y
    μ y := 0
    cut := true }
  | _ => {
    A := EndsX
    inv y := y.k ≤ x.hs.length ∧ Agree m.sz m y.m
    st y := [(6, .val (I y.k)), (1, .own 0 0), (2, .own 1 0), (3, .own 2 0), (4, .own 11 0), (5, .own 12 0)]
    own y := [(0, ⟨28, acc x a c⟩), (1, ⟨52, [I 0, U 0]⟩), (2, ⟨52, [I 0, U 0]⟩), (11, ⟨52, [I (wideHi (sumI ((dnsL x).take (y.k + 1)))), U (wideLo (sumI ((dnsL x).take (y.k + 1))))]⟩), (12, ⟨52, [I (wideHi (sumI ((upsL x).take (y.k + 1)))), U (wideLo (sumI ((upsL x).take (y.k + 1))))]⟩)]
    m y := y.m
    μ y := x.hs.length - y.k }

theorem ends_q (x : Ac) (a : Option Addr) (c : Nat) (hx : x.wf) (m : M) (h : Row m a (hds x.hs)) : QSpec Try.prog 41 [acv x a c] m (.tuple #[wide (sumI (dnsL x)), wide (sumI (upsL x))]) := by
  refine QSpec.of_vc Try.func41 (ann := fun n => endsAnn x a c { m with sz := n }) fun n hn => ?_
  refine vc_by (X :=
      true = true ∧
      (true = true ∧
      (true = true ∧
      ∀ (b : Nat),
      n ≤ b →
      MLe { π := m.π, sz := n, uf := m.uf : M } ({ π := m.π, sz := n, uf := m.uf : M }.newBlock b [Value.int IntKind.i64 x.base]) ∧
      ∃ (n_1 : Int),
      ∃ (n_2 : Int),
      QSpec Try.prog (29 : Nat) [Value.slice (some { block := b, off := (0 : Nat) : Addr }) (1 : Nat) (1 : Nat)]
      ({ π := m.π, sz := n, uf := m.uf : M }.newBlock b [Value.int IntKind.i64 x.base]) (Value.agg #[Value.int IntKind.i64 n_1, Value.int IntKind.u64 n_2]) ∧
      (true = true ∧
      ∀ (b_1 : Nat),
      max n (b + (1 : Nat)) ≤ b_1 →
      MLe ({ π := m.π, sz := n, uf := m.uf : M }.newBlock b [Value.int IntKind.i64 x.base])
      (({ π := m.π, sz := n, uf := m.uf : M }.newBlock b [Value.int IntKind.i64 x.base]).newBlock b_1 [Value.int IntKind.i64 x.base]) ∧
      ∃ (n_3 : Int),
      ∃ (n_4 : Int),
      QSpec Try.prog (29 : Nat) [Value.slice (some { block := b_1, off := (0 : Nat) : Addr }) (1 : Nat) (1 : Nat)]
      (({ π := m.π, sz := n, uf := m.uf : M }.newBlock b [Value.int IntKind.i64 x.base]).newBlock b_1 [Value.int IntKind.i64 x.base])
      (Value.agg #[Value.int IntKind.i64 n_3, Value.int IntKind.u64 n_4]) ∧
      ∃ (x_1 : M),
      Agree n { π := m.π, sz := n, uf := m.uf : M } x_1 ∧
      ({ π := m.π, sz := n, uf := m.uf : M }.newBlock b [Value.int IntKind.i64 x.base]).newBlock b_1 [Value.int IntKind.i64 x.base] = x_1 ∧
      ((SV.own ((0 : Nat) + (0 : Nat)) (0 : Nat) = SV.own (0 : Nat) (0 : Nat) ∧ true = true) ∧
      (SV.own ((0 : Nat) + (1 : Nat)) (0 : Nat) = SV.own (1 : Nat) (0 : Nat) ∧ true = true) ∧
      (SV.own ((0 : Nat) + (2 : Nat)) (0 : Nat) = SV.own (2 : Nat) (0 : Nat) ∧ true = true) ∧
      (SV.own ((0 : Nat) + (3 : Nat) + (8 : Nat)) (0 : Nat) = SV.own (11 : Nat) (0 : Nat) ∧ true = true) ∧
      (SV.own ((0 : Nat) + (3 : Nat) + (9 : Nat)) (0 : Nat) = SV.own (12 : Nat) (0 : Nat) ∧ true = true) ∧ True) ∧
      (some
      { ty := (28 : Nat), cs := [Value.string x.key, Value.int IntKind.i64 x.lo, Value.int IntKind.i64 x.hi, Value.int IntKind.i64 x.base, Value.int IntKind.i64 x.round, Value.slice a x.hs.length c, Value.int IntKind.i64 x.lk.cl, Value.int IntKind.i64 x.lk.sq, Value.int IntKind.i64 x.lk.hm, Value.int IntKind.i64 x.lk.n] : Bx } =
      some
      { ty := (28 : TypeId), cs := [Value.string x.key, Value.int IntKind.i64 x.lo, Value.int IntKind.i64 x.hi, Value.int IntKind.i64 x.base, Value.int IntKind.i64 x.round, Value.slice a x.hs.length c, Value.int IntKind.i64 x.lk.cl, Value.int IntKind.i64 x.lk.sq, Value.int IntKind.i64 x.lk.hm, Value.int IntKind.i64 x.lk.n] : Bx } ∧
      true = true) ∧
      (some { ty := (52 : Nat), cs := [Value.int IntKind.i64 (0 : Int), Value.int IntKind.u64 (0 : Int)] : Bx } =
      some { ty := (52 : TypeId), cs := [Value.int IntKind.i64 (0 : Int), Value.int IntKind.u64 (0 : Int)] : Bx } ∧
      true = true) ∧
      (some { ty := (52 : Nat), cs := [Value.int IntKind.i64 (0 : Int), Value.int IntKind.u64 (0 : Int)] : Bx } =
      some { ty := (52 : TypeId), cs := [Value.int IntKind.i64 (0 : Int), Value.int IntKind.u64 (0 : Int)] : Bx } ∧
      true = true) ∧
      (some { ty := (52 : Nat), cs := [Value.int IntKind.i64 n_1, Value.int IntKind.u64 n_2] : Bx } =
      some { ty := (52 : TypeId), cs := [Value.int IntKind.i64 (wideHi x.base), Value.int IntKind.u64 (wideLo x.base)] : Bx } ∧
      true = true) ∧
      (some { ty := (52 : Nat), cs := [Value.int IntKind.i64 n_3, Value.int IntKind.u64 n_4] : Bx } =
      some
      { ty := (52 : TypeId), cs := [Value.int IntKind.i64 (wideHi x.base), Value.int IntKind.u64 (wideLo x.base)] : Bx } ∧
      true = true) ∧
      True) ∧
      True) ∧
      (true = true ∧
      ∀ (b : Nat),
      n ≤ b →
      MLe { π := m.π, sz := n, uf := m.uf : M } ({ π := m.π, sz := n, uf := m.uf : M }.newBlock b [Value.int IntKind.i64 x.base]) ∧
      (true = true ∧
      ∀ (b_1 : Nat),
      max n (b + (1 : Nat)) ≤ b_1 →
      MLe ({ π := m.π, sz := n, uf := m.uf : M }.newBlock b [Value.int IntKind.i64 x.base])
      (({ π := m.π, sz := n, uf := m.uf : M }.newBlock b [Value.int IntKind.i64 x.base]).newBlock b_1 [Value.int IntKind.i64 x.base]) ∧
      ∃ (n_1 : Int),
      ∃ (n_2 : Int),
      QSpec Try.prog (29 : Nat) [Value.slice (some { block := b_1, off := (0 : Nat) : Addr }) (1 : Nat) (1 : Nat)]
      (({ π := m.π, sz := n, uf := m.uf : M }.newBlock b [Value.int IntKind.i64 x.base]).newBlock b_1 [Value.int IntKind.i64 x.base])
      (Value.agg #[Value.int IntKind.i64 n_1, Value.int IntKind.u64 n_2]) ∧
      ∃ (n_3 : Int),
      ∃ (n_4 : Int),
      QSpec Try.prog (29 : Nat) [Value.slice (some { block := b, off := (0 : Nat) : Addr }) (1 : Nat) (1 : Nat)]
      (({ π := m.π, sz := n, uf := m.uf : M }.newBlock b [Value.int IntKind.i64 x.base]).newBlock b_1 [Value.int IntKind.i64 x.base])
      (Value.agg #[Value.int IntKind.i64 n_3, Value.int IntKind.u64 n_4]) ∧
      ∃ (x_1 : M),
      Agree n { π := m.π, sz := n, uf := m.uf : M } x_1 ∧
      ({ π := m.π, sz := n, uf := m.uf : M }.newBlock b [Value.int IntKind.i64 x.base]).newBlock b_1 [Value.int IntKind.i64 x.base] = x_1 ∧
      ((SV.own ((0 : Nat) + (0 : Nat)) (0 : Nat) = SV.own (0 : Nat) (0 : Nat) ∧ true = true) ∧
      (SV.own ((0 : Nat) + (1 : Nat)) (0 : Nat) = SV.own (1 : Nat) (0 : Nat) ∧ true = true) ∧
      (SV.own ((0 : Nat) + (2 : Nat)) (0 : Nat) = SV.own (2 : Nat) (0 : Nat) ∧ true = true) ∧
      (SV.own ((0 : Nat) + (3 : Nat) + (8 : Nat)) (0 : Nat) = SV.own (11 : Nat) (0 : Nat) ∧ true = true) ∧
      (SV.own ((0 : Nat) + (3 : Nat) + (9 : Nat)) (0 : Nat) = SV.own (12 : Nat) (0 : Nat) ∧ true = true) ∧ True) ∧
      (some
      { ty := (28 : Nat), cs := [Value.string x.key, Value.int IntKind.i64 x.lo, Value.int IntKind.i64 x.hi, Value.int IntKind.i64 x.base, Value.int IntKind.i64 x.round, Value.slice a x.hs.length c, Value.int IntKind.i64 x.lk.cl, Value.int IntKind.i64 x.lk.sq, Value.int IntKind.i64 x.lk.hm, Value.int IntKind.i64 x.lk.n] : Bx } =
      some
      { ty := (28 : TypeId), cs := [Value.string x.key, Value.int IntKind.i64 x.lo, Value.int IntKind.i64 x.hi, Value.int IntKind.i64 x.base, Value.int IntKind.i64 x.round, Value.slice a x.hs.length c, Value.int IntKind.i64 x.lk.cl, Value.int IntKind.i64 x.lk.sq, Value.int IntKind.i64 x.lk.hm, Value.int IntKind.i64 x.lk.n] : Bx } ∧
      true = true) ∧
      (some { ty := (52 : Nat), cs := [Value.int IntKind.i64 (0 : Int), Value.int IntKind.u64 (0 : Int)] : Bx } =
      some { ty := (52 : TypeId), cs := [Value.int IntKind.i64 (0 : Int), Value.int IntKind.u64 (0 : Int)] : Bx } ∧
      true = true) ∧
      (some { ty := (52 : Nat), cs := [Value.int IntKind.i64 (0 : Int), Value.int IntKind.u64 (0 : Int)] : Bx } =
      some { ty := (52 : TypeId), cs := [Value.int IntKind.i64 (0 : Int), Value.int IntKind.u64 (0 : Int)] : Bx } ∧
      true = true) ∧
      (some { ty := (52 : Nat), cs := [Value.int IntKind.i64 n_1, Value.int IntKind.u64 n_2] : Bx } =
      some
      { ty := (52 : TypeId), cs := [Value.int IntKind.i64 (wideHi x.base), Value.int IntKind.u64 (wideLo x.base)] : Bx } ∧
      true = true) ∧
      (some { ty := (52 : Nat), cs := [Value.int IntKind.i64 n_3, Value.int IntKind.u64 n_4] : Bx } =
      some
      { ty := (52 : TypeId), cs := [Value.int IntKind.i64 (wideHi x.base), Value.int IntKind.u64 (wideLo x.base)] : Bx } ∧
      true = true) ∧
      True) ∧
      True) ∧
      True) ∧
      ∀ (x_1 : M),
      Agree n { π := m.π, sz := n, uf := m.uf : M } x_1 →
      (∃ (a_2 : EndsX),
      (a_2.k ≤ x.hs.length ∧ Agree n { π := m.π, sz := n, uf := m.uf : M } a_2.m) ∧
      x_1 = a_2.m ∧
      ((SV.val (Value.int IntKind.i64 (0 : Int)) = SV.val (Value.int IntKind.i64 (↑a_2.k : Int)) ∧ true = true) ∧
      (SV.own (0 : Nat) (0 : Nat) = SV.own (0 : Nat) (0 : Nat) ∧ true = true) ∧
      (SV.own (1 : Nat) (0 : Nat) = SV.own (1 : Nat) (0 : Nat) ∧ true = true) ∧
      (SV.own (2 : Nat) (0 : Nat) = SV.own (2 : Nat) (0 : Nat) ∧ true = true) ∧
      (SV.own (11 : Nat) (0 : Nat) = SV.own (11 : Nat) (0 : Nat) ∧ true = true) ∧
      (SV.own (12 : Nat) (0 : Nat) = SV.own (12 : Nat) (0 : Nat) ∧ true = true) ∧ True) ∧
      (some
      { ty := (28 : TypeId), cs := [Value.string x.key, Value.int IntKind.i64 x.lo, Value.int IntKind.i64 x.hi, Value.int IntKind.i64 x.base, Value.int IntKind.i64 x.round, Value.slice a x.hs.length c, Value.int IntKind.i64 x.lk.cl, Value.int IntKind.i64 x.lk.sq, Value.int IntKind.i64 x.lk.hm, Value.int IntKind.i64 x.lk.n] : Bx } =
      some
      { ty := (28 : TypeId), cs := [Value.string x.key, Value.int IntKind.i64 x.lo, Value.int IntKind.i64 x.hi, Value.int IntKind.i64 x.base, Value.int IntKind.i64 x.round, Value.slice a x.hs.length c, Value.int IntKind.i64 x.lk.cl, Value.int IntKind.i64 x.lk.sq, Value.int IntKind.i64 x.lk.hm, Value.int IntKind.i64 x.lk.n] : Bx } ∧
      true = true) ∧
      (some { ty := (52 : TypeId), cs := [Value.int IntKind.i64 (0 : Int), Value.int IntKind.u64 (0 : Int)] : Bx } =
      some { ty := (52 : TypeId), cs := [Value.int IntKind.i64 (0 : Int), Value.int IntKind.u64 (0 : Int)] : Bx } ∧
      true = true) ∧
      (some { ty := (52 : TypeId), cs := [Value.int IntKind.i64 (0 : Int), Value.int IntKind.u64 (0 : Int)] : Bx } =
      some { ty := (52 : TypeId), cs := [Value.int IntKind.i64 (0 : Int), Value.int IntKind.u64 (0 : Int)] : Bx } ∧
      true = true) ∧
      (some { ty := (52 : TypeId), cs := [Value.int IntKind.i64 (wideHi x.base), Value.int IntKind.u64 (wideLo x.base)] : Bx } =
      some
      { ty := (52 : TypeId), cs := [Value.int IntKind.i64 (wideHi (sumI (List.take (a_2.k + (1 : Nat)) (dnsL x)))), Value.int IntKind.u64 (wideLo (sumI (List.take (a_2.k + (1 : Nat)) (dnsL x))))] : Bx } ∧
      true = true) ∧
      (some { ty := (52 : TypeId), cs := [Value.int IntKind.i64 (wideHi x.base), Value.int IntKind.u64 (wideLo x.base)] : Bx } =
      some
      { ty := (52 : TypeId), cs := [Value.int IntKind.i64 (wideHi (sumI (List.take (a_2.k + (1 : Nat)) (upsL x)))), Value.int IntKind.u64 (wideLo (sumI (List.take (a_2.k + (1 : Nat)) (upsL x))))] : Bx } ∧
      true = true) ∧
      True) ∧
      ∀ (a_2 : EndsX),
      a_2.k ≤ x.hs.length ∧ Agree n { π := m.π, sz := n, uf := m.uf : M } a_2.m →
      ifB (decide ((↑a_2.k : Int) < (↑x.hs.length : Int)))
      (true = true ∧
      ∃ (b : Nat),
      ∃ (off : Nat),
      a = some { block := b, off := off : Addr } ∧
      ((0 : Int) ≤ (↑a_2.k : Int) ∧ (↑a_2.k : Int) < (↑x.hs.length : Int)) ∧
      ∃ (n_1 : Int),
      CellsAt a_2.m b (off + (↑a_2.k : Int).toNat * (4 : Nat) + (3 : Nat)) [Value.int IntKind.i64 n_1] ∧
      ∃ (n_2 : Int),
      ∃ (n_3 : Int),
      QSpec Try.prog (43 : Nat)
      [Value.agg
      #[Value.int IntKind.i64 (wideHi (sumI (List.take (a_2.k + (1 : Nat)) (dnsL x)))),
      Value.int IntKind.u64 (wideLo (sumI (List.take (a_2.k + (1 : Nat)) (dnsL x))))],
      Value.int IntKind.i64 n_1]
      a_2.m (Value.agg #[Value.int IntKind.i64 n_2, Value.int IntKind.u64 n_3]) ∧
      ∃ (b : Nat),
      ∃ (off : Nat),
      a = some { block := b, off := off : Addr } ∧
      ((0 : Int) ≤ (↑a_2.k : Int) ∧ (↑a_2.k : Int) < (↑x.hs.length : Int)) ∧
      ∃ (n_4 : Int),
      CellsAt a_2.m b (off + (↑a_2.k : Int).toNat * (4 : Nat) + (2 : Nat)) [Value.int IntKind.i64 n_4] ∧
      ∃ (n_5 : Int),
      ∃ (n_6 : Int),
      QSpec Try.prog (31 : Nat)
      [Value.agg
      #[Value.int IntKind.i64 (wideHi (sumI (List.take (a_2.k + (1 : Nat)) (upsL x)))),
      Value.int IntKind.u64 (wideLo (sumI (List.take (a_2.k + (1 : Nat)) (upsL x))))],
      Value.int IntKind.i64 n_4]
      a_2.m (Value.agg #[Value.int IntKind.i64 n_5, Value.int IntKind.u64 n_6]) ∧
      ∃ (a' : EndsX),
      ((a'.k ≤ x.hs.length ∧ Agree n { π := m.π, sz := n, uf := m.uf : M } a'.m) ∧
      a_2.m = a'.m ∧
      ((SV.val (Value.int IntKind.i64 (IntKind.i64.wrap ((↑a_2.k : Int) + (1 : Int)))) =
      SV.val (Value.int IntKind.i64 (↑a'.k : Int)) ∧
      true = true) ∧
      (SV.own (0 : Nat) (0 : Nat) = SV.own (0 : Nat) (0 : Nat) ∧ true = true) ∧
      (SV.own (1 : Nat) (0 : Nat) = SV.own (1 : Nat) (0 : Nat) ∧ true = true) ∧
      (SV.own (2 : Nat) (0 : Nat) = SV.own (2 : Nat) (0 : Nat) ∧ true = true) ∧
      (SV.own (11 : Nat) (0 : Nat) = SV.own (11 : Nat) (0 : Nat) ∧ true = true) ∧
      (SV.own (12 : Nat) (0 : Nat) = SV.own (12 : Nat) (0 : Nat) ∧ true = true) ∧ True) ∧
      (some
      { ty := (28 : TypeId), cs := [Value.string x.key, Value.int IntKind.i64 x.lo, Value.int IntKind.i64 x.hi, Value.int IntKind.i64 x.base, Value.int IntKind.i64 x.round, Value.slice a x.hs.length c, Value.int IntKind.i64 x.lk.cl, Value.int IntKind.i64 x.lk.sq, Value.int IntKind.i64 x.lk.hm, Value.int IntKind.i64 x.lk.n] : Bx } =
      some
      { ty := (28 : TypeId), cs := [Value.string x.key, Value.int IntKind.i64 x.lo, Value.int IntKind.i64 x.hi, Value.int IntKind.i64 x.base, Value.int IntKind.i64 x.round, Value.slice a x.hs.length c, Value.int IntKind.i64 x.lk.cl, Value.int IntKind.i64 x.lk.sq, Value.int IntKind.i64 x.lk.hm, Value.int IntKind.i64 x.lk.n] : Bx } ∧
      true = true) ∧
      (some { ty := (52 : TypeId), cs := [Value.int IntKind.i64 (0 : Int), Value.int IntKind.u64 (0 : Int)] : Bx } =
      some
      { ty := (52 : TypeId), cs := [Value.int IntKind.i64 (0 : Int), Value.int IntKind.u64 (0 : Int)] : Bx } ∧
      true = true) ∧
      (some { ty := (52 : TypeId), cs := [Value.int IntKind.i64 (0 : Int), Value.int IntKind.u64 (0 : Int)] : Bx } =
      some
      { ty := (52 : TypeId), cs := [Value.int IntKind.i64 (0 : Int), Value.int IntKind.u64 (0 : Int)] : Bx } ∧
      true = true) ∧
      (some { ty := (52 : TypeId), cs := [Value.int IntKind.i64 n_2, Value.int IntKind.u64 n_3] : Bx } =
      some
      { ty := (52 : TypeId), cs := [Value.int IntKind.i64 (wideHi (sumI (List.take (a'.k + (1 : Nat)) (dnsL x)))), Value.int IntKind.u64 (wideLo (sumI (List.take (a'.k + (1 : Nat)) (dnsL x))))] : Bx } ∧
      true = true) ∧
      (some { ty := (52 : TypeId), cs := [Value.int IntKind.i64 n_5, Value.int IntKind.u64 n_6] : Bx } =
      some
      { ty := (52 : TypeId), cs := [Value.int IntKind.i64 (wideHi (sumI (List.take (a'.k + (1 : Nat)) (upsL x)))), Value.int IntKind.u64 (wideLo (sumI (List.take (a'.k + (1 : Nat)) (upsL x))))] : Bx } ∧
      true = true) ∧
      True) ∧
      x.hs.length - a'.k < x.hs.length - a_2.k)
      (true = true ∧
      Done
      (Value.tuple
      #[Value.agg
      #[Value.int IntKind.i64 (wideHi (sumI (List.take (a_2.k + (1 : Nat)) (dnsL x)))),
      Value.int IntKind.u64 (wideLo (sumI (List.take (a_2.k + (1 : Nat)) (dnsL x))))],
      Value.agg
      #[Value.int IntKind.i64 (wideHi (sumI (List.take (a_2.k + (1 : Nat)) (upsL x)))),
      Value.int IntKind.u64 (wideLo (sumI (List.take (a_2.k + (1 : Nat)) (upsL x))))]] =
      Value.tuple
      #[Value.agg #[Value.int IntKind.i64 (wideHi (sumI (dnsL x))), Value.int IntKind.u64 (wideLo (sumI (dnsL x)))],
      Value.agg #[Value.int IntKind.i64 (wideHi (sumI (upsL x))), Value.int IntKind.u64 (wideLo (sumI (upsL x)))]]))) (by kernel_rfl) ?_
  have h' := h.sz hn
  have s1 : sumI [x.base] = x.base := by simp [sumI]
  have r1 : ∀ (m1 : M) b, b < m1.sz → CellsAt m1 b 0 [I x.base] → QSpec Try.prog 29 [.slice (some ⟨b, 0, none⟩) 1 1] m1 (wide x.base) := fun m1 b hb hc => by
    have := of_q (some ⟨b, 0, none⟩) 1 [x.base] (by simpa using hx.base) (by simp) m1 (.at _ _ _ hb hc)
    rw [s1] at this
    exact this
  have c1 : ∀ (m1 : M) b cs, b < (m1.newBlock b cs).sz := fun m1 b cs => by simp only [M.newBlock]; omega
  refine ⟨rfl, ⟨rfl, ⟨rfl, fun b hb => ⟨MLe.newBlock hb, _, _, r1 _ b (c1 _ _ _) cellsAt_new, ⟨rfl, fun b2 hb2 => ⟨MLe.newBlock hb2, _, _, r1 _ b2 (c1 _ _ _) cellsAt_new, _, (newBlock_agreeB hb).trans (newBlock_agreeB (by show n ≤ b2; omega)), rfl, by simp⟩⟩, trivial⟩⟩,
    ⟨rfl, fun b hb => ⟨MLe.newBlock hb, ⟨rfl, fun b2 hb2 => ⟨MLe.newBlock hb2, _, _, r1 _ b2 (c1 _ _ _) cellsAt_new, _, _, r1 _ b (by simp only [M.newBlock]; omega) (cellsAt_new.of (newBlock_other (by omega))), _, (newBlock_agreeB hb).trans (newBlock_agreeB (by show n ≤ b2; omega)), rfl, by simp⟩⟩, trivial⟩⟩, trivial⟩,
    fun y hy => ⟨⟨⟨0, y⟩, ⟨Nat.zero_le _, hy⟩, by simp [s1]⟩, fun y ⟨hk, hag⟩ => ifB_intro (fun hb => ?_) (fun hb => ?_)⟩⟩
  · have hk2 : y.k < x.hs.length := by simpa using hb
    obtain ⟨b, o, rfl, hc⟩ := (h'.agree hag).cells (by rw [hds_len]; omega)
    have hlen := hx.len
    have w1 : IntKind.i64.wrap ((y.k : Int) + 1) = ((y.k + 1 : Nat) : Int) := by simp [IntKind.wrap_i64]; omega
    have hw := hx.hs _ (List.getElem_mem hk2)
    have hcell := hd_at hc hk2
    have hc3 : CellsAt y.m b (o + y.k * 4 + 3) [I x.hs[y.k].dn] := CellsAt.drop (cs := [I x.hs[y.k].nd, I x.hs[y.k].le, I x.hs[y.k].up]) hcell
    have hc2 : CellsAt y.m b (o + y.k * 4 + 2) [I x.hs[y.k].up] := (CellsAt.drop (cs := [I x.hs[y.k].nd, I x.hs[y.k].le]) (ds := [I x.hs[y.k].up, I x.hs[y.k].dn]) hcell).take (ds := [I x.hs[y.k].dn])
    have e1 : sumI ((upsL x).take (y.k + 1 + 1)) = sumI ((upsL x).take (y.k + 1)) + x.hs[y.k].up := by
      rw [sumI_take (upsL x) (y.k + 1) (by simpa using hk2)]; simp
    have e2 : sumI ((dnsL x).take (y.k + 1 + 1)) = sumI ((dnsL x).take (y.k + 1)) - x.hs[y.k].dn := by
      rw [sumI_take (dnsL x) (y.k + 1) (by simpa using hk2)]; simp; omega
    refine ⟨rfl, b, o, rfl, by omega, _, by simpa using hc3, _, _, less_q _ _ hw.2.2.2 _, b, o, rfl, by omega, _, by simpa using hc2, _, _, plus_q _ _ hw.2.2.1 _, ⟨y.k + 1, y.m⟩, ⟨⟨hk2, hag⟩, by simp only [e1, e2]; simp [w1]⟩, by simp only; omega⟩
  · have hk2 : y.k = x.hs.length := by simp at hb; omega
    rw [List.take_of_length_le (l := dnsL x) (by simp [hk2]), List.take_of_length_le (l := upsL x) (by simp [hk2])]
    exact ⟨rfl, ⟨rfl⟩⟩

theorem dn_len {x : Ac} : (dnsL x).length = x.hs.length + 1 := by simp

theorem up_len {x : Ac} : (upsL x).length = x.hs.length + 1 := by simp

theorem ups64 {x : Ac} (hx : x.wf) : ∀ v ∈ upsL x, In64 v := fun v hv => by
  rcases List.mem_cons.1 hv with rfl | hv
  · exact hx.base
  · obtain ⟨h, hh, rfl⟩ := List.mem_map.1 hv
    exact (hx.hs h hh).2.2.1

theorem ups_bound {x : Ac} (hx : x.wf) (h : holdB 0 x.hs = true) : -85070591730234615865843651857942052864 ≤ sumI (upsL x) ∧ sumI (upsL x) ≤ 85070591730234615865843651857942052864 := by
  have h1 := sumI_bound _ (ups64 hx)
  have h2 := hold_len h
  rw [up_len] at h1
  have h3 : ((x.hs.length + 1 : Nat) : Int) ≤ 6 := by omega
  omega

theorem dns_bound {x : Ac} (hx : x.wf) (h : holdB 0 x.hs = true) : -85070591730234615865843651857942052864 ≤ sumI (dnsL x) ∧ sumI (dnsL x) ≤ x.base := by
  have hm := hold_mem _ _ h
  have h4 : ∀ v ∈ dnsL x, In64 v := fun v hv => by
    rcases List.mem_cons.1 hv with rfl | hv
    · exact hx.base
    · obtain ⟨h, hh, rfl⟩ := List.mem_map.1 hv
      have h1 := (hx.hs h hh).2.2.2
      have h2 := (hm h hh).2.2.2.2
      unfold In64 at *; omega
  have h1 := sumI_bound _ h4
  have h2 := hold_len h
  rw [dn_len] at h1
  have h3 : ((x.hs.length + 1 : Nat) : Int) ≤ 6 := by omega
  have := (up_ge h).2
  omega

theorem rright_q (x : Ac) (a : Option Addr) (c : Nat) (hx : x.wf) (m : M) (h : Row m a (hds x.hs)) : QSpec Try.prog 12 [acv x a c] m (.bool (rightB x)) := by
  refine QSpec.of_vc Try.func12 (ann := fun n _ => { A := Nat, inv := fun k => k ≤ x.hs.length ∧ holdB 0 x.hs = holdB (lastNd x.hs k) (x.hs.drop k), st := fun k => [(1, .own 0 0), (3, .val (I (lastNd x.hs k))), (4, .val (I k))], own := fun _ => [(0, ⟨28, acc x a c⟩)], m := fun _ => { m with sz := n }, μ := fun k => x.hs.length - k }) fun n hn => ?_
  refine vc_by (X :=
      true = true ∧
      ∃ (b : Bool),
      QSpec Try.prog (39 : Nat) [Value.string x.key] { π := m.π, sz := n, uf := m.uf : M } (Value.bool b) ∧
      ifB (!b) (Done (Value.bool false = Value.bool (rightB x)))
      (∃ (b : Bool),
      QSpec Try.prog (40 : Nat) [Value.agg #[Value.int IntKind.i64 x.lo, Value.int IntKind.i64 x.hi], Value.int IntKind.i64 x.base] { π := m.π, sz := n, uf := m.uf : M }
      (Value.bool b) ∧
      ifB (!b) (Done (Value.bool false = Value.bool (rightB x)))
      (ifB (decide (x.round < (0 : Int))) (Done (Value.bool false = Value.bool (rightB x)))
      ((∃ (a_1 : Nat),
      (a_1 ≤ x.hs.length ∧ holdB (0 : Int) x.hs = holdB (lastNd x.hs a_1) (List.drop a_1 x.hs)) ∧
      { π := m.π, sz := n, uf := m.uf : M } = { π := m.π, sz := n, uf := m.uf : M } ∧
      ((SV.own ((0 : Nat) + (0 : Nat)) (0 : Nat) = SV.own (0 : Nat) (0 : Nat) ∧ true = true) ∧
      (SV.val (Value.int IntKind.i64 (0 : Int)) = SV.val (Value.int IntKind.i64 (lastNd x.hs a_1)) ∧ true = true) ∧
      (SV.val (Value.int IntKind.i64 (0 : Int)) = SV.val (Value.int IntKind.i64 (↑a_1 : Int)) ∧ true = true) ∧ True) ∧
      (some
      { ty := (28 : Nat), cs := [Value.string x.key, Value.int IntKind.i64 x.lo, Value.int IntKind.i64 x.hi, Value.int IntKind.i64 x.base, Value.int IntKind.i64 x.round, Value.slice a x.hs.length c, Value.int IntKind.i64 x.lk.cl, Value.int IntKind.i64 x.lk.sq, Value.int IntKind.i64 x.lk.hm, Value.int IntKind.i64 x.lk.n] : Bx } =
      some
      { ty := (28 : TypeId), cs := [Value.string x.key, Value.int IntKind.i64 x.lo, Value.int IntKind.i64 x.hi, Value.int IntKind.i64 x.base, Value.int IntKind.i64 x.round, Value.slice a x.hs.length c, Value.int IntKind.i64 x.lk.cl, Value.int IntKind.i64 x.lk.sq, Value.int IntKind.i64 x.lk.hm, Value.int IntKind.i64 x.lk.n] : Bx } ∧
      true = true) ∧
      True) ∧
      ∀ (a_1 : Nat),
      a_1 ≤ x.hs.length ∧ holdB (0 : Int) x.hs = holdB (lastNd x.hs a_1) (List.drop a_1 x.hs) →
      ifB (decide ((↑a_1 : Int) < (↑x.hs.length : Int)))
      (∃ (b : Nat),
      ∃ (off : Nat),
      a = some { block := b, off := off : Addr } ∧
      ((0 : Int) ≤ (↑a_1 : Int) ∧ (↑a_1 : Int) < (↑x.hs.length : Int)) ∧
      ∃ (n_1 : Int),
      ∃ (n_2 : Int),
      ∃ (n_3 : Int),
      ∃ (n_4 : Int),
      CellsAt { π := m.π, sz := n, uf := m.uf : M } b (off + (↑a_1 : Int).toNat * (4 : Nat))
      [Value.int IntKind.i64 n_1, Value.int IntKind.i64 n_2, Value.int IntKind.i64 n_3, Value.int IntKind.i64 n_4] ∧
      ifB (decide (n_1 ≤ lastNd x.hs a_1)) (Done (Value.bool false = Value.bool (rightB x)))
      (ifB (decide (n_1 > (5 : Int))) (Done (Value.bool false = Value.bool (rightB x)))
      (ifB (decide (n_2 < (1 : Int))) (Done (Value.bool false = Value.bool (rightB x)))
      (ifB (decide (n_3 < (0 : Int))) (Done (Value.bool false = Value.bool (rightB x)))
      (ifB (decide (n_4 < (0 : Int))) (Done (Value.bool false = Value.bool (rightB x)))
      (∃ (a' : Nat),
      ((a' ≤ x.hs.length ∧ holdB (0 : Int) x.hs = holdB (lastNd x.hs a') (List.drop a' x.hs)) ∧
      { π := m.π, sz := n, uf := m.uf : M } = { π := m.π, sz := n, uf := m.uf : M } ∧
      ((SV.own (0 : Nat) (0 : Nat) = SV.own (0 : Nat) (0 : Nat) ∧ true = true) ∧
      (SV.val (Value.int IntKind.i64 n_1) = SV.val (Value.int IntKind.i64 (lastNd x.hs a')) ∧ true = true) ∧
      (SV.val (Value.int IntKind.i64 (IntKind.i64.wrap ((↑a_1 : Int) + (1 : Int)))) =
      SV.val (Value.int IntKind.i64 (↑a' : Int)) ∧
      true = true) ∧
      True) ∧
      (some
      { ty := (28 : TypeId), cs := [Value.string x.key, Value.int IntKind.i64 x.lo, Value.int IntKind.i64 x.hi, Value.int IntKind.i64 x.base, Value.int IntKind.i64 x.round, Value.slice a x.hs.length c, Value.int IntKind.i64 x.lk.cl, Value.int IntKind.i64 x.lk.sq, Value.int IntKind.i64 x.lk.hm, Value.int IntKind.i64 x.lk.n] : Bx } =
      some
      { ty := (28 : TypeId), cs := [Value.string x.key, Value.int IntKind.i64 x.lo, Value.int IntKind.i64 x.hi, Value.int IntKind.i64 x.base, Value.int IntKind.i64 x.round, Value.slice a x.hs.length c, Value.int IntKind.i64 x.lk.cl, Value.int IntKind.i64 x.lk.sq, Value.int IntKind.i64 x.lk.hm, Value.int IntKind.i64 x.lk.n] : Bx } ∧
      true = true) ∧
      True) ∧
      x.hs.length - a' < x.hs.length - a_1))))))
      (∃ (n_1 : Int),
      ∃ (n_2 : Int),
      ∃ (n_3 : Int),
      ∃ (n_4 : Int),
      QSpec Try.prog (41 : Nat)
      [Value.agg
      #[Value.string x.key, Value.int IntKind.i64 x.lo, Value.int IntKind.i64 x.hi, Value.int IntKind.i64 x.base, Value.int IntKind.i64 x.round,
      Value.slice a x.hs.length c, Value.int IntKind.i64 x.lk.cl, Value.int IntKind.i64 x.lk.sq, Value.int IntKind.i64 x.lk.hm,
      Value.int IntKind.i64 x.lk.n]]
      { π := m.π, sz := n, uf := m.uf : M }
      (Value.tuple
      #[Value.agg #[Value.int IntKind.i64 n_1, Value.int IntKind.u64 n_2], Value.agg #[Value.int IntKind.i64 n_3, Value.int IntKind.u64 n_4]]) ∧
      ∃ (b : Bool),
      QSpec Try.prog (42 : Nat) [Value.agg #[Value.int IntKind.i64 n_3, Value.int IntKind.u64 n_4], Value.int IntKind.i64 x.hi]
      { π := m.π, sz := n, uf := m.uf : M } (Value.bool b) ∧
      ifB b (Done (Value.bool false = Value.bool (rightB x)))
      (∃ (n_5 : Int),
      ∃ (n_6 : Int),
      QSpec Try.prog (43 : Nat) [Value.agg #[Value.int IntKind.i64 n_1, Value.int IntKind.u64 n_2], Value.int IntKind.i64 x.lo]
      { π := m.π, sz := n, uf := m.uf : M } (Value.agg #[Value.int IntKind.i64 n_5, Value.int IntKind.u64 n_6]) ∧
      ifB (decide (n_5 < (0 : Int))) (Done (Value.bool false = Value.bool (rightB x)))
      (ifB (x.lk.cl == (0 : Int))
      (Done
      (Value.bool (x.lk.cl == (0 : Int) && (x.lk.sq == (0 : Int) && (x.lk.hm == (0 : Int) && (x.lk.n == (0 : Int) && true)))) =
      Value.bool (rightB x)))
      (true = true ∧
      ∀ (b : Nat),
      n ≤ b →
      ∃ (n_7 : Int),
      ∃ (n_8 : Int),
      QSpec Try.prog (29 : Nat) [Value.slice (some { block := b, off := (0 : Nat) : Addr }) (2 : Nat) (2 : Nat)]
      ({ π := m.π, sz := n, uf := m.uf : M }.newBlock b [Value.int IntKind.i64 x.base, Value.int IntKind.i64 x.lk.n])
      (Value.agg #[Value.int IntKind.i64 n_7, Value.int IntKind.u64 n_8]) ∧
      ∃ (n_9 : Int),
      ∃ (b_1 : Bool),
      QSpec Try.prog (32 : Nat) [Value.agg #[Value.int IntKind.i64 n_7, Value.int IntKind.u64 n_8]]
      ({ π := m.π, sz := n, uf := m.uf : M }.newBlock b
      [Value.int IntKind.i64 x.base, Value.int IntKind.i64 x.lk.n])
      (Value.tuple #[Value.int IntKind.i64 n_9, Value.bool b_1]) ∧
      ∃ (b_2 : Bool),
      QSpec Try.prog (44 : Nat)
      [Value.agg
      #[Value.int IntKind.i64 x.lk.cl, Value.int IntKind.i64 x.lk.sq, Value.int IntKind.i64 x.lk.hm,
      Value.int IntKind.i64 x.lk.n]]
      ({ π := m.π, sz := n, uf := m.uf : M }.newBlock b
      [Value.int IntKind.i64 x.base, Value.int IntKind.i64 x.lk.n])
      (Value.bool b_2) ∧
      ifB b_2
      (ifB ((↑x.hs.length : Int) == (0 : Int))
      (ifB b_1
      (∃ (b_3 : Bool),
      QSpec Try.prog (40 : Nat)
      [Value.agg #[Value.int IntKind.i64 x.lo, Value.int IntKind.i64 x.hi], Value.int IntKind.i64 n_9]
      ({ π := m.π, sz := n, uf := m.uf : M }.newBlock b
      [Value.int IntKind.i64 x.base, Value.int IntKind.i64 x.lk.n])
      (Value.bool b_3) ∧
      Done (Value.bool b_3 = Value.bool (rightB x)))
      (Done (Value.bool false = Value.bool (rightB x))))
      (Done (Value.bool false = Value.bool (rightB x))))
      (Done (Value.bool false = Value.bool (rightB x))))))))))) (by kernel_rfl) ?_
  have h' := h.sz hn
  refine ⟨rfl, _, rkey_q _ _, ifB_intro (fun h1 => ⟨?_⟩) (fun h1 => ⟨_, rhas_q _ _ _ _, ifB_intro (fun h2 => ⟨?_⟩) (fun h2 => ifB_intro (fun h3 => ⟨?_⟩) (fun h3 => ⟨⟨0, by simp [lastNd]⟩, fun k ⟨hk, hq⟩ => ifB_intro (fun hb => ?_) (fun hb => ?_)⟩))⟩)⟩
  · simp at h1; simp [rightB, h1]
  · simp at h2; simp [rightB, h2]
  · simp at h3; simp [rightB]; omega
  · have hk2 : k < x.hs.length := by simpa using hb
    obtain ⟨b, o, rfl, hc⟩ := h'.cells (by rw [hds_len]; omega)
    have hlen := hx.len
    have w1 : IntKind.i64.wrap ((k : Int) + 1) = ((k + 1 : Nat) : Int) := by simp [IntKind.wrap_i64]; omega
    rw [holdB_drop hk2] at hq
    refine ⟨b, o, rfl, by omega, _, _, _, _, by simpa using hd_at hc hk2, ?_⟩
    have bad : hdB (lastNd x.hs k) x.hs[k] = false → Done (Value.bool false = Value.bool (rightB x)) := fun hh => by
      rw [hh] at hq
      exact ⟨by simp [rightB, hq]⟩
    refine ifB_intro (fun h1 => bad ?_) (fun h1 => ifB_intro (fun h2 => bad ?_) (fun h2 => ifB_intro (fun h3 => bad ?_) (fun h3 => ifB_intro (fun h4 => bad ?_) (fun h4 => ifB_intro (fun h5 => bad ?_) (fun h5 => ⟨k + 1, ⟨⟨hk2, ?_⟩, by simp [w1, lastNd_succ hk2]⟩, by omega⟩)))))
    · simp at h1; simp [hdB]; omega
    · simp at h2; simp [hdB]; omega
    · simp at h3; simp [hdB]; omega
    · simp at h4; simp [hdB]; omega
    · simp at h5; simp [hdB]; omega
    · rw [hq, lastNd_succ hk2]; simp [hdB] at *; omega
  · have hkl : k = x.hs.length := by simp at hb; omega
    have h5 : holdB 0 x.hs = true := by rw [hq, hkl]; simp [holdB]
    have hh : hasB x.lo x.hi x.base = true := by simpa using h2
    have hkey : keyB x.key = true := by simpa using h1
    have hr : 0 ≤ x.round := by simpa using h3
    have hR : rightB x = (decide (sumI (upsL x) ≤ x.hi) && decide (x.lo ≤ sumI (dnsL x)) && lockB x) := by simp [rightB, hkey, hh, hr, h5]
    have hub := ups_bound hx h5
    have hdb := dns_bound hx h5
    have hlo := hx.lo
    have hhi := hx.hi
    have hba := hx.base
    have e1 : wideHi (sumI (dnsL x) - x.lo) < 0 ↔ sumI (dnsL x) < x.lo := by
      unfold In64 at *; simp [wideHi, IntKind.wrap_i64]; omega
    rw [hR]
    refine ⟨_, _, _, _, ends_q x a c hx _ h', _, above_q _ _ hub hx.hi _, ifB_intro (fun h6 => ⟨?_⟩) (fun h6 => ⟨_, _, less_q _ _ hx.lo _, ifB_intro (fun h7 => ⟨?_⟩) (fun h7 => ?_)⟩)⟩
    · simp at h6; simp; omega
    · have h7 := e1.1 (by simpa using h7)
      simp; omega
    · have h6 : sumI (upsL x) ≤ x.hi := by simp at h6; omega
      have h7 : x.lo ≤ sumI (dnsL x) := by
        have : ¬ sumI (dnsL x) < x.lo := fun hh => by simp at h7; have := e1.2 hh; omega
        omega
      simp only [h6, h7, decide_true, Bool.true_and]
      refine ifB_intro (fun h8 => ⟨?_⟩) (fun h8 => ⟨trivial, fun b hb => ?_⟩)
      · simp at h8; simp [lockB, h8, lkZ, Bool.beq_eq_decide_eq, Bool.and_assoc]
      · have s2 : sumI [x.base, x.lk.n] = x.base + x.lk.n := by simp [sumI]
        have hln := hx.lk.2.2.2
        have q1 := of_q (some ⟨b, 0, none⟩) 2 [x.base, x.lk.n] (by intro y hy; simp at hy; rcases hy with rfl | rfl; exact hx.base; exact hln) (by simp) (({ m with sz := n } : M).newBlock b [I x.base, I x.lk.n]) (.at _ _ _ (by simp only [M.newBlock]; omega) cellsAt_new)
        rw [s2] at q1
        unfold In64 at hba hln
        have h8 : x.lk.cl ≠ 0 := by simpa using h8
        have hL : lockB x = (keeperB x.lk && x.hs.isEmpty && fitsB x x.lk) := by simp [lockB, h8]
        rw [hL]
        refine ⟨_, _, q1, _, _, int_q _ (by omega) (by omega) _, _, rlocked_q _ _, ?_⟩
        refine ifB_intro (fun h9 => ifB_intro (fun h10 => ifB_intro (fun h11 => ⟨_, rhas_q _ _ _ _, ⟨?_⟩⟩) (fun h11 => ⟨?_⟩)) (fun h10 => ⟨?_⟩)) (fun h9 => ⟨?_⟩)
        · have h11 : In64 (x.base + x.lk.n) := by simpa using h11
          unfold In64 at h11
          have hw : IntKind.i64.wrap (x.base + x.lk.n) = x.base + x.lk.n := by simp [IntKind.wrap_i64]; omega
          simp at h10
          rw [hw]; simp [h9, h10, fitsB]
        · have h11 : ¬ In64 (x.base + x.lk.n) := by simpa using h11
          unfold In64 at h11 hlo hhi
          have : fitsB x x.lk = false := by simp [fitsB, hasB]; omega
          simp [this]
        · simp at h10; simp [h10]
        · simp [h9]

end Go.Proofs.Ytlifpjllhibdpaa
set_option linter.unusedVariables false
set_option linter.unusedSimpArgs false
namespace Go.Proofs.Ytlifpjllhibdpaa
open Go.Vc Go.RowKit

theorem wf_key (k : ByteArray) (hk : k.size ≤ 9223372036854775807) : (⟨k, 0, 0, 0, 0, [], ⟨0, 0, 0, 0⟩⟩ : Ac).wf :=
  ⟨hk, (by decide : In64 0), (by decide : In64 0), (by decide : In64 0), (by decide : In64 0), fun h hh => (by simp at hh), Nat.zero_le _, ⟨(by decide : In64 0), (by decide : In64 0), (by decide : In64 0), (by decide : In64 0)⟩⟩

theorem rnew_q (k : ByteArray) (m : M) : QSpec Try.prog 14 [.string k] m (.tuple #[acv { ac0 with key := if keyB k then k else .empty } none 0, I (if keyB k then 0 else 1)]) := by
  refine QSpec.of_vc Try.func14 (ann := fun _ => noAnn) fun n hn => ?_
  refine vc_by (X :=
      true = true ∧
      ∃ (b : Bool),
      QSpec Try.prog (39 : Nat) [Value.string k] { π := m.π, sz := n, uf := m.uf : M } (Value.bool b) ∧
      ifB (!b)
      (Done
      (Value.tuple
      #[Value.agg
      #[Value.string { data := #[] : ByteArray }, Value.int IntKind.i64 (0 : Int), Value.int IntKind.i64 (0 : Int), Value.int IntKind.i64 (0 : Int),
      Value.int IntKind.i64 (0 : Int), Value.slice none (0 : Nat) (0 : Nat), Value.int IntKind.i64 (0 : Int), Value.int IntKind.i64 (0 : Int),
      Value.int IntKind.i64 (0 : Int), Value.int IntKind.i64 (0 : Int)],
      Value.int IntKind.i64 (1 : Int)] =
      Value.tuple
      #[Value.agg
      #[Value.string (if keyB k = true then k else ByteArray.empty), Value.int IntKind.i64 (0 : Int), Value.int IntKind.i64 (0 : Int), Value.int IntKind.i64 (0 : Int),
      Value.int IntKind.i64 (0 : Int), Value.slice none (0 : Nat) (0 : Nat), Value.int IntKind.i64 (0 : Int), Value.int IntKind.i64 (0 : Int),
      Value.int IntKind.i64 (0 : Int), Value.int IntKind.i64 (0 : Int)],
      Value.int IntKind.i64 (if keyB k = true then (0 : Int) else (1 : Int))]))
      (Done
      (Value.tuple
      #[Value.agg
      #[Value.string k, Value.int IntKind.i64 (0 : Int), Value.int IntKind.i64 (0 : Int), Value.int IntKind.i64 (0 : Int), Value.int IntKind.i64 (0 : Int),
      Value.slice none (0 : Nat) (0 : Nat), Value.int IntKind.i64 (0 : Int), Value.int IntKind.i64 (0 : Int), Value.int IntKind.i64 (0 : Int),
      Value.int IntKind.i64 (0 : Int)],
      Value.int IntKind.i64 (0 : Int)] =
      Value.tuple
      #[Value.agg
      #[Value.string (if keyB k = true then k else ByteArray.empty), Value.int IntKind.i64 (0 : Int), Value.int IntKind.i64 (0 : Int), Value.int IntKind.i64 (0 : Int),
      Value.int IntKind.i64 (0 : Int), Value.slice none (0 : Nat) (0 : Nat), Value.int IntKind.i64 (0 : Int), Value.int IntKind.i64 (0 : Int),
      Value.int IntKind.i64 (0 : Int), Value.int IntKind.i64 (0 : Int)],
      Value.int IntKind.i64 (if keyB k = true then (0 : Int) else (1 : Int))]))) (by kernel_rfl) ?_
  refine ⟨rfl, _, rkey_q _ _, ?_⟩
  cases h : keyB k
  · exact ifB_true ⟨by simp; rfl⟩
  · exact ifB_false ⟨by simp⟩

theorem rroom_q (x : Ac) (a : Option Addr) (c : Nat) (hx : x.wf) (m : M) (h : Row m a (hds x.hs)) : QSpec Try.prog 16 [acv x a c] m (.tuple #[U (roomDn x), U (roomUp x)]) := by
  refine QSpec.of_vc Try.func16 (ann := fun _ => noAnn) fun n hn => ?_
  refine vc_by (X :=
      true = true ∧
      ∃ (b : Bool),
      QSpec Try.prog (12 : Nat)
      [Value.agg
      #[Value.string x.key, Value.int IntKind.i64 x.lo, Value.int IntKind.i64 x.hi, Value.int IntKind.i64 x.base, Value.int IntKind.i64 x.round, Value.slice a x.hs.length c,
      Value.int IntKind.i64 x.lk.cl, Value.int IntKind.i64 x.lk.sq, Value.int IntKind.i64 x.lk.hm, Value.int IntKind.i64 x.lk.n]]
      { π := m.π, sz := n, uf := m.uf : M } (Value.bool b) ∧
      ifB (!b)
      (Done (Value.tuple #[Value.int IntKind.u64 (0 : Int), Value.int IntKind.u64 (0 : Int)] = Value.tuple #[Value.int IntKind.u64 (roomDn x), Value.int IntKind.u64 (roomUp x)]))
      (ifB (x.lk.cl != (0 : Int))
      (Done
      (Value.tuple #[Value.int IntKind.u64 (0 : Int), Value.int IntKind.u64 (0 : Int)] = Value.tuple #[Value.int IntKind.u64 (roomDn x), Value.int IntKind.u64 (roomUp x)]))
      (∃ (n_1 : Int),
      ∃ (n_2 : Int),
      ∃ (n_3 : Int),
      ∃ (n_4 : Int),
      QSpec Try.prog (41 : Nat)
      [Value.agg
      #[Value.string x.key, Value.int IntKind.i64 x.lo, Value.int IntKind.i64 x.hi, Value.int IntKind.i64 x.base, Value.int IntKind.i64 x.round,
      Value.slice a x.hs.length c, Value.int IntKind.i64 x.lk.cl, Value.int IntKind.i64 x.lk.sq, Value.int IntKind.i64 x.lk.hm, Value.int IntKind.i64 x.lk.n]]
      { π := m.π, sz := n, uf := m.uf : M }
      (Value.tuple #[Value.agg #[Value.int IntKind.i64 n_1, Value.int IntKind.u64 n_2], Value.agg #[Value.int IntKind.i64 n_3, Value.int IntKind.u64 n_4]]) ∧
      true = true ∧
      ∃ (n_5 : Int),
      ∃ (n_6 : Int),
      QSpec Try.prog (43 : Nat) [Value.agg #[Value.int IntKind.i64 n_1, Value.int IntKind.u64 n_2], Value.int IntKind.i64 x.lo]
      { π := m.π, sz := n, uf := m.uf : M } (Value.agg #[Value.int IntKind.i64 n_5, Value.int IntKind.u64 n_6]) ∧
      (true = true ∧
      ∀ (b : Nat),
      n ≤ b →
      MLe { π := m.π, sz := n, uf := m.uf : M } ({ π := m.π, sz := n, uf := m.uf : M }.newBlock b [Value.int IntKind.i64 x.hi]) ∧
      ∃ (n_7 : Int),
      ∃ (n_8 : Int),
      QSpec Try.prog (29 : Nat) [Value.slice (some { block := b, off := (0 : Nat) : Addr }) (1 : Nat) (1 : Nat)]
      ({ π := m.π, sz := n, uf := m.uf : M }.newBlock b [Value.int IntKind.i64 x.hi])
      (Value.agg #[Value.int IntKind.i64 n_7, Value.int IntKind.u64 n_8]) ∧
      Done
      (Value.tuple #[Value.int IntKind.u64 n_6, Value.int IntKind.u64 (IntKind.u64.wrap (n_8 - n_4))] =
      Value.tuple #[Value.int IntKind.u64 (roomDn x), Value.int IntKind.u64 (roomUp x)])) ∧
      True))) (by kernel_rfl) ?_
  refine ⟨rfl, _, rright_q x a c hx _ (h.sz hn), ?_⟩
  cases hr : rightB x
  · exact ifB_true ⟨by simp [roomDn, roomUp, hr]⟩
  · refine ifB_false (ifB_intro (fun h1 => ⟨?_⟩) (fun h1 => ?_))
    · have hl : x.lk.cl ≠ 0 := by simpa using h1
      simp [roomDn, roomUp, hl]
    · have hl : x.lk.cl = 0 := by simpa using h1
      have hp := (right_iff x).1 hr
      have hbd := hp.bounds hx
      have h4 := hp.up
      have h5 := hp.dn
      have h6 := hx.lo
      have h7 := hx.hi
      refine ⟨_, _, _, _, ends_q x a c hx _ (h.sz hn), rfl, _, _, less_q _ _ hx.lo _, ⟨rfl, fun b hb => ⟨MLe.newBlock hb, _, _, of_q (some ⟨b, 0, none⟩) 1 [x.hi] (by simpa using hx.hi) (by simp) _ (.at _ _ _ (by simp only [M.newBlock]; omega) cellsAt_new), ⟨?_⟩⟩⟩, trivial⟩
      simp only [roomDn, roomUp, hr, hl, decide_true, Bool.and_self, if_true]
      have s1 : sumI [x.hi] = x.hi := by simp [sumI]
      rw [s1]
      have h8 := hbd.1
      have h9 := hbd.2.1
      unfold In64 at *
      simp [IntKind.wrap_u64, wideLo]
      omega

theorem rtotal_q (x : Ac) (a : Option Addr) (c : Nat) (hx : x.wf) (m : M) (h : Row m a (hds x.hs)) : QSpec Try.prog 18 [acv x a c] m (.tuple #[I (if totB x then x.base else 0), .bool (totB x)]) := by
  refine QSpec.of_vc Try.func18 (ann := fun _ => noAnn) fun n hn => ?_
  refine vc_by (X :=
      true = true ∧
      ∃ (b : Bool),
      QSpec Try.prog (12 : Nat)
      [Value.agg
      #[Value.string x.key, Value.int IntKind.i64 x.lo, Value.int IntKind.i64 x.hi, Value.int IntKind.i64 x.base, Value.int IntKind.i64 x.round, Value.slice a x.hs.length c,
      Value.int IntKind.i64 x.lk.cl, Value.int IntKind.i64 x.lk.sq, Value.int IntKind.i64 x.lk.hm, Value.int IntKind.i64 x.lk.n]]
      { π := m.π, sz := n, uf := m.uf : M } (Value.bool b) ∧
      ifB (!b)
      (Done
      (Value.tuple #[Value.int IntKind.i64 (0 : Int), Value.bool false] =
      Value.tuple #[Value.int IntKind.i64 (if totB x = true then x.base else (0 : Int)), Value.bool (totB x)]))
      (ifB (decide ((↑x.hs.length : Int) > (0 : Int)))
      (Done
      (Value.tuple #[Value.int IntKind.i64 (0 : Int), Value.bool false] =
      Value.tuple #[Value.int IntKind.i64 (if totB x = true then x.base else (0 : Int)), Value.bool (totB x)]))
      (ifB (x.lk.cl != (0 : Int))
      (Done
      (Value.tuple #[Value.int IntKind.i64 (0 : Int), Value.bool false] =
      Value.tuple #[Value.int IntKind.i64 (if totB x = true then x.base else (0 : Int)), Value.bool (totB x)]))
      (Done
      (Value.tuple #[Value.int IntKind.i64 x.base, Value.bool true] =
      Value.tuple #[Value.int IntKind.i64 (if totB x = true then x.base else (0 : Int)), Value.bool (totB x)]))))) (by kernel_rfl) ?_
  refine ⟨rfl, _, rright_q x a c hx _ (h.sz hn), ?_⟩
  cases hr : rightB x
  · exact ifB_true ⟨by simp [totB, hr]⟩
  · refine ifB_false (ifB_intro (fun h2 => ⟨?_⟩) (fun h2 => ifB_intro (fun h1 => ⟨?_⟩) (fun h1 => ⟨?_⟩)))
    · have : x.hs ≠ [] := fun e => by simp [e] at h2
      simp [totB, this]
    · simp at h1; simp [totB, h1]
    · have : x.hs = [] := by simpa using h2
      simp at h1; simp [totB, hr, h1, this]

theorem rfind_q (x : Ac) (a : Option Addr) (c : Nat) (nd : Int) (hx : x.wf) (m : M) (h : Row m a (hds x.hs)) : QSpec Try.prog 20 [acv x a c, I nd] m (.tuple #[hdv (findH x nd), .bool (findB x nd)]) := by
  refine QSpec.of_vc Try.func20 (ann := fun n _ => { A := Nat, inv := fun k => k ≤ x.hs.length ∧ fndH x.hs nd = fndH (x.hs.drop k) nd ∧ (rightB x = false → k = 0), st := fun k => [(6, .val (I k)), (2, .own 0 0), (1, .val (I nd)), (4, .own 1 0)], own := fun _ => [(0, ⟨28, acc x a c⟩), (1, ⟨31, [I 0, I 0, I 0, I 0]⟩)], m := fun _ => { m with sz := n }, μ := fun k => x.hs.length - k }) fun n hn => ?_
  refine vc_by (X :=
      true = true ∧
      (∃ (a_1 : Nat),
      (a_1 ≤ x.hs.length ∧ fndH x.hs nd = fndH (List.drop a_1 x.hs) nd ∧ (rightB x = false → a_1 = (0 : Nat))) ∧
      { π := m.π, sz := n, uf := m.uf : M } = { π := m.π, sz := n, uf := m.uf : M } ∧
      ((SV.val (Value.int IntKind.i64 (0 : Int)) = SV.val (Value.int IntKind.i64 (↑a_1 : Int)) ∧ true = true) ∧
      (SV.own ((0 : Nat) + (0 : Nat)) (0 : Nat) = SV.own (0 : Nat) (0 : Nat) ∧ true = true) ∧
      (SV.val (Value.int IntKind.i64 nd) = SV.val (Value.int IntKind.i64 nd) ∧ true = true) ∧
      (SV.own ((0 : Nat) + (1 : Nat)) (0 : Nat) = SV.own (1 : Nat) (0 : Nat) ∧ true = true) ∧ True) ∧
      (some
      { ty := (28 : Nat), cs := [Value.string x.key, Value.int IntKind.i64 x.lo, Value.int IntKind.i64 x.hi, Value.int IntKind.i64 x.base, Value.int IntKind.i64 x.round, Value.slice a x.hs.length c, Value.int IntKind.i64 x.lk.cl, Value.int IntKind.i64 x.lk.sq, Value.int IntKind.i64 x.lk.hm, Value.int IntKind.i64 x.lk.n] : Bx } =
      some
      { ty := (28 : TypeId), cs := [Value.string x.key, Value.int IntKind.i64 x.lo, Value.int IntKind.i64 x.hi, Value.int IntKind.i64 x.base, Value.int IntKind.i64 x.round, Value.slice a x.hs.length c, Value.int IntKind.i64 x.lk.cl, Value.int IntKind.i64 x.lk.sq, Value.int IntKind.i64 x.lk.hm, Value.int IntKind.i64 x.lk.n] : Bx } ∧
      true = true) ∧
      (some
      { ty := (31 : Nat), cs := [Value.int IntKind.i64 (0 : Int), Value.int IntKind.i64 (0 : Int), Value.int IntKind.i64 (0 : Int), Value.int IntKind.i64 (0 : Int)] : Bx } =
      some
      { ty := (31 : TypeId), cs := [Value.int IntKind.i64 (0 : Int), Value.int IntKind.i64 (0 : Int), Value.int IntKind.i64 (0 : Int), Value.int IntKind.i64 (0 : Int)] : Bx } ∧
      true = true) ∧
      True) ∧
      ∀ (a_1 : Nat),
      a_1 ≤ x.hs.length ∧ fndH x.hs nd = fndH (List.drop a_1 x.hs) nd ∧ (rightB x = false → a_1 = (0 : Nat)) →
      ∃ (b : Bool),
      QSpec Try.prog (12 : Nat)
      [Value.agg
      #[Value.string x.key, Value.int IntKind.i64 x.lo, Value.int IntKind.i64 x.hi, Value.int IntKind.i64 x.base, Value.int IntKind.i64 x.round,
      Value.slice a x.hs.length c, Value.int IntKind.i64 x.lk.cl, Value.int IntKind.i64 x.lk.sq, Value.int IntKind.i64 x.lk.hm, Value.int IntKind.i64 x.lk.n]]
      { π := m.π, sz := n, uf := m.uf : M } (Value.bool b) ∧
      ifB b
      (ifB (decide ((↑a_1 : Int) < (↑x.hs.length : Int)))
      (∃ (b : Nat),
      ∃ (off : Nat),
      a = some { block := b, off := off : Addr } ∧
      ((0 : Int) ≤ (↑a_1 : Int) ∧ (↑a_1 : Int) < (↑x.hs.length : Int)) ∧
      ∃ (n_1 : Int),
      CellsAt { π := m.π, sz := n, uf := m.uf : M } b (off + (↑a_1 : Int).toNat * (4 : Nat) + (0 : Nat)) [Value.int IntKind.i64 n_1] ∧
      ifB (n_1 == nd)
      (∃ (b : Nat),
      ∃ (off : Nat),
      a = some { block := b, off := off : Addr } ∧
      ((0 : Int) ≤ (↑a_1 : Int) ∧ (↑a_1 : Int) < (↑x.hs.length : Int)) ∧
      ∃ (n_2 : Int),
      ∃ (n_3 : Int),
      ∃ (n_4 : Int),
      ∃ (n_5 : Int),
      CellsAt { π := m.π, sz := n, uf := m.uf : M } b (off + (↑a_1 : Int).toNat * (4 : Nat))
      [Value.int IntKind.i64 n_2, Value.int IntKind.i64 n_3, Value.int IntKind.i64 n_4, Value.int IntKind.i64 n_5] ∧
      Done
      (Value.tuple
      #[Value.agg #[Value.int IntKind.i64 n_2, Value.int IntKind.i64 n_3, Value.int IntKind.i64 n_4, Value.int IntKind.i64 n_5],
      Value.bool true] =
      Value.tuple
      #[Value.agg
      #[Value.int IntKind.i64 (findH x nd).nd, Value.int IntKind.i64 (findH x nd).le, Value.int IntKind.i64 (findH x nd).up,
      Value.int IntKind.i64 (findH x nd).dn],
      Value.bool (findB x nd)]))
      (∃ (a' : Nat),
      ((a' ≤ x.hs.length ∧ fndH x.hs nd = fndH (List.drop a' x.hs) nd ∧ (rightB x = false → a' = (0 : Nat))) ∧
      { π := m.π, sz := n, uf := m.uf : M } = { π := m.π, sz := n, uf := m.uf : M } ∧
      ((SV.val (Value.int IntKind.i64 (IntKind.i64.wrap ((↑a_1 : Int) + (1 : Int)))) = SV.val (Value.int IntKind.i64 (↑a' : Int)) ∧ true = true) ∧
      (SV.own (0 : Nat) (0 : Nat) = SV.own (0 : Nat) (0 : Nat) ∧ true = true) ∧
      (SV.val (Value.int IntKind.i64 nd) = SV.val (Value.int IntKind.i64 nd) ∧ true = true) ∧
      (SV.own (1 : Nat) (0 : Nat) = SV.own (1 : Nat) (0 : Nat) ∧ true = true) ∧ True) ∧
      (some
      { ty := (28 : TypeId), cs := [Value.string x.key, Value.int IntKind.i64 x.lo, Value.int IntKind.i64 x.hi, Value.int IntKind.i64 x.base, Value.int IntKind.i64 x.round, Value.slice a x.hs.length c, Value.int IntKind.i64 x.lk.cl, Value.int IntKind.i64 x.lk.sq, Value.int IntKind.i64 x.lk.hm, Value.int IntKind.i64 x.lk.n] : Bx } =
      some
      { ty := (28 : TypeId), cs := [Value.string x.key, Value.int IntKind.i64 x.lo, Value.int IntKind.i64 x.hi, Value.int IntKind.i64 x.base, Value.int IntKind.i64 x.round, Value.slice a x.hs.length c, Value.int IntKind.i64 x.lk.cl, Value.int IntKind.i64 x.lk.sq, Value.int IntKind.i64 x.lk.hm, Value.int IntKind.i64 x.lk.n] : Bx } ∧
      true = true) ∧
      (some
      { ty := (31 : TypeId), cs := [Value.int IntKind.i64 (0 : Int), Value.int IntKind.i64 (0 : Int), Value.int IntKind.i64 (0 : Int), Value.int IntKind.i64 (0 : Int)] : Bx } =
      some
      { ty := (31 : TypeId), cs := [Value.int IntKind.i64 (0 : Int), Value.int IntKind.i64 (0 : Int), Value.int IntKind.i64 (0 : Int), Value.int IntKind.i64 (0 : Int)] : Bx } ∧
      true = true) ∧
      True) ∧
      x.hs.length - a' < x.hs.length - a_1))
      (Done
      (Value.tuple
      #[Value.agg #[Value.int IntKind.i64 (0 : Int), Value.int IntKind.i64 (0 : Int), Value.int IntKind.i64 (0 : Int), Value.int IntKind.i64 (0 : Int)],
      Value.bool false] =
      Value.tuple
      #[Value.agg
      #[Value.int IntKind.i64 (findH x nd).nd, Value.int IntKind.i64 (findH x nd).le, Value.int IntKind.i64 (findH x nd).up,
      Value.int IntKind.i64 (findH x nd).dn],
      Value.bool (findB x nd)])))
      (Done
      (Value.tuple
      #[Value.agg #[Value.int IntKind.i64 (0 : Int), Value.int IntKind.i64 (0 : Int), Value.int IntKind.i64 (0 : Int), Value.int IntKind.i64 (0 : Int)],
      Value.bool false] =
      Value.tuple
      #[Value.agg
      #[Value.int IntKind.i64 (findH x nd).nd, Value.int IntKind.i64 (findH x nd).le, Value.int IntKind.i64 (findH x nd).up,
      Value.int IntKind.i64 (findH x nd).dn],
      Value.bool (findB x nd)]))) (by kernel_rfl) ?_
  have h' := h.sz hn
  refine ⟨rfl, ⟨0, by simp⟩, fun k ⟨hk, hq, hz⟩ => ⟨_, rright_q x a c hx _ h', ?_⟩⟩
  cases hr : rightB x
  · exact ifB_false ⟨by simp [findH, findB, hr, hd0]⟩
  · refine ifB_true (ifB_intro (fun hb => ?_) (fun hb => ⟨?_⟩))
    · have hk2 : k < x.hs.length := by simpa using hb
      obtain ⟨b, o, rfl, hc⟩ := h'.cells (by rw [hds_len]; omega)
      have hlen := hx.len
      have w1 : IntKind.i64.wrap ((k : Int) + 1) = ((k + 1 : Nat) : Int) := by simp [IntKind.wrap_i64]; omega
      rw [fndH_drop hk2] at hq
      have hcell := hd_at hc hk2
      have hc0 : CellsAt { m with sz := n } b (o + k * 4) [I x.hs[k].nd] := hcell.take (ds := [I x.hs[k].le, I x.hs[k].up, I x.hs[k].dn])
      refine ⟨b, o, rfl, by omega, _, by simpa using hc0, ifB_intro (fun h1 => ⟨b, o, rfl, by omega, _, _, _, _, by simpa using hcell, ⟨?_⟩⟩) (fun h1 => ⟨k + 1, ⟨⟨hk2, ?_, fun h => by cases h⟩, by simp [w1]⟩, by omega⟩)⟩
      · simp at h1; simp [findH, findB, hr, hq, h1]
      · simp at h1; simp [hq, h1]
    · have : k = x.hs.length := by simp at hb; omega
      subst this
      simp [fndH] at hq
      have : List.find? (fun h => h.nd == nd) x.hs = none := by simpa using hq
      simp [findH, findB, hr, fndH, hd0, this]

theorem hd_ext {a b : Hd} : a = b ↔ a.nd = b.nd ∧ a.le = b.le ∧ a.up = b.up ∧ a.dn = b.dn := by
  cases a; cases b; simp

instance : DecidableEq Hd := fun _ _ => decidable_of_iff' _ hd_ext

theorem lk_ext {a b : Lk} : a = b ↔ a.cl = b.cl ∧ a.sq = b.sq ∧ a.hm = b.hm ∧ a.n = b.n := by
  cases a; cases b; simp

instance : DecidableEq Lk := fun _ _ => decidable_of_iff' _ lk_ext

theorem ac_ext {a b : Ac} : a = b ↔ a.key = b.key ∧ a.lo = b.lo ∧ a.hi = b.hi ∧ a.base = b.base ∧ a.round = b.round ∧ a.hs = b.hs ∧ a.lk = b.lk := by
  cases a; cases b; simp

instance : DecidableEq Ac := fun _ _ => decidable_of_iff' _ ac_ext

theorem hplain_q (a a2 : Option Addr) (c c2 : Nat) (l l2 : List Hd) (hn1 : l.length ≤ 9223372036854775807) (m : M) (h : Row m a (hds l)) (h2 : Row m a2 (hds l2)) :
    QSpec Try.prog 48 [.slice a l.length c, .slice a2 l2.length c2] m (.bool (decide (l = l2))) := by
  refine QSpec.of_vc Try.func48 (ann := fun n _ => { A := Nat, inv := fun k => k ≤ l.length ∧ l.take k = l2.take k, st := fun k => [(5, .val (I k)), (0, .val (.slice a l.length c)), (1, .val (.slice a2 l2.length c2))], own := fun _ => [], m := fun _ => { m with sz := n }, μ := fun k => (l.length - k) }) fun n hn => ?_
  refine vc_by (X :=
      true = true ∧
      ifB ((↑l.length : Int) != (↑l2.length : Int)) (Done (Value.bool false = Value.bool (decide (l = l2))))
      ((∃ (a_1 : Nat),
      (a_1 ≤ l.length ∧ List.take a_1 l = List.take a_1 l2) ∧
      { π := m.π, sz := n, uf := m.uf : M } = { π := m.π, sz := n, uf := m.uf : M } ∧
      ((SV.val (Value.int IntKind.i64 (0 : Int)) = SV.val (Value.int IntKind.i64 (↑a_1 : Int)) ∧ true = true) ∧
      (SV.val (Value.slice a l.length c) = SV.val (Value.slice a l.length c) ∧ true = true) ∧
      (SV.val (Value.slice a2 l2.length c2) = SV.val (Value.slice a2 l2.length c2) ∧ true = true) ∧ True) ∧
      True) ∧
      ∀ (a_1 : Nat),
      a_1 ≤ l.length ∧ List.take a_1 l = List.take a_1 l2 →
      ifB (decide ((↑a_1 : Int) < (↑l.length : Int)))
      (true = true ∧
      ∃ (b : Nat),
      ∃ (off : Nat),
      a = some { block := b, off := off : Addr } ∧
      ((0 : Int) ≤ (↑a_1 : Int) ∧ (↑a_1 : Int) < (↑l.length : Int)) ∧
      ∃ (n_1 : Int),
      ∃ (n_2 : Int),
      ∃ (n_3 : Int),
      ∃ (n_4 : Int),
      CellsAt { π := m.π, sz := n, uf := m.uf : M } b (off + (↑a_1 : Int).toNat * (4 : Nat))
      [Value.int IntKind.i64 n_1, Value.int IntKind.i64 n_2, Value.int IntKind.i64 n_3, Value.int IntKind.i64 n_4] ∧
      ∃ (b : Nat),
      ∃ (off : Nat),
      a2 = some { block := b, off := off : Addr } ∧
      ((0 : Int) ≤ (↑a_1 : Int) ∧ (↑a_1 : Int) < (↑l2.length : Int)) ∧
      ∃ (n_5 : Int),
      ∃ (n_6 : Int),
      ∃ (n_7 : Int),
      ∃ (n_8 : Int),
      CellsAt { π := m.π, sz := n, uf := m.uf : M } b (off + (↑a_1 : Int).toNat * (4 : Nat))
      [Value.int IntKind.i64 n_5, Value.int IntKind.i64 n_6, Value.int IntKind.i64 n_7, Value.int IntKind.i64 n_8] ∧
      ifB (!(n_1 == n_5 && (n_2 == n_6 && (n_3 == n_7 && (n_4 == n_8 && true)))))
      (Done (Value.bool false = Value.bool (decide (l = l2))))
      (∃ (a' : Nat),
      ((a' ≤ l.length ∧ List.take a' l = List.take a' l2) ∧
      { π := m.π, sz := n, uf := m.uf : M } = { π := m.π, sz := n, uf := m.uf : M } ∧
      ((SV.val (Value.int IntKind.i64 (IntKind.i64.wrap ((↑a_1 : Int) + (1 : Int)))) =
      SV.val (Value.int IntKind.i64 (↑a' : Int)) ∧
      true = true) ∧
      (SV.val (Value.slice a l.length c) = SV.val (Value.slice a l.length c) ∧ true = true) ∧
      (SV.val (Value.slice a2 l2.length c2) = SV.val (Value.slice a2 l2.length c2) ∧ true = true) ∧ True) ∧
      True) ∧
      l.length - a' < l.length - a_1))
      (Done (Value.bool true = Value.bool (decide (l = l2)))))) (by kernel_rfl) ?_
  have h' := h.sz hn
  have h2' := h2.sz hn
  refine ⟨rfl, ifB_intro (fun hb => ⟨?_⟩) (fun hb => ⟨⟨0, by simp⟩, fun k hk => ifB_intro (fun hb2 => ?_) (fun hb2 => ⟨?_⟩)⟩)⟩
  · have : l ≠ l2 := fun e => by subst e; simp at hb
    simp [this]
  · have hlen : l.length = l2.length := by simp at hb; omega
    have hk2 : k < l.length := by simpa using hb2
    obtain ⟨b, o, rfl, hc⟩ := h'.cells (by rw [hds_len]; omega)
    obtain ⟨b2, o2, rfl, hc2⟩ := h2'.cells (by rw [hds_len]; omega)
    have w1 : IntKind.i64.wrap ((k : Int) + 1) = ((k + 1 : Nat) : Int) := by simp [IntKind.wrap_i64]; omega
    refine ⟨rfl, b, o, rfl, by omega, _, _, _, _, by simpa using hd_at hc hk2, b2, o2, rfl, by omega, _, _, _, _, by simpa using hd_at hc2 (by omega : k < l2.length), ifB_intro (fun h3 => ⟨?_⟩) (fun h3 => ⟨k + 1, ⟨⟨hk2, ?_⟩, by simp [w1]⟩, by omega⟩)⟩
    · have : l ≠ l2 := fun e => by subst e; simp at h3
      simp [this]
    · have h3 : l[k] = l2[k] := by rw [hd_ext]; simpa using h3
      rw [List.take_succ_eq_append_getElem hk2, List.take_succ_eq_append_getElem (by omega : k < l2.length), hk.2, h3]
  · have hlen : l.length = l2.length := by simp at hb; omega
    have : k = l.length := by simp at hb2; omega
    have e := hk.2
    rw [this, List.take_length, hlen, List.take_length] at e
    simp [e]

theorem saccount_q (x y : Ac) (a a2 : Option Addr) (c c2 : Nat) (hx : x.wf) (hy : y.wf) (m : M) (h : Row m a (hds x.hs)) (h2' : Row m a2 (hds y.hs)) : QSpec Try.prog 23 [acv x a c, acv y a2 c2] m (.bool (decide (x = y))) := by
  refine QSpec.of_vc Try.func23 (ann := fun _ => noAnn) fun n hn => ?_
  refine vc_by (X :=
      true = true ∧
      ifB (x.key.toList == y.key.toList)
      (ifB (x.lo == y.lo && (x.hi == y.hi && true))
      (ifB (x.base == y.base)
      (ifB (x.round == y.round)
      (∃ (b : Bool),
      QSpec Try.prog (48 : Nat) [Value.slice a x.hs.length c, Value.slice a2 y.hs.length c2] { π := m.π, sz := n, uf := m.uf : M } (Value.bool b) ∧
      ifB b (Done (Value.bool (x.lk.cl == y.lk.cl && (x.lk.sq == y.lk.sq && (x.lk.hm == y.lk.hm && (x.lk.n == y.lk.n && true)))) = Value.bool (decide (x = y))))
      (Done (Value.bool false = Value.bool (decide (x = y)))))
      (Done (Value.bool false = Value.bool (decide (x = y)))))
      (Done (Value.bool false = Value.bool (decide (x = y)))))
      (Done (Value.bool false = Value.bool (decide (x = y)))))
      (Done (Value.bool false = Value.bool (decide (x = y))))) (by kernel_rfl) ?_
  refine ⟨rfl, ?_⟩
  rw [bytes_beq]
  refine ifB_intro (fun h1 => ifB_intro (fun h2 => ifB_intro (fun h3 => ifB_intro (fun h4 => ⟨_, hplain_q a a2 c c2 x.hs y.hs hx.len _ (h.sz hn) (h2'.sz hn), ifB_intro (fun h5 => ⟨?_⟩) (fun h5 => ⟨?_⟩)⟩) (fun h4 => ⟨?_⟩)) (fun h3 => ⟨?_⟩)) (fun h2 => ⟨?_⟩)) (fun h1 => ⟨?_⟩)
  all_goals simp only [Bool.and_eq_true, decide_eq_true_eq, beq_iff_eq, and_true, decide_eq_false_iff_not, beq_eq_false_iff_ne, Bool.and_eq_false_imp] at *
  all_goals rw [Value.bool.injEq, Bool.eq_iff_iff]
  all_goals simp [ac_ext, lk_ext, *]
  all_goals (intro e1 e2; exact absurd (h2 e1 e2) (by simp))

theorem rplain_q (x : Ac) (a : Option Addr) (c : Nat) (hx : x.wf) (m : M) (h : Row m a (hds x.hs)) : QSpec Try.prog 25 [acv x a c] m (.bool (plainB x)) := by
  refine QSpec.of_vc Try.func25 (ann := fun _ => noAnn) fun n hn => ?_
  refine vc_by (X :=
      true = true ∧
      ∀ (n_1 : Nat),
      n ≤ n_1 →
      Vc.Spec Try.prog (14 : Nat) [Value.string x.key] { π := m.π, sz := n_1, uf := m.uf : M } fun (v : Value) (m' : M) =>
      ∃ (s : ByteArray),
      ∃ (n : Int),
      ∃ (n_2 : Int),
      ∃ (n_3 : Int),
      ∃ (n_4 : Int),
      ∃ (a_2 : Option Addr),
      ∃ (n_5 : Nat),
      ∃ (c_1 : Nat),
      ∃ (n_6 : Int),
      ∃ (n_7 : Int),
      ∃ (n_8 : Int),
      ∃ (n_9 : Int),
      ∃ (n_10 : Int),
      v =
      Value.tuple
      #[Value.agg
      #[Value.string s, Value.int IntKind.i64 n, Value.int IntKind.i64 n_2, Value.int IntKind.i64 n_3, Value.int IntKind.i64 n_4,
      Value.slice a_2 n_5 c_1, Value.int IntKind.i64 n_6, Value.int IntKind.i64 n_7, Value.int IntKind.i64 n_8, Value.int IntKind.i64 n_9],
      Value.int IntKind.i64 n_10] ∧
      ifB (n_10 == (0 : Int))
      (∃ (b : Bool),
      QSpec Try.prog (23 : Nat)
      [Value.agg
      #[Value.string x.key, Value.int IntKind.i64 x.lo, Value.int IntKind.i64 x.hi, Value.int IntKind.i64 x.base,
      Value.int IntKind.i64 x.round, Value.slice a x.hs.length c, Value.int IntKind.i64 x.lk.cl, Value.int IntKind.i64 x.lk.sq,
      Value.int IntKind.i64 x.lk.hm, Value.int IntKind.i64 x.lk.n],
      Value.agg
      #[Value.string s, Value.int IntKind.i64 n, Value.int IntKind.i64 n_2, Value.int IntKind.i64 n_3, Value.int IntKind.i64 n_4,
      Value.slice a_2 n_5 c_1, Value.int IntKind.i64 n_6, Value.int IntKind.i64 n_7, Value.int IntKind.i64 n_8,
      Value.int IntKind.i64 n_9]]
      m' (Value.bool b) ∧
      Done (Value.bool b = Value.bool (plainB x)))
      (Done (Value.bool false = Value.bool (plainB x)))) (by kernel_rfl) ?_
  refine ⟨rfl, fun n1 hn1 => (rnew_q x.key _).spec.mono fun v m' hag ⟨hv, hpi, huf⟩ => ⟨_, _, _, _, _, _, _, _, _, _, _, _, _, hv, ?_⟩⟩
  have hr : Row m' a (hds x.hs) := (h.sz (Nat.le_trans hn hn1)).agree hag
  cases hk : keyB x.key
  · refine ifB_false ⟨?_⟩
    simp [plainB, rightB, hk]
  · refine ifB_true ⟨_, saccount_q x { ac0 with key := x.key } a none c 0 hx (wf_key _ hx.key) m' hr (.nil _), ⟨?_⟩⟩
    rw [Value.bool.injEq, Bool.eq_iff_iff]
    simp only [decide_eq_true_eq, ac_ext, ac0, plainB, Bool.and_eq_true, List.isEmpty_iff, true_and]
    constructor
    · rintro ⟨h1, h2, h3, h4, h5, h6⟩
      refine ⟨⟨⟨⟨⟨⟨?_, h1⟩, h2⟩, h3⟩, h5⟩, h4⟩, by rw [h6]⟩
      simp [rightB, hk, hasB, h1, h2, h3, h4, h5, h6, holdB, lockB, lkZ, sumI]
    · rintro ⟨⟨⟨⟨⟨⟨h0, h1⟩, h2⟩, h3⟩, h5⟩, h4⟩, h6⟩
      have hp := (right_iff x).1 h0
      have hlk := hp.lock
      simp only [lockB, h6, if_true, lkZ, decide_true, Bool.true_and, Bool.and_eq_true, decide_eq_true_eq] at hlk
      exact ⟨h1, h2, h3, h4, h5, lk_ext.2 ⟨h6, hlk.1.1, hlk.1.2, hlk.2⟩⟩

/-- what 'Own' hands back: the list, two marks behind it, in a block of its own -/
structure Owned (m : M) (cs marks : List Value) (len cap : Nat) (v : Value) (m' : M) : Prop where
  out : ∃ b, v = .slice (some ⟨b, 0, none⟩) len cap ∧ m.sz ≤ b ∧ b < m'.sz ∧ m'.uf b ∧ CellsAt m' b 0 (cs ++ marks)

theorem hown_q (a : Option Addr) (c : Nat) (l : List Hd) (mk : Hd) (hn : l.length ≤ 4398046511000) (m : M) (h : Row m a (hds l)) :
    Vc.Spec Try.prog 11 [.slice a l.length c, hdv mk] m (Owned m (hds l) (encH mk ++ encH mk) l.length (l.length + 2)) := by
  refine Vc.Spec.of_vc Try.func11 (ann := noAnn) ?_
  refine vc_by (X :=
      true = true ∧
      ((0 : Int) ≤ (0 : Int) ∧
      (0 : Int) ≤ IntKind.i64.wrap ((↑l.length : Int) + (2 : Int)) ∧
      (↑(32 : Nat) : Int) * IntKind.i64.wrap ((↑l.length : Int) + (2 : Int)) ≤ (281474976710656 : Int) ∧
      IntKind.i64.wrap ((↑l.length : Int) + (2 : Int)) ≤ (9223372036854775807 : Int)) ∧
      ∀ (b : Nat),
      m.sz ≤ b →
      ∃ (old : List Value),
      ∃ (src : List Value),
      AppPre m.sz (fun (x : Nat) => False)
      (m.newBlock b
      (madeCells #[Value.int IntKind.i64 (0 : Int), Value.int IntKind.i64 (0 : Int), Value.int IntKind.i64 (0 : Int), Value.int IntKind.i64 (0 : Int)]
      ((IntKind.i64.wrap ((↑l.length : Int) + (2 : Int))).toNat * (4 : Nat))).toList)
      (4 : Nat) (32 : Nat) (some { block := b, off := (0 : Nat) : Addr }) (0 : Nat) (IntKind.i64.wrap ((↑l.length : Int) + (2 : Int))).toNat a l.length old src ∧
      ∀ (a' : Option Addr) (c' : Nat) (m' : M),
      AppPost Try.prog (31 : Nat)
      (m.newBlock b
      (madeCells #[Value.int IntKind.i64 (0 : Int), Value.int IntKind.i64 (0 : Int), Value.int IntKind.i64 (0 : Int), Value.int IntKind.i64 (0 : Int)]
      ((IntKind.i64.wrap ((↑l.length : Int) + (2 : Int))).toNat * (4 : Nat))).toList)
      (4 : Nat) (some { block := b, off := (0 : Nat) : Addr }) (0 : Nat) (IntKind.i64.wrap ((↑l.length : Int) + (2 : Int))).toNat l.length old src a' c' m' →
      true = true ∧
      ∀ (b : Nat),
      m'.sz ≤ b →
      ∃ (old : List Value),
      ∃ (src : List Value),
      AppPre m.sz (fun (x : Nat) => False)
      (m'.newBlock b
      [Value.int IntKind.i64 mk.nd, Value.int IntKind.i64 mk.le, Value.int IntKind.i64 mk.up, Value.int IntKind.i64 mk.dn, Value.int IntKind.i64 mk.nd,
      Value.int IntKind.i64 mk.le, Value.int IntKind.i64 mk.up, Value.int IntKind.i64 mk.dn])
      (4 : Nat) (32 : Nat) a' ((0 : Nat) + l.length) c' (some { block := b, off := (0 : Nat) : Addr }) (2 : Nat) old src ∧
      ∀ (a'_1 : Option Addr) (c'_1 : Nat) (m'_1 : M),
      AppPost Try.prog (31 : Nat)
      (m'.newBlock b
      [Value.int IntKind.i64 mk.nd, Value.int IntKind.i64 mk.le, Value.int IntKind.i64 mk.up, Value.int IntKind.i64 mk.dn,
      Value.int IntKind.i64 mk.nd, Value.int IntKind.i64 mk.le, Value.int IntKind.i64 mk.up, Value.int IntKind.i64 mk.dn])
      (4 : Nat) a' ((0 : Nat) + l.length) c' (2 : Nat) old src a'_1 c'_1 m'_1 →
      (true = true ∧ (0 : Int) ≤ (0 : Int) ∧ (0 : Int) ≤ (↑l.length : Int) ∧ (↑l.length : Int) ≤ (↑c'_1 : Int) ∧ True) ∧
      Done
      (Owned m (hds l)
      [Value.int IntKind.i64 mk.nd, Value.int IntKind.i64 mk.le, Value.int IntKind.i64 mk.up, Value.int IntKind.i64 mk.dn,
      Value.int IntKind.i64 mk.nd, Value.int IntKind.i64 mk.le, Value.int IntKind.i64 mk.up, Value.int IntKind.i64 mk.dn]
      l.length (l.length + (2 : Nat))
      (Value.slice (if (↑c'_1 : Int).toNat = (0 : Nat) then a'_1 else Option.map (fun (x : Addr) => x) a'_1) ((↑l.length : Int).toNat - (0 : Nat))
      ((↑c'_1 : Int).toNat - (0 : Nat)))
      m'_1)) (by kernel_rfl) ?_
  have e : IntKind.i64.wrap ((l.length : Int) + 2) = ((l.length + 2 : Nat) : Int) := by simp [IntKind.wrap_i64]; omega
  rw [e]
  simp only [Int.toNat_natCast]
  refine ⟨trivial, by omega, fun b hb => ?_⟩
  obtain ⟨p1, p2⟩ := owned_calc (P := Try.prog) (e := 31) (size := 4) (bytes := 32) (len := l.length) (m := m) (b := b) (z := (madeCells #[I 0, I 0, I 0, I 0] ((l.length + 2) * 4)).toList) (cs := hds l) (marks := encH mk ++ encH mk) hb h (hds_len l) (one_hds l) rfl rfl zr_hd (by simp [madeCells]) (by omega)
  refine ⟨[], hds l, p1, fun a' c' m' hp => ⟨trivial, fun b2 hb2 => ?_⟩⟩
  obtain ⟨p3, p4⟩ := p2 a' c' m' hp b2 hb2
  refine ⟨hds l, encH mk ++ encH mk, p3, fun a'' c'' m'' hp2 => ?_⟩
  obtain ⟨rfl, rfl, q3, q5, q4⟩ := p4 a'' c'' m'' hp2
  exact ⟨⟨trivial, by omega, by omega, by omega, trivial⟩, ⟨⟨b, by simp, hb, q3, q5, q4⟩⟩⟩

theorem hkept_q (b : Nat) (l : List Hd) (a2 : Option Addr) (c2 : Nat) (mk : Hd) (hn : l.length ≤ 4398046511000) (m : M) (hb : b < m.sz) (h : CellsAt m b 0 (hds l ++ (encH mk ++ encH mk))) (h2 : Row m a2 (hds l)) :
    QSpec Try.prog 26 [.slice (some ⟨b, 0, none⟩) l.length (l.length + 2), .slice a2 l.length c2, hdv mk] m (.bool true) := by
  refine QSpec.of_vc Try.func26 (ann := fun _ => noAnn) fun n hn => ?_
  refine vc_by (X :=
      true = true ∧
      ifB ((↑l.length : Int) != (↑l.length : Int)) (Done (Value.bool false = Value.bool true))
      (ifB (decide ((↑(l.length + (2 : Nat)) : Int) < IntKind.i64.wrap ((↑l.length : Int) + (2 : Int)))) (Done (Value.bool false = Value.bool true))
      ((true = true ∧
      (0 : Int) ≤ (0 : Int) ∧
      (0 : Int) ≤ IntKind.i64.wrap ((↑l.length : Int) + (2 : Int)) ∧ IntKind.i64.wrap ((↑l.length : Int) + (2 : Int)) ≤ (↑(l.length + (2 : Nat)) : Int) ∧ True) ∧
      true = true ∧
      ∃ (b_1 : Bool),
      QSpec Try.prog (48 : Nat) [Value.slice (some { block := b, off := (0 : Nat) : Addr }) l.length (l.length + (2 : Nat)), Value.slice a2 l.length c2]
      { π := m.π, sz := n, uf := m.uf : M } (Value.bool b_1) ∧
      ifB b_1
      (∃ (b_2 : Nat),
      ∃ (off : Nat),
      some { block := b, off := (0 : Nat) : Addr } = some { block := b_2, off := off : Addr } ∧
      ((0 : Int) ≤ (↑l.length : Int) ∧ (↑l.length : Int) < (↑((IntKind.i64.wrap ((↑l.length : Int) + (2 : Int))).toNat - (0 : Nat)) : Int)) ∧
      ∃ (n_1 : Int),
      ∃ (n_2 : Int),
      ∃ (n_3 : Int),
      ∃ (n_4 : Int),
      CellsAt { π := m.π, sz := n, uf := m.uf : M } b_2 (off + (↑l.length : Int).toNat * (4 : Nat))
      [Value.int IntKind.i64 n_1, Value.int IntKind.i64 n_2, Value.int IntKind.i64 n_3, Value.int IntKind.i64 n_4] ∧
      ifB (n_1 == mk.nd && (n_2 == mk.le && (n_3 == mk.up && (n_4 == mk.dn && true))))
      (∃ (b_3 : Nat),
      ∃ (off : Nat),
      some { block := b, off := (0 : Nat) : Addr } = some { block := b_3, off := off : Addr } ∧
      ((0 : Int) ≤ IntKind.i64.wrap ((↑l.length : Int) + (1 : Int)) ∧
      IntKind.i64.wrap ((↑l.length : Int) + (1 : Int)) < (↑((IntKind.i64.wrap ((↑l.length : Int) + (2 : Int))).toNat - (0 : Nat)) : Int)) ∧
      ∃ (n_5 : Int),
      ∃ (n_6 : Int),
      ∃ (n_7 : Int),
      ∃ (n_8 : Int),
      CellsAt { π := m.π, sz := n, uf := m.uf : M } b_3 (off + (IntKind.i64.wrap ((↑l.length : Int) + (1 : Int))).toNat * (4 : Nat))
      [Value.int IntKind.i64 n_5, Value.int IntKind.i64 n_6, Value.int IntKind.i64 n_7, Value.int IntKind.i64 n_8] ∧
      Done (Value.bool (n_5 == mk.nd && (n_6 == mk.le && (n_7 == mk.up && (n_8 == mk.dn && true)))) = Value.bool true))
      (Done (Value.bool false = Value.bool true)))
      (Done (Value.bool false = Value.bool true))))) (by kernel_rfl) ?_
  have e : IntKind.i64.wrap ((l.length : Int) + 2) = ((l.length + 2 : Nat) : Int) := by simp [IntKind.wrap_i64]; omega
  have e1 : IntKind.i64.wrap ((l.length : Int) + 1) = ((l.length + 1 : Nat) : Int) := by simp [IntKind.wrap_i64]; omega
  rw [e, e1]
  simp only [Int.toNat_natCast]
  have hk := h.drop
  rw [hds_len] at hk
  have k1 : CellsAt m b (0 + l.length * 4) (encH mk) := hk.take
  have k2 : CellsAt m b (0 + (l.length + 1) * 4) (encH mk) := by
    have := hk.drop (cs := encH mk)
    rw [show 0 + (l.length + 1) * 4 = 0 + l.length * 4 + (encH mk).length by simp; omega]
    exact this
  have hq := hplain_q (some ⟨b, 0, none⟩) a2 (l.length + 2) c2 l l (by omega) { m with sz := n } (.at _ _ _ (Nat.lt_of_lt_of_le hb hn) ⟨h.take.out⟩) (h2.sz hn)
  refine ⟨trivial, ifB_intro (fun h3 => by simp at h3) (fun h3 => ifB_intro (fun h4 => by simp at h4) (fun h4 => ⟨⟨trivial, by omega, by omega, by omega, trivial⟩, trivial, _, hq, ?_⟩))⟩
  have et : decide (l = l) = true := by simp
  rw [et]
  refine ifB_true ⟨b, 0, rfl, by constructor <;> simp <;> omega, _, _, _, _, ⟨k1.out⟩, ifB_intro (fun h5 => ⟨b, 0, rfl, by constructor <;> simp <;> omega, _, _, _, _, ⟨k2.out⟩, ⟨by simp⟩⟩) (fun h5 => by simp at h5)⟩

theorem awake_q (m : M) : QSpec Try.prog 21 [] m (.bool true) := by
  refine QSpec.of_vc Try.func21 (ann := fun _ => noAnn) fun n hn => ?_
  refine vc_by (X :=
      true = true ∧
      ∀ (n_1 : Nat),
      n ≤ n_1 →
      Vc.Spec Try.prog (13 : Nat) [Value.string { data := #[(107 : UInt8)] : ByteArray }] { π := m.π, sz := n_1, uf := m.uf : M } fun (v : Value) (m' : M) =>
      ∃ (s : ByteArray),
      ∃ (n : Int),
      ∃ (n_2 : Int),
      ∃ (n_3 : Int),
      ∃ (n_4 : Int),
      ∃ (a : Option Addr),
      ∃ (n_5 : Nat),
      ∃ (c : Nat),
      ∃ (n_6 : Int),
      ∃ (n_7 : Int),
      ∃ (n_8 : Int),
      ∃ (n_9 : Int),
      ∃ (n_10 : Int),
      v =
      Value.tuple
      #[Value.agg
      #[Value.string s, Value.int IntKind.i64 n, Value.int IntKind.i64 n_2, Value.int IntKind.i64 n_3, Value.int IntKind.i64 n_4,
      Value.slice a n_5 c, Value.int IntKind.i64 n_6, Value.int IntKind.i64 n_7, Value.int IntKind.i64 n_8, Value.int IntKind.i64 n_9],
      Value.int IntKind.i64 n_10] ∧
      ifB (n_10 == (0 : Int))
      (ifB (s.toList == [{ data := #[(107 : UInt8)] : ByteArray }.get! (0 : Nat)])
      (∃ (b : Bool),
      QSpec Try.prog (24 : Nat)
      [Value.agg
      #[Value.string s, Value.int IntKind.i64 n, Value.int IntKind.i64 n_2, Value.int IntKind.i64 n_3, Value.int IntKind.i64 n_4,
      Value.slice a n_5 c, Value.int IntKind.i64 n_6, Value.int IntKind.i64 n_7, Value.int IntKind.i64 n_8,
      Value.int IntKind.i64 n_9]]
      m' (Value.bool b) ∧
      ifB b
      (∃ (n : Int),
      QSpec Try.prog (22 : Nat)
      [Value.agg
      #[Value.string { data := #[] : ByteArray }, Value.int IntKind.i64 (0 : Int), Value.int IntKind.i64 (0 : Int),
      Value.int IntKind.i64 (0 : Int), Value.int IntKind.i64 (0 : Int), Value.slice none (0 : Nat) (0 : Nat),
      Value.int IntKind.i64 (0 : Int), Value.int IntKind.i64 (0 : Int), Value.int IntKind.i64 (0 : Int),
      Value.int IntKind.i64 (0 : Int)]]
      m' (Value.int IntKind.i64 n) ∧
      Done (Value.bool (n == (21 : Int)) = Value.bool true))
      (Done (Value.bool false = Value.bool true)))
      (Done (Value.bool false = Value.bool true)))
      (Done (Value.bool false = Value.bool true))) (by kernel_rfl) ?_
  refine ⟨rfl, fun n1 hn1 => (new_q _ _).spec.mono fun v m' hag ⟨hv, hpi, huf⟩ => ⟨_, _, _, _, _, _, _, _, _, _, _, _, _, hv, ?_⟩⟩
  have hk : keyB ⟨#[107]⟩ = true := by decide
  have e : (ByteArray.toList ⟨#[107]⟩ == [ByteArray.get! ⟨#[107]⟩ 0]) = true := by rw [ByteArray.toList_eq]; rfl
  simp only [hk, if_true]
  refine ifB_true ?_
  rw [e]
  refine ifB_true ⟨_, plain_acc_q { ac0 with key := ⟨#[107]⟩ } none 0 (wf_key _ (by decide)) m' (.nil _), ifB_true ⟨_, check_q ac0 none 0 (wf_key _ (by decide)) m' (.nil _), ⟨?_⟩⟩⟩
  have : rightB ac0 = false := by decide
  simp [this]

end Go.Proofs.Ytlifpjllhibdpaa
set_option linter.unusedVariables false
set_option linter.unusedSimpArgs false
namespace Go.Proofs.Ytlifpjllhibdpaa
open Go.Vc Go.RowKit Go.ChangeShapes Go.WideShapes Go.ChangeAt
set_option maxRecDepth 100000

theorem bulk_mem {H : Type} {d : DataW H} : ∀ {l : List (DataW H)}, d ∈ l → Rows.uptoBulk d ≤ Rows.uptoBulkAll l
  | x :: r, h => by
    simp only [Rows.uptoBulkAll]
    rcases List.mem_cons.1 h with e | e
    · subst e; omega
    · have := bulk_mem e; omega

theorem bulk_pos {H : Type} (d : DataW H) : 1 ≤ Rows.uptoBulk d := by
  cases d with
  | lit l => cases l <;> simp [Rows.uptoBulk]
  | _ => simp [Rows.uptoBulk]

theorem bulk_len {H : Type} : ∀ (l : List (DataW H)), l.length ≤ Rows.uptoBulkAll l
  | [] => by simp
  | x :: r => by have := bulk_pos x; have := bulk_len r; simp only [Rows.uptoBulkAll, List.length_cons]; omega

theorem bound_upto (H : Type) : Bound (H := H) 1048576 (fun d => Rows.uptoBulk d ≤ 1048576) where
  str l h _ := by simp [Rows.uptoBulk] at h; omega
  sl el sp h := by
    simp only [Rows.uptoBulk] at h
    have h1 := bulk_len el
    have h2 := bulk_len sp
    refine ⟨fun _ => by omega, fun x hx => ?_⟩
    rcases hx with hx | hx
    · have := bulk_mem hx; omega
    · have := bulk_mem hx; omega
  agg ps h x hx := by simp only [Rows.uptoBulk] at h; have := bulk_mem hx; omega

theorem bound_any (H : Type) : Bound (H := H) 9223372036854775807 (fun _ => True) where
  str l _ h := h
  sl el sp _ := ⟨fun h => h, fun _ _ => trivial⟩
  agg ps _ x _ := trivial

variable {H : Type} {enc : TypeId × Value → H} {W : World} {r : Reach} {b0 : Nat} {v : Value} {d : DataW H} {p : List MemPlace} {N : Nat} {Bd : DataW H → Prop}

theorem in64_of {n : Int} (h : IntKind.min .i64 ≤ n ∧ n ≤ IntKind.max .i64) : In64 n := by
  simpa [In64, IntKind.min, IntKind.max, IntKind.signed, IntKind.bits] using h

theorem open_i (hv : Value.okWide Try.prog W r b0 3 v) (h : DataW.Trod enc Try.prog W 0 (fun _ => true) true 3 v d p) : ∃ n : Int, v = I n ∧ In64 n := by
  obtain ⟨n, rfl⟩ := okWide_int Try.underlying3 hv
  obtain ⟨fuel, hf⟩ := h
  obtain ⟨n', hn, -, hw⟩ := DataW.trod_int Try.underlying3 hf
  cases hn
  exact ⟨n, rfl, in64_of (by simpa [Lit.wf] using hw)⟩

theorem open_b (hv : Value.okWide Try.prog W r b0 4 v) : ∃ b : Bool, v = .bool b := okWide_bool Try.underlying4 hv

theorem open_s (B : Bound N Bd) (hv : Value.okWide Try.prog W r b0 9 v) (h : DataW.Trod enc Try.prog W 0 (fun _ => true) true 9 v d p) (hb : Bd d) : ∃ s : ByteArray, v = .string s ∧ s.size ≤ N := by
  obtain ⟨s, rfl⟩ := okWide_string Try.underlying9 hv
  obtain ⟨fuel, hf⟩ := h
  have hr := rd_of_trod B 1 fuel 9 _ _ hf hb
  have e := Try.underlying9
  simp only [Rd, e] at hr
  obtain ⟨s', hs, hl⟩ := hr
  simp [Value.cells] at hs
  subst hs
  exact ⟨s, rfl, hl⟩

/-- a struct's cells -/
theorem open_agg {fs : Array Field} {t : TypeId} {k : Nat} (ht : Try.prog.underlying t = some (.struct fs)) (hk : Try.prog.cellsOf t = k) (hv : Value.okWide Try.prog W r b0 t v) : ∃ cs : List Value, v = .agg cs.toArray ∧ cs.length = k := by
  obtain ⟨cs, rfl, hs⟩ := okWide_struct ht hv
  exact ⟨cs.toList, by simp, by simpa using hs.trans hk⟩

/-- the rows of a list, one by one -/
theorem rows_list {α : Type} {e : α → List Value} {p : α → Prop} : ∀ (rows : List (List Value)), (∀ r ∈ rows, ∃ x : α, r = e x ∧ p x) → ∃ z : List α, z.length = rows.length ∧ rows.flatten = z.flatMap e ∧ ∀ x ∈ z, p x
  | [], _ => ⟨[], rfl, rfl, fun x hx => by simp at hx⟩
  | r :: rs, h => by
    obtain ⟨z, h1, h2, h3⟩ := rows_list rs fun r hr => h r (by simp [hr])
    obtain ⟨n, rfl, hn⟩ := h r (by simp)
    refine ⟨n :: z, by simp [h1], by simp only [List.flatten_cons, h2, List.flatMap_cons], fun x hx => ?_⟩
    rcases List.mem_cons.1 hx with e | e
    · subst e; exact hn
    · exact h3 x e

theorem open_ints (B : Bound N Bd) (hv : Value.okWide Try.prog W r b0 50 v) (h : DataW.Trod enc Try.prog W 0 (fun _ => true) true 50 v d p) (hb : Bd d) :
    ∃ (a : Option Addr) (c : Nat) (z : List Int), v = .slice a z.length c ∧ z.length ≤ N ∧ (∀ x ∈ z, In64 x) ∧ Row (M.all W) a (ints z) := by
  obtain ⟨a, len, cap, rfl⟩ := okWide_slice Try.underlying50 hv
  obtain ⟨fuel, hf⟩ := h
  have hr := rd_of_trod B 2 fuel 50 _ _ hf hb
  simp only [Rd, Try.underlying50, Try.underlying3] at hr
  obtain ⟨a', cap', rows, hcs, h1, h2, h3, h4, h5⟩ := hr
  obtain ⟨z, hz, he, hi⟩ := rows_list (α := Int) (e := fun n => [I n]) (p := In64) rows fun r hr => by
    obtain ⟨-, n, hn, hw⟩ := h4 r hr
    exact ⟨n, hn, in64_of hw⟩
  simp [Value.cells] at hcs
  obtain ⟨rfl, rfl, rfl⟩ := hcs
  rw [he] at h5
  exact ⟨a, cap, z, by rw [hz], by omega, hi, h5⟩

end Go.Proofs.Ytlifpjllhibdpaa
set_option linter.unusedVariables false
set_option linter.unusedSimpArgs false
namespace Go.Proofs.Ytlifpjllhibdpaa
open Go.Vc Go.RowKit

structure LookX where
  b : Nat
  m : M

def mkH : Hd := ⟨71, 0, 0, 0⟩

structure LookI (x : Ac) (m : M) (y : LookX) : Prop where
  lt : y.b < y.m.sz
  cells : CellsAt y.m y.b 0 (hds x.hs ++ (encH mkH ++ encH mkH))
  ag : Agree m.sz m y.m

def looksAnn (x : Ac) (a : Option Addr) (c : Nat) (key : ByteArray) (nd : Int) (m : M) : Nat → Ann
  | 6 => {
    A := LookX
    inv y := LookI x m y
    st _ := [(1, .val (.string key)), (7, .own 3 0), (3, .own 0 0), (2, .val (I nd)), (8, .val (I (if rightB x then 0 else 21)))]
    own y := [(0, ⟨28, acc x a c⟩), (3, ⟨28, acc x (some ⟨y.b, 0, none⟩) (x.hs.length + 2)⟩)]
    m y := y.m
    μ _ := 0
    cut := true }
  | _ => noAnn 0

theorem accountlooks (x : Ac) (a : Option Addr) (c : Nat) (key : ByteArray) (nd : Int) (hx : x.wf) (hlen : x.hs.length ≤ 4398046511000) (m : M) (h : Row m a (hds x.hs)) : QSpec Try.prog 3 [acv x a c, .string key, I nd] m (.bool true) := by
  refine QSpec.of_vc Try.func3 (ann := fun n => looksAnn x a c key nd { m with sz := n }) fun n hn => ?_
  refine vc_by (X :=
      true = true ∧
      ∃ (S' : Nat → Prop),
      (∀ (b : Nat), S' b → m.uf b ∧ (n ≤ b ∨ False)) ∧
      ∀ (n_1 : Nat),
      n ≤ n_1 →
      SpecW Try.prog (11 : Nat)
      [Value.slice a x.hs.length c,
      Value.agg #[Value.int IntKind.i64 (71 : Int), Value.int IntKind.i64 (0 : Int), Value.int IntKind.i64 (0 : Int), Value.int IntKind.i64 (0 : Int)]]
      { π := m.π, sz := n_1, uf := m.uf : M } S' fun (v : Value) (m' : M) =>
      ∃ (a_2 : Option Addr),
      ∃ (n_2 : Nat),
      ∃ (c_1 : Nat),
      v = Value.slice a_2 n_2 c_1 ∧
      (∃ (b : Bool),
      QSpec Try.prog (12 : Nat)
      [Value.agg
      #[Value.string x.key, Value.int IntKind.i64 x.lo, Value.int IntKind.i64 x.hi, Value.int IntKind.i64 x.base, Value.int IntKind.i64 x.round,
      Value.slice a x.hs.length c, Value.int IntKind.i64 x.lk.cl, Value.int IntKind.i64 x.lk.sq, Value.int IntKind.i64 x.lk.hm,
      Value.int IntKind.i64 x.lk.n]]
      m' (Value.bool b) ∧
      ifB (!b)
      (∃ (x_1 : LookX),
      LookI x { π := m.π, sz := n, uf := m.uf : M } x_1 ∧
      m' = x_1.m ∧
      ((SV.val (Value.string key) = SV.val (Value.string key) ∧ true = true) ∧
      (SV.own ((0 : Nat) + (2 : Nat) + (1 : Nat)) (0 : Nat) = SV.own (3 : Nat) (0 : Nat) ∧ true = true) ∧
      (SV.own ((0 : Nat) + (0 : Nat)) (0 : Nat) = SV.own (0 : Nat) (0 : Nat) ∧ true = true) ∧
      (SV.val (Value.int IntKind.i64 nd) = SV.val (Value.int IntKind.i64 nd) ∧ true = true) ∧
      (SV.val (Value.int IntKind.i64 (21 : Int)) = SV.val (Value.int IntKind.i64 (if rightB x = true then (0 : Int) else (21 : Int))) ∧
      true = true) ∧
      True) ∧
      (some
      { ty := (28 : Nat), cs := [Value.string x.key, Value.int IntKind.i64 x.lo, Value.int IntKind.i64 x.hi, Value.int IntKind.i64 x.base, Value.int IntKind.i64 x.round, Value.slice a x.hs.length c, Value.int IntKind.i64 x.lk.cl, Value.int IntKind.i64 x.lk.sq, Value.int IntKind.i64 x.lk.hm, Value.int IntKind.i64 x.lk.n] : Bx } =
      some
      { ty := (28 : TypeId), cs := [Value.string x.key, Value.int IntKind.i64 x.lo, Value.int IntKind.i64 x.hi, Value.int IntKind.i64 x.base, Value.int IntKind.i64 x.round, Value.slice a x.hs.length c, Value.int IntKind.i64 x.lk.cl, Value.int IntKind.i64 x.lk.sq, Value.int IntKind.i64 x.lk.hm, Value.int IntKind.i64 x.lk.n] : Bx } ∧
      true = true) ∧
      (some
      { ty := (28 : Nat), cs := [Value.string x.key, Value.int IntKind.i64 x.lo, Value.int IntKind.i64 x.hi, Value.int IntKind.i64 x.base, Value.int IntKind.i64 x.round, Value.slice a_2 n_2 c_1, Value.int IntKind.i64 x.lk.cl, Value.int IntKind.i64 x.lk.sq, Value.int IntKind.i64 x.lk.hm, Value.int IntKind.i64 x.lk.n] : Bx } =
      some
      { ty := (28 : TypeId), cs := [Value.string x.key, Value.int IntKind.i64 x.lo, Value.int IntKind.i64 x.hi, Value.int IntKind.i64 x.base, Value.int IntKind.i64 x.round, Value.slice (some { block := x_1.b, off := (0 : Nat) : Addr }) x.hs.length (x.hs.length + (2 : Nat)), Value.int IntKind.i64 x.lk.cl, Value.int IntKind.i64 x.lk.sq, Value.int IntKind.i64 x.lk.hm, Value.int IntKind.i64 x.lk.n] : Bx } ∧
      true = true) ∧
      True)
      (∃ (x_1 : LookX),
      LookI x { π := m.π, sz := n, uf := m.uf : M } x_1 ∧
      m' = x_1.m ∧
      ((SV.val (Value.string key) = SV.val (Value.string key) ∧ true = true) ∧
      (SV.own ((0 : Nat) + (2 : Nat) + (1 : Nat)) (0 : Nat) = SV.own (3 : Nat) (0 : Nat) ∧ true = true) ∧
      (SV.own ((0 : Nat) + (0 : Nat)) (0 : Nat) = SV.own (0 : Nat) (0 : Nat) ∧ true = true) ∧
      (SV.val (Value.int IntKind.i64 nd) = SV.val (Value.int IntKind.i64 nd) ∧ true = true) ∧
      (SV.val (Value.int IntKind.i64 (0 : Int)) = SV.val (Value.int IntKind.i64 (if rightB x = true then (0 : Int) else (21 : Int))) ∧
      true = true) ∧
      True) ∧
      (some
      { ty := (28 : Nat), cs := [Value.string x.key, Value.int IntKind.i64 x.lo, Value.int IntKind.i64 x.hi, Value.int IntKind.i64 x.base, Value.int IntKind.i64 x.round, Value.slice a x.hs.length c, Value.int IntKind.i64 x.lk.cl, Value.int IntKind.i64 x.lk.sq, Value.int IntKind.i64 x.lk.hm, Value.int IntKind.i64 x.lk.n] : Bx } =
      some
      { ty := (28 : TypeId), cs := [Value.string x.key, Value.int IntKind.i64 x.lo, Value.int IntKind.i64 x.hi, Value.int IntKind.i64 x.base, Value.int IntKind.i64 x.round, Value.slice a x.hs.length c, Value.int IntKind.i64 x.lk.cl, Value.int IntKind.i64 x.lk.sq, Value.int IntKind.i64 x.lk.hm, Value.int IntKind.i64 x.lk.n] : Bx } ∧
      true = true) ∧
      (some
      { ty := (28 : Nat), cs := [Value.string x.key, Value.int IntKind.i64 x.lo, Value.int IntKind.i64 x.hi, Value.int IntKind.i64 x.base, Value.int IntKind.i64 x.round, Value.slice a_2 n_2 c_1, Value.int IntKind.i64 x.lk.cl, Value.int IntKind.i64 x.lk.sq, Value.int IntKind.i64 x.lk.hm, Value.int IntKind.i64 x.lk.n] : Bx } =
      some
      { ty := (28 : TypeId), cs := [Value.string x.key, Value.int IntKind.i64 x.lo, Value.int IntKind.i64 x.hi, Value.int IntKind.i64 x.base, Value.int IntKind.i64 x.round, Value.slice (some { block := x_1.b, off := (0 : Nat) : Addr }) x.hs.length (x.hs.length + (2 : Nat)), Value.int IntKind.i64 x.lk.cl, Value.int IntKind.i64 x.lk.sq, Value.int IntKind.i64 x.lk.hm, Value.int IntKind.i64 x.lk.n] : Bx } ∧
      true = true) ∧
      True)) ∧
      ∀ (x_1 : LookX),
      LookI x { π := m.π, sz := n, uf := m.uf : M } x_1 →
      ∀ (n : Nat),
      x_1.m.sz ≤ n →
      Vc.Spec Try.prog (13 : Nat) [Value.string key] { π := x_1.m.π, sz := n, uf := x_1.m.uf : M } fun (v : Value) (m' : M) =>
      ∃ (s : ByteArray),
      ∃ (n : Int),
      ∃ (n_3 : Int),
      ∃ (n_4 : Int),
      ∃ (n_5 : Int),
      ∃ (a_5 : Option Addr),
      ∃ (n_6 : Nat),
      ∃ (c_2 : Nat),
      ∃ (n_7 : Int),
      ∃ (n_8 : Int),
      ∃ (n_9 : Int),
      ∃ (n_10 : Int),
      ∃ (n_11 : Int),
      v =
      Value.tuple
      #[Value.agg
      #[Value.string s, Value.int IntKind.i64 n, Value.int IntKind.i64 n_3, Value.int IntKind.i64 n_4,
      Value.int IntKind.i64 n_5, Value.slice a_5 n_6 c_2, Value.int IntKind.i64 n_7, Value.int IntKind.i64 n_8,
      Value.int IntKind.i64 n_9, Value.int IntKind.i64 n_10],
      Value.int IntKind.i64 n_11] ∧
      ∀ (n_12 : Nat),
      m'.sz ≤ n_12 →
      Vc.Spec Try.prog (14 : Nat) [Value.string key] { π := m'.π, sz := n_12, uf := m'.uf : M }
      fun (v : Value) (m' : M) =>
      ∃ (s_1 : ByteArray),
      ∃ (n_13 : Int),
      ∃ (n_14 : Int),
      ∃ (n_15 : Int),
      ∃ (n_16 : Int),
      ∃ (a_7 : Option Addr),
      ∃ (n_17 : Nat),
      ∃ (c_3 : Nat),
      ∃ (n_18 : Int),
      ∃ (n_19 : Int),
      ∃ (n_20 : Int),
      ∃ (n_21 : Int),
      ∃ (n_22 : Int),
      v =
      Value.tuple
      #[Value.agg
      #[Value.string s_1, Value.int IntKind.i64 n_13, Value.int IntKind.i64 n_14,
      Value.int IntKind.i64 n_15, Value.int IntKind.i64 n_16,
      Value.slice a_7 n_17 c_3, Value.int IntKind.i64 n_18,
      Value.int IntKind.i64 n_19, Value.int IntKind.i64 n_20,
      Value.int IntKind.i64 n_21],
      Value.int IntKind.i64 n_22] ∧
      ∃ (n_23 : Int),
      ∃ (n_24 : Int),
      QSpec Try.prog (15 : Nat)
      [Value.agg
      #[Value.string x.key, Value.int IntKind.i64 x.lo,
      Value.int IntKind.i64 x.hi, Value.int IntKind.i64 x.base,
      Value.int IntKind.i64 x.round,
      Value.slice (some { block := x_1.b, off := (0 : Nat) : Addr })
      x.hs.length (x.hs.length + (2 : Nat)),
      Value.int IntKind.i64 x.lk.cl, Value.int IntKind.i64 x.lk.sq,
      Value.int IntKind.i64 x.lk.hm, Value.int IntKind.i64 x.lk.n]]
      m' (Value.tuple #[Value.int IntKind.u64 n_23, Value.int IntKind.u64 n_24]) ∧
      ∃ (n_25 : Int),
      ∃ (n_26 : Int),
      QSpec Try.prog (16 : Nat)
      [Value.agg
      #[Value.string x.key, Value.int IntKind.i64 x.lo,
      Value.int IntKind.i64 x.hi, Value.int IntKind.i64 x.base,
      Value.int IntKind.i64 x.round, Value.slice a x.hs.length c,
      Value.int IntKind.i64 x.lk.cl, Value.int IntKind.i64 x.lk.sq,
      Value.int IntKind.i64 x.lk.hm, Value.int IntKind.i64 x.lk.n]]
      m'
      (Value.tuple
      #[Value.int IntKind.u64 n_25, Value.int IntKind.u64 n_26]) ∧
      ∃ (n_27 : Int),
      ∃ (b : Bool),
      QSpec Try.prog (17 : Nat)
      [Value.agg
      #[Value.string x.key, Value.int IntKind.i64 x.lo,
      Value.int IntKind.i64 x.hi, Value.int IntKind.i64 x.base,
      Value.int IntKind.i64 x.round,
      Value.slice
      (some { block := x_1.b, off := (0 : Nat) : Addr })
      x.hs.length (x.hs.length + (2 : Nat)),
      Value.int IntKind.i64 x.lk.cl,
      Value.int IntKind.i64 x.lk.sq,
      Value.int IntKind.i64 x.lk.hm,
      Value.int IntKind.i64 x.lk.n]]
      m' (Value.tuple #[Value.int IntKind.i64 n_27, Value.bool b]) ∧
      ∃ (n_28 : Int),
      ∃ (b_1 : Bool),
      QSpec Try.prog (18 : Nat)
      [Value.agg
      #[Value.string x.key, Value.int IntKind.i64 x.lo,
      Value.int IntKind.i64 x.hi,
      Value.int IntKind.i64 x.base,
      Value.int IntKind.i64 x.round,
      Value.slice a x.hs.length c,
      Value.int IntKind.i64 x.lk.cl,
      Value.int IntKind.i64 x.lk.sq,
      Value.int IntKind.i64 x.lk.hm,
      Value.int IntKind.i64 x.lk.n]]
      m'
      (Value.tuple
      #[Value.int IntKind.i64 n_28, Value.bool b_1]) ∧
      ∃ (n_29 : Int),
      ∃ (n_30 : Int),
      ∃ (n_31 : Int),
      ∃ (n_32 : Int),
      ∃ (b_2 : Bool),
      QSpec Try.prog (19 : Nat)
      [Value.agg
      #[Value.string x.key,
      Value.int IntKind.i64 x.lo,
      Value.int IntKind.i64 x.hi,
      Value.int IntKind.i64 x.base,
      Value.int IntKind.i64 x.round,
      Value.slice
      (some
      { block := x_1.b, off := (0 : Nat) : Addr })
      x.hs.length (x.hs.length + (2 : Nat)),
      Value.int IntKind.i64 x.lk.cl,
      Value.int IntKind.i64 x.lk.sq,
      Value.int IntKind.i64 x.lk.hm,
      Value.int IntKind.i64 x.lk.n],
      Value.int IntKind.i64 nd]
      m'
      (Value.tuple
      #[Value.agg
      #[Value.int IntKind.i64 n_29,
      Value.int IntKind.i64 n_30,
      Value.int IntKind.i64 n_31,
      Value.int IntKind.i64 n_32],
      Value.bool b_2]) ∧
      ∃ (n_33 : Int),
      ∃ (n_34 : Int),
      ∃ (n_35 : Int),
      ∃ (n_36 : Int),
      ∃ (b_3 : Bool),
      QSpec Try.prog (20 : Nat)
      [Value.agg
      #[Value.string x.key,
      Value.int IntKind.i64 x.lo,
      Value.int IntKind.i64 x.hi,
      Value.int IntKind.i64 x.base,
      Value.int IntKind.i64 x.round,
      Value.slice a x.hs.length c,
      Value.int IntKind.i64 x.lk.cl,
      Value.int IntKind.i64 x.lk.sq,
      Value.int IntKind.i64 x.lk.hm,
      Value.int IntKind.i64 x.lk.n],
      Value.int IntKind.i64 nd]
      m'
      (Value.tuple
      #[Value.agg
      #[Value.int IntKind.i64 n_33,
      Value.int IntKind.i64 n_34,
      Value.int IntKind.i64 n_35,
      Value.int IntKind.i64 n_36],
      Value.bool b_3]) ∧
      true = true ∧
      ∃ (b_4 : Bool),
      QSpec Try.prog (21 : Nat) [] m'
      (Value.bool b_4) ∧
      ifB b_4
      (∃ (n_37 : Int),
      QSpec Try.prog (22 : Nat)
      [Value.agg
      #[Value.string
      x.key,
      Value.int
      IntKind.i64
      x.lo,
      Value.int
      IntKind.i64
      x.hi,
      Value.int
      IntKind.i64
      x.base,
      Value.int
      IntKind.i64
      x.round,
      Value.slice
      (some
      { block := x_1.b, off := (0 : Nat) : Addr })
      x.hs.length
      (x.hs.length +
      (2 : Nat)),
      Value.int
      IntKind.i64
      x.lk.cl,
      Value.int
      IntKind.i64
      x.lk.sq,
      Value.int
      IntKind.i64
      x.lk.hm,
      Value.int
      IntKind.i64
      x.lk.n]]
      m'
      (Value.int IntKind.i64
      n_37) ∧
      ifB
      (n_37 ==
      if
      rightB x =
      true then
      (0 : Int)
      else (21 : Int))
      (∃ (b_5 : Bool),
      QSpec Try.prog
      (23 : Nat)
      [Value.agg
      #[Value.string
      s,
      Value.int
      IntKind.i64
      n,
      Value.int
      IntKind.i64
      n_3,
      Value.int
      IntKind.i64
      n_4,
      Value.int
      IntKind.i64
      n_5,
      Value.slice
      a_5 n_6
      c_2,
      Value.int
      IntKind.i64
      n_7,
      Value.int
      IntKind.i64
      n_8,
      Value.int
      IntKind.i64
      n_9,
      Value.int
      IntKind.i64
      n_10],
      Value.agg
      #[Value.string
      s_1,
      Value.int
      IntKind.i64
      n_13,
      Value.int
      IntKind.i64
      n_14,
      Value.int
      IntKind.i64
      n_15,
      Value.int
      IntKind.i64
      n_16,
      Value.slice
      a_7 n_17
      c_3,
      Value.int
      IntKind.i64
      n_18,
      Value.int
      IntKind.i64
      n_19,
      Value.int
      IntKind.i64
      n_20,
      Value.int
      IntKind.i64
      n_21]]
      m'
      (Value.bool b_5) ∧
      ifB b_5
      (ifB
      (n_11 == n_22)
      (ifB
      (n_23 == n_25)
      (ifB
      (n_24 ==
      n_26)
      (ifB
      (n_27 ==
      n_28)
      (ifB
      (b ==
      b_1)
      (ifB
      (n_29 ==
      n_33 &&
      (n_30 ==
      n_34 &&
      (n_31 ==
      n_35 &&
      (n_32 ==
      n_36 &&
      true))))
      (ifB
      (b_2 ==
      b_3)
      (∃
      (b
      :
      Bool),
      QSpec
      Try.prog
      (24 :
      Nat)
      [Value.agg
      #[Value.string
      x.key,
      Value.int
      IntKind.i64
      x.lo,
      Value.int
      IntKind.i64
      x.hi,
      Value.int
      IntKind.i64
      x.base,
      Value.int
      IntKind.i64
      x.round,
      Value.slice
      (some
      { block := x_1.b, off := (0 : Nat) : Addr })
      x.hs.length
      (x.hs.length +
      (2 :
      Nat)),
      Value.int
      IntKind.i64
      x.lk.cl,
      Value.int
      IntKind.i64
      x.lk.sq,
      Value.int
      IntKind.i64
      x.lk.hm,
      Value.int
      IntKind.i64
      x.lk.n]]
      m'
      (Value.bool
      b) ∧
      ∃
      (b_6
      :
      Bool),
      QSpec
      Try.prog
      (25 :
      Nat)
      [Value.agg
      #[Value.string
      x.key,
      Value.int
      IntKind.i64
      x.lo,
      Value.int
      IntKind.i64
      x.hi,
      Value.int
      IntKind.i64
      x.base,
      Value.int
      IntKind.i64
      x.round,
      Value.slice
      a
      x.hs.length
      c,
      Value.int
      IntKind.i64
      x.lk.cl,
      Value.int
      IntKind.i64
      x.lk.sq,
      Value.int
      IntKind.i64
      x.lk.hm,
      Value.int
      IntKind.i64
      x.lk.n]]
      m'
      (Value.bool
      b_6) ∧
      ifB
      (b ==
      b_6)
      (∃
      (b
      :
      Bool),
      QSpec
      Try.prog
      (26 :
      Nat)
      [Value.slice
      (some
      { block := x_1.b, off := (0 : Nat) : Addr })
      x.hs.length
      (x.hs.length +
      (2 :
      Nat)),
      Value.slice
      a
      x.hs.length
      c,
      Value.agg
      #[Value.int
      IntKind.i64
      (71 :
      Int),
      Value.int
      IntKind.i64
      (0 :
      Int),
      Value.int
      IntKind.i64
      (0 :
      Int),
      Value.int
      IntKind.i64
      (0 :
      Int)]]
      m'
      (Value.bool
      b) ∧
      Done
      (Value.bool
      b =
      Value.bool
      true))
      (Done
      (Value.bool
      false =
      Value.bool
      true)))
      (Done
      (Value.bool
      false =
      Value.bool
      true)))
      (Done
      (Value.bool
      false =
      Value.bool
      true)))
      (Done
      (Value.bool
      false =
      Value.bool
      true)))
      (Done
      (Value.bool
      false =
      Value.bool
      true)))
      (Done
      (Value.bool
      false =
      Value.bool
      true)))
      (Done
      (Value.bool
      false =
      Value.bool
      true)))
      (Done
      (Value.bool
      false =
      Value.bool
      true)))
      (Done
      (Value.bool
      false =
      Value.bool
      true)))
      (Done
      (Value.bool false =
      Value.bool true)))
      (Done
      (Value.bool false =
      Value.bool true))) (by kernel_rfl) ?_
  have r0 := h.sz (n := n) hn
  refine ⟨rfl, _, noS, fun n1 hn1 => (hown_q a c x.hs mkH hlen _ (h.sz (Nat.le_trans hn hn1))).monoW fun v m1 hag ⟨b, hv, hb1, hb2, huf, hc⟩ => ⟨_, _, _, hv, ⟨_, rright_q x a c hx m1 ((h.sz (Nat.le_trans hn hn1)).agree hag), ?_⟩, ?_⟩⟩
  · have hag' : Agree n { m with sz := n } m1 := (Agree.szl (B := n) (m := { m with sz := n }) hn1).trans (hag.mono hn1)
    cases hr : rightB x
    · exact ifB_true ⟨⟨b, m1⟩, ⟨hb2, hc, hag'⟩, by simp⟩
    · exact ifB_false ⟨⟨b, m1⟩, ⟨hb2, hc, hag'⟩, by simp⟩
  · intro y hy n2 hn2
    refine (new_q key _).spec.mono fun v m2 hag2 ⟨hv2, hp2, _⟩ => ⟨_, _, _, _, _, _, _, _, _, _, _, _, _, hv2, fun n3 hn3 => (rnew_q key _).spec.mono fun v m3 hag3 ⟨hv3, hp3, _⟩ => ⟨_, _, _, _, _, _, _, _, _, _, _, _, _, hv3, ?_⟩⟩
    have hs3 : y.m.sz ≤ m3.sz := Nat.le_trans hn2 (Nat.le_trans hag2.2.2 (Nat.le_trans hn3 hag3.2.2))
    have hπ : m3.π = y.m.π := hp3.trans hp2
    have hca : CellsAt m3 y.b 0 (hds x.hs ++ (encH mkH ++ encH mkH)) := hy.cells.of (by rw [hπ])
    have hlt : y.b < m3.sz := Nat.lt_of_lt_of_le hy.lt hs3
    have rb : Row m3 (some ⟨y.b, 0, none⟩) (hds x.hs) := .at _ _ _ hlt hca.take
    have ra : Row m3 a (hds x.hs) := (r0.agree hy.ag).of hs3 fun b o _ _ => by rw [hπ]
    have hk : keyB key = true → key.size ≤ 9223372036854775807 := fun hk => by simp [keyB] at hk; omega
    have hwk : ({ ac0 with key := if keyB key = true then key else ByteArray.empty } : Ac).wf := wf_key _ (by split; exact hk (by assumption); exact Nat.zero_le _)
    refine ⟨_, _, room_q x _ _ hx _ rb, _, _, rroom_q x _ _ hx _ ra, _, _, total_q x _ _ hx _ rb, _, _, rtotal_q x _ _ hx _ ra, _, _, _, _, _, find_q x _ _ nd hx _ rb, _, _, _, _, _, rfind_q x _ _ nd hx _ ra, rfl, _, awake_q _, ifB_true ⟨_, check_q x _ _ hx _ rb, ?_⟩⟩
    simp only [beq_self_eq_true, Bool.and_self]
    refine ifB_true ⟨_, saccount_q { ac0 with key := if keyB key = true then key else ByteArray.empty } { ac0 with key := if keyB key = true then key else ByteArray.empty } none none 0 0 hwk hwk m3 (.nil _) (.nil _), ?_⟩
    simp only [decide_true]
    repeat (refine ifB_true ?_)
    refine ⟨_, plain_acc_q x _ _ hx _ rb, _, rplain_q x _ _ hx _ ra, ?_⟩
    simp only [beq_self_eq_true]
    exact ifB_true ⟨_, hkept_q y.b x.hs a c mkH hlen m3 hlt hca ra, ⟨rfl⟩⟩

end Go.Proofs.Ytlifpjllhibdpaa
set_option linter.unusedVariables false
set_option linter.unusedSimpArgs false
namespace Go.Proofs.Ytlifpjllhibdpaa
open Go.Vc Go.RowKit Go.ChangeShapes Go.WideShapes Go.ChangeAt
set_option maxRecDepth 100000

theorem cells_acc : Try.prog.cellsOf 28 = 10 := by kernel_rfl

theorem cells_hd : Try.prog.cellsOf 31 = 4 := by kernel_rfl

theorem cells_lk : Try.prog.cellsOf 26 = 4 := by kernel_rfl

theorem cells_sp : Try.prog.cellsOf 23 = 2 := by kernel_rfl

theorem cells_int : Try.prog.cellsOf 3 = 1 := by kernel_rfl

theorem cells_str : Try.prog.cellsOf 9 = 1 := by kernel_rfl

theorem cells_hds : Try.prog.cellsOf 24 = 1 := by kernel_rfl

/-- cells that are read as an account -/
theorem rd_acc {m : M} {N d : Nat} {cs : List Value} (h : Rd Try.prog m N (d + 4) 28 cs) (hN : N ≤ 9223372036854775807) :
    ∃ (x : Ac) (a : Option Addr) (c : Nat), cs = acc x a c ∧ x.wf ∧ x.hs.length ≤ N ∧ x.hs.length ≤ c ∧ c ≤ N ∧ (a = none → x.hs = []) ∧ Row m a (hds x.hs) := by
  simp only [Rd, Try.underlying28, Try.underlying23, Try.underlying26, Try.underlying3, Try.underlying9, Try.underlying24, Try.underlying31, fieldsD, cells_acc, cells_hd, cells_lk, cells_sp, cells_int, cells_str, cells_hds] at h
  obtain ⟨hl, ⟨k, hk, hks⟩, ⟨-, ⟨lo, hlo, wlo⟩, ⟨hi, hhi, whi⟩, -⟩, ⟨base, hbase, wbase⟩, ⟨round, hround, wround⟩, ⟨a, c, rows, hsl, h1, h2, h3, h4, h5⟩, ⟨-, ⟨l1, hl1, w1⟩, ⟨l2, hl2, w2⟩, ⟨l3, hl3, w3⟩, ⟨l4, hl4, w4⟩, -⟩, -⟩ := h
  obtain ⟨z, hz, he, hw⟩ := rows_list (α := Hd) (e := encH) (p := Hd.wf) rows fun r hr => by
    obtain ⟨g0, ⟨-, ⟨n1, hn1, v1⟩, ⟨n2, hn2, v2⟩, ⟨n3, hn3, v3⟩, ⟨n4, hn4, v4⟩, -⟩⟩ := h4 r hr
    obtain ⟨c1, c2, c3, c4, rfl⟩ : ∃ c1 c2 c3 c4, r = [c1, c2, c3, c4] := by
      match r, g0 with
      | [c1, c2, c3, c4], _ => exact ⟨c1, c2, c3, c4, rfl⟩
    simp at hn1 hn2 hn3 hn4
    subst hn1 hn2 hn3 hn4
    exact ⟨⟨n1, n2, n3, n4⟩, rfl, in64_of v1, in64_of v2, in64_of v3, in64_of v4⟩
  obtain ⟨c1, c2, c3, c4, c5, c6, c7, c8, c9, c10, rfl⟩ : ∃ c1 c2 c3 c4 c5 c6 c7 c8 c9 c10, cs = [c1, c2, c3, c4, c5, c6, c7, c8, c9, c10] := by
    match cs, hl with
    | [c1, c2, c3, c4, c5, c6, c7, c8, c9, c10], _ => exact ⟨_, _, _, _, _, _, _, _, _, _, rfl⟩
  simp at hk hlo hhi hbase hround hsl hl1 hl2 hl3 hl4
  subst hk hlo hhi hbase hround hsl hl1 hl2 hl3 hl4
  refine ⟨⟨k, lo, hi, base, round, z, ⟨l1, l2, l3, l4⟩⟩, a, c, by simp [acc, hz], ⟨Nat.le_trans hks hN, in64_of wlo, in64_of whi, in64_of wbase, in64_of wround, hw, by simp only [hz]; omega, in64_of w1, in64_of w2, in64_of w3, in64_of w4⟩, by simp only [hz]; omega, by simp only [hz]; omega, h2, fun e => ?_, ?_⟩
  · have : z.length = 0 := by have := h3 e; omega
    simpa using this
  · rw [he] at h5; exact h5

variable {H : Type} {enc : TypeId × Value → H} {W : World} {r : Reach} {b0 : Nat} {v : Value} {d : DataW H} {p : List MemPlace} {N : Nat} {Bd : DataW H → Prop}

theorem open_acc (B : Bound N Bd) (hN : N ≤ 9223372036854775807) (hv : Value.okWide Try.prog W r b0 28 v) (h : DataW.Trod enc Try.prog W 0 (fun _ => true) true 28 v d p) (hb : Bd d) :
    ∃ (x : Ac) (a : Option Addr) (c : Nat), v = acv x a c ∧ x.wf ∧ x.hs.length ≤ N ∧ (a = none → x.hs = []) ∧ Row (M.all W) a (hds x.hs) := by
  obtain ⟨cs, rfl, hl⟩ := open_agg Try.underlying28 cells_acc hv
  obtain ⟨fuel, hf⟩ := h
  have hr := rd_of_trod B 4 fuel 28 _ _ hf hb
  simp only [Value.cells] at hr
  obtain ⟨x, a, c, he, hw, h1, h2, h3, h4, h5⟩ := rd_acc (d := 0) hr hN
  exact ⟨x, a, c, by rw [show cs = acc x a c from he], hw, h1, h4, h5⟩

theorem open_lk (hv : Value.okWide Try.prog W r b0 26 v) (h : DataW.Trod enc Try.prog W 0 (fun _ => true) true 26 v d p) :
    ∃ k : Lk, v = .agg #[I k.cl, I k.sq, I k.hm, I k.n] ∧ k.wf := by
  obtain ⟨cs, rfl, hl⟩ := open_agg Try.underlying26 cells_lk hv
  obtain ⟨fuel, hf⟩ := h
  have hr := rd_of_trod (bound_any H) 2 fuel 26 _ _ hf trivial
  simp only [Rd, Try.underlying26, Try.underlying3, fieldsD, cells_lk, cells_int] at hr
  obtain ⟨-, ⟨l1, hl1, w1⟩, ⟨l2, hl2, w2⟩, ⟨l3, hl3, w3⟩, ⟨l4, hl4, w4⟩, -⟩ := hr
  obtain ⟨c1, c2, c3, c4, rfl⟩ : ∃ c1 c2 c3 c4, cs = [c1, c2, c3, c4] := by
    match cs, hl with
    | [c1, c2, c3, c4], _ => exact ⟨_, _, _, _, rfl⟩
  simp [Value.cells] at hl1 hl2 hl3 hl4
  subst hl1 hl2 hl3 hl4
  exact ⟨⟨l1, l2, l3, l4⟩, rfl, in64_of w1, in64_of w2, in64_of w3, in64_of w4⟩

theorem open_sp (hv : Value.okWide Try.prog W r b0 23 v) (h : DataW.Trod enc Try.prog W 0 (fun _ => true) true 23 v d p) :
    ∃ lo hi : Int, v = sp lo hi ∧ In64 lo ∧ In64 hi := by
  obtain ⟨cs, rfl, hl⟩ := open_agg Try.underlying23 cells_sp hv
  obtain ⟨fuel, hf⟩ := h
  have hr := rd_of_trod (bound_any H) 2 fuel 23 _ _ hf trivial
  simp only [Rd, Try.underlying23, Try.underlying3, fieldsD, cells_sp, cells_int] at hr
  obtain ⟨-, ⟨l1, hl1, w1⟩, ⟨l2, hl2, w2⟩, -⟩ := hr
  obtain ⟨c1, c2, rfl⟩ : ∃ c1 c2, cs = [c1, c2] := by
    match cs, hl with
    | [c1, c2], _ => exact ⟨_, _, rfl⟩
  simp [Value.cells] at hl1 hl2
  subst hl1 hl2
  exact ⟨l1, l2, rfl, in64_of w1, in64_of w2⟩

end Go.Proofs.Ytlifpjllhibdpaa
