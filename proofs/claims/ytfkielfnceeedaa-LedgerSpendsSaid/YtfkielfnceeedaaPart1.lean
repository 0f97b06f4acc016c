/-
  Contracts of functions of this seat: what each hands back, and what it leaves of memory (n16, opn, l_rt, acc1, acc2, acc3, acc4, acc5, acc6, led1, bs_rt, ins_rt, led2). Nothing here is trusted: Lean checks it.
-/
import Derived.Test.YtfkielfnceeedaaVcLem
import Derived.Test.YtfkielfnceeedaaVcOwned
import Derived.Test.YtfkielfnceeedaaRows
import Derived.Test.YtfkielfnceeedaaVcOpen
import Derived.Test.YtfkielfnceeedaaVcOver
import Derived.Test.YtfkielfnceeedaaVcRow
import Derived.Test.YtfkielfnceeedaaVcStr
import Derived.Test.YtfkielfnceeedaaVcList
set_option linter.unusedVariables false
set_option linter.unusedSimpArgs false
namespace Go.Proofs.Ytfkielfnceeedaa
open Go.Vc Go.RowKit
set_option maxRecDepth 100000

abbrev I (n : Int) : Value := .int .i64 n

abbrev U (n : Int) : Value := .int .u64 n

abbrev sp (lo hi : Int) : Value := .agg #[.int .i64 lo, .int .i64 hi]

def In64 (n : Int) : Prop := -9223372036854775808 ≤ n ∧ n ≤ 9223372036854775807

instance (n : Int) : Decidable (In64 n) := by unfold In64; infer_instance

def InU (n : Int) : Prop := 0 ≤ n ∧ n ≤ 18446744073709551615

def addV (a b : Int) : Int := if In64 (a + b) then a + b else 0

def addE (a b : Int) : Int := if In64 (a + b) then 0 else 10

def subV (a b : Int) : Int := if In64 (a - b) then a - b else 0

def subE (a b : Int) : Int := if In64 (a - b) then 0 else 10

def hasB (lo hi v : Int) : Bool := decide (lo ≤ v) && decide (v ≤ hi)

def roomD (lo hi v : Int) : Int := if hasB lo hi v then v - lo else 0

def roomU (lo hi v : Int) : Int := if hasB lo hi v then hi - v else 0

def meetOk (a b c d : Int) : Bool := decide (a ≤ b) && (decide (c ≤ d) && decide (max a c ≤ min b d))

def meetLo (a b c d : Int) : Int := if meetOk a b c d then max a c else 0

def meetHi (a b c d : Int) : Int := if meetOk a b c d then min b d else 0

def shiftE (a b k : Int) : Int := if b < a then 1 else if In64 (a + k) ∧ In64 (b + k) then 0 else 10

def shiftLo (a b k : Int) : Int := if b < a then 0 else if In64 (a + k) ∧ In64 (b + k) then a + k else 0

def shiftHi (a b k : Int) : Int := if b < a then 0 else if In64 (a + k) ∧ In64 (b + k) then b + k else 0

def shareV (n p i : Int) : Int := if p < 1 ∨ i < 0 ∨ p ≤ i then 0 else if i < n % p then n / p + 1 else n / p

def fitV (n : Int) : Int := min n 9223372036854775807

theorem add_q (a b : Int) (ha : In64 a) (hb : In64 b) (m : M) : QSpec Try.prog 55 [I a, I b] m (.tuple #[I (addV a b), I (addE a b)]) := by
  refine QSpec.of_vc Try.func55 (ann := fun _ => noAnn) fun n hn => ?_
  refine vc_by (X :=
      true = true ∧
      ifB (decide (a ≥ (0 : Int)))
      (ifB (decide (b ≥ (0 : Int)))
      (ifB (decide (IntKind.i64.wrap (a + b) < (0 : Int)))
      (Done
      (Value.tuple #[Value.int IntKind.i64 (0 : Int), Value.int IntKind.i64 (10 : Int)] = Value.tuple #[Value.int IntKind.i64 (addV a b), Value.int IntKind.i64 (addE a b)]))
      (ifB (decide (a < (0 : Int)))
      (ifB (decide (b < (0 : Int)))
      (ifB (decide (IntKind.i64.wrap (a + b) ≥ (0 : Int)))
      (Done
      (Value.tuple #[Value.int IntKind.i64 (0 : Int), Value.int IntKind.i64 (10 : Int)] =
      Value.tuple #[Value.int IntKind.i64 (addV a b), Value.int IntKind.i64 (addE a b)]))
      (Done
      (Value.tuple #[Value.int IntKind.i64 (IntKind.i64.wrap (a + b)), Value.int IntKind.i64 (0 : Int)] =
      Value.tuple #[Value.int IntKind.i64 (addV a b), Value.int IntKind.i64 (addE a b)])))
      (Done
      (Value.tuple #[Value.int IntKind.i64 (IntKind.i64.wrap (a + b)), Value.int IntKind.i64 (0 : Int)] =
      Value.tuple #[Value.int IntKind.i64 (addV a b), Value.int IntKind.i64 (addE a b)])))
      (Done
      (Value.tuple #[Value.int IntKind.i64 (IntKind.i64.wrap (a + b)), Value.int IntKind.i64 (0 : Int)] =
      Value.tuple #[Value.int IntKind.i64 (addV a b), Value.int IntKind.i64 (addE a b)]))))
      (ifB (decide (a < (0 : Int)))
      (ifB (decide (b < (0 : Int)))
      (ifB (decide (IntKind.i64.wrap (a + b) ≥ (0 : Int)))
      (Done
      (Value.tuple #[Value.int IntKind.i64 (0 : Int), Value.int IntKind.i64 (10 : Int)] =
      Value.tuple #[Value.int IntKind.i64 (addV a b), Value.int IntKind.i64 (addE a b)]))
      (Done
      (Value.tuple #[Value.int IntKind.i64 (IntKind.i64.wrap (a + b)), Value.int IntKind.i64 (0 : Int)] =
      Value.tuple #[Value.int IntKind.i64 (addV a b), Value.int IntKind.i64 (addE a b)])))
      (Done
      (Value.tuple #[Value.int IntKind.i64 (IntKind.i64.wrap (a + b)), Value.int IntKind.i64 (0 : Int)] =
      Value.tuple #[Value.int IntKind.i64 (addV a b), Value.int IntKind.i64 (addE a b)])))
      (Done
      (Value.tuple #[Value.int IntKind.i64 (IntKind.i64.wrap (a + b)), Value.int IntKind.i64 (0 : Int)] =
      Value.tuple #[Value.int IntKind.i64 (addV a b), Value.int IntKind.i64 (addE a b)]))))
      (ifB (decide (a < (0 : Int)))
      (ifB (decide (b < (0 : Int)))
      (ifB (decide (IntKind.i64.wrap (a + b) ≥ (0 : Int)))
      (Done
      (Value.tuple #[Value.int IntKind.i64 (0 : Int), Value.int IntKind.i64 (10 : Int)] = Value.tuple #[Value.int IntKind.i64 (addV a b), Value.int IntKind.i64 (addE a b)]))
      (Done
      (Value.tuple #[Value.int IntKind.i64 (IntKind.i64.wrap (a + b)), Value.int IntKind.i64 (0 : Int)] =
      Value.tuple #[Value.int IntKind.i64 (addV a b), Value.int IntKind.i64 (addE a b)])))
      (Done
      (Value.tuple #[Value.int IntKind.i64 (IntKind.i64.wrap (a + b)), Value.int IntKind.i64 (0 : Int)] =
      Value.tuple #[Value.int IntKind.i64 (addV a b), Value.int IntKind.i64 (addE a b)])))
      (Done
      (Value.tuple #[Value.int IntKind.i64 (IntKind.i64.wrap (a + b)), Value.int IntKind.i64 (0 : Int)] =
      Value.tuple #[Value.int IntKind.i64 (addV a b), Value.int IntKind.i64 (addE a b)])))) (by kernel_rfl) ?_
  refine ⟨rfl, ?_⟩
  repeat' (refine ifB_intro (fun h => ?_) (fun h => ?_))
  all_goals refine ⟨?_⟩
  all_goals (by_cases hin : In64 (a + b) <;> simp [addV, addE, hin] <;> simp [IntKind.wrap_i64, In64] at * <;> omega)

theorem has_q (a b v : Int) (m : M) : QSpec Try.prog 86 [sp a b, I v] m (.bool (hasB a b v)) := by
  refine QSpec.of_vc Try.func86 (ann := fun _ => noAnn) fun n hn => ?_
  refine vc_by (X :=
      true = true ∧ ifB (decide (a ≤ v)) (Done (Value.bool (decide (v ≤ b)) = Value.bool (hasB a b v))) (Done (Value.bool false = Value.bool (hasB a b v)))) (by kernel_rfl) ?_
  refine ⟨rfl, ?_⟩
  repeat' (refine ifB_intro (fun h => ?_) (fun h => ?_))
  all_goals (refine ⟨?_⟩; simp [hasB, h])

theorem add_ok (a b : Int) : addE a b = 0 ↔ In64 (a + b) := by unfold addE; split <;> simp [*]

theorem div_facts (a b : Int) (ha : 0 ≤ a) (hb : 1 ≤ b) : 0 ≤ a / b ∧ a / b ≤ a ∧ 0 ≤ a % b ∧ a % b < b ∧ a / b * b = a - a % b ∧ a / b ≤ a - a % b := by
  have h1 := Int.ediv_nonneg ha (by omega : 0 ≤ b)
  have h2 := Int.emod_nonneg a (by omega : b ≠ 0)
  have h3 := Int.emod_lt_of_pos a (by omega : 0 < b)
  have h4 := Int.mul_ediv_add_emod a b
  have h5 := Int.ediv_le_self b ha
  have h6 : a / b * 1 ≤ a / b * b := Int.mul_le_mul_of_nonneg_left hb h1
  have h7 : a / b * b = a - a % b := by rw [Int.mul_comm]; omega
  exact ⟨h1, h5, h2, h3, h7, by omega⟩

theorem share_q (a b c : Int) (ha : InU a) (hb : In64 b) (hc : In64 c) (m : M) : QSpec Try.prog 107 [U a, I b, I c] m (U (shareV a b c)) := by
  refine QSpec.of_vc Try.func107 (ann := fun _ => noAnn) fun n hn => ?_
  refine vc_by (X :=
      true = true ∧
      ifB (decide (b < (1 : Int))) (Done (Value.int IntKind.u64 (0 : Int) = Value.int IntKind.u64 (shareV a b c)))
      (ifB (decide (c < (0 : Int))) (Done (Value.int IntKind.u64 (0 : Int) = Value.int IntKind.u64 (shareV a b c)))
      (ifB (decide (c ≥ b)) (Done (Value.int IntKind.u64 (0 : Int) = Value.int IntKind.u64 (shareV a b c)))
      (true = true ∧
      IntKind.u64.wrap b ≠ (0 : Int) ∧
      IntKind.u64.wrap b ≠ (0 : Int) ∧
      ifB (decide (IntKind.u64.wrap c < a.tmod (IntKind.u64.wrap b)))
      (Done (Value.int IntKind.u64 (IntKind.u64.wrap (IntKind.u64.wrap (a.tdiv (IntKind.u64.wrap b)) + (1 : Int))) = Value.int IntKind.u64 (shareV a b c)))
      (Done (Value.int IntKind.u64 (IntKind.u64.wrap (a.tdiv (IntKind.u64.wrap b))) = Value.int IntKind.u64 (shareV a b c))))))) (by kernel_rfl) ?_
  unfold InU at ha
  unfold In64 at hb hc
  refine ⟨rfl, ifB_intro (fun h => ⟨?_⟩) (fun h => ifB_intro (fun h2 => ⟨?_⟩) (fun h2 => ifB_intro (fun h3 => ⟨?_⟩) (fun h3 => ?_)))⟩
  · simp at h; simp [shareV, h]
  · simp at h h2; simp [shareV, h2]
  · simp at h h2 h3; simp [shareV, h3]
  · simp at h h2 h3
    have hw : IntKind.u64.wrap b = b := by simp [IntKind.wrap_u64]; omega
    have hw2 : IntKind.u64.wrap c = c := by simp [IntKind.wrap_u64]; omega
    rw [hw, hw2, Int.tdiv_eq_ediv_of_nonneg ha.1, Int.tmod_eq_emod_of_nonneg ha.1]
    have hd := div_facts a b ha.1 (by omega)
    refine ⟨rfl, by omega, by omega, ifB_intro (fun h4 => ⟨?_⟩) (fun h4 => ⟨?_⟩)⟩
    · simp at h4
      have hne : ¬ (b < 1 ∨ c < 0 ∨ b ≤ c) := by omega
      simp [shareV, h4, hne, IntKind.wrap_u64]
      omega
    · simp at h4
      have hne : ¬ (b < 1 ∨ c < 0 ∨ b ≤ c) := by omega
      have h4' : ¬ c < a % b := by omega
      simp [shareV, h4', hne, IntKind.wrap_u64]
      omega

theorem fit_q (a : Int) (ha : InU a) (m : M) : QSpec Try.prog 106 [U a] m (I (fitV a)) := by
  refine QSpec.of_vc Try.func106 (ann := fun _ => noAnn) fun n hn => ?_
  refine vc_by (X :=
      true = true ∧ Done (Value.int IntKind.i64 (IntKind.i64.wrap (if (9223372036854775807 : Int) < a then (9223372036854775807 : Int) else a)) = Value.int IntKind.i64 (fitV a))) (by kernel_rfl) ?_
  refine ⟨rfl, ⟨?_⟩⟩
  simp [fitV, IntKind.wrap_i64, InU] at *
  omega

theorem rhas_q (a b v : Int) (m : M) : QSpec Try.prog 68 [sp a b, I v] m (.bool (hasB a b v)) := by
  refine QSpec.of_vc Try.func68 (ann := fun _ => noAnn) fun n hn => ?_
  refine vc_by (X :=
      true = true ∧ ifB (decide (a ≤ v)) (Done (Value.bool (decide (v ≤ b)) = Value.bool (hasB a b v))) (Done (Value.bool false = Value.bool (hasB a b v)))) (by kernel_rfl) ?_
  refine ⟨rfl, ?_⟩
  repeat' (refine ifB_intro (fun h => ?_) (fun h => ?_))
  all_goals (refine ⟨?_⟩; simp [hasB, h])

def wideHi (W : Int) : Int := IntKind.i64.wrap (W / 18446744073709551616)

def wideLo (W : Int) : Int := W % 18446744073709551616

abbrev wide (W : Int) : Value := .agg #[I (wideHi W), U (wideLo W)]

theorem add64 (x y c : Int) (hx : 0 ≤ x ∧ x < 18446744073709551616) (hy : 0 ≤ y ∧ y < 18446744073709551616) (hc : c = 0 ∨ c = 1) : CallV Try.prog 84 [U x, U y, U c] (.tuple #[U ((x + y + c) % 18446744073709551616), U ((x + y + c) / 18446744073709551616)]) := by
  refine ⟨?_⟩
  rcases hc with rfl | rfl
  all_goals
    show (Value.tuple #[.int .u64 (Int.ofNat ((x.toNat + y.toNat + Int.toNat _) % Extern.MathBitsCarry.m64)), .int .u64 (Int.ofNat ((x.toNat + y.toNat + Int.toNat _) / Extern.MathBitsCarry.m64))]) = _
    simp only [Extern.MathBitsCarry.m64, Value.tuple.injEq, Array.mk.injEq, List.cons.injEq, Value.int.injEq, true_and, and_true]
    constructor <;> simp <;> omega

theorem plus_q (W k : Int) (hk : In64 k) (m : M) : QSpec Try.prog 83 [wide W, I k] m (wide (W + k)) := by
  refine QSpec.of_vc Try.func83 (ann := fun _ => noAnn) fun n hn => ?_
  refine vc_by (X :=
      true = true ∧
      ∃ (n : Int),
      ∃ (n_1 : Int),
      CallV Try.prog (84 : Nat) [Value.int IntKind.u64 (wideLo W), Value.int IntKind.u64 (IntKind.u64.wrap k), Value.int IntKind.u64 (0 : Int)]
      (Value.tuple #[Value.int IntKind.u64 n, Value.int IntKind.u64 n_1]) ∧
      ifB (decide (k < (0 : Int)))
      (Done
      (Value.agg #[Value.int IntKind.i64 (IntKind.i64.wrap (IntKind.i64.wrap (wideHi W + IntKind.i64.wrap n_1) - (1 : Int))), Value.int IntKind.u64 n] =
      Value.agg #[Value.int IntKind.i64 (wideHi (W + k)), Value.int IntKind.u64 (wideLo (W + k))]))
      (Done
      (Value.agg #[Value.int IntKind.i64 (IntKind.i64.wrap (wideHi W + IntKind.i64.wrap n_1)), Value.int IntKind.u64 n] =
      Value.agg #[Value.int IntKind.i64 (wideHi (W + k)), Value.int IntKind.u64 (wideLo (W + k))]))) (by kernel_rfl) ?_
  unfold In64 at hk
  refine ⟨rfl, _, _, add64 _ _ _ (by unfold wideLo; omega) (by simp [IntKind.wrap_u64]; omega) (.inl rfl), ifB_intro (fun h => ⟨?_⟩) (fun h => ⟨?_⟩)⟩
  all_goals
    simp at h
    simp [wideHi, wideLo, IntKind.wrap_i64, IntKind.wrap_u64]
    omega

theorem not_int (k : Int) (hk : In64 k) : IntKind.i64.wrap ((BitVec.ofInt IntKind.i64.bits (-1) ^^^ BitVec.ofInt IntKind.i64.bits k).toNat : Int) = -k - 1 := by
  have e1 : BitVec.ofInt IntKind.i64.bits (-1) = BitVec.allOnes 64 := rfl
  have e2 : (BitVec.allOnes 64 ^^^ BitVec.ofInt 64 k) = ~~~ (BitVec.ofInt 64 k) := by rw [BitVec.xor_comm]; exact BitVec.xor_allOnes
  rw [e1]
  show IntKind.i64.wrap ((BitVec.allOnes 64 ^^^ BitVec.ofInt 64 k).toNat : Int) = -k - 1
  rw [e2, BitVec.toNat_not, BitVec.toNat_ofInt]
  unfold In64 at hk
  simp [IntKind.wrap_i64]
  omega

theorem less_q (W k : Int) (hk : In64 k) (m : M) : QSpec Try.prog 62 [wide W, I k] m (wide (W - k)) := by
  refine QSpec.of_vc Try.func62 (ann := fun _ => noAnn) fun n hn => ?_
  refine vc_by (X :=
      true = true ∧
      ∃ (n_1 : Int),
      ∃ (n_2 : Int),
      QSpec Try.prog (83 : Nat)
      [Value.agg #[Value.int IntKind.i64 (wideHi W), Value.int IntKind.u64 (wideLo W)],
      Value.int IntKind.i64 (IntKind.i64.wrap (↑(BitVec.ofInt (64 : Nat) (if true = true then (-1 : Int) else IntKind.i64.max) ^^^ BitVec.ofInt (64 : Nat) k).toNat : Int))]
      { π := m.π, sz := n, uf := m.uf : M } (Value.agg #[Value.int IntKind.i64 n_1, Value.int IntKind.u64 n_2]) ∧
      ∃ (n_3 : Int),
      ∃ (n_4 : Int),
      QSpec Try.prog (83 : Nat) [Value.agg #[Value.int IntKind.i64 n_1, Value.int IntKind.u64 n_2], Value.int IntKind.i64 (1 : Int)] { π := m.π, sz := n, uf := m.uf : M }
      (Value.agg #[Value.int IntKind.i64 n_3, Value.int IntKind.u64 n_4]) ∧
      Done (Value.agg #[Value.int IntKind.i64 n_3, Value.int IntKind.u64 n_4] = Value.agg #[Value.int IntKind.i64 (wideHi (W - k)), Value.int IntKind.u64 (wideLo (W - k))])) (by kernel_rfl) ?_
  have e : IntKind.i64.wrap ((BitVec.ofInt 64 (if true = true then -1 else IntKind.i64.max) ^^^ BitVec.ofInt 64 k).toNat : Int) = -k - 1 := not_int k hk
  rw [e]
  have e2 : W + (-k - 1) + 1 = W - k := by omega
  have hk' : In64 (-k - 1) := by unfold In64 at *; omega
  have h1 := plus_q (W + (-k - 1)) 1 (by decide) { m with sz := n }
  rw [e2] at h1
  exact ⟨rfl, _, _, plus_q W (-k - 1) hk' _, _, _, h1, ⟨rfl⟩⟩

theorem int_q (W : Int) (h1 : -85070591730234615865843651857942052864 ≤ W) (h2 : W ≤ 85070591730234615865843651857942052864) (m : M) :
    QSpec Try.prog 61 [wide W] m (.tuple #[I (IntKind.i64.wrap W), .bool (decide (In64 W))]) := by
  refine QSpec.of_vc Try.func61 (ann := fun _ => noAnn) fun n hn => ?_
  refine vc_by (X :=
      true = true ∧
      true = true ∧
      ifB (wideHi W == (0 : Int))
      (ifB (decide (wideLo W < (9223372036854775808 : Int)))
      (Done
      (Value.tuple #[Value.int IntKind.i64 (IntKind.i64.wrap (wideLo W)), Value.bool true] =
      Value.tuple #[Value.int IntKind.i64 (IntKind.i64.wrap W), Value.bool (decide (In64 W))]))
      (ifB (wideHi W == (-1 : Int))
      (Done
      (Value.tuple #[Value.int IntKind.i64 (IntKind.i64.wrap (wideLo W)), Value.bool (decide (wideLo W ≥ (9223372036854775808 : Int)))] =
      Value.tuple #[Value.int IntKind.i64 (IntKind.i64.wrap W), Value.bool (decide (In64 W))]))
      (Done
      (Value.tuple #[Value.int IntKind.i64 (IntKind.i64.wrap (wideLo W)), Value.bool false] =
      Value.tuple #[Value.int IntKind.i64 (IntKind.i64.wrap W), Value.bool (decide (In64 W))]))))
      (ifB (wideHi W == (-1 : Int))
      (Done
      (Value.tuple #[Value.int IntKind.i64 (IntKind.i64.wrap (wideLo W)), Value.bool (decide (wideLo W ≥ (9223372036854775808 : Int)))] =
      Value.tuple #[Value.int IntKind.i64 (IntKind.i64.wrap W), Value.bool (decide (In64 W))]))
      (Done
      (Value.tuple #[Value.int IntKind.i64 (IntKind.i64.wrap (wideLo W)), Value.bool false] =
      Value.tuple #[Value.int IntKind.i64 (IntKind.i64.wrap W), Value.bool (decide (In64 W))])))) (by kernel_rfl) ?_
  refine ⟨rfl, rfl, ?_⟩
  repeat' (refine ifB_intro (fun h => ?_) (fun h => ?_))
  all_goals refine ⟨?_⟩
  all_goals simp only [Value.tuple.injEq, Array.mk.injEq, List.cons.injEq, Value.bool.injEq, and_true, eq_comm (a := true), eq_comm (a := false), decide_eq_true_eq, decide_eq_false_iff_not, decide_eq_decide, beq_iff_eq, beq_eq_false_iff_ne] at *
  all_goals simp [wideHi, wideLo, IntKind.wrap_i64, In64] at *
  all_goals omega

/-- the sum of many, in order -/
def sumI (l : List Int) : Int := l.foldl (· + ·) 0

theorem foldl_add (l : List Int) (a : Int) : l.foldl (· + ·) a = a + l.foldl (· + ·) 0 := by
  induction l generalizing a with
  | nil => simp
  | cons x r ih => simp only [List.foldl_cons]; rw [ih, ih (0 + x)]; omega

theorem sumI_take (l : List Int) (k : Nat) (h : k < l.length) : sumI (l.take (k + 1)) = sumI (l.take k) + l[k] := by
  unfold sumI
  rw [List.take_succ_eq_append_getElem h, List.foldl_append]
  simp

theorem sumI_bound (l : List Int) (h : ∀ x ∈ l, In64 x) : -9223372036854775808 * (l.length : Int) ≤ sumI l ∧ sumI l ≤ 9223372036854775807 * (l.length : Int) := by
  induction l with
  | nil => simp [sumI]
  | cons x r ih =>
    have := ih (fun y hy => h y (by simp [hy]))
    have hx := h x (by simp)
    unfold In64 at hx
    have e : sumI (x :: r) = x + sumI r := by simp only [sumI, List.foldl_cons]; rw [foldl_add]; simp
    rw [e]
    simp only [List.length_cons, Int.natCast_add]
    omega

abbrev ints (l : List Int) : List Value := l.flatMap fun x => [I x]

theorem ints_len (l : List Int) : (ints l).length = l.length := by
  induction l with
  | nil => rfl
  | cons x r ih => simp only [ints, List.flatMap_cons, List.length_append, List.length_cons, List.length_nil] at *; omega

theorem ints_at {m : M} {b o i : Nat} {l : List Int} (h : CellsAt m b o (ints l)) (hi : i < l.length) : CellsAt m b (o + i) [I l[i]] := by
  have := CellsAt.elem (k := 1) (enc := fun x => [I x]) (fun _ => rfl) l o i hi h
  simpa using this

def ofAnn (a : Option Addr) (c : Nat) (l : List Int) (m : M) : Ann where
  A := Nat
  inv k := k ≤ l.length
  st k := [(4, .val (I k)), (0, .val (.slice a l.length c)), (3, .own 2 0), (2, .own 0 0)]
  own k := [(0, ⟨108, [I 0, U 0]⟩), (2, ⟨108, [I (wideHi (sumI (l.take k))), U (wideLo (sumI (l.take k)))]⟩)]
  m _ := m
  μ k := l.length - k

theorem of_q (a : Option Addr) (c : Nat) (l : List Int) (hl : ∀ x ∈ l, In64 x) (hn : l.length ≤ 140737488355328) (m : M) (h : Row m a (ints l)) :
    QSpec Try.prog 60 [.slice a l.length c] m (wide (sumI l)) := by
  refine QSpec.of_vc Try.func60 (ann := fun n _ => ofAnn a c l { m with sz := n }) fun n hn => ?_
  refine vc_by (X :=
      true = true ∧
      (∃ (a_1 : Nat),
      a_1 ≤ l.length ∧
      { π := m.π, sz := n, uf := m.uf : M } = { π := m.π, sz := n, uf := m.uf : M } ∧
      ((SV.val (Value.int IntKind.i64 (0 : Int)) = SV.val (Value.int IntKind.i64 (↑a_1 : Int)) ∧ true = true) ∧
      (SV.val (Value.slice a l.length c) = SV.val (Value.slice a l.length c) ∧ true = true) ∧
      (SV.own ((0 : Nat) + (1 : Nat) + (1 : Nat)) (0 : Nat) = SV.own (2 : Nat) (0 : Nat) ∧ true = true) ∧
      (SV.own ((0 : Nat) + (0 : Nat)) (0 : Nat) = SV.own (0 : Nat) (0 : Nat) ∧ true = true) ∧ True) ∧
      (some { ty := (108 : Nat), cs := [Value.int IntKind.i64 (0 : Int), Value.int IntKind.u64 (0 : Int)] : Bx } =
      some { ty := (108 : TypeId), cs := [Value.int IntKind.i64 (0 : Int), Value.int IntKind.u64 (0 : Int)] : Bx } ∧
      true = true) ∧
      (some { ty := (108 : Nat), cs := [Value.int IntKind.i64 (0 : Int), Value.int IntKind.u64 (0 : Int)] : Bx } =
      some { ty := (108 : TypeId), cs := [Value.int IntKind.i64 (wideHi (sumI (List.take a_1 l))), Value.int IntKind.u64 (wideLo (sumI (List.take a_1 l)))] : Bx } ∧
      true = true) ∧
      True) ∧
      ∀ (a_1 : Nat),
      a_1 ≤ l.length →
      ifB (decide ((↑a_1 : Int) < (↑l.length : Int)))
      (true = true ∧
      ∃ (b : Nat),
      ∃ (off : Nat),
      a = some { block := b, off := off : Addr } ∧
      ((0 : Int) ≤ (↑a_1 : Int) ∧ (↑a_1 : Int) < (↑l.length : Int)) ∧
      ∃ (n_1 : Int),
      CellsAt { π := m.π, sz := n, uf := m.uf : M } b (off + (↑a_1 : Int).toNat * (1 : Nat)) [Value.int IntKind.i64 n_1] ∧
      ∃ (n_2 : Int),
      ∃ (n_3 : Int),
      QSpec Try.prog (83 : Nat)
      [Value.agg #[Value.int IntKind.i64 (wideHi (sumI (List.take a_1 l))), Value.int IntKind.u64 (wideLo (sumI (List.take a_1 l)))],
      Value.int IntKind.i64 n_1]
      { π := m.π, sz := n, uf := m.uf : M } (Value.agg #[Value.int IntKind.i64 n_2, Value.int IntKind.u64 n_3]) ∧
      ∃ (a' : Nat),
      (a' ≤ l.length ∧
      { π := m.π, sz := n, uf := m.uf : M } = { π := m.π, sz := n, uf := m.uf : M } ∧
      ((SV.val (Value.int IntKind.i64 (IntKind.i64.wrap ((↑a_1 : Int) + (1 : Int)))) = SV.val (Value.int IntKind.i64 (↑a' : Int)) ∧ true = true) ∧
      (SV.val (Value.slice a l.length c) = SV.val (Value.slice a l.length c) ∧ true = true) ∧
      (SV.own (2 : Nat) (0 : Nat) = SV.own (2 : Nat) (0 : Nat) ∧ true = true) ∧
      (SV.own (0 : Nat) (0 : Nat) = SV.own (0 : Nat) (0 : Nat) ∧ true = true) ∧ True) ∧
      (some { ty := (108 : TypeId), cs := [Value.int IntKind.i64 (0 : Int), Value.int IntKind.u64 (0 : Int)] : Bx } =
      some { ty := (108 : TypeId), cs := [Value.int IntKind.i64 (0 : Int), Value.int IntKind.u64 (0 : Int)] : Bx } ∧
      true = true) ∧
      (some { ty := (108 : TypeId), cs := [Value.int IntKind.i64 n_2, Value.int IntKind.u64 n_3] : Bx } =
      some
      { ty := (108 : TypeId), cs := [Value.int IntKind.i64 (wideHi (sumI (List.take a' l))), Value.int IntKind.u64 (wideLo (sumI (List.take a' l)))] : Bx } ∧
      true = true) ∧
      True) ∧
      l.length - a' < l.length - a_1)
      (Done
      (Value.agg #[Value.int IntKind.i64 (wideHi (sumI (List.take a_1 l))), Value.int IntKind.u64 (wideLo (sumI (List.take a_1 l)))] =
      Value.agg #[Value.int IntKind.i64 (wideHi (sumI l)), Value.int IntKind.u64 (wideLo (sumI l))]))) (by kernel_rfl) ?_
  have h' := h.sz hn
  refine ⟨rfl, ⟨0, by simp [sumI, wideHi, wideLo, IntKind.wrap_i64]⟩, fun k hk => ifB_intro (fun hb => ?_) (fun hb => ⟨?_⟩)⟩
  · have hk2 : k < l.length := by simpa using hb
    obtain ⟨b, o, rfl, hc⟩ := h'.cells (by rw [ints_len]; omega)
    refine ⟨rfl, b, o, rfl, by omega, l[k], by simpa using ints_at hc hk2, _, _, plus_q _ _ (hl _ (List.getElem_mem hk2)) _, k + 1, ⟨hk2, rfl, ⟨⟨?_, rfl⟩, by simp⟩, ?_⟩, by omega⟩
    · simp [IntKind.wrap_i64]; omega
    · rw [sumI_take l k hk2]; simp
  · have : k = l.length := by simp at hb; omega
    subst this
    simp

theorem row2 {m : M} {b : Nat} (a c : Int) : Row (m.newBlock b [I a, I c]) (some ⟨b, 0, none⟩) (ints [a, c]) := .at _ _ _ (by simp only [M.newBlock]; omega) cellsAt_new

theorem row1 {m : M} {b : Nat} (a : Int) : Row (m.newBlock b [I a]) (some ⟨b, 0, none⟩) (ints [a]) := .at _ _ _ (by simp only [M.newBlock]; omega) cellsAt_new

theorem ofNat63 (n : Int) : n.fdiv (2 ^ 63) = n / 9223372036854775808 := by rw [Int.fdiv_eq_ediv_of_nonneg _ (by decide)]; rfl

theorem sum_q (a : Option Addr) (c : Nat) (l : List Int) (hl : ∀ x ∈ l, In64 x) (hn : l.length ≤ 140737488355328) (m : M) (h : Row m a (ints l)) :
    QSpec Try.prog 59 [.slice a l.length c] m (.tuple #[I (if In64 (sumI l) then sumI l else 0), I (if In64 (sumI l) then 0 else 10)]) := by
  refine QSpec.of_vc Try.func59 (ann := fun n _ => { A := Nat, inv := fun k => k ≤ l.length, st := fun k => [(12, .val (I k)), (11, .val (I l.length)), (10, .val (.slice a l.length c)), (5, .val (U (wideLo (sumI (l.take k))))), (4, .val (U (IntKind.u64.wrap (sumI (l.take k) / 18446744073709551616))))], own := fun _ => [], m := fun _ => { m with sz := n }, μ := fun k => l.length - k }) fun n hn => ?_
  refine vc_by (X :=
      true = true ∧
      (∃ (a_1 : Nat),
      a_1 ≤ l.length ∧
      { π := m.π, sz := n, uf := m.uf : M } = { π := m.π, sz := n, uf := m.uf : M } ∧
      ((SV.val (Value.int IntKind.i64 (0 : Int)) = SV.val (Value.int IntKind.i64 (↑a_1 : Int)) ∧ true = true) ∧
      (SV.val (Value.int IntKind.i64 (↑l.length : Int)) = SV.val (Value.int IntKind.i64 (↑l.length : Int)) ∧ true = true) ∧
      (SV.val (Value.slice a l.length c) = SV.val (Value.slice a l.length c) ∧ true = true) ∧
      (SV.val (Value.int IntKind.u64 (0 : Int)) = SV.val (Value.int IntKind.u64 (wideLo (sumI (List.take a_1 l)))) ∧ true = true) ∧
      (SV.val (Value.int IntKind.u64 (0 : Int)) = SV.val (Value.int IntKind.u64 (IntKind.u64.wrap (sumI (List.take a_1 l) / (18446744073709551616 : Int)))) ∧
      true = true) ∧
      True) ∧
      True) ∧
      ∀ (a_1 : Nat),
      a_1 ≤ l.length →
      ifB (decide ((↑a_1 : Int) < (↑l.length : Int)))
      (∃ (b : Nat),
      ∃ (off : Nat),
      a = some { block := b, off := off : Addr } ∧
      ((0 : Int) ≤ (↑a_1 : Int) ∧ (↑a_1 : Int) < (↑l.length : Int)) ∧
      ∃ (n_1 : Int),
      CellsAt { π := m.π, sz := n, uf := m.uf : M } b (off + (↑a_1 : Int).toNat * (1 : Nat)) [Value.int IntKind.i64 n_1] ∧
      ∃ (n_2 : Int),
      ∃ (n_3 : Int),
      CallV Try.prog (84 : Nat)
      [Value.int IntKind.u64 (wideLo (sumI (List.take a_1 l))), Value.int IntKind.u64 (IntKind.u64.wrap n_1), Value.int IntKind.u64 (0 : Int)]
      (Value.tuple #[Value.int IntKind.u64 n_2, Value.int IntKind.u64 n_3]) ∧
      ∃ (n_4 : Int),
      ∃ (n_5 : Int),
      CallV Try.prog (84 : Nat)
      [Value.int IntKind.u64 (IntKind.u64.wrap (sumI (List.take a_1 l) / (18446744073709551616 : Int))),
      Value.int IntKind.u64 (IntKind.u64.wrap (n_1.fdiv ((2 : Int) ^ (63 : Nat)))), Value.int IntKind.u64 n_3]
      (Value.tuple #[Value.int IntKind.u64 n_4, Value.int IntKind.u64 n_5]) ∧
      ∃ (a' : Nat),
      (a' ≤ l.length ∧
      { π := m.π, sz := n, uf := m.uf : M } = { π := m.π, sz := n, uf := m.uf : M } ∧
      ((SV.val (Value.int IntKind.i64 (IntKind.i64.wrap ((↑a_1 : Int) + (1 : Int)))) = SV.val (Value.int IntKind.i64 (↑a' : Int)) ∧
      true = true) ∧
      (SV.val (Value.int IntKind.i64 (↑l.length : Int)) = SV.val (Value.int IntKind.i64 (↑l.length : Int)) ∧ true = true) ∧
      (SV.val (Value.slice a l.length c) = SV.val (Value.slice a l.length c) ∧ true = true) ∧
      (SV.val (Value.int IntKind.u64 n_2) = SV.val (Value.int IntKind.u64 (wideLo (sumI (List.take a' l)))) ∧ true = true) ∧
      (SV.val (Value.int IntKind.u64 n_4) =
      SV.val (Value.int IntKind.u64 (IntKind.u64.wrap (sumI (List.take a' l) / (18446744073709551616 : Int)))) ∧
      true = true) ∧
      True) ∧
      True) ∧
      l.length - a' < l.length - a_1)
      (ifB
      (IntKind.u64.wrap (sumI (List.take a_1 l) / (18446744073709551616 : Int)) !=
      IntKind.u64.wrap ((IntKind.i64.wrap (wideLo (sumI (List.take a_1 l)))).fdiv ((2 : Int) ^ (63 : Nat))))
      (Done
      (Value.tuple #[Value.int IntKind.i64 (0 : Int), Value.int IntKind.i64 (10 : Int)] =
      Value.tuple #[Value.int IntKind.i64 (if In64 (sumI l) then sumI l else (0 : Int)), Value.int IntKind.i64 (if In64 (sumI l) then (0 : Int) else (10 : Int))]))
      (Done
      (Value.tuple #[Value.int IntKind.i64 (IntKind.i64.wrap (wideLo (sumI (List.take a_1 l)))), Value.int IntKind.i64 (0 : Int)] =
      Value.tuple #[Value.int IntKind.i64 (if In64 (sumI l) then sumI l else (0 : Int)), Value.int IntKind.i64 (if In64 (sumI l) then (0 : Int) else (10 : Int))])))) (by kernel_rfl) ?_
  have h' := h.sz hn
  refine ⟨rfl, ⟨0, by simp [sumI, wideLo, IntKind.wrap_u64]⟩, fun k hk => ifB_intro (fun hb => ?_) (fun hb => ?_)⟩
  · have hk2 : k < l.length := by simpa using hb
    obtain ⟨b, o, rfl, hc⟩ := h'.cells (by rw [ints_len]; omega)
    have hx := hl _ (List.getElem_mem hk2)
    unfold In64 at hx
    refine ⟨b, o, rfl, by omega, l[k], by simpa using ints_at hc hk2, _, _, add64 _ _ _ (by unfold wideLo; omega) (by simp [IntKind.wrap_u64]; omega) (.inl rfl), _, _, add64 _ _ _ (by simp [IntKind.wrap_u64]; omega) (by simp [IntKind.wrap_u64]; omega) (by unfold wideLo; simp [IntKind.wrap_u64]; omega), k + 1, ⟨hk2, rfl, ⟨⟨?_, rfl⟩, by simp, by simp, ⟨?_, rfl⟩, ⟨?_, rfl⟩, trivial⟩, trivial⟩, by omega⟩
    · simp [IntKind.wrap_i64]; omega
    · rw [sumI_take l k hk2]; simp [wideLo, IntKind.wrap_u64]
    · rw [sumI_take l k hk2, ofNat63]
      have hi : (sumI (l.take k) + l[k]) / 18446744073709551616 = sumI (l.take k) / 18446744073709551616 + l[k] / 9223372036854775808 + (wideLo (sumI (l.take k)) + IntKind.u64.wrap l[k] + 0) / 18446744073709551616 := by simp [wideLo, IntKind.wrap_u64]; omega
      rw [hi]
      generalize sumI (l.take k) / 18446744073709551616 = p
      generalize l[k] / 9223372036854775808 = r
      generalize (wideLo (sumI (l.take k)) + IntKind.u64.wrap l[k] + 0) / 18446744073709551616 = t
      simp [IntKind.wrap_u64]; omega
  · have : k = l.length := by simp at hb; omega
    subst this
    rw [List.take_length, ofNat63]
    have hb := sumI_bound l hl
    by_cases hin : In64 (sumI l)
    · rw [if_pos hin, if_pos hin]
      unfold In64 at hin
      refine ifB_intro (fun h => ?_) (fun h => ⟨?_⟩)
      · simp [wideLo, IntKind.wrap_u64, IntKind.wrap_i64] at h; omega
      · simp [wideLo, IntKind.wrap_i64]; omega
    · rw [if_neg hin, if_neg hin]
      unfold In64 at hin
      refine ifB_intro (fun h => ⟨rfl⟩) (fun h => ?_)
      · simp [wideLo, IntKind.wrap_u64, IntKind.wrap_i64] at h; omega

/-- what the first k parts have together -/
def shareS (a b : Int) (k : Nat) : Int := k * (a / b) + min (k : Int) (a % b)

theorem share_at (a b : Int) (k : Nat) (h1 : 1 ≤ b) (h2 : (k : Int) < b) : shareV a b k = a / b + (if (k : Int) < a % b then 1 else 0) := by
  have : ¬ (b < 1 ∨ (k : Int) < 0 ∨ b ≤ k) := by omega
  unfold shareV
  rw [if_neg this]
  split <;> simp

theorem share_step (a b : Int) (k : Nat) (h1 : 1 ≤ b) (h2 : (k : Int) < b) : shareS a b (k + 1) = shareS a b k + shareV a b k := by
  rw [share_at a b k h1 h2]
  unfold shareS
  push_cast
  rw [Int.add_mul, Int.one_mul]
  split <;> omega

theorem sumI_append (a b : List Int) : sumI (a ++ b) = sumI a + sumI b := by
  unfold sumI
  rw [List.foldl_append, foldl_add]

theorem sumI_reverse (l : List Int) : sumI l.reverse = sumI l := by
  induction l with
  | nil => rfl
  | cons x r ih =>
    rw [List.reverse_cons, sumI_append, ih, show x :: r = [x] ++ r from rfl, sumI_append]
    omega

structure OrdX where
  j : Nat
  a : Option Addr
  c : Nat
  m : M

def ordAnn (a : Option Addr) (c : Nat) (l : List Int) (k : Int) (m : M) : Ann where
  A := OrdX
  inv x := x.j ≤ l.length ∧ OwnB m.sz (fun _ => False) x.m 1 x.a x.j x.c (ints (l.reverse.take x.j)) ∧ Agree m.sz m x.m
  st x := [(6, .val (I ((l.length : Int) - 1 - x.j))), (5, .val (.slice x.a x.j x.c)), (0, .val (.slice a l.length c)), (1, .val (I k))]
  own _ := []
  m x := x.m
  μ x := l.length - x.j

end Go.Proofs.Ytfkielfnceeedaa
set_option linter.unusedVariables false
set_option linter.unusedSimpArgs false
namespace Go.Proofs.Ytfkielfnceeedaa
open Go.Vc Go.RowKit Go.ChangeShapes Go.WideShapes Go.ChangeAt
set_option maxRecDepth 100000

theorem bulk_mem {H : Type} {d : DataW H} : ∀ {l : List (DataW H)}, d ∈ l → Rows.uptoBulk d ≤ Rows.uptoBulkAll l
  | x :: r, h => by
    simp only [Rows.uptoBulkAll]
    rcases List.mem_cons.1 h with e | e
    · subst e; omega
    · have := bulk_mem e; omega

theorem bulk_pos {H : Type} (d : DataW H) : 1 ≤ Rows.uptoBulk d := by
  cases d with
  | lit l => cases l <;> simp [Rows.uptoBulk]
  | _ => simp [Rows.uptoBulk]

theorem bulk_len {H : Type} : ∀ (l : List (DataW H)), l.length ≤ Rows.uptoBulkAll l
  | [] => by simp
  | x :: r => by have := bulk_pos x; have := bulk_len r; simp only [Rows.uptoBulkAll, List.length_cons]; omega

theorem bound_upto (H : Type) : Bound (H := H) 1048576 (fun d => Rows.uptoBulk d ≤ 1048576) where
  str l h _ := by simp [Rows.uptoBulk] at h; omega
  sl el sp h := by
    simp only [Rows.uptoBulk] at h
    have h1 := bulk_len el
    have h2 := bulk_len sp
    refine ⟨fun _ => by omega, fun x hx => ?_⟩
    rcases hx with hx | hx
    · have := bulk_mem hx; omega
    · have := bulk_mem hx; omega
  agg ps h x hx := by simp only [Rows.uptoBulk] at h; have := bulk_mem hx; omega

theorem bound_any (H : Type) : Bound (H := H) 9223372036854775807 (fun _ => True) where
  str l _ h := h
  sl el sp _ := ⟨fun h => h, fun _ _ => trivial⟩
  agg ps _ x _ := trivial

variable {H : Type} {enc : TypeId × Value → H} {W : World} {r : Reach} {b0 : Nat} {v : Value} {d : DataW H} {p : List MemPlace} {N : Nat} {Bd : DataW H → Prop}

theorem in64_of {n : Int} (h : IntKind.min .i64 ≤ n ∧ n ≤ IntKind.max .i64) : In64 n := by
  simpa [In64, IntKind.min, IntKind.max, IntKind.signed, IntKind.bits] using h

theorem open_i (hv : Value.okWide Try.prog W r b0 3 v) (h : DataW.Trod enc Try.prog W 0 (fun _ => true) true 3 v d p) : ∃ n : Int, v = I n ∧ In64 n := by
  obtain ⟨n, rfl⟩ := okWide_int Try.underlying3 hv
  obtain ⟨fuel, hf⟩ := h
  obtain ⟨n', hn, -, hw⟩ := DataW.trod_int Try.underlying3 hf
  cases hn
  exact ⟨n, rfl, in64_of (by simpa [Lit.wf] using hw)⟩

theorem open_b (hv : Value.okWide Try.prog W r b0 4 v) : ∃ b : Bool, v = .bool b := okWide_bool Try.underlying4 hv

theorem open_s (B : Bound N Bd) (hv : Value.okWide Try.prog W r b0 9 v) (h : DataW.Trod enc Try.prog W 0 (fun _ => true) true 9 v d p) (hb : Bd d) : ∃ s : ByteArray, v = .string s ∧ s.size ≤ N := by
  obtain ⟨s, rfl⟩ := okWide_string Try.underlying9 hv
  obtain ⟨fuel, hf⟩ := h
  have hr := rd_of_trod B 1 fuel 9 _ _ hf hb
  have e := Try.underlying9
  simp only [Rd, e] at hr
  obtain ⟨s', hs, hl⟩ := hr
  simp [Value.cells] at hs
  subst hs
  exact ⟨s, rfl, hl⟩

/-- a struct's cells -/
theorem open_agg {fs : Array Field} {t : TypeId} {k : Nat} (ht : Try.prog.underlying t = some (.struct fs)) (hk : Try.prog.cellsOf t = k) (hv : Value.okWide Try.prog W r b0 t v) : ∃ cs : List Value, v = .agg cs.toArray ∧ cs.length = k := by
  obtain ⟨cs, rfl, hs⟩ := okWide_struct ht hv
  exact ⟨cs.toList, by simp, by simpa using hs.trans hk⟩

/-- the rows of a list, one by one -/
theorem rows_list {α : Type} {e : α → List Value} {p : α → Prop} : ∀ (rows : List (List Value)), (∀ r ∈ rows, ∃ x : α, r = e x ∧ p x) → ∃ z : List α, z.length = rows.length ∧ rows.flatten = z.flatMap e ∧ ∀ x ∈ z, p x
  | [], _ => ⟨[], rfl, rfl, fun x hx => by simp at hx⟩
  | r :: rs, h => by
    obtain ⟨z, h1, h2, h3⟩ := rows_list rs fun r hr => h r (by simp [hr])
    obtain ⟨n, rfl, hn⟩ := h r (by simp)
    refine ⟨n :: z, by simp [h1], by simp only [List.flatten_cons, h2, List.flatMap_cons], fun x hx => ?_⟩
    rcases List.mem_cons.1 hx with e | e
    · subst e; exact hn
    · exact h3 x e

theorem open_ints (B : Bound N Bd) (hv : Value.okWide Try.prog W r b0 64 v) (h : DataW.Trod enc Try.prog W 0 (fun _ => true) true 64 v d p) (hb : Bd d) :
    ∃ (a : Option Addr) (c : Nat) (z : List Int), v = .slice a z.length c ∧ z.length ≤ N ∧ (∀ x ∈ z, In64 x) ∧ Row (M.all W) a (ints z) := by
  obtain ⟨a, len, cap, rfl⟩ := okWide_slice Try.underlying64 hv
  obtain ⟨fuel, hf⟩ := h
  have hr := rd_of_trod B 2 fuel 64 _ _ hf hb
  simp only [Rd, Try.underlying64, Try.underlying3] at hr
  obtain ⟨a', cap', rows, hcs, h1, h2, h3, h4, h5⟩ := hr
  obtain ⟨z, hz, he, hi⟩ := rows_list (α := Int) (e := fun n => [I n]) (p := In64) rows fun r hr => by
    obtain ⟨-, n, hn, hw⟩ := h4 r hr
    exact ⟨n, hn, in64_of hw⟩
  simp [Value.cells] at hcs
  obtain ⟨rfl, rfl, rfl⟩ := hcs
  rw [he] at h5
  exact ⟨a, cap, z, by rw [hz], by omega, hi, h5⟩

end Go.Proofs.Ytfkielfnceeedaa
set_option linter.unusedVariables false
set_option linter.unusedSimpArgs false
namespace Go.Proofs.Ytfkielfnceeedaa
open Go.Vc Go.RowKit Go.ChangeShapes Go.WideShapes Go.ChangeAt
set_option maxRecDepth 100000

structure Rt where
  g : Int
  ky : ByteArray
  le : Int
  ne : Int

def Rt.wf (x : Rt) : Prop := In64 x.g ∧ x.ky.size ≤ 9223372036854775807 ∧ In64 x.le ∧ In64 x.ne

abbrev encRt (x : Rt) : List Value := [I x.g, .string x.ky, I x.le, I x.ne]

abbrev rtv (x : Rt) : Value := .agg #[I x.g, .string x.ky, I x.le, I x.ne]

abbrev rts (l : List Rt) : List Value := l.flatMap encRt

theorem rt_k (x : Rt) : (encRt x).length = 4 := rfl

theorem rt_len (l : List Rt) : (rts l).length = l.length * 4 := flat_len rt_k l

theorem rt_at {m : M} {b o i : Nat} {l : List Rt} (h : CellsAt m b o (rts l)) (hi : i < l.length) : CellsAt m b (o + i * 4) (encRt l[i]) := CellsAt.elem rt_k l o i hi h

theorem rt_ext {a b : Rt} : a = b ↔ a.g = b.g ∧ a.ky = b.ky ∧ a.le = b.le ∧ a.ne = b.ne := by
  cases a; cases b; simp

instance : DecidableEq Rt := fun _ _ => decidable_of_iff' _ rt_ext

theorem rt_one (l : List Rt) : oneCells (rts l) = true := by
  rw [oneCells_iff]; intro v hv
  obtain ⟨w, -, hw⟩ := List.mem_flatMap.1 hv
  exact oneCells_iff.1 (rfl : oneCells (encRt w) = true) v hw

theorem rt_zr (k : Nat) : (zeroRow Try.prog 24 k).length = k * 4 := zrLen (by kernel_rfl) k

theorem rt_cells : Try.prog.cellsOf 24 = 4 := by kernel_rfl

theorem rt_rd {m : M} {N d : Nat} {cs : List Value} (h : Rd Try.prog m N (d + 2) 24 cs) (hN : N ≤ 9223372036854775807) : ∃ x : Rt, cs = encRt x ∧ x.wf := by
  have hc1 := (by kernel_rfl : Try.prog.cellsOf 9 = 1)
  have hc2 := (by kernel_rfl : Try.prog.cellsOf 3 = 1)
  simp only [Rd, Try.underlying24, Try.underlying9, Try.underlying3, fieldsD, rt_cells, hc1, hc2] at h
  obtain ⟨hl, ⟨k1, e1, w1⟩, ⟨k2, e2, w2⟩, ⟨k3, e3, w3⟩, ⟨k4, e4, w4⟩, -⟩ := h
  obtain ⟨c1, c2, c3, c4, rfl⟩ : ∃ c1 c2 c3 c4, cs = [c1, c2, c3, c4] := by
    match cs, hl with
    | [c1, c2, c3, c4], _ => exact ⟨_, _, _, _, rfl⟩
  simp at e1 e2 e3 e4
  subst e1 e2 e3 e4
  exact ⟨⟨k1, k2, k3, k4⟩, rfl, in64_of w1, Nat.le_trans w2 hN, in64_of w3, in64_of w4⟩

theorem open_rt {H : Type} {enc : TypeId × Value → H} {W : World} {r : Reach} {b0 : Nat} {v : Value} {d : DataW H} {p : List MemPlace} {N : Nat} {Bd : DataW H → Prop} (B : Bound N Bd) (hN : N ≤ 9223372036854775807) (hv : Value.okWide Try.prog W r b0 24 v) (h : DataW.Trod enc Try.prog W 0 (fun _ => true) true 24 v d p) (hb : Bd d) : ∃ x : Rt, v = rtv x ∧ x.wf := by
  obtain ⟨cs, rfl, hl⟩ := open_agg Try.underlying24 rt_cells hv
  obtain ⟨fuel, hf⟩ := h
  have hr := rd_of_trod B 2 fuel 24 _ _ hf hb
  simp only [Value.cells] at hr
  obtain ⟨x, he, hw⟩ := rt_rd (d := 0) hr hN
  exact ⟨x, by rw [show cs = encRt x from he], hw⟩

theorem open_rts {H : Type} {enc : TypeId × Value → H} {W : World} {r : Reach} {b0 : Nat} {v : Value} {d : DataW H} {p : List MemPlace} {N : Nat} {Bd : DataW H → Prop} (B : Bound N Bd) (hN : N ≤ 9223372036854775807) (hv : Value.okWide Try.prog W r b0 22 v) (h : DataW.Trod enc Try.prog W 0 (fun _ => true) true 22 v d p) (hb : Bd d) :
    ∃ (a : Option Addr) (c : Nat) (z : List Rt), v = .slice a z.length c ∧ z.length ≤ N ∧ (∀ x ∈ z, x.wf) ∧ (a = none → z = []) ∧ Row (M.all W) a (rts z) := by
  obtain ⟨a, len, cap, rfl⟩ := okWide_slice Try.underlying22 hv
  obtain ⟨fuel, hf⟩ := h
  have hr := rd_of_trod B 3 fuel 22 _ _ hf hb
  rw [Rd] at hr
  simp only [Try.underlying22] at hr
  obtain ⟨a', cap', rows, hcs, h1, h2, h3, h4, h5⟩ := hr
  obtain ⟨z, hz, he, hi⟩ := rows_list (α := Rt) (e := encRt) (p := Rt.wf) rows fun r hr => rt_rd (d := 0) (h4 r hr).2 hN
  simp [Value.cells] at hcs
  obtain ⟨rfl, rfl, rfl⟩ := hcs
  rw [he] at h5
  exact ⟨a, cap, z, by rw [hz], by omega, hi, fun e => List.eq_nil_of_length_eq_zero (by have := h3 e; omega), h5⟩

theorem rt_plain (a a2 : Option Addr) (c c2 : Nat) (l l2 : List Rt) (hn1 : l.length ≤ 9223372036854775807) (m : M) (h : Row m a (rts l)) (h2 : Row m a2 (rts l2)) :
    QSpec Try.prog 15 [.slice a l.length c, .slice a2 l2.length c2] m (.bool (decide (l = l2))) := by
  refine QSpec.of_vc Try.func15 (ann := fun n _ => { A := Nat, inv := fun k => k ≤ l.length ∧ l.take k = l2.take k, st := fun k => [(5, .val (I k)), (0, .val (.slice a l.length c)), (1, .val (.slice a2 l2.length c2))], own := fun _ => [], m := fun _ => { m with sz := n }, μ := fun k => (l.length - k) }) fun n hn => ?_
  refine vc_by (X :=
      true = true ∧
      ifB ((↑l.length : Int) != (↑l2.length : Int)) (Done (Value.bool false = Value.bool (decide (l = l2))))
      ((∃ (a_1 : Nat),
      (a_1 ≤ l.length ∧ List.take a_1 l = List.take a_1 l2) ∧
      { π := m.π, sz := n, uf := m.uf : M } = { π := m.π, sz := n, uf := m.uf : M } ∧
      ((SV.val (Value.int IntKind.i64 (0 : Int)) = SV.val (Value.int IntKind.i64 (↑a_1 : Int)) ∧ true = true) ∧
      (SV.val (Value.slice a l.length c) = SV.val (Value.slice a l.length c) ∧ true = true) ∧
      (SV.val (Value.slice a2 l2.length c2) = SV.val (Value.slice a2 l2.length c2) ∧ true = true) ∧ True) ∧
      True) ∧
      ∀ (a_1 : Nat),
      a_1 ≤ l.length ∧ List.take a_1 l = List.take a_1 l2 →
      ifB (decide ((↑a_1 : Int) < (↑l.length : Int)))
      (true = true ∧
      ∃ (b : Nat),
      ∃ (off : Nat),
      a = some { block := b, off := off : Addr } ∧
      ((0 : Int) ≤ (↑a_1 : Int) ∧ (↑a_1 : Int) < (↑l.length : Int)) ∧
      ∃ (n_1 : Int),
      ∃ (s : ByteArray),
      ∃ (n_2 : Int),
      ∃ (n_3 : Int),
      CellsAt { π := m.π, sz := n, uf := m.uf : M } b (off + (↑a_1 : Int).toNat * (4 : Nat))
      [Value.int IntKind.i64 n_1, Value.string s, Value.int IntKind.i64 n_2, Value.int IntKind.i64 n_3] ∧
      ∃ (b : Nat),
      ∃ (off : Nat),
      a2 = some { block := b, off := off : Addr } ∧
      ((0 : Int) ≤ (↑a_1 : Int) ∧ (↑a_1 : Int) < (↑l2.length : Int)) ∧
      ∃ (n_4 : Int),
      ∃ (s_1 : ByteArray),
      ∃ (n_5 : Int),
      ∃ (n_6 : Int),
      CellsAt { π := m.π, sz := n, uf := m.uf : M } b (off + (↑a_1 : Int).toNat * (4 : Nat))
      [Value.int IntKind.i64 n_4, Value.string s_1, Value.int IntKind.i64 n_5, Value.int IntKind.i64 n_6] ∧
      ifB (!(n_1 == n_4 && (s.toList == s_1.toList && (n_2 == n_5 && (n_3 == n_6 && true)))))
      (Done (Value.bool false = Value.bool (decide (l = l2))))
      (∃ (a' : Nat),
      ((a' ≤ l.length ∧ List.take a' l = List.take a' l2) ∧
      { π := m.π, sz := n, uf := m.uf : M } = { π := m.π, sz := n, uf := m.uf : M } ∧
      ((SV.val (Value.int IntKind.i64 (IntKind.i64.wrap ((↑a_1 : Int) + (1 : Int)))) =
      SV.val (Value.int IntKind.i64 (↑a' : Int)) ∧
      true = true) ∧
      (SV.val (Value.slice a l.length c) = SV.val (Value.slice a l.length c) ∧ true = true) ∧
      (SV.val (Value.slice a2 l2.length c2) = SV.val (Value.slice a2 l2.length c2) ∧ true = true) ∧ True) ∧
      True) ∧
      l.length - a' < l.length - a_1))
      (Done (Value.bool true = Value.bool (decide (l = l2)))))) (by kernel_rfl) ?_
  have h' := h.sz hn
  have h2' := h2.sz hn
  refine ⟨rfl, ifB_intro (fun hb => ⟨?_⟩) (fun hb => ⟨⟨0, by simp⟩, fun k hk => ifB_intro (fun hb2 => ?_) (fun hb2 => ⟨?_⟩)⟩)⟩
  · have : l ≠ l2 := fun e => by subst e; simp at hb
    simp [this]
  · have hlen : l.length = l2.length := by simp at hb; omega
    have hk2 : k < l.length := by simpa using hb2
    obtain ⟨b, o, rfl, hc⟩ := h'.cells (by rw [rt_len]; omega)
    obtain ⟨b2, o2, rfl, hc2⟩ := h2'.cells (by rw [rt_len]; omega)
    have w1 : IntKind.i64.wrap ((k : Int) + 1) = ((k + 1 : Nat) : Int) := by simp [IntKind.wrap_i64]; omega
    refine ⟨rfl, b, o, rfl, by omega, _, _, _, _, by simpa using rt_at hc hk2, b2, o2, rfl, by omega, _, _, _, _, by simpa using rt_at hc2 (by omega : k < l2.length), ifB_intro (fun h3 => ⟨?_⟩) (fun h3 => ⟨k + 1, ⟨⟨hk2, ?_⟩, by simp [w1]⟩, by omega⟩)⟩
    · have : l ≠ l2 := fun e => by subst e; simp at h3
      simp [this]
    · have h3 : l[k] = l2[k] := by rw [rt_ext]; simpa [bytes_beq] using h3
      rw [List.take_succ_eq_append_getElem hk2, List.take_succ_eq_append_getElem (by omega : k < l2.length), hk.2, h3]
  · have hlen : l.length = l2.length := by simp at hb; omega
    have : k = l.length := by simp at hb2; omega
    have e := hk.2
    rw [this, List.take_length, hlen, List.take_length] at e
    simp [e]

theorem rt_clone (l : List Rt) (a : Option Addr) (c : Nat) (hn : l.length ≤ 3518437208870) (h0 : a = none → l = []) (m : M) (h : Row m a (rts l)) : Vc.Spec Try.prog 42 [.slice a l.length c] m (fun v m' => ∃ a' c', v = .slice a' l.length c' ∧ NewR m.sz (fun _ => False) m' 4 a' l.length c' (rts l)) := by
  refine Vc.Spec.of_vc Try.func42 (ann := noAnn) ?_
  refine vc_by (X :=
      true = true ∧
      ifB a.isNone
      (Done
      (∃ (a' : Option Addr),
      ∃ (c' : Nat), Value.slice none (0 : Nat) (0 : Nat) = Value.slice a' l.length c' ∧ NewR m.sz (fun (x : Nat) => False) m (4 : Nat) a' l.length c' (rts l)))
      (true = true ∧
      ∀ (b : Nat),
      m.sz ≤ b →
      ∃ (old : List Value),
      ∃ (src : List Value),
      AppPre m.sz (fun (x : Nat) => False) (m.newBlock b []) (4 : Nat) (40 : Nat) (some { block := b, off := (0 : Nat) : Addr }) (0 : Nat) (0 : Nat) a l.length old src ∧
      ∀ (a' : Option Addr) (c' : Nat) (m' : M),
      AppPost Try.prog (24 : Nat) (m.newBlock b []) (4 : Nat) (some { block := b, off := (0 : Nat) : Addr }) (0 : Nat) (0 : Nat) l.length old src a' c' m' →
      Done
      (∃ (a'_1 : Option Addr),
      ∃ (c'_1 : Nat),
      Value.slice a' ((0 : Nat) + l.length) c' = Value.slice a'_1 l.length c'_1 ∧ NewR m.sz (fun (x : Nat) => False) m' (4 : Nat) a'_1 l.length c'_1 (rts l)))) (by kernel_rfl) ?_
  refine ⟨rfl, ifB_intro (fun h1 => ⟨?_⟩) (fun h1 => ⟨rfl, fun b hb => ?_⟩)⟩
  · have : l = [] := h0 (by simpa using h1)
    subst this
    exact ⟨_, _, rfl, .nil _⟩
  · have ho : OwnB m.sz (fun _ => False) (m.newBlock b []) 4 (some ⟨b, 0, none⟩) 0 0 [] := OwnB.fresh hb rfl
    have hr : Row (m.newBlock b []) a (rts l) := h.newBlock hb
    refine ⟨_, _, ho.appPre hr (rt_len l) (rt_one l) (by omega), fun a' c' m' hp => ⟨a', c', by simp, .own ?_⟩⟩
    have := ho.append hp (rt_len l) rt_zr (by simp only [M.newBlock]; omega)
    simpa using this

theorem rt_own (a : Option Addr) (c : Nat) (l : List Rt) (mk : Rt) (hn : l.length ≤ 3518437208870) (m : M) (h : Row m a (rts l)) :
    Vc.Spec Try.prog 38 [.slice a l.length c, rtv mk] m (Owned m (rts l) (encRt mk ++ encRt mk) l.length (l.length + 2)) := by
  refine Vc.Spec.of_vc Try.func38 (ann := noAnn) ?_
  refine vc_by (X :=
      true = true ∧
      ((0 : Int) ≤ (0 : Int) ∧
      (0 : Int) ≤ IntKind.i64.wrap ((↑l.length : Int) + (2 : Int)) ∧
      (↑(40 : Nat) : Int) * IntKind.i64.wrap ((↑l.length : Int) + (2 : Int)) ≤ (281474976710656 : Int) ∧
      IntKind.i64.wrap ((↑l.length : Int) + (2 : Int)) ≤ (9223372036854775807 : Int)) ∧
      ∀ (b : Nat),
      m.sz ≤ b →
      ∃ (old : List Value),
      ∃ (src : List Value),
      AppPre m.sz (fun (x : Nat) => False)
      (m.newBlock b
      (madeCells #[Value.int IntKind.i64 (0 : Int), Value.string { data := #[] : ByteArray }, Value.int IntKind.i64 (0 : Int), Value.int IntKind.i64 (0 : Int)]
      ((IntKind.i64.wrap ((↑l.length : Int) + (2 : Int))).toNat * (4 : Nat))).toList)
      (4 : Nat) (40 : Nat) (some { block := b, off := (0 : Nat) : Addr }) (0 : Nat) (IntKind.i64.wrap ((↑l.length : Int) + (2 : Int))).toNat a l.length old src ∧
      ∀ (a' : Option Addr) (c' : Nat) (m' : M),
      AppPost Try.prog (24 : Nat)
      (m.newBlock b
      (madeCells #[Value.int IntKind.i64 (0 : Int), Value.string { data := #[] : ByteArray }, Value.int IntKind.i64 (0 : Int), Value.int IntKind.i64 (0 : Int)]
      ((IntKind.i64.wrap ((↑l.length : Int) + (2 : Int))).toNat * (4 : Nat))).toList)
      (4 : Nat) (some { block := b, off := (0 : Nat) : Addr }) (0 : Nat) (IntKind.i64.wrap ((↑l.length : Int) + (2 : Int))).toNat l.length old src a' c' m' →
      true = true ∧
      ∀ (b : Nat),
      m'.sz ≤ b →
      ∃ (old : List Value),
      ∃ (src : List Value),
      AppPre m.sz (fun (x : Nat) => False)
      (m'.newBlock b
      [Value.int IntKind.i64 mk.g, Value.string mk.ky, Value.int IntKind.i64 mk.le, Value.int IntKind.i64 mk.ne, Value.int IntKind.i64 mk.g,
      Value.string mk.ky, Value.int IntKind.i64 mk.le, Value.int IntKind.i64 mk.ne])
      (4 : Nat) (40 : Nat) a' ((0 : Nat) + l.length) c' (some { block := b, off := (0 : Nat) : Addr }) (2 : Nat) old src ∧
      ∀ (a'_1 : Option Addr) (c'_1 : Nat) (m'_1 : M),
      AppPost Try.prog (24 : Nat)
      (m'.newBlock b
      [Value.int IntKind.i64 mk.g, Value.string mk.ky, Value.int IntKind.i64 mk.le, Value.int IntKind.i64 mk.ne, Value.int IntKind.i64 mk.g,
      Value.string mk.ky, Value.int IntKind.i64 mk.le, Value.int IntKind.i64 mk.ne])
      (4 : Nat) a' ((0 : Nat) + l.length) c' (2 : Nat) old src a'_1 c'_1 m'_1 →
      (true = true ∧ (0 : Int) ≤ (0 : Int) ∧ (0 : Int) ≤ (↑l.length : Int) ∧ (↑l.length : Int) ≤ (↑c'_1 : Int) ∧ True) ∧
      Done
      (Owned m (rts l)
      [Value.int IntKind.i64 mk.g, Value.string mk.ky, Value.int IntKind.i64 mk.le, Value.int IntKind.i64 mk.ne, Value.int IntKind.i64 mk.g,
      Value.string mk.ky, Value.int IntKind.i64 mk.le, Value.int IntKind.i64 mk.ne]
      l.length (l.length + (2 : Nat))
      (Value.slice (if (↑c'_1 : Int).toNat = (0 : Nat) then a'_1 else Option.map (fun (x : Addr) => x) a'_1) ((↑l.length : Int).toNat - (0 : Nat))
      ((↑c'_1 : Int).toNat - (0 : Nat)))
      m'_1)) (by kernel_rfl) ?_
  have e : IntKind.i64.wrap ((l.length : Int) + 2) = ((l.length + 2 : Nat) : Int) := by simp [IntKind.wrap_i64]; omega
  rw [e]
  simp only [Int.toNat_natCast]
  refine ⟨trivial, by omega, fun b hb => ?_⟩
  obtain ⟨p1, p2⟩ := owned_calc (P := Try.prog) (e := 24) (size := 4) (bytes := 40) (len := l.length) (m := m) (b := b) (z := (madeCells #[I 0, .string .empty, I 0, I 0] ((l.length + 2) * 4)).toList) (cs := rts l) (marks := encRt mk ++ encRt mk) hb h (rt_len l) (rt_one l) rfl rfl rt_zr (by simp [madeCells]) (by omega)
  refine ⟨[], rts l, p1, fun a' c' m' hp => ⟨trivial, fun b2 hb2 => ?_⟩⟩
  obtain ⟨p3, p4⟩ := p2 a' c' m' hp b2 hb2
  refine ⟨rts l, encRt mk ++ encRt mk, p3, fun a'' c'' m'' hp2 => ?_⟩
  obtain ⟨rfl, rfl, q3, q5, q4⟩ := p4 a'' c'' m'' hp2
  exact ⟨⟨trivial, by omega, by omega, by omega, trivial⟩, ⟨⟨b, by simp, hb, q3, q5, q4⟩⟩⟩

theorem rt_kept (b : Nat) (l : List Rt) (a2 : Option Addr) (c2 : Nat) (mk : Rt) (hn : l.length ≤ 3518437208870) (m : M) (hb : b < m.sz) (h : CellsAt m b 0 (rts l ++ (encRt mk ++ encRt mk))) (h2 : Row m a2 (rts l)) :
    QSpec Try.prog 46 [.slice (some ⟨b, 0, none⟩) l.length (l.length + 2), .slice a2 l.length c2, rtv mk] m (.bool true) := by
  refine QSpec.of_vc Try.func46 (ann := fun _ => noAnn) fun n hn => ?_
  refine vc_by (X :=
      true = true ∧
      ifB ((↑l.length : Int) != (↑l.length : Int)) (Done (Value.bool false = Value.bool true))
      (ifB (decide ((↑(l.length + (2 : Nat)) : Int) < IntKind.i64.wrap ((↑l.length : Int) + (2 : Int)))) (Done (Value.bool false = Value.bool true))
      ((true = true ∧
      (0 : Int) ≤ (0 : Int) ∧
      (0 : Int) ≤ IntKind.i64.wrap ((↑l.length : Int) + (2 : Int)) ∧ IntKind.i64.wrap ((↑l.length : Int) + (2 : Int)) ≤ (↑(l.length + (2 : Nat)) : Int) ∧ True) ∧
      true = true ∧
      ∃ (b_1 : Bool),
      QSpec Try.prog (15 : Nat) [Value.slice (some { block := b, off := (0 : Nat) : Addr }) l.length (l.length + (2 : Nat)), Value.slice a2 l.length c2]
      { π := m.π, sz := n, uf := m.uf : M } (Value.bool b_1) ∧
      ifB b_1
      (∃ (b_2 : Nat),
      ∃ (off : Nat),
      some { block := b, off := (0 : Nat) : Addr } = some { block := b_2, off := off : Addr } ∧
      ((0 : Int) ≤ (↑l.length : Int) ∧ (↑l.length : Int) < (↑((IntKind.i64.wrap ((↑l.length : Int) + (2 : Int))).toNat - (0 : Nat)) : Int)) ∧
      ∃ (n_1 : Int),
      ∃ (s : ByteArray),
      ∃ (n_2 : Int),
      ∃ (n_3 : Int),
      CellsAt { π := m.π, sz := n, uf := m.uf : M } b_2 (off + (↑l.length : Int).toNat * (4 : Nat))
      [Value.int IntKind.i64 n_1, Value.string s, Value.int IntKind.i64 n_2, Value.int IntKind.i64 n_3] ∧
      ifB (n_1 == mk.g && (s.toList == mk.ky.toList && (n_2 == mk.le && (n_3 == mk.ne && true))))
      (∃ (b_3 : Nat),
      ∃ (off : Nat),
      some { block := b, off := (0 : Nat) : Addr } = some { block := b_3, off := off : Addr } ∧
      ((0 : Int) ≤ IntKind.i64.wrap ((↑l.length : Int) + (1 : Int)) ∧
      IntKind.i64.wrap ((↑l.length : Int) + (1 : Int)) < (↑((IntKind.i64.wrap ((↑l.length : Int) + (2 : Int))).toNat - (0 : Nat)) : Int)) ∧
      ∃ (n_4 : Int),
      ∃ (s : ByteArray),
      ∃ (n_5 : Int),
      ∃ (n_6 : Int),
      CellsAt { π := m.π, sz := n, uf := m.uf : M } b_3 (off + (IntKind.i64.wrap ((↑l.length : Int) + (1 : Int))).toNat * (4 : Nat))
      [Value.int IntKind.i64 n_4, Value.string s, Value.int IntKind.i64 n_5, Value.int IntKind.i64 n_6] ∧
      Done (Value.bool (n_4 == mk.g && (s.toList == mk.ky.toList && (n_5 == mk.le && (n_6 == mk.ne && true)))) = Value.bool true))
      (Done (Value.bool false = Value.bool true)))
      (Done (Value.bool false = Value.bool true))))) (by kernel_rfl) ?_
  have e : IntKind.i64.wrap ((l.length : Int) + 2) = ((l.length + 2 : Nat) : Int) := by simp [IntKind.wrap_i64]; omega
  have e1 : IntKind.i64.wrap ((l.length : Int) + 1) = ((l.length + 1 : Nat) : Int) := by simp [IntKind.wrap_i64]; omega
  rw [e, e1]
  simp only [Int.toNat_natCast]
  have hk := h.drop
  rw [rt_len] at hk
  have k1 : CellsAt m b (0 + l.length * 4) (encRt mk) := hk.take
  have k2 : CellsAt m b (0 + (l.length + 1) * 4) (encRt mk) := by
    have := hk.drop (cs := encRt mk)
    rw [show 0 + (l.length + 1) * 4 = 0 + l.length * 4 + (encRt mk).length by rw [rt_k]; omega]
    exact this
  have hq := rt_plain (some ⟨b, 0, none⟩) a2 (l.length + 2) c2 l l (by omega) { m with sz := n } (.at _ _ _ (Nat.lt_of_lt_of_le hb hn) ⟨h.take.out⟩) (h2.sz hn)
  refine ⟨trivial, ifB_intro (fun h3 => by simp at h3) (fun h3 => ifB_intro (fun h4 => by simp at h4) (fun h4 => ⟨⟨trivial, by omega, by omega, by omega, trivial⟩, trivial, _, hq, ?_⟩))⟩
  have et : decide (l = l) = true := by simp
  rw [et]
  refine ifB_true ⟨b, 0, rfl, by constructor <;> simp <;> omega, _, _, _, _, ⟨k1.out⟩, ifB_intro (fun h5 => ⟨b, 0, rfl, by constructor <;> simp <;> omega, _, _, _, _, ⟨k2.out⟩, ⟨by simp⟩⟩) (fun h5 => by simp at h5)⟩

theorem rt_keptr (b : Nat) (l : List Rt) (a2 : Option Addr) (c2 : Nat) (mk : Rt) (hn : l.length ≤ 3518437208870) (m : M) (h : Row m (some ⟨b, 0, none⟩) (rts l ++ (encRt mk ++ encRt mk))) (h2 : Row m a2 (rts l)) :
    QSpec Try.prog 46 [.slice (some ⟨b, 0, none⟩) l.length (l.length + 2), .slice a2 l.length c2, rtv mk] m (.bool true) := by
  obtain ⟨b', o, e, hc⟩ := h.cells (by simp)
  cases e
  exact rt_kept b l a2 c2 mk hn m (h.lt (by simp) rfl) hc h2

end Go.Proofs.Ytfkielfnceeedaa
set_option linter.unusedVariables false
set_option linter.unusedSimpArgs false
namespace Go.Proofs.Ytfkielfnceeedaa
open Go.Vc Go.RowKit

structure Hd where
  nd : Int
  le : Int
  up : Int
  dn : Int

structure Lk where
  cl : Int
  sq : Int
  hm : Int
  n : Int

structure Ac where
  key : ByteArray
  lo : Int
  hi : Int
  base : Int
  round : Int
  hs : List Hd
  lk : Lk

def Hd.wf (h : Hd) : Prop := In64 h.nd ∧ In64 h.le ∧ In64 h.up ∧ In64 h.dn

def Lk.wf (h : Lk) : Prop := In64 h.cl ∧ In64 h.sq ∧ In64 h.hm ∧ In64 h.n

structure Ac.wf (x : Ac) : Prop where
  key : x.key.size ≤ 9223372036854775807
  lo : In64 x.lo
  hi : In64 x.hi
  base : In64 x.base
  round : In64 x.round
  hs : ∀ h ∈ x.hs, h.wf
  len : x.hs.length ≤ 9223372036854775807
  lk : x.lk.wf

abbrev encH (h : Hd) : List Value := [I h.nd, I h.le, I h.up, I h.dn]

abbrev hds (l : List Hd) : List Value := l.flatMap encH

abbrev lkc (k : Lk) : List Value := [I k.cl, I k.sq, I k.hm, I k.n]

abbrev acc (x : Ac) (a : Option Addr) (c : Nat) : List Value := [.string x.key, I x.lo, I x.hi, I x.base, I x.round, .slice a x.hs.length c, I x.lk.cl, I x.lk.sq, I x.lk.hm, I x.lk.n]

abbrev acv (x : Ac) (a : Option Addr) (c : Nat) : Value := .agg #[.string x.key, I x.lo, I x.hi, I x.base, I x.round, .slice a x.hs.length c, I x.lk.cl, I x.lk.sq, I x.lk.hm, I x.lk.n]

theorem hds_len (l : List Hd) : (hds l).length = l.length * 4 := by
  induction l with
  | nil => rfl
  | cons x r ih => simp only [hds, List.flatMap_cons, List.length_append, List.length_cons, List.length_nil] at *; omega

theorem hd_at {m : M} {b o i : Nat} {l : List Hd} (h : CellsAt m b o (hds l)) (hi : i < l.length) : CellsAt m b (o + i * 4) (encH l[i]) :=
  CellsAt.elem (k := 4) (enc := encH) (fun _ => rfl) l o i hi h

def hdB (last : Int) (h : Hd) : Bool := decide (last < h.nd) && decide (h.nd ≤ 5) && decide (1 ≤ h.le) && decide (0 ≤ h.up) && decide (0 ≤ h.dn)

def holdB : Int → List Hd → Bool
  | _, [] => true
  | last, h :: r => hdB last h && holdB h.nd r

def lastNd (l : List Hd) : Nat → Int
  | 0 => 0
  | k + 1 => match l[k]? with | some h => h.nd | none => 0

theorem holdB_drop {l : List Hd} {k : Nat} (hk : k < l.length) (last : Int) : holdB last (l.drop k) = (hdB last l[k] && holdB l[k].nd (l.drop (k + 1))) := by
  rw [List.drop_eq_getElem_cons hk]; rfl

theorem lastNd_succ {l : List Hd} {k : Nat} (hk : k < l.length) : lastNd l (k + 1) = l[k].nd := by
  simp [lastNd, List.getElem?_eq_getElem hk]

theorem hold_bounds : ∀ (l : List Hd) (last : Int), holdB last l = true → (l.length : Int) ≤ 5 - last ∨ l = []
  | [], _, _ => .inr rfl
  | h :: r, last, hb => by
    simp only [holdB, hdB, Bool.and_eq_true, decide_eq_true_eq] at hb
    left
    rcases hold_bounds r h.nd hb.2 with h1 | rfl
    · simp only [List.length_cons]; omega
    · simp only [List.length_cons, List.length_nil]; omega

theorem hold_len {l : List Hd} (h : holdB 0 l = true) : l.length ≤ 5 := by
  rcases hold_bounds l 0 h with h1 | rfl
  · omega
  · simp

theorem holders_q (a : Option Addr) (c : Nat) (l : List Hd) (hn : l.length ≤ 9223372036854775807) (m : M) (h : Row m a (hds l)) :
    QSpec Try.prog 87 [.slice a l.length c] m (.bool (holdB 0 l)) := by
  refine QSpec.of_vc Try.func87 (ann := fun n _ => { A := Nat, inv := fun k => k ≤ l.length ∧ holdB 0 l = holdB (lastNd l k) (l.drop k), st := fun k => [(8, .val (I k)), (7, .val (I l.length)), (6, .val (.slice a l.length c)), (3, .val (I (lastNd l k)))], own := fun _ => [], m := fun _ => { m with sz := n }, μ := fun k => l.length - k }) fun n hn => ?_
  refine vc_by (X :=
      true = true ∧
      (∃ (a_1 : Nat),
      (a_1 ≤ l.length ∧ holdB (0 : Int) l = holdB (lastNd l a_1) (List.drop a_1 l)) ∧
      { π := m.π, sz := n, uf := m.uf : M } = { π := m.π, sz := n, uf := m.uf : M } ∧
      ((SV.val (Value.int IntKind.i64 (0 : Int)) = SV.val (Value.int IntKind.i64 (↑a_1 : Int)) ∧ true = true) ∧
      (SV.val (Value.int IntKind.i64 (↑l.length : Int)) = SV.val (Value.int IntKind.i64 (↑l.length : Int)) ∧ true = true) ∧
      (SV.val (Value.slice a l.length c) = SV.val (Value.slice a l.length c) ∧ true = true) ∧
      (SV.val (Value.int IntKind.i64 (0 : Int)) = SV.val (Value.int IntKind.i64 (lastNd l a_1)) ∧ true = true) ∧ True) ∧
      True) ∧
      ∀ (a_1 : Nat),
      a_1 ≤ l.length ∧ holdB (0 : Int) l = holdB (lastNd l a_1) (List.drop a_1 l) →
      ifB (decide ((↑a_1 : Int) < (↑l.length : Int)))
      (∃ (b : Nat),
      ∃ (off : Nat),
      a = some { block := b, off := off : Addr } ∧
      ((0 : Int) ≤ (↑a_1 : Int) ∧ (↑a_1 : Int) < (↑l.length : Int)) ∧
      ∃ (n_1 : Int),
      ∃ (n_2 : Int),
      ∃ (n_3 : Int),
      ∃ (n_4 : Int),
      CellsAt { π := m.π, sz := n, uf := m.uf : M } b (off + (↑a_1 : Int).toNat * (4 : Nat))
      [Value.int IntKind.i64 n_1, Value.int IntKind.i64 n_2, Value.int IntKind.i64 n_3, Value.int IntKind.i64 n_4] ∧
      ifB (decide (n_1 ≤ lastNd l a_1)) (Done (Value.bool false = Value.bool (holdB (0 : Int) l)))
      (ifB (decide (n_1 > (5 : Int))) (Done (Value.bool false = Value.bool (holdB (0 : Int) l)))
      (ifB (decide (n_2 < (1 : Int))) (Done (Value.bool false = Value.bool (holdB (0 : Int) l)))
      (ifB (decide (n_3 < (0 : Int))) (Done (Value.bool false = Value.bool (holdB (0 : Int) l)))
      (ifB (decide (n_4 < (0 : Int))) (Done (Value.bool false = Value.bool (holdB (0 : Int) l)))
      (∃ (a' : Nat),
      ((a' ≤ l.length ∧ holdB (0 : Int) l = holdB (lastNd l a') (List.drop a' l)) ∧
      { π := m.π, sz := n, uf := m.uf : M } = { π := m.π, sz := n, uf := m.uf : M } ∧
      ((SV.val (Value.int IntKind.i64 (IntKind.i64.wrap ((↑a_1 : Int) + (1 : Int)))) = SV.val (Value.int IntKind.i64 (↑a' : Int)) ∧
      true = true) ∧
      (SV.val (Value.int IntKind.i64 (↑l.length : Int)) = SV.val (Value.int IntKind.i64 (↑l.length : Int)) ∧ true = true) ∧
      (SV.val (Value.slice a l.length c) = SV.val (Value.slice a l.length c) ∧ true = true) ∧
      (SV.val (Value.int IntKind.i64 n_1) = SV.val (Value.int IntKind.i64 (lastNd l a')) ∧ true = true) ∧ True) ∧
      True) ∧
      l.length - a' < l.length - a_1))))))
      (Done (Value.bool true = Value.bool (holdB (0 : Int) l)))) (by kernel_rfl) ?_
  have h' := h.sz hn
  refine ⟨rfl, ⟨0, by simp [lastNd]⟩, fun k ⟨hk, hq⟩ => ifB_intro (fun hb => ?_) (fun hb => ⟨?_⟩)⟩
  · have hk2 : k < l.length := by simpa using hb
    obtain ⟨b, o, rfl, hc⟩ := h'.cells (by rw [hds_len]; omega)
    have w1 : IntKind.i64.wrap ((k : Int) + 1) = ((k + 1 : Nat) : Int) := by simp [IntKind.wrap_i64]; omega
    rw [holdB_drop hk2] at hq
    refine ⟨b, o, rfl, by omega, _, _, _, _, by simpa using hd_at hc hk2, ?_⟩
    refine ifB_intro (fun h1 => ⟨?_⟩) (fun h1 => ifB_intro (fun h2 => ⟨?_⟩) (fun h2 => ifB_intro (fun h3 => ⟨?_⟩) (fun h3 => ifB_intro (fun h4 => ⟨?_⟩) (fun h4 => ifB_intro (fun h5 => ⟨?_⟩) (fun h5 => ⟨k + 1, ⟨⟨hk2, ?_⟩, rfl, ⟨⟨by rw [w1], rfl⟩, ⟨rfl, rfl⟩, ⟨rfl, rfl⟩, ⟨by rw [lastNd_succ hk2], rfl⟩, trivial⟩, trivial⟩, by omega⟩)))))
    · rw [hq]; simp [hdB] at *; omega
    · rw [hq]; simp [hdB] at *; omega
    · rw [hq]; simp [hdB] at *; omega
    · rw [hq]; simp [hdB] at *; omega
    · rw [hq]; simp [hdB] at *; omega
    · rw [hq, lastNd_succ hk2]; simp [hdB] at *; omega
  · have : k = l.length := by simp at hb; omega
    rw [hq, this]; simp [holdB]

end Go.Proofs.Ytfkielfnceeedaa
set_option linter.unusedVariables false
set_option linter.unusedSimpArgs false
namespace Go.Proofs.Ytfkielfnceeedaa
open Go.Vc Go.RowKit

def clip (n : Int) : Int := if In64 n then n else 0

abbrev upsL (x : Ac) : List Int := x.base :: x.hs.map (·.up)

abbrev dnsL (x : Ac) : List Int := x.base :: x.hs.map (-·.dn)

structure LentX where
  k : Nat
  a1 : Option Addr
  c1 : Nat
  a2 : Option Addr
  c2 : Nat
  m : M

structure LentI (x : Ac) (m : M) (y : LentX) : Prop where
  k : y.k ≤ x.hs.length
  o1 : OwnB m.sz (fun _ => False) y.m 1 y.a1 (y.k + 1) y.c1 (ints ((upsL x).take (y.k + 1)))
  o2 : OwnB m.sz (fun _ => False) y.m 1 y.a2 (y.k + 1) y.c2 (ints ((dnsL x).take (y.k + 1)))
  ap : Apart y.a1 y.a2
  ag : Agree m.sz m y.m

def lentAnn (x : Ac) (a : Option Addr) (c : Nat) (m : M) : Nat → Ann
  | 2 => {
    A := LentX
    inv y := LentI x m y ∧ y.k = 0
    st y := [(1, .own 0 0), (5, .val (.slice y.a1 1 y.c1)), (6, .val (.slice y.a2 1 y.c2))]
    own _ := [(0, ⟨46, acc x a c⟩)]
    m y := y.m
    μ y := 0
    cut := true }
  | _ => {
    A := LentX
    inv y := LentI x m y
    st y := [(20, .val (I y.k)), (19, .val (I x.hs.length)), (18, .val (.slice a x.hs.length c)), (5, .val (.slice y.a1 (y.k + 1) y.c1)), (6, .val (.slice y.a2 (y.k + 1) y.c2))]
    own _ := []
    m y := y.m
    μ y := x.hs.length - y.k }

theorem lent_q (x : Ac) (a : Option Addr) (c : Nat) (hx : x.wf) (hn : x.hs.length ≤ 5) (hd : ∀ h ∈ x.hs, 0 ≤ h.up ∧ 0 ≤ h.dn) (m : M) (h : Row m a (hds x.hs)) :
    QSpec Try.prog 88 [acv x a c] m (.tuple #[I (clip (sumI (upsL x))), I (clip (sumI (dnsL x))), .bool (decide (In64 (sumI (upsL x))) && decide (In64 (sumI (dnsL x))))]) := by
  refine QSpec.of_vc Try.func88 (ann := fun n => lentAnn x a c { m with sz := n }) fun n hn => ?_
  refine vc_by (X :=
      true = true ∧
      (true = true ∧
      (true = true ∧
      ∀ (b : Nat),
      n ≤ b →
      MLe { π := m.π, sz := n, uf := m.uf : M } ({ π := m.π, sz := n, uf := m.uf : M }.newBlock b [Value.int IntKind.i64 x.base]) ∧
      (true = true ∧
      ∀ (b_1 : Nat),
      max n (b + (1 : Nat)) ≤ b_1 →
      MLe ({ π := m.π, sz := n, uf := m.uf : M }.newBlock b [Value.int IntKind.i64 x.base])
      (({ π := m.π, sz := n, uf := m.uf : M }.newBlock b [Value.int IntKind.i64 x.base]).newBlock b_1 [Value.int IntKind.i64 x.base]) ∧
      ∃ (x_1 : LentX),
      (LentI x { π := m.π, sz := n, uf := m.uf : M } x_1 ∧ x_1.k = (0 : Nat)) ∧
      ({ π := m.π, sz := n, uf := m.uf : M }.newBlock b [Value.int IntKind.i64 x.base]).newBlock b_1 [Value.int IntKind.i64 x.base] = x_1.m ∧
      ((SV.own ((0 : Nat) + (0 : Nat)) (0 : Nat) = SV.own (0 : Nat) (0 : Nat) ∧ true = true) ∧
      (SV.val (Value.slice (some { block := b, off := (0 : Nat) : Addr }) (1 : Nat) (1 : Nat)) = SV.val (Value.slice x_1.a1 (1 : Nat) x_1.c1) ∧
      true = true) ∧
      (SV.val (Value.slice (some { block := b_1, off := (0 : Nat) : Addr }) (1 : Nat) (1 : Nat)) = SV.val (Value.slice x_1.a2 (1 : Nat) x_1.c2) ∧
      true = true) ∧
      True) ∧
      (some
      { ty := (46 : Nat), cs := [Value.string x.key, Value.int IntKind.i64 x.lo, Value.int IntKind.i64 x.hi, Value.int IntKind.i64 x.base, Value.int IntKind.i64 x.round, Value.slice a x.hs.length c, Value.int IntKind.i64 x.lk.cl, Value.int IntKind.i64 x.lk.sq, Value.int IntKind.i64 x.lk.hm, Value.int IntKind.i64 x.lk.n] : Bx } =
      some
      { ty := (46 : TypeId), cs := [Value.string x.key, Value.int IntKind.i64 x.lo, Value.int IntKind.i64 x.hi, Value.int IntKind.i64 x.base, Value.int IntKind.i64 x.round, Value.slice a x.hs.length c, Value.int IntKind.i64 x.lk.cl, Value.int IntKind.i64 x.lk.sq, Value.int IntKind.i64 x.lk.hm, Value.int IntKind.i64 x.lk.n] : Bx } ∧
      true = true) ∧
      True) ∧
      True) ∧
      (true = true ∧
      ∀ (b : Nat),
      n ≤ b →
      MLe { π := m.π, sz := n, uf := m.uf : M } ({ π := m.π, sz := n, uf := m.uf : M }.newBlock b [Value.int IntKind.i64 x.base]) ∧
      (true = true ∧
      ∀ (b_1 : Nat),
      max n (b + (1 : Nat)) ≤ b_1 →
      MLe ({ π := m.π, sz := n, uf := m.uf : M }.newBlock b [Value.int IntKind.i64 x.base])
      (({ π := m.π, sz := n, uf := m.uf : M }.newBlock b [Value.int IntKind.i64 x.base]).newBlock b_1 [Value.int IntKind.i64 x.base]) ∧
      ∃ (x_1 : LentX),
      (LentI x { π := m.π, sz := n, uf := m.uf : M } x_1 ∧ x_1.k = (0 : Nat)) ∧
      ({ π := m.π, sz := n, uf := m.uf : M }.newBlock b [Value.int IntKind.i64 x.base]).newBlock b_1 [Value.int IntKind.i64 x.base] = x_1.m ∧
      ((SV.own ((0 : Nat) + (0 : Nat)) (0 : Nat) = SV.own (0 : Nat) (0 : Nat) ∧ true = true) ∧
      (SV.val (Value.slice (some { block := b_1, off := (0 : Nat) : Addr }) (1 : Nat) (1 : Nat)) = SV.val (Value.slice x_1.a1 (1 : Nat) x_1.c1) ∧
      true = true) ∧
      (SV.val (Value.slice (some { block := b, off := (0 : Nat) : Addr }) (1 : Nat) (1 : Nat)) = SV.val (Value.slice x_1.a2 (1 : Nat) x_1.c2) ∧
      true = true) ∧
      True) ∧
      (some
      { ty := (46 : Nat), cs := [Value.string x.key, Value.int IntKind.i64 x.lo, Value.int IntKind.i64 x.hi, Value.int IntKind.i64 x.base, Value.int IntKind.i64 x.round, Value.slice a x.hs.length c, Value.int IntKind.i64 x.lk.cl, Value.int IntKind.i64 x.lk.sq, Value.int IntKind.i64 x.lk.hm, Value.int IntKind.i64 x.lk.n] : Bx } =
      some
      { ty := (46 : TypeId), cs := [Value.string x.key, Value.int IntKind.i64 x.lo, Value.int IntKind.i64 x.hi, Value.int IntKind.i64 x.base, Value.int IntKind.i64 x.round, Value.slice a x.hs.length c, Value.int IntKind.i64 x.lk.cl, Value.int IntKind.i64 x.lk.sq, Value.int IntKind.i64 x.lk.hm, Value.int IntKind.i64 x.lk.n] : Bx } ∧
      true = true) ∧
      True) ∧
      True) ∧
      True) ∧
      ∀ (x_1 : LentX),
      LentI x { π := m.π, sz := n, uf := m.uf : M } x_1 ∧ x_1.k = (0 : Nat) →
      (∃ (a_2 : LentX),
      LentI x { π := m.π, sz := n, uf := m.uf : M } a_2 ∧
      x_1.m = a_2.m ∧
      ((SV.val (Value.int IntKind.i64 (0 : Int)) = SV.val (Value.int IntKind.i64 (↑a_2.k : Int)) ∧ true = true) ∧
      (SV.val (Value.int IntKind.i64 (↑x.hs.length : Int)) = SV.val (Value.int IntKind.i64 (↑x.hs.length : Int)) ∧ true = true) ∧
      (SV.val (Value.slice a x.hs.length c) = SV.val (Value.slice a x.hs.length c) ∧ true = true) ∧
      (SV.val (Value.slice x_1.a1 (1 : Nat) x_1.c1) = SV.val (Value.slice a_2.a1 (a_2.k + (1 : Nat)) a_2.c1) ∧ true = true) ∧
      (SV.val (Value.slice x_1.a2 (1 : Nat) x_1.c2) = SV.val (Value.slice a_2.a2 (a_2.k + (1 : Nat)) a_2.c2) ∧ true = true) ∧ True) ∧
      True) ∧
      ∀ (a_2 : LentX),
      LentI x { π := m.π, sz := n, uf := m.uf : M } a_2 →
      ifB (decide ((↑a_2.k : Int) < (↑x.hs.length : Int)))
      (∃ (b : Nat),
      ∃ (off : Nat),
      a = some { block := b, off := off : Addr } ∧
      ((0 : Int) ≤ (↑a_2.k : Int) ∧ (↑a_2.k : Int) < (↑x.hs.length : Int)) ∧
      ∃ (n_1 : Int),
      ∃ (n_2 : Int),
      ∃ (n_3 : Int),
      ∃ (n_4 : Int),
      CellsAt a_2.m b (off + (↑a_2.k : Int).toNat * (4 : Nat))
      [Value.int IntKind.i64 n_1, Value.int IntKind.i64 n_2, Value.int IntKind.i64 n_3, Value.int IntKind.i64 n_4] ∧
      true = true ∧
      ∀ (b : Nat),
      a_2.m.sz ≤ b →
      ∃ (old : List Value),
      ∃ (src : List Value),
      AppPre n (fun (x : Nat) => False) (a_2.m.newBlock b [Value.int IntKind.i64 n_3]) (1 : Nat) (8 : Nat) a_2.a1 (a_2.k + (1 : Nat)) a_2.c1
      (some { block := b, off := (0 : Nat) : Addr }) (1 : Nat) old src ∧
      ∀ (a' : Option Addr) (c' : Nat) (m' : M),
      AppPost Try.prog (3 : Nat) (a_2.m.newBlock b [Value.int IntKind.i64 n_3]) (1 : Nat) a_2.a1 (a_2.k + (1 : Nat)) a_2.c1 (1 : Nat) old
      src a' c' m' →
      true = true ∧
      ∀ (b : Nat),
      m'.sz ≤ b →
      ∃ (old : List Value),
      ∃ (src : List Value),
      AppPre n (fun (x : Nat) => False) (m'.newBlock b [Value.int IntKind.i64 (IntKind.i64.wrap ((0 : Int) - n_4))]) (1 : Nat)
      (8 : Nat) a_2.a2 (a_2.k + (1 : Nat)) a_2.c2 (some { block := b, off := (0 : Nat) : Addr }) (1 : Nat) old src ∧
      ∀ (a'_1 : Option Addr) (c'_1 : Nat) (m'_1 : M),
      AppPost Try.prog (3 : Nat) (m'.newBlock b [Value.int IntKind.i64 (IntKind.i64.wrap ((0 : Int) - n_4))]) (1 : Nat)
      a_2.a2 (a_2.k + (1 : Nat)) a_2.c2 (1 : Nat) old src a'_1 c'_1 m'_1 →
      ∃ (a'_2 : LentX),
      (LentI x { π := m.π, sz := n, uf := m.uf : M } a'_2 ∧
      m'_1 = a'_2.m ∧
      ((SV.val (Value.int IntKind.i64 (IntKind.i64.wrap ((↑a_2.k : Int) + (1 : Int)))) =
      SV.val (Value.int IntKind.i64 (↑a'_2.k : Int)) ∧
      true = true) ∧
      (SV.val (Value.int IntKind.i64 (↑x.hs.length : Int)) =
      SV.val (Value.int IntKind.i64 (↑x.hs.length : Int)) ∧
      true = true) ∧
      (SV.val (Value.slice a x.hs.length c) = SV.val (Value.slice a x.hs.length c) ∧ true = true) ∧
      (SV.val (Value.slice a' (a_2.k + (1 : Nat) + (1 : Nat)) c') =
      SV.val (Value.slice a'_2.a1 (a'_2.k + (1 : Nat)) a'_2.c1) ∧
      true = true) ∧
      (SV.val (Value.slice a'_1 (a_2.k + (1 : Nat) + (1 : Nat)) c'_1) =
      SV.val (Value.slice a'_2.a2 (a'_2.k + (1 : Nat)) a'_2.c2) ∧
      true = true) ∧
      True) ∧
      True) ∧
      x.hs.length - a'_2.k < x.hs.length - a_2.k)
      (∃ (n : Int),
      ∃ (n_1 : Int),
      QSpec Try.prog (59 : Nat) [Value.slice a_2.a1 (a_2.k + (1 : Nat)) a_2.c1] a_2.m (Value.tuple #[Value.int IntKind.i64 n, Value.int IntKind.i64 n_1]) ∧
      ∃ (n_2 : Int),
      ∃ (n_3 : Int),
      QSpec Try.prog (59 : Nat) [Value.slice a_2.a2 (a_2.k + (1 : Nat)) a_2.c2] a_2.m (Value.tuple #[Value.int IntKind.i64 n_2, Value.int IntKind.i64 n_3]) ∧
      ifB (n_1 == (0 : Int))
      (Done
      (Value.tuple #[Value.int IntKind.i64 n, Value.int IntKind.i64 n_2, Value.bool (n_3 == (0 : Int))] =
      Value.tuple
      #[Value.int IntKind.i64 (clip (sumI (upsL x))), Value.int IntKind.i64 (clip (sumI (dnsL x))),
      Value.bool (decide (In64 (sumI (upsL x))) && decide (In64 (sumI (dnsL x))))]))
      (Done
      (Value.tuple #[Value.int IntKind.i64 n, Value.int IntKind.i64 n_2, Value.bool false] =
      Value.tuple
      #[Value.int IntKind.i64 (clip (sumI (upsL x))), Value.int IntKind.i64 (clip (sumI (dnsL x))),
      Value.bool (decide (In64 (sumI (upsL x))) && decide (In64 (sumI (dnsL x))))])))) (by kernel_rfl) ?_
  have h' := h.sz hn
  have z1 : ∀ k, (zeroRow Try.prog 3 k).length = k * 1 := zrLen (by kernel_rfl)
  have i1 : ∀ b b2, n ≤ b → max n (b + 1) ≤ b2 → LentI x { m with sz := n } ⟨0, some ⟨b, 0, none⟩, 1, some ⟨b2, 0, none⟩, 1, (({ m with sz := n } : M).newBlock b [I x.base]).newBlock b2 [I x.base]⟩ := fun b b2 hb hb2 =>
    ⟨Nat.zero_le _, (OwnB.fresh (cs := [I x.base]) hb rfl).newBlock (by rw [newBlock_sz]; exact hb2), OwnB.fresh (cs := [I x.base]) (by show n ≤ b2; omega) rfl, Apart.symm (Apart.new fun b' o e => by cases e; omega),
      (newBlock_agreeB hb).trans (newBlock_agreeB (by show n ≤ b2; omega))⟩
  have i2 : ∀ b b2, n ≤ b → max n (b + 1) ≤ b2 → LentI x { m with sz := n } ⟨0, some ⟨b2, 0, none⟩, 1, some ⟨b, 0, none⟩, 1, (({ m with sz := n } : M).newBlock b [I x.base]).newBlock b2 [I x.base]⟩ := fun b b2 hb hb2 => by
    have := i1 b b2 hb hb2
    exact ⟨this.k, this.o2, this.o1, this.ap.symm, this.ag⟩
  refine ⟨rfl, ⟨rfl, ⟨rfl, fun b hb => ⟨MLe.newBlock hb, ⟨rfl, fun b2 hb2 => ⟨MLe.newBlock hb2, _, ⟨i1 b b2 hb hb2, rfl⟩, by simp⟩⟩, trivial⟩⟩, ⟨rfl, fun b hb => ⟨MLe.newBlock hb, ⟨rfl, fun b2 hb2 => ⟨MLe.newBlock hb2, _, ⟨i2 b b2 hb hb2, rfl⟩, by simp⟩⟩, trivial⟩⟩, trivial⟩,
    fun y ⟨hy, hy0⟩ => ⟨⟨y, hy, by simp [hy0]⟩, fun y hy => ifB_intro (fun hb => ?_) (fun hb => ?_)⟩⟩
  · have hk2 : y.k < x.hs.length := by simpa using hb
    have hy2 := hy.ag.2.2
    simp only at hy2
    obtain ⟨b, o, rfl, hc⟩ := (h'.agree hy.ag).cells (by rw [hds_len]; omega)
    have w1 : IntKind.i64.wrap ((y.k : Int) + 1) = ((y.k + 1 : Nat) : Int) := by simp [IntKind.wrap_i64]; omega
    have hw := (hx.hs _ (List.getElem_mem hk2)).2.2.2
    have hd2 := (hd _ (List.getElem_mem hk2)).2
    have w2 : IntKind.i64.wrap (0 - x.hs[y.k].dn) = - x.hs[y.k].dn := by unfold In64 at hw; simp [IntKind.wrap_i64]; omega
    refine ⟨b, o, rfl, by omega, _, _, _, _, by simpa using hd_at hc hk2, rfl, fun b1 hb1 => ?_⟩
    obtain ⟨p1, p2⟩ := hy.o1.push (P := Try.prog) (e := 3) (bytes := 8) (src := [I x.hs[y.k].up]) hb1 (by simp only; omega) rfl rfl (by omega) z1
    refine ⟨_, _, p1, fun a1 c1 m1 hp1 => ⟨rfl, fun b2 hb2 => ?_⟩⟩
    obtain ⟨q1, q2⟩ := p2 a1 c1 m1 hp1
    have ap1 : Apart a1 y.a2 := hp1.apart hy.ap fun b o e => by have := hy.o2.lt e; simp only [M.newBlock]; omega
    have oo := (hy.o2.newBlock (ds := [I x.hs[y.k].up]) hb1).other hp1 hy.ap
    obtain ⟨p3, p4⟩ := oo.push (P := Try.prog) (e := 3) (bytes := 8) (src := [I (IntKind.i64.wrap (0 - x.hs[y.k].dn))]) hb2 (by simp only; omega) rfl rfl (by omega) z1
    refine ⟨_, _, p3, fun a2 c2 m2 hp2 => ?_⟩
    obtain ⟨q3, q4⟩ := p4 a2 c2 m2 hp2
    have ap2 : Apart a2 a1 := hp2.apart ap1.symm fun b o e => by have := q1.lt e; simp only [M.newBlock]; omega
    have oo2 := (q1.newBlock (ds := [I (IntKind.i64.wrap (0 - x.hs[y.k].dn))]) hb2).other hp2 ap1.symm
    have e1 : ints ((upsL x).take (y.k + 1)) ++ [I x.hs[y.k].up] = ints ((upsL x).take (y.k + 1 + 1)) := by
      simp only [upsL, List.take_succ_cons, List.flatMap_cons]
      rw [List.take_succ_eq_append_getElem (l := x.hs.map (·.up)) (i := y.k) (by simpa using hk2)]
      simp
    have e2 : ints ((dnsL x).take (y.k + 1)) ++ [I (IntKind.i64.wrap (0 - x.hs[y.k].dn))] = ints ((dnsL x).take (y.k + 1 + 1)) := by
      rw [w2]
      simp only [dnsL, List.take_succ_cons, List.flatMap_cons]
      rw [List.take_succ_eq_append_getElem (l := x.hs.map (-·.dn)) (i := y.k) (by simpa using hk2)]
      simp
    rw [e1] at oo2
    rw [e2] at q3
    refine ⟨⟨y.k + 1, a1, c1, a2, c2, m2⟩, ⟨⟨hk2, oo2, q3, ap2.symm, ?_⟩, by simp [w1]⟩, by simp only; omega⟩
    have g1 := (newBlock_agreeB (B := n) (m := y.m) (cs := [I x.hs[y.k].up]) (by omega : n ≤ b1)).trans (hp1.agree (by simp only [M.newBlock]; omega) (hy.o1.newBlock hb1))
    have g2 := (newBlock_agreeB (B := n) (m := m1) (cs := [I (IntKind.i64.wrap (0 - x.hs[y.k].dn))]) (by omega : n ≤ b2)).trans (hp2.agree (by simp only [M.newBlock]; omega) (oo.newBlock hb2))
    exact (hy.ag.trans g1).trans g2
  · have hk2 : y.k = x.hs.length := by have := hy.k; simp at hb; omega
    have r1 := hy.o1.row
    have r2 := hy.o2.row
    rw [hk2, List.take_of_length_le (by simp)] at r1 r2
    have b1 : ∀ v ∈ upsL x, In64 v := fun v hv => by
      rcases List.mem_cons.1 hv with rfl | hv
      · exact hx.base
      · obtain ⟨h, hh, rfl⟩ := List.mem_map.1 hv
        exact (hx.hs h hh).2.2.1
    have b2 : ∀ v ∈ dnsL x, In64 v := fun v hv => by
      rcases List.mem_cons.1 hv with rfl | hv
      · exact hx.base
      · obtain ⟨h, hh, rfl⟩ := List.mem_map.1 hv
        have h1 := (hx.hs h hh).2.2.2
        have h2 := (hd h hh).2
        unfold In64 at *; omega
    have s1 := sum_q _ y.c1 _ b1 (by simp; omega) y.m r1
    have s2 := sum_q _ y.c2 _ b2 (by simp; omega) y.m r2
    simp only [List.length_cons, List.length_map, ← hk2] at s1 s2
    refine ⟨_, _, s1, _, _, s2, ?_⟩
    by_cases i1 : In64 (sumI (upsL x)) <;> by_cases i2 : In64 (sumI (dnsL x)) <;> simp [clip, i1, i2, ifB, done_iff]

end Go.Proofs.Ytfkielfnceeedaa
set_option linter.unusedVariables false
set_option linter.unusedSimpArgs false
namespace Go.Proofs.Ytfkielfnceeedaa
open Go.Vc Go.RowKit

def keeperB (k : Lk) : Bool := decide (1 ≤ k.cl) && decide (1 ≤ k.sq) && decide (1 ≤ k.hm) && decide (k.hm < 8)

def fitsB (x : Ac) (k : Lk) : Bool := hasB x.lo x.hi (x.base + k.n)

def lkZ (k : Lk) : Bool := decide (k.cl = 0) && decide (k.sq = 0) && decide (k.hm = 0) && decide (k.n = 0)

def lockB (x : Ac) : Bool := if x.lk.cl = 0 then lkZ x.lk else keeperB x.lk && x.hs.isEmpty && fitsB x x.lk

def keyB (k : ByteArray) : Bool := decide (1 ≤ k.size) && decide (k.size ≤ 16)

def rightB (x : Ac) : Bool := keyB x.key && hasB x.lo x.hi x.base && decide (0 ≤ x.round) && holdB 0 x.hs && decide (sumI (upsL x) ≤ x.hi) && decide (x.lo ≤ sumI (dnsL x)) && lockB x

theorem keeper_q (k : Lk) (m : M) : QSpec Try.prog 89 [.agg #[I k.cl, I k.sq, I k.hm, I k.n]] m (.bool (keeperB k)) := by
  refine QSpec.of_vc Try.func89 (ann := fun _ => noAnn) fun n hn => ?_
  refine vc_by (X :=
      true = true ∧
      ifB (decide (k.cl ≥ (1 : Int)))
      (ifB (decide (k.sq ≥ (1 : Int)))
      (ifB (decide (k.hm ≥ (1 : Int))) (Done (Value.bool (decide (k.hm < (8 : Int))) = Value.bool (keeperB k))) (Done (Value.bool false = Value.bool (keeperB k))))
      (Done (Value.bool false = Value.bool (keeperB k))))
      (Done (Value.bool false = Value.bool (keeperB k)))) (by kernel_rfl) ?_
  refine ⟨rfl, ?_⟩
  repeat' (refine ifB_intro (fun h => ?_) (fun h => ?_))
  all_goals (refine ⟨?_⟩; simp at *; simp [keeperB]; omega)

theorem fits_q (x : Ac) (a : Option Addr) (c : Nat) (k : Lk) (hx : x.wf) (hk : k.wf) (m : M) : QSpec Try.prog 90 [acv x a c, .agg #[I k.cl, I k.sq, I k.hm, I k.n]] m (.bool (fitsB x k)) := by
  refine QSpec.of_vc Try.func90 (ann := fun _ => noAnn) fun n hn => ?_
  refine vc_by (X :=
      true = true ∧
      ∃ (n_1 : Int),
      ∃ (n_2 : Int),
      QSpec Try.prog (55 : Nat) [Value.int IntKind.i64 x.base, Value.int IntKind.i64 k.n] { π := m.π, sz := n, uf := m.uf : M }
      (Value.tuple #[Value.int IntKind.i64 n_1, Value.int IntKind.i64 n_2]) ∧
      ifB (n_2 == (0 : Int))
      (∃ (b : Bool),
      QSpec Try.prog (86 : Nat) [Value.agg #[Value.int IntKind.i64 x.lo, Value.int IntKind.i64 x.hi], Value.int IntKind.i64 n_1] { π := m.π, sz := n, uf := m.uf : M }
      (Value.bool b) ∧
      Done (Value.bool b = Value.bool (fitsB x k)))
      (Done (Value.bool false = Value.bool (fitsB x k)))) (by kernel_rfl) ?_
  refine ⟨rfl, _, _, add_q _ _ hx.base hk.2.2.2 _, ?_⟩
  by_cases hin : In64 (x.base + k.n)
  · simp only [addE, addV, hin, if_true]
    exact ⟨_, has_q _ _ _ _, ⟨rfl⟩⟩
  · simp only [addE, addV, hin, if_false]
    refine ifB_intro (fun h => by simp at h) (fun _ => ⟨?_⟩)
    have h1 := hx.lo
    have h2 := hx.hi
    unfold In64 at *
    simp [fitsB, hasB]; omega

theorem sumI_cons (a : Int) (l : List Int) : sumI (a :: l) = a + sumI l := by
  simp only [sumI, List.foldl_cons]; rw [foldl_add]; simp

theorem sumI_nonneg : ∀ (l : List Int), (∀ x ∈ l, 0 ≤ x) → 0 ≤ sumI l
  | [], _ => by simp [sumI]
  | x :: r, h => by rw [sumI_cons]; have := h x (by simp); have := sumI_nonneg r fun y hy => h y (by simp [hy]); omega

theorem sumI_nonpos : ∀ (l : List Int), (∀ x ∈ l, x ≤ 0) → sumI l ≤ 0
  | [], _ => by simp [sumI]
  | x :: r, h => by rw [sumI_cons]; have := h x (by simp); have := sumI_nonpos r fun y hy => h y (by simp [hy]); omega

theorem hold_mem : ∀ (l : List Hd) (last : Int), holdB last l = true → ∀ h ∈ l, last < h.nd ∧ h.nd ≤ 5 ∧ 1 ≤ h.le ∧ 0 ≤ h.up ∧ 0 ≤ h.dn
  | x :: r, last, hb, h, hm => by
    simp only [holdB, hdB, Bool.and_eq_true, decide_eq_true_eq] at hb
    rcases List.mem_cons.1 hm with rfl | hm
    · omega
    · have := hold_mem r x.nd hb.2 h hm
      omega

theorem up_ge {x : Ac} (h : holdB 0 x.hs = true) : x.base ≤ sumI (upsL x) ∧ sumI (dnsL x) ≤ x.base := by
  have hm := hold_mem _ _ h
  have h1 := sumI_nonneg (x.hs.map (·.up)) fun y hy => by obtain ⟨z, hz, rfl⟩ := List.mem_map.1 hy; exact (hm z hz).2.2.2.1
  have h2 := sumI_nonpos (x.hs.map (-·.dn)) fun y hy => by obtain ⟨z, hz, rfl⟩ := List.mem_map.1 hy; have := (hm z hz).2.2.2.2; omega
  simp only [upsL, dnsL, sumI_cons]
  omega

theorem right_q (x : Ac) (a : Option Addr) (c : Nat) (hx : x.wf) (m : M) (h : Row m a (hds x.hs)) : QSpec Try.prog 72 [acv x a c] m (.bool (rightB x)) := by
  refine QSpec.of_vc Try.func72 (ann := fun _ => noAnn) fun n hn => ?_
  refine vc_by (X :=
      true = true ∧
      ifB (decide ((↑x.key.size : Int) < (1 : Int))) (Done (Value.bool false = Value.bool (rightB x)))
      (ifB (decide ((↑x.key.size : Int) > (16 : Int))) (Done (Value.bool false = Value.bool (rightB x)))
      (∃ (b : Bool),
      QSpec Try.prog (86 : Nat) [Value.agg #[Value.int IntKind.i64 x.lo, Value.int IntKind.i64 x.hi], Value.int IntKind.i64 x.base] { π := m.π, sz := n, uf := m.uf : M }
      (Value.bool b) ∧
      ifB (!b) (Done (Value.bool false = Value.bool (rightB x)))
      (ifB (decide (x.round < (0 : Int))) (Done (Value.bool false = Value.bool (rightB x)))
      (∃ (b : Bool),
      QSpec Try.prog (87 : Nat) [Value.slice a x.hs.length c] { π := m.π, sz := n, uf := m.uf : M } (Value.bool b) ∧
      ifB (!b) (Done (Value.bool false = Value.bool (rightB x)))
      (∃ (n_1 : Int),
      ∃ (n_2 : Int),
      ∃ (b : Bool),
      QSpec Try.prog (88 : Nat)
      [Value.agg
      #[Value.string x.key, Value.int IntKind.i64 x.lo, Value.int IntKind.i64 x.hi, Value.int IntKind.i64 x.base, Value.int IntKind.i64 x.round,
      Value.slice a x.hs.length c, Value.int IntKind.i64 x.lk.cl, Value.int IntKind.i64 x.lk.sq, Value.int IntKind.i64 x.lk.hm,
      Value.int IntKind.i64 x.lk.n]]
      { π := m.π, sz := n, uf := m.uf : M } (Value.tuple #[Value.int IntKind.i64 n_1, Value.int IntKind.i64 n_2, Value.bool b]) ∧
      ifB (!b) (Done (Value.bool false = Value.bool (rightB x)))
      (ifB (decide (n_1 > x.hi)) (Done (Value.bool false = Value.bool (rightB x)))
      (ifB (decide (n_2 < x.lo)) (Done (Value.bool false = Value.bool (rightB x)))
      (ifB (x.lk.cl == (0 : Int))
      (Done
      (Value.bool (x.lk.cl == (0 : Int) && (x.lk.sq == (0 : Int) && (x.lk.hm == (0 : Int) && (x.lk.n == (0 : Int) && true)))) =
      Value.bool (rightB x)))
      (∃ (b : Bool),
      QSpec Try.prog (89 : Nat)
      [Value.agg #[Value.int IntKind.i64 x.lk.cl, Value.int IntKind.i64 x.lk.sq, Value.int IntKind.i64 x.lk.hm, Value.int IntKind.i64 x.lk.n]]
      { π := m.π, sz := n, uf := m.uf : M } (Value.bool b) ∧
      ifB b
      (ifB ((↑x.hs.length : Int) == (0 : Int))
      (∃ (b : Bool),
      QSpec Try.prog (90 : Nat)
      [Value.agg
      #[Value.string x.key, Value.int IntKind.i64 x.lo, Value.int IntKind.i64 x.hi, Value.int IntKind.i64 x.base,
      Value.int IntKind.i64 x.round, Value.slice a x.hs.length c, Value.int IntKind.i64 x.lk.cl, Value.int IntKind.i64 x.lk.sq,
      Value.int IntKind.i64 x.lk.hm, Value.int IntKind.i64 x.lk.n],
      Value.agg
      #[Value.int IntKind.i64 x.lk.cl, Value.int IntKind.i64 x.lk.sq, Value.int IntKind.i64 x.lk.hm, Value.int IntKind.i64 x.lk.n]]
      { π := m.π, sz := n, uf := m.uf : M } (Value.bool b) ∧
      Done (Value.bool b = Value.bool (rightB x)))
      (Done (Value.bool false = Value.bool (rightB x))))
      (Done (Value.bool false = Value.bool (rightB x))))))))))))) (by kernel_rfl) ?_
  have h' := h.sz hn
  refine ⟨rfl, ifB_intro (fun h1 => ⟨?_⟩) (fun h1 => ifB_intro (fun h2 => ⟨?_⟩) (fun h2 => ⟨_, has_q _ _ _ _, ifB_intro (fun h3 => ⟨?_⟩) (fun h3 => ifB_intro (fun h4 => ⟨?_⟩) (fun h4 => ⟨_, holders_q a c x.hs hx.len _ h', ifB_intro (fun h5 => ⟨?_⟩) (fun h5 => ?_)⟩))⟩))⟩
  · simp at h1; simp [rightB, keyB]; omega
  · simp at h2; simp [rightB, keyB]; omega
  · simp at h3; simp [rightB, h3]
  · simp at h4; simp [rightB]; omega
  · simp at h5; simp [rightB, h5]
  · have h5 : holdB 0 x.hs = true := by simpa using h5
    have hm := hold_mem _ _ h5
    have hge := up_ge h5
    have hk : keyB x.key = true := by simp at h1 h2; simp [keyB]; omega
    have hh : hasB x.lo x.hi x.base = true := by simpa using h3
    have hr : 0 ≤ x.round := by simpa using h4
    have hlo := hx.lo
    have hhi := hx.hi
    have hhb : x.lo ≤ x.base ∧ x.base ≤ x.hi := by simpa [hasB] using hh
    have hR : rightB x = (decide (sumI (upsL x) ≤ x.hi) && decide (x.lo ≤ sumI (dnsL x)) && lockB x) := by simp [rightB, hk, hh, hr, h5]
    have hl : QSpec Try.prog 88 [acv x a c] { m with sz := n } (.tuple #[I (clip (sumI (upsL x))), I (clip (sumI (dnsL x))), .bool (decide (In64 (sumI (upsL x))) && decide (In64 (sumI (dnsL x))))]) :=
      lent_q x a c hx (hold_len h5) (fun y hy => (hm y hy).2.2.2) _ h'
    rw [hR]
    refine ⟨_, _, _, hl, ?_⟩
    by_cases i1 : In64 (sumI (upsL x))
    · by_cases i2 : In64 (sumI (dnsL x))
      · simp only [i1, i2, decide_true, Bool.and_self, Bool.not_true, clip, if_true]
        refine ifB_false (ifB_intro (fun h6 => ⟨?_⟩) (fun h6 => ifB_intro (fun h7 => ⟨?_⟩) (fun h7 => ?_)))
        · simp at h6; simp; omega
        · simp at h7; simp; omega
        · have h6 : sumI (upsL x) ≤ x.hi := by simp at h6; omega
          have h7 : x.lo ≤ sumI (dnsL x) := by simp at h7; omega
          simp only [h6, h7, decide_true, Bool.true_and]
          refine ifB_intro (fun h8 => ⟨?_⟩) (fun h8 => ⟨_, keeper_q _ _, ifB_intro (fun h9 => ifB_intro (fun h10 => ⟨_, fits_q x a c x.lk hx hx.lk _, ⟨?_⟩⟩) (fun h10 => ⟨?_⟩)) (fun h9 => ⟨?_⟩)⟩)
          · simp at h8; simp [lockB, h8, lkZ, Bool.beq_eq_decide_eq, Bool.and_assoc]
          · simp at h8 h10; simp [lockB, h8, h9, h10]
          · simp at h8 h10; simp [lockB, h8, h10]
          · simp at h8 h9; simp [lockB, h8, h9]
      · simp only [i2, decide_false, Bool.and_false, Bool.not_false]
        refine ifB_true ⟨?_⟩
        unfold In64 at *
        simp; omega
    · simp only [i1, decide_false, Bool.false_and, Bool.not_false]
      refine ifB_true ⟨?_⟩
      unfold In64 at *
      simp; omega

end Go.Proofs.Ytfkielfnceeedaa
set_option linter.unusedVariables false
set_option linter.unusedSimpArgs false
namespace Go.Proofs.Ytfkielfnceeedaa
open Go.Vc Go.RowKit

theorem check_q (x : Ac) (a : Option Addr) (c : Nat) (hx : x.wf) (m : M) (h : Row m a (hds x.hs)) : QSpec Try.prog 47 [acv x a c] m (I (if rightB x then 0 else 21)) := by
  refine QSpec.of_vc Try.func47 (ann := fun _ => noAnn) fun n hn => ?_
  refine vc_by (X :=
      true = true ∧
      ∃ (b : Bool),
      QSpec Try.prog (72 : Nat)
      [Value.agg
      #[Value.string x.key, Value.int IntKind.i64 x.lo, Value.int IntKind.i64 x.hi, Value.int IntKind.i64 x.base, Value.int IntKind.i64 x.round, Value.slice a x.hs.length c,
      Value.int IntKind.i64 x.lk.cl, Value.int IntKind.i64 x.lk.sq, Value.int IntKind.i64 x.lk.hm, Value.int IntKind.i64 x.lk.n]]
      { π := m.π, sz := n, uf := m.uf : M } (Value.bool b) ∧
      ifB (!b) (Done (Value.int IntKind.i64 (21 : Int) = Value.int IntKind.i64 (if rightB x = true then (0 : Int) else (21 : Int))))
      (Done (Value.int IntKind.i64 (0 : Int) = Value.int IntKind.i64 (if rightB x = true then (0 : Int) else (21 : Int))))) (by kernel_rfl) ?_
  refine ⟨rfl, _, right_q x a c hx _ (h.sz hn), ?_⟩
  cases rightB x <;> exact ⟨rfl⟩

theorem one_hds (l : List Hd) : oneCells (hds l) = true := by
  induction l with
  | nil => rfl
  | cons x r ih => exact Bool.and_eq_true_iff.2 ⟨rfl, Bool.and_eq_true_iff.2 ⟨rfl, Bool.and_eq_true_iff.2 ⟨rfl, Bool.and_eq_true_iff.2 ⟨rfl, ih⟩⟩⟩⟩

theorem zr_hd (k : Nat) : (zeroRow Try.prog 67 k).length = k * 4 := zrLen (by kernel_rfl) k

theorem clone_q (l : List Hd) (a : Option Addr) (c : Nat) (hn : l.length ≤ 4398046511000) (h0 : a = none → l = []) (m : M) (h : Row m a (hds l)) : Vc.Spec Try.prog 91 [.slice a l.length c] m (fun v m' => ∃ a' c', v = .slice a' l.length c' ∧ NewR m.sz (fun _ => False) m' 4 a' l.length c' (hds l)) := by
  refine Vc.Spec.of_vc Try.func91 (ann := noAnn) ?_
  refine vc_by (X :=
      true = true ∧
      ifB a.isNone
      (Done
      (∃ (a' : Option Addr),
      ∃ (c' : Nat), Value.slice none (0 : Nat) (0 : Nat) = Value.slice a' l.length c' ∧ NewR m.sz (fun (x : Nat) => False) m (4 : Nat) a' l.length c' (hds l)))
      (true = true ∧
      ∀ (b : Nat),
      m.sz ≤ b →
      ∃ (old : List Value),
      ∃ (src : List Value),
      AppPre m.sz (fun (x : Nat) => False) (m.newBlock b []) (4 : Nat) (32 : Nat) (some { block := b, off := (0 : Nat) : Addr }) (0 : Nat) (0 : Nat) a l.length old src ∧
      ∀ (a' : Option Addr) (c' : Nat) (m' : M),
      AppPost Try.prog (67 : Nat) (m.newBlock b []) (4 : Nat) (some { block := b, off := (0 : Nat) : Addr }) (0 : Nat) (0 : Nat) l.length old src a' c' m' →
      Done
      (∃ (a'_1 : Option Addr),
      ∃ (c'_1 : Nat),
      Value.slice a' ((0 : Nat) + l.length) c' = Value.slice a'_1 l.length c'_1 ∧ NewR m.sz (fun (x : Nat) => False) m' (4 : Nat) a'_1 l.length c'_1 (hds l)))) (by kernel_rfl) ?_
  refine ⟨rfl, ifB_intro (fun h1 => ⟨?_⟩) (fun h1 => ⟨rfl, fun b hb => ?_⟩)⟩
  · have : l = [] := h0 (by simpa using h1)
    subst this
    exact ⟨_, _, rfl, .nil _⟩
  · have ho : OwnB m.sz (fun _ => False) (m.newBlock b []) 4 (some ⟨b, 0, none⟩) 0 0 [] := OwnB.fresh hb rfl
    have hr : Row (m.newBlock b []) a (hds l) := h.newBlock hb
    refine ⟨_, _, ho.appPre hr (hds_len l) (one_hds l) (by omega), fun a' c' m' hp => ⟨a', c', by simp, .own ?_⟩⟩
    have := ho.append hp (hds_len l) zr_hd (by simp only [M.newBlock]; omega)
    simpa using this

theorem copied_q (x : Ac) (a : Option Addr) (c : Nat) (hn : x.hs.length ≤ 4398046511000) (h0 : a = none → x.hs = []) (m : M) (h : Row m a (hds x.hs)) : Vc.Spec Try.prog 73 [acv x a c] m (fun v m' => ∃ a' c', v = acv x a' c' ∧ NewR m.sz (fun _ => False) m' 4 a' x.hs.length c' (hds x.hs)) := by
  refine Vc.Spec.of_vc Try.func73 (ann := noAnn) ?_
  refine vc_by (X :=
      true = true ∧
      ∃ (S' : Nat → Prop),
      (∀ (b : Nat), S' b → m.uf b ∧ (m.sz ≤ b ∨ False)) ∧
      ∀ (n : Nat),
      m.sz ≤ n →
      SpecW Try.prog (91 : Nat) [Value.slice a x.hs.length c] { π := m.π, sz := n, uf := m.uf : M } S' fun (v : Value) (m' : M) =>
      ∃ (a : Option Addr),
      ∃ (n : Nat),
      ∃ (c : Nat),
      v = Value.slice a n c ∧
      Done
      (∃ (a' : Option Addr),
      ∃ (c' : Nat),
      Value.agg
      #[Value.string x.key, Value.int IntKind.i64 x.lo, Value.int IntKind.i64 x.hi, Value.int IntKind.i64 x.base, Value.int IntKind.i64 x.round,
      Value.slice a n c, Value.int IntKind.i64 x.lk.cl, Value.int IntKind.i64 x.lk.sq, Value.int IntKind.i64 x.lk.hm, Value.int IntKind.i64 x.lk.n] =
      Value.agg
      #[Value.string x.key, Value.int IntKind.i64 x.lo, Value.int IntKind.i64 x.hi, Value.int IntKind.i64 x.base, Value.int IntKind.i64 x.round,
      Value.slice a' x.hs.length c', Value.int IntKind.i64 x.lk.cl, Value.int IntKind.i64 x.lk.sq, Value.int IntKind.i64 x.lk.hm,
      Value.int IntKind.i64 x.lk.n] ∧
      NewR m.sz (fun (x : Nat) => False) m' (4 : Nat) a' x.hs.length c' (hds x.hs))) (by kernel_rfl) ?_
  refine ⟨rfl, _, noS, fun n hn' => (clone_q x.hs a c hn h0 _ (h.sz hn')).monoW fun v m' hag ⟨a', c', hv, hr⟩ => ⟨a', _, c', hv, ⟨a', c', rfl, ?_⟩⟩⟩
  exact hr.lower hn'

def ac0 : Ac := ⟨.empty, 0, 0, 0, 0, [], ⟨0, 0, 0, 0⟩⟩

theorem locked_q (x : Ac) (a : Option Addr) (c : Nat) (m : M) : QSpec Try.prog 100 [acv x a c] m (.bool (decide (x.lk.cl ≠ 0))) := by
  refine QSpec.of_vc Try.func100 (ann := fun _ => noAnn) fun n hn => ?_
  refine vc_by (X :=
      true = true ∧ Done (Value.bool (x.lk.cl != (0 : Int)) = Value.bool (decide (x.lk.cl ≠ (0 : Int))))) (by kernel_rfl) ?_
  exact ⟨rfl, ⟨by simp [bne, Bool.beq_eq_decide_eq]⟩⟩

def roomDn (x : Ac) : Int := if rightB x && decide (x.lk.cl = 0) then sumI (dnsL x) - x.lo else 0

def roomUp (x : Ac) : Int := if rightB x && decide (x.lk.cl = 0) then x.hi - sumI (upsL x) else 0

structure RightP (x : Ac) : Prop where
  key : keyB x.key = true
  has : x.lo ≤ x.base ∧ x.base ≤ x.hi
  round : 0 ≤ x.round
  hold : holdB 0 x.hs = true
  up : sumI (upsL x) ≤ x.hi
  dn : x.lo ≤ sumI (dnsL x)
  lock : lockB x = true

theorem right_iff (x : Ac) : rightB x = true ↔ RightP x := by
  simp only [rightB, hasB, Bool.and_eq_true, decide_eq_true_eq]
  constructor
  · rintro ⟨⟨⟨⟨⟨⟨h1, h2⟩, h3⟩, h4⟩, h5⟩, h6⟩, h7⟩; exact ⟨h1, h2, h3, h4, h5, h6, h7⟩
  · rintro ⟨h1, h2, h3, h4, h5, h6, h7⟩; exact ⟨⟨⟨⟨⟨⟨h1, h2⟩, h3⟩, h4⟩, h5⟩, h6⟩, h7⟩

theorem RightP.bounds {x : Ac} (h : RightP x) (hx : x.wf) : In64 (sumI (upsL x)) ∧ In64 (sumI (dnsL x)) ∧ x.base ≤ sumI (upsL x) ∧ sumI (dnsL x) ≤ x.base := by
  have h1 := up_ge h.hold
  have h2 := h.up
  have h3 := h.dn
  have h4 := h.has
  have h5 := hx.lo
  have h6 := hx.hi
  unfold In64 at *
  omega

theorem room_q (x : Ac) (a : Option Addr) (c : Nat) (hx : x.wf) (m : M) (h : Row m a (hds x.hs)) : QSpec Try.prog 101 [acv x a c] m (.tuple #[U (roomDn x), U (roomUp x)]) := by
  refine QSpec.of_vc Try.func101 (ann := fun _ => noAnn) fun n hn => ?_
  refine vc_by (X :=
      true = true ∧
      ∃ (b : Bool),
      QSpec Try.prog (72 : Nat)
      [Value.agg
      #[Value.string x.key, Value.int IntKind.i64 x.lo, Value.int IntKind.i64 x.hi, Value.int IntKind.i64 x.base, Value.int IntKind.i64 x.round, Value.slice a x.hs.length c,
      Value.int IntKind.i64 x.lk.cl, Value.int IntKind.i64 x.lk.sq, Value.int IntKind.i64 x.lk.hm, Value.int IntKind.i64 x.lk.n]]
      { π := m.π, sz := n, uf := m.uf : M } (Value.bool b) ∧
      ifB (!b)
      (Done (Value.tuple #[Value.int IntKind.u64 (0 : Int), Value.int IntKind.u64 (0 : Int)] = Value.tuple #[Value.int IntKind.u64 (roomDn x), Value.int IntKind.u64 (roomUp x)]))
      (∃ (b : Bool),
      QSpec Try.prog (100 : Nat)
      [Value.agg
      #[Value.string x.key, Value.int IntKind.i64 x.lo, Value.int IntKind.i64 x.hi, Value.int IntKind.i64 x.base, Value.int IntKind.i64 x.round,
      Value.slice a x.hs.length c, Value.int IntKind.i64 x.lk.cl, Value.int IntKind.i64 x.lk.sq, Value.int IntKind.i64 x.lk.hm, Value.int IntKind.i64 x.lk.n]]
      { π := m.π, sz := n, uf := m.uf : M } (Value.bool b) ∧
      ifB b
      (Done
      (Value.tuple #[Value.int IntKind.u64 (0 : Int), Value.int IntKind.u64 (0 : Int)] =
      Value.tuple #[Value.int IntKind.u64 (roomDn x), Value.int IntKind.u64 (roomUp x)]))
      (∃ (n_1 : Int),
      ∃ (n_2 : Int),
      ∃ (b : Bool),
      QSpec Try.prog (88 : Nat)
      [Value.agg
      #[Value.string x.key, Value.int IntKind.i64 x.lo, Value.int IntKind.i64 x.hi, Value.int IntKind.i64 x.base, Value.int IntKind.i64 x.round,
      Value.slice a x.hs.length c, Value.int IntKind.i64 x.lk.cl, Value.int IntKind.i64 x.lk.sq, Value.int IntKind.i64 x.lk.hm,
      Value.int IntKind.i64 x.lk.n]]
      { π := m.π, sz := n, uf := m.uf : M } (Value.tuple #[Value.int IntKind.i64 n_1, Value.int IntKind.i64 n_2, Value.bool b]) ∧
      true = true ∧
      Done
      (Value.tuple
      #[Value.int IntKind.u64 (IntKind.u64.wrap (IntKind.u64.wrap n_2 - IntKind.u64.wrap x.lo)),
      Value.int IntKind.u64 (IntKind.u64.wrap (IntKind.u64.wrap x.hi - IntKind.u64.wrap n_1))] =
      Value.tuple #[Value.int IntKind.u64 (roomDn x), Value.int IntKind.u64 (roomUp x)])))) (by kernel_rfl) ?_
  refine ⟨rfl, _, right_q x a c hx _ (h.sz hn), ?_⟩
  cases hr : rightB x
  · exact ifB_true ⟨by simp [roomDn, roomUp, hr]⟩
  · refine ifB_false ⟨_, locked_q x a c _, ?_⟩
    by_cases hl : x.lk.cl = 0
    · have hp := (right_iff x).1 hr
      have hm := hold_mem _ _ hp.hold
      have hb := hp.bounds hx
      have hl' : decide (x.lk.cl ≠ 0) = false := by simp [hl]
      rw [hl']
      refine ifB_false ?_
      refine ⟨_, _, _, lent_q x a c hx (hold_len hp.hold) (fun y hy => (hm y hy).2.2.2) _ (h.sz hn), rfl, ⟨?_⟩⟩
      have h4 := hp.up
      have h5 := hp.dn
      have h6 := hx.lo
      have h7 := hx.hi
      simp only [clip, hb.1, hb.2.1, if_true, roomDn, roomUp, hr, hl, decide_true, Bool.and_self]
      have h8 := hb.1
      have h9 := hb.2.1
      unfold In64 at *
      simp [IntKind.wrap_u64]
      omega
    · have hl' : decide (x.lk.cl ≠ 0) = true := by simp [hl]
      rw [hl']
      exact ifB_true ⟨by simp [roomDn, roomUp, hl]⟩

def totB (x : Ac) : Bool := rightB x && decide (x.lk.cl = 0) && x.hs.isEmpty

theorem total_q (x : Ac) (a : Option Addr) (c : Nat) (hx : x.wf) (m : M) (h : Row m a (hds x.hs)) : QSpec Try.prog 113 [acv x a c] m (.tuple #[I (if totB x then x.base else 0), .bool (totB x)]) := by
  refine QSpec.of_vc Try.func113 (ann := fun _ => noAnn) fun n hn => ?_
  refine vc_by (X :=
      true = true ∧
      ∃ (b : Bool),
      QSpec Try.prog (72 : Nat)
      [Value.agg
      #[Value.string x.key, Value.int IntKind.i64 x.lo, Value.int IntKind.i64 x.hi, Value.int IntKind.i64 x.base, Value.int IntKind.i64 x.round, Value.slice a x.hs.length c,
      Value.int IntKind.i64 x.lk.cl, Value.int IntKind.i64 x.lk.sq, Value.int IntKind.i64 x.lk.hm, Value.int IntKind.i64 x.lk.n]]
      { π := m.π, sz := n, uf := m.uf : M } (Value.bool b) ∧
      ifB (!b)
      (Done
      (Value.tuple #[Value.int IntKind.i64 (0 : Int), Value.bool false] =
      Value.tuple #[Value.int IntKind.i64 (if totB x = true then x.base else (0 : Int)), Value.bool (totB x)]))
      (∃ (b : Bool),
      QSpec Try.prog (100 : Nat)
      [Value.agg
      #[Value.string x.key, Value.int IntKind.i64 x.lo, Value.int IntKind.i64 x.hi, Value.int IntKind.i64 x.base, Value.int IntKind.i64 x.round,
      Value.slice a x.hs.length c, Value.int IntKind.i64 x.lk.cl, Value.int IntKind.i64 x.lk.sq, Value.int IntKind.i64 x.lk.hm, Value.int IntKind.i64 x.lk.n]]
      { π := m.π, sz := n, uf := m.uf : M } (Value.bool b) ∧
      ifB b
      (Done
      (Value.tuple #[Value.int IntKind.i64 (0 : Int), Value.bool false] =
      Value.tuple #[Value.int IntKind.i64 (if totB x = true then x.base else (0 : Int)), Value.bool (totB x)]))
      (ifB (decide ((↑x.hs.length : Int) > (0 : Int)))
      (Done
      (Value.tuple #[Value.int IntKind.i64 (0 : Int), Value.bool false] =
      Value.tuple #[Value.int IntKind.i64 (if totB x = true then x.base else (0 : Int)), Value.bool (totB x)]))
      (Done
      (Value.tuple #[Value.int IntKind.i64 x.base, Value.bool true] =
      Value.tuple #[Value.int IntKind.i64 (if totB x = true then x.base else (0 : Int)), Value.bool (totB x)]))))) (by kernel_rfl) ?_
  refine ⟨rfl, _, right_q x a c hx _ (h.sz hn), ?_⟩
  cases hr : rightB x
  · exact ifB_true ⟨by simp [totB, hr]⟩
  · refine ifB_false ⟨_, locked_q x a c _, ifB_intro (fun h1 => ⟨?_⟩) (fun h1 => ifB_intro (fun h2 => ⟨?_⟩) (fun h2 => ⟨?_⟩))⟩
    · simp at h1; simp [totB, h1]
    · have : x.hs ≠ [] := fun e => by simp [e] at h2
      simp [totB, this]
    · have : x.hs = [] := by simpa using h2
      simp at h1; simp [totB, hr, h1, this]

def hd0 : Hd := ⟨0, 0, 0, 0⟩

abbrev hdv (h : Hd) : Value := .agg #[I h.nd, I h.le, I h.up, I h.dn]

def fndH (l : List Hd) (nd : Int) : Option Hd := l.find? (fun h => h.nd == nd)

def findH (x : Ac) (nd : Int) : Hd := if rightB x then (fndH x.hs nd).getD hd0 else hd0

def findB (x : Ac) (nd : Int) : Bool := rightB x && (fndH x.hs nd).isSome

theorem fndH_drop {l : List Hd} {k : Nat} (hk : k < l.length) (nd : Int) : fndH (l.drop k) nd = if l[k].nd = nd then some l[k] else fndH (l.drop (k + 1)) nd := by
  rw [List.drop_eq_getElem_cons hk]
  unfold fndH
  rw [List.find?_cons]
  by_cases h : l[k].nd = nd
  · simp [h]
  · have : (l[k].nd == nd) = false := by simpa using h
    simp [h, this]

theorem find_q (x : Ac) (a : Option Addr) (c : Nat) (nd : Int) (hx : x.wf) (m : M) (h : Row m a (hds x.hs)) : QSpec Try.prog 33 [acv x a c, I nd] m (.tuple #[hdv (findH x nd), .bool (findB x nd)]) := by
  refine QSpec.of_vc Try.func33 (ann := fun n _ => { A := Nat, inv := fun k => k ≤ x.hs.length ∧ fndH x.hs nd = fndH (x.hs.drop k) nd, st := fun k => [(15, .val (I k)), (14, .val (I x.hs.length)), (13, .val (.slice a x.hs.length c)), (1, .val (I nd)), (4, .own 1 0)], own := fun _ => [(1, ⟨67, [I 0, I 0, I 0, I 0]⟩)], m := fun _ => { m with sz := n }, μ := fun k => x.hs.length - k }) fun n hn => ?_
  refine vc_by (X :=
      true = true ∧
      ∃ (b : Bool),
      QSpec Try.prog (72 : Nat)
      [Value.agg
      #[Value.string x.key, Value.int IntKind.i64 x.lo, Value.int IntKind.i64 x.hi, Value.int IntKind.i64 x.base, Value.int IntKind.i64 x.round, Value.slice a x.hs.length c,
      Value.int IntKind.i64 x.lk.cl, Value.int IntKind.i64 x.lk.sq, Value.int IntKind.i64 x.lk.hm, Value.int IntKind.i64 x.lk.n]]
      { π := m.π, sz := n, uf := m.uf : M } (Value.bool b) ∧
      ifB (!b)
      (Done
      (Value.tuple
      #[Value.agg #[Value.int IntKind.i64 (0 : Int), Value.int IntKind.i64 (0 : Int), Value.int IntKind.i64 (0 : Int), Value.int IntKind.i64 (0 : Int)], Value.bool false] =
      Value.tuple
      #[Value.agg
      #[Value.int IntKind.i64 (findH x nd).nd, Value.int IntKind.i64 (findH x nd).le, Value.int IntKind.i64 (findH x nd).up, Value.int IntKind.i64 (findH x nd).dn],
      Value.bool (findB x nd)]))
      ((∃ (a_1 : Nat),
      (a_1 ≤ x.hs.length ∧ fndH x.hs nd = fndH (List.drop a_1 x.hs) nd) ∧
      { π := m.π, sz := n, uf := m.uf : M } = { π := m.π, sz := n, uf := m.uf : M } ∧
      ((SV.val (Value.int IntKind.i64 (0 : Int)) = SV.val (Value.int IntKind.i64 (↑a_1 : Int)) ∧ true = true) ∧
      (SV.val (Value.int IntKind.i64 (↑x.hs.length : Int)) = SV.val (Value.int IntKind.i64 (↑x.hs.length : Int)) ∧ true = true) ∧
      (SV.val (Value.slice a x.hs.length c) = SV.val (Value.slice a x.hs.length c) ∧ true = true) ∧
      (SV.val (Value.int IntKind.i64 nd) = SV.val (Value.int IntKind.i64 nd) ∧ true = true) ∧
      (SV.own ((0 : Nat) + (1 : Nat)) (0 : Nat) = SV.own (1 : Nat) (0 : Nat) ∧ true = true) ∧ True) ∧
      (some
      { ty := (67 : Nat), cs := [Value.int IntKind.i64 (0 : Int), Value.int IntKind.i64 (0 : Int), Value.int IntKind.i64 (0 : Int), Value.int IntKind.i64 (0 : Int)] : Bx } =
      some
      { ty := (67 : TypeId), cs := [Value.int IntKind.i64 (0 : Int), Value.int IntKind.i64 (0 : Int), Value.int IntKind.i64 (0 : Int), Value.int IntKind.i64 (0 : Int)] : Bx } ∧
      true = true) ∧
      True) ∧
      ∀ (a_1 : Nat),
      a_1 ≤ x.hs.length ∧ fndH x.hs nd = fndH (List.drop a_1 x.hs) nd →
      ifB (decide ((↑a_1 : Int) < (↑x.hs.length : Int)))
      (∃ (b : Nat),
      ∃ (off : Nat),
      a = some { block := b, off := off : Addr } ∧
      ((0 : Int) ≤ (↑a_1 : Int) ∧ (↑a_1 : Int) < (↑x.hs.length : Int)) ∧
      ∃ (n_1 : Int),
      ∃ (n_2 : Int),
      ∃ (n_3 : Int),
      ∃ (n_4 : Int),
      CellsAt { π := m.π, sz := n, uf := m.uf : M } b (off + (↑a_1 : Int).toNat * (4 : Nat))
      [Value.int IntKind.i64 n_1, Value.int IntKind.i64 n_2, Value.int IntKind.i64 n_3, Value.int IntKind.i64 n_4] ∧
      ifB (n_1 == nd)
      (Done
      (Value.tuple
      #[Value.agg #[Value.int IntKind.i64 n_1, Value.int IntKind.i64 n_2, Value.int IntKind.i64 n_3, Value.int IntKind.i64 n_4],
      Value.bool true] =
      Value.tuple
      #[Value.agg
      #[Value.int IntKind.i64 (findH x nd).nd, Value.int IntKind.i64 (findH x nd).le, Value.int IntKind.i64 (findH x nd).up,
      Value.int IntKind.i64 (findH x nd).dn],
      Value.bool (findB x nd)]))
      (∃ (a' : Nat),
      ((a' ≤ x.hs.length ∧ fndH x.hs nd = fndH (List.drop a' x.hs) nd) ∧
      { π := m.π, sz := n, uf := m.uf : M } = { π := m.π, sz := n, uf := m.uf : M } ∧
      ((SV.val (Value.int IntKind.i64 (IntKind.i64.wrap ((↑a_1 : Int) + (1 : Int)))) = SV.val (Value.int IntKind.i64 (↑a' : Int)) ∧
      true = true) ∧
      (SV.val (Value.int IntKind.i64 (↑x.hs.length : Int)) = SV.val (Value.int IntKind.i64 (↑x.hs.length : Int)) ∧ true = true) ∧
      (SV.val (Value.slice a x.hs.length c) = SV.val (Value.slice a x.hs.length c) ∧ true = true) ∧
      (SV.val (Value.int IntKind.i64 nd) = SV.val (Value.int IntKind.i64 nd) ∧ true = true) ∧
      (SV.own (1 : Nat) (0 : Nat) = SV.own (1 : Nat) (0 : Nat) ∧ true = true) ∧ True) ∧
      (some
      { ty := (67 : TypeId), cs := [Value.int IntKind.i64 (0 : Int), Value.int IntKind.i64 (0 : Int), Value.int IntKind.i64 (0 : Int), Value.int IntKind.i64 (0 : Int)] : Bx } =
      some
      { ty := (67 : TypeId), cs := [Value.int IntKind.i64 (0 : Int), Value.int IntKind.i64 (0 : Int), Value.int IntKind.i64 (0 : Int), Value.int IntKind.i64 (0 : Int)] : Bx } ∧
      true = true) ∧
      True) ∧
      x.hs.length - a' < x.hs.length - a_1))
      (Done
      (Value.tuple
      #[Value.agg #[Value.int IntKind.i64 (0 : Int), Value.int IntKind.i64 (0 : Int), Value.int IntKind.i64 (0 : Int), Value.int IntKind.i64 (0 : Int)],
      Value.bool false] =
      Value.tuple
      #[Value.agg
      #[Value.int IntKind.i64 (findH x nd).nd, Value.int IntKind.i64 (findH x nd).le, Value.int IntKind.i64 (findH x nd).up,
      Value.int IntKind.i64 (findH x nd).dn],
      Value.bool (findB x nd)])))) (by kernel_rfl) ?_
  have h' := h.sz hn
  refine ⟨rfl, _, right_q x a c hx _ h', ?_⟩
  cases hr : rightB x
  · exact ifB_true ⟨by simp [findH, findB, hr, hd0]⟩
  · refine ifB_false ⟨⟨0, by simp⟩, fun k ⟨hk, hq⟩ => ifB_intro (fun hb => ?_) (fun hb => ⟨?_⟩)⟩
    · have hk2 : k < x.hs.length := by simpa using hb
      obtain ⟨b, o, rfl, hc⟩ := h'.cells (by rw [hds_len]; omega)
      have hlen := hx.len
      have w1 : IntKind.i64.wrap ((k : Int) + 1) = ((k + 1 : Nat) : Int) := by simp [IntKind.wrap_i64]; omega
      rw [fndH_drop hk2] at hq
      refine ⟨b, o, rfl, by omega, _, _, _, _, by simpa using hd_at hc hk2, ifB_intro (fun h1 => ⟨?_⟩) (fun h1 => ⟨k + 1, ⟨⟨hk2, ?_⟩, by simp [w1]⟩, by omega⟩)⟩
      · simp at h1; simp [findH, findB, hr, hq, h1]
      · simp at h1; simp [hq, h1]
    · have : k = x.hs.length := by simp at hb; omega
      subst this
      simp [fndH] at hq
      simp [findH, findB, hr, fndH, hd0]
      have : List.find? (fun h => h.nd == nd) x.hs = none := by simpa using hq
      simp [this]
      exact hq

def plainB (x : Ac) : Bool := rightB x && decide (x.lo = 0) && decide (x.hi = 0) && decide (x.base = 0) && x.hs.isEmpty && decide (x.round = 0) && decide (x.lk.cl = 0)

end Go.Proofs.Ytfkielfnceeedaa
set_option linter.unusedVariables false
set_option linter.unusedSimpArgs false
namespace Go.Proofs.Ytfkielfnceeedaa
open Go.Vc Go.RowKit

theorem above_q (W k : Int) (hW : -85070591730234615865843651857942052864 ≤ W ∧ W ≤ 85070591730234615865843651857942052864) (hk : In64 k) (m : M) : QSpec Try.prog 70 [wide W, I k] m (.bool (decide (W > k))) := by
  refine QSpec.of_vc Try.func70 (ann := fun _ => noAnn) fun n hn => ?_
  refine vc_by (X :=
      true = true ∧
      ∃ (n_1 : Int),
      ∃ (n_2 : Int),
      QSpec Try.prog (62 : Nat) [Value.agg #[Value.int IntKind.i64 (wideHi W), Value.int IntKind.u64 (wideLo W)], Value.int IntKind.i64 k] { π := m.π, sz := n, uf := m.uf : M }
      (Value.agg #[Value.int IntKind.i64 n_1, Value.int IntKind.u64 n_2]) ∧
      ifB (decide (n_1 > (0 : Int))) (Done (Value.bool true = Value.bool (decide (W > k))))
      (ifB (n_1 == (0 : Int)) (Done (Value.bool (decide (n_2 > (0 : Int))) = Value.bool (decide (W > k)))) (Done (Value.bool false = Value.bool (decide (W > k)))))) (by kernel_rfl) ?_
  refine ⟨rfl, _, _, less_q W k hk _, ?_⟩
  unfold In64 at hk
  refine ifB_intro (fun h => ⟨?_⟩) (fun h => ifB_intro (fun h2 => ⟨?_⟩) (fun h2 => ⟨?_⟩))
  all_goals simp only [Value.bool.injEq, eq_comm (a := true), eq_comm (a := false), decide_eq_true_eq, decide_eq_false_iff_not, decide_eq_decide, beq_iff_eq, beq_eq_false_iff_ne] at *
  all_goals simp [wideHi, wideLo, IntKind.wrap_i64] at *
  all_goals omega

theorem rkey_q (k : ByteArray) (m : M) : QSpec Try.prog 67 [.string k] m (.bool (keyB k)) := by
  refine QSpec.of_vc Try.func67 (ann := fun _ => noAnn) fun n hn => ?_
  refine vc_by (X :=
      true = true ∧
      ifB (decide ((↑k.size : Int) ≥ (1 : Int))) (Done (Value.bool (decide ((↑k.size : Int) ≤ (16 : Int))) = Value.bool (keyB k))) (Done (Value.bool false = Value.bool (keyB k)))) (by kernel_rfl) ?_
  refine ⟨rfl, ifB_intro (fun h => ⟨?_⟩) (fun h => ⟨?_⟩)⟩
  · have h1 : 1 ≤ k.size := by simp at h; omega
    simp [keyB, h1]; omega
  · simp at h; simp [keyB]; omega

theorem rlocked_q (k : Lk) (m : M) : QSpec Try.prog 71 [.agg #[I k.cl, I k.sq, I k.hm, I k.n]] m (.bool (keeperB k)) := by
  refine QSpec.of_vc Try.func71 (ann := fun _ => noAnn) fun n hn => ?_
  refine vc_by (X :=
      true = true ∧
      ifB (decide (k.cl ≥ (1 : Int)))
      (ifB (decide (k.sq ≥ (1 : Int)))
      (ifB (decide (k.hm ≥ (1 : Int))) (Done (Value.bool (decide (k.hm < (8 : Int))) = Value.bool (keeperB k))) (Done (Value.bool false = Value.bool (keeperB k))))
      (Done (Value.bool false = Value.bool (keeperB k))))
      (Done (Value.bool false = Value.bool (keeperB k)))) (by kernel_rfl) ?_
  refine ⟨rfl, ?_⟩
  repeat' (refine ifB_intro (fun h => ?_) (fun h => ?_))
  all_goals (refine ⟨?_⟩; simp at *; simp [keeperB]; omega)

structure EndsX where
  k : Nat
  m : M

def endsAnn (x : Ac) (a : Option Addr) (c : Nat) (m : M) : Nat → Ann
  | 2 => {
    A := M
    inv y := Agree m.sz m y
    st y := [(1, .own 0 0), (2, .own 1 0), (3, .own 2 0), (4, .own 11 0), (5, .own 12 0)]
    own _ := [(0, ⟨46, acc x a c⟩), (1, ⟨108, [I 0, U 0]⟩), (2, ⟨108, [I 0, U 0]⟩), (11, ⟨108, [I (wideHi x.base), U (wideLo x.base)]⟩), (12, ⟨108, [I (wideHi x.base), U (wideLo x.base)]⟩)]
    m y := y
    μ y := 0
    cut := true }
  | _ => {
    A := EndsX
    inv y := y.k ≤ x.hs.length ∧ Agree m.sz m y.m
    st y := [(6, .val (I y.k)), (1, .own 0 0), (2, .own 1 0), (3, .own 2 0), (4, .own 11 0), (5, .own 12 0)]
    own y := [(0, ⟨46, acc x a c⟩), (1, ⟨108, [I 0, U 0]⟩), (2, ⟨108, [I 0, U 0]⟩), (11, ⟨108, [I (wideHi (sumI ((dnsL x).take (y.k + 1)))), U (wideLo (sumI ((dnsL x).take (y.k + 1))))]⟩), (12, ⟨108, [I (wideHi (sumI ((upsL x).take (y.k + 1)))), U (wideLo (sumI ((upsL x).take (y.k + 1))))]⟩)]
    m y := y.m
    μ y := x.hs.length - y.k }

theorem ends_q (x : Ac) (a : Option Addr) (c : Nat) (hx : x.wf) (m : M) (h : Row m a (hds x.hs)) : QSpec Try.prog 69 [acv x a c] m (.tuple #[wide (sumI (dnsL x)), wide (sumI (upsL x))]) := by
  refine QSpec.of_vc Try.func69 (ann := fun n => endsAnn x a c { m with sz := n }) fun n hn => ?_
  refine vc_by (X :=
      true = true ∧
      (true = true ∧
      (true = true ∧
      ∀ (b : Nat),
      n ≤ b →
      MLe { π := m.π, sz := n, uf := m.uf : M } ({ π := m.π, sz := n, uf := m.uf : M }.newBlock b [Value.int IntKind.i64 x.base]) ∧
      ∃ (n_1 : Int),
      ∃ (n_2 : Int),
      QSpec Try.prog (60 : Nat) [Value.slice (some { block := b, off := (0 : Nat) : Addr }) (1 : Nat) (1 : Nat)]
      ({ π := m.π, sz := n, uf := m.uf : M }.newBlock b [Value.int IntKind.i64 x.base]) (Value.agg #[Value.int IntKind.i64 n_1, Value.int IntKind.u64 n_2]) ∧
      (true = true ∧
      ∀ (b_1 : Nat),
      max n (b + (1 : Nat)) ≤ b_1 →
      MLe ({ π := m.π, sz := n, uf := m.uf : M }.newBlock b [Value.int IntKind.i64 x.base])
      (({ π := m.π, sz := n, uf := m.uf : M }.newBlock b [Value.int IntKind.i64 x.base]).newBlock b_1 [Value.int IntKind.i64 x.base]) ∧
      ∃ (n_3 : Int),
      ∃ (n_4 : Int),
      QSpec Try.prog (60 : Nat) [Value.slice (some { block := b_1, off := (0 : Nat) : Addr }) (1 : Nat) (1 : Nat)]
      (({ π := m.π, sz := n, uf := m.uf : M }.newBlock b [Value.int IntKind.i64 x.base]).newBlock b_1 [Value.int IntKind.i64 x.base])
      (Value.agg #[Value.int IntKind.i64 n_3, Value.int IntKind.u64 n_4]) ∧
      ∃ (x_1 : M),
      Agree n { π := m.π, sz := n, uf := m.uf : M } x_1 ∧
      ({ π := m.π, sz := n, uf := m.uf : M }.newBlock b [Value.int IntKind.i64 x.base]).newBlock b_1 [Value.int IntKind.i64 x.base] = x_1 ∧
      ((SV.own ((0 : Nat) + (0 : Nat)) (0 : Nat) = SV.own (0 : Nat) (0 : Nat) ∧ true = true) ∧
      (SV.own ((0 : Nat) + (1 : Nat)) (0 : Nat) = SV.own (1 : Nat) (0 : Nat) ∧ true = true) ∧
      (SV.own ((0 : Nat) + (2 : Nat)) (0 : Nat) = SV.own (2 : Nat) (0 : Nat) ∧ true = true) ∧
      (SV.own ((0 : Nat) + (3 : Nat) + (8 : Nat)) (0 : Nat) = SV.own (11 : Nat) (0 : Nat) ∧ true = true) ∧
      (SV.own ((0 : Nat) + (3 : Nat) + (9 : Nat)) (0 : Nat) = SV.own (12 : Nat) (0 : Nat) ∧ true = true) ∧ True) ∧
      (some
      { ty := (46 : Nat), cs := [Value.string x.key, Value.int IntKind.i64 x.lo, Value.int IntKind.i64 x.hi, Value.int IntKind.i64 x.base, Value.int IntKind.i64 x.round, Value.slice a x.hs.length c, Value.int IntKind.i64 x.lk.cl, Value.int IntKind.i64 x.lk.sq, Value.int IntKind.i64 x.lk.hm, Value.int IntKind.i64 x.lk.n] : Bx } =
      some
      { ty := (46 : TypeId), cs := [Value.string x.key, Value.int IntKind.i64 x.lo, Value.int IntKind.i64 x.hi, Value.int IntKind.i64 x.base, Value.int IntKind.i64 x.round, Value.slice a x.hs.length c, Value.int IntKind.i64 x.lk.cl, Value.int IntKind.i64 x.lk.sq, Value.int IntKind.i64 x.lk.hm, Value.int IntKind.i64 x.lk.n] : Bx } ∧
      true = true) ∧
      (some { ty := (108 : Nat), cs := [Value.int IntKind.i64 (0 : Int), Value.int IntKind.u64 (0 : Int)] : Bx } =
      some { ty := (108 : TypeId), cs := [Value.int IntKind.i64 (0 : Int), Value.int IntKind.u64 (0 : Int)] : Bx } ∧
      true = true) ∧
      (some { ty := (108 : Nat), cs := [Value.int IntKind.i64 (0 : Int), Value.int IntKind.u64 (0 : Int)] : Bx } =
      some { ty := (108 : TypeId), cs := [Value.int IntKind.i64 (0 : Int), Value.int IntKind.u64 (0 : Int)] : Bx } ∧
      true = true) ∧
      (some { ty := (108 : Nat), cs := [Value.int IntKind.i64 n_1, Value.int IntKind.u64 n_2] : Bx } =
      some { ty := (108 : TypeId), cs := [Value.int IntKind.i64 (wideHi x.base), Value.int IntKind.u64 (wideLo x.base)] : Bx } ∧
      true = true) ∧
      (some { ty := (108 : Nat), cs := [Value.int IntKind.i64 n_3, Value.int IntKind.u64 n_4] : Bx } =
      some
      { ty := (108 : TypeId), cs := [Value.int IntKind.i64 (wideHi x.base), Value.int IntKind.u64 (wideLo x.base)] : Bx } ∧
      true = true) ∧
      True) ∧
      True) ∧
      (true = true ∧
      ∀ (b : Nat),
      n ≤ b →
      MLe { π := m.π, sz := n, uf := m.uf : M } ({ π := m.π, sz := n, uf := m.uf : M }.newBlock b [Value.int IntKind.i64 x.base]) ∧
      (true = true ∧
      ∀ (b_1 : Nat),
      max n (b + (1 : Nat)) ≤ b_1 →
      MLe ({ π := m.π, sz := n, uf := m.uf : M }.newBlock b [Value.int IntKind.i64 x.base])
      (({ π := m.π, sz := n, uf := m.uf : M }.newBlock b [Value.int IntKind.i64 x.base]).newBlock b_1 [Value.int IntKind.i64 x.base]) ∧
      ∃ (n_1 : Int),
      ∃ (n_2 : Int),
      QSpec Try.prog (60 : Nat) [Value.slice (some { block := b_1, off := (0 : Nat) : Addr }) (1 : Nat) (1 : Nat)]
      (({ π := m.π, sz := n, uf := m.uf : M }.newBlock b [Value.int IntKind.i64 x.base]).newBlock b_1 [Value.int IntKind.i64 x.base])
      (Value.agg #[Value.int IntKind.i64 n_1, Value.int IntKind.u64 n_2]) ∧
      ∃ (n_3 : Int),
      ∃ (n_4 : Int),
      QSpec Try.prog (60 : Nat) [Value.slice (some { block := b, off := (0 : Nat) : Addr }) (1 : Nat) (1 : Nat)]
      (({ π := m.π, sz := n, uf := m.uf : M }.newBlock b [Value.int IntKind.i64 x.base]).newBlock b_1 [Value.int IntKind.i64 x.base])
      (Value.agg #[Value.int IntKind.i64 n_3, Value.int IntKind.u64 n_4]) ∧
      ∃ (x_1 : M),
      Agree n { π := m.π, sz := n, uf := m.uf : M } x_1 ∧
      ({ π := m.π, sz := n, uf := m.uf : M }.newBlock b [Value.int IntKind.i64 x.base]).newBlock b_1 [Value.int IntKind.i64 x.base] = x_1 ∧
      ((SV.own ((0 : Nat) + (0 : Nat)) (0 : Nat) = SV.own (0 : Nat) (0 : Nat) ∧ true = true) ∧
      (SV.own ((0 : Nat) + (1 : Nat)) (0 : Nat) = SV.own (1 : Nat) (0 : Nat) ∧ true = true) ∧
      (SV.own ((0 : Nat) + (2 : Nat)) (0 : Nat) = SV.own (2 : Nat) (0 : Nat) ∧ true = true) ∧
      (SV.own ((0 : Nat) + (3 : Nat) + (8 : Nat)) (0 : Nat) = SV.own (11 : Nat) (0 : Nat) ∧ true = true) ∧
      (SV.own ((0 : Nat) + (3 : Nat) + (9 : Nat)) (0 : Nat) = SV.own (12 : Nat) (0 : Nat) ∧ true = true) ∧ True) ∧
      (some
      { ty := (46 : Nat), cs := [Value.string x.key, Value.int IntKind.i64 x.lo, Value.int IntKind.i64 x.hi, Value.int IntKind.i64 x.base, Value.int IntKind.i64 x.round, Value.slice a x.hs.length c, Value.int IntKind.i64 x.lk.cl, Value.int IntKind.i64 x.lk.sq, Value.int IntKind.i64 x.lk.hm, Value.int IntKind.i64 x.lk.n] : Bx } =
      some
      { ty := (46 : TypeId), cs := [Value.string x.key, Value.int IntKind.i64 x.lo, Value.int IntKind.i64 x.hi, Value.int IntKind.i64 x.base, Value.int IntKind.i64 x.round, Value.slice a x.hs.length c, Value.int IntKind.i64 x.lk.cl, Value.int IntKind.i64 x.lk.sq, Value.int IntKind.i64 x.lk.hm, Value.int IntKind.i64 x.lk.n] : Bx } ∧
      true = true) ∧
      (some { ty := (108 : Nat), cs := [Value.int IntKind.i64 (0 : Int), Value.int IntKind.u64 (0 : Int)] : Bx } =
      some { ty := (108 : TypeId), cs := [Value.int IntKind.i64 (0 : Int), Value.int IntKind.u64 (0 : Int)] : Bx } ∧
      true = true) ∧
      (some { ty := (108 : Nat), cs := [Value.int IntKind.i64 (0 : Int), Value.int IntKind.u64 (0 : Int)] : Bx } =
      some { ty := (108 : TypeId), cs := [Value.int IntKind.i64 (0 : Int), Value.int IntKind.u64 (0 : Int)] : Bx } ∧
      true = true) ∧
      (some { ty := (108 : Nat), cs := [Value.int IntKind.i64 n_1, Value.int IntKind.u64 n_2] : Bx } =
      some
      { ty := (108 : TypeId), cs := [Value.int IntKind.i64 (wideHi x.base), Value.int IntKind.u64 (wideLo x.base)] : Bx } ∧
      true = true) ∧
      (some { ty := (108 : Nat), cs := [Value.int IntKind.i64 n_3, Value.int IntKind.u64 n_4] : Bx } =
      some
      { ty := (108 : TypeId), cs := [Value.int IntKind.i64 (wideHi x.base), Value.int IntKind.u64 (wideLo x.base)] : Bx } ∧
      true = true) ∧
      True) ∧
      True) ∧
      True) ∧
      ∀ (x_1 : M),
      Agree n { π := m.π, sz := n, uf := m.uf : M } x_1 →
      (∃ (a_2 : EndsX),
      (a_2.k ≤ x.hs.length ∧ Agree n { π := m.π, sz := n, uf := m.uf : M } a_2.m) ∧
      x_1 = a_2.m ∧
      ((SV.val (Value.int IntKind.i64 (0 : Int)) = SV.val (Value.int IntKind.i64 (↑a_2.k : Int)) ∧ true = true) ∧
      (SV.own (0 : Nat) (0 : Nat) = SV.own (0 : Nat) (0 : Nat) ∧ true = true) ∧
      (SV.own (1 : Nat) (0 : Nat) = SV.own (1 : Nat) (0 : Nat) ∧ true = true) ∧
      (SV.own (2 : Nat) (0 : Nat) = SV.own (2 : Nat) (0 : Nat) ∧ true = true) ∧
      (SV.own (11 : Nat) (0 : Nat) = SV.own (11 : Nat) (0 : Nat) ∧ true = true) ∧
      (SV.own (12 : Nat) (0 : Nat) = SV.own (12 : Nat) (0 : Nat) ∧ true = true) ∧ True) ∧
      (some
      { ty := (46 : TypeId), cs := [Value.string x.key, Value.int IntKind.i64 x.lo, Value.int IntKind.i64 x.hi, Value.int IntKind.i64 x.base, Value.int IntKind.i64 x.round, Value.slice a x.hs.length c, Value.int IntKind.i64 x.lk.cl, Value.int IntKind.i64 x.lk.sq, Value.int IntKind.i64 x.lk.hm, Value.int IntKind.i64 x.lk.n] : Bx } =
      some
      { ty := (46 : TypeId), cs := [Value.string x.key, Value.int IntKind.i64 x.lo, Value.int IntKind.i64 x.hi, Value.int IntKind.i64 x.base, Value.int IntKind.i64 x.round, Value.slice a x.hs.length c, Value.int IntKind.i64 x.lk.cl, Value.int IntKind.i64 x.lk.sq, Value.int IntKind.i64 x.lk.hm, Value.int IntKind.i64 x.lk.n] : Bx } ∧
      true = true) ∧
      (some { ty := (108 : TypeId), cs := [Value.int IntKind.i64 (0 : Int), Value.int IntKind.u64 (0 : Int)] : Bx } =
      some { ty := (108 : TypeId), cs := [Value.int IntKind.i64 (0 : Int), Value.int IntKind.u64 (0 : Int)] : Bx } ∧
      true = true) ∧
      (some { ty := (108 : TypeId), cs := [Value.int IntKind.i64 (0 : Int), Value.int IntKind.u64 (0 : Int)] : Bx } =
      some { ty := (108 : TypeId), cs := [Value.int IntKind.i64 (0 : Int), Value.int IntKind.u64 (0 : Int)] : Bx } ∧
      true = true) ∧
      (some { ty := (108 : TypeId), cs := [Value.int IntKind.i64 (wideHi x.base), Value.int IntKind.u64 (wideLo x.base)] : Bx } =
      some
      { ty := (108 : TypeId), cs := [Value.int IntKind.i64 (wideHi (sumI (List.take (a_2.k + (1 : Nat)) (dnsL x)))), Value.int IntKind.u64 (wideLo (sumI (List.take (a_2.k + (1 : Nat)) (dnsL x))))] : Bx } ∧
      true = true) ∧
      (some { ty := (108 : TypeId), cs := [Value.int IntKind.i64 (wideHi x.base), Value.int IntKind.u64 (wideLo x.base)] : Bx } =
      some
      { ty := (108 : TypeId), cs := [Value.int IntKind.i64 (wideHi (sumI (List.take (a_2.k + (1 : Nat)) (upsL x)))), Value.int IntKind.u64 (wideLo (sumI (List.take (a_2.k + (1 : Nat)) (upsL x))))] : Bx } ∧
      true = true) ∧
      True) ∧
      ∀ (a_2 : EndsX),
      a_2.k ≤ x.hs.length ∧ Agree n { π := m.π, sz := n, uf := m.uf : M } a_2.m →
      ifB (decide ((↑a_2.k : Int) < (↑x.hs.length : Int)))
      (true = true ∧
      ∃ (b : Nat),
      ∃ (off : Nat),
      a = some { block := b, off := off : Addr } ∧
      ((0 : Int) ≤ (↑a_2.k : Int) ∧ (↑a_2.k : Int) < (↑x.hs.length : Int)) ∧
      ∃ (n_1 : Int),
      CellsAt a_2.m b (off + (↑a_2.k : Int).toNat * (4 : Nat) + (3 : Nat)) [Value.int IntKind.i64 n_1] ∧
      ∃ (n_2 : Int),
      ∃ (n_3 : Int),
      QSpec Try.prog (62 : Nat)
      [Value.agg
      #[Value.int IntKind.i64 (wideHi (sumI (List.take (a_2.k + (1 : Nat)) (dnsL x)))),
      Value.int IntKind.u64 (wideLo (sumI (List.take (a_2.k + (1 : Nat)) (dnsL x))))],
      Value.int IntKind.i64 n_1]
      a_2.m (Value.agg #[Value.int IntKind.i64 n_2, Value.int IntKind.u64 n_3]) ∧
      ∃ (b : Nat),
      ∃ (off : Nat),
      a = some { block := b, off := off : Addr } ∧
      ((0 : Int) ≤ (↑a_2.k : Int) ∧ (↑a_2.k : Int) < (↑x.hs.length : Int)) ∧
      ∃ (n_4 : Int),
      CellsAt a_2.m b (off + (↑a_2.k : Int).toNat * (4 : Nat) + (2 : Nat)) [Value.int IntKind.i64 n_4] ∧
      ∃ (n_5 : Int),
      ∃ (n_6 : Int),
      QSpec Try.prog (83 : Nat)
      [Value.agg
      #[Value.int IntKind.i64 (wideHi (sumI (List.take (a_2.k + (1 : Nat)) (upsL x)))),
      Value.int IntKind.u64 (wideLo (sumI (List.take (a_2.k + (1 : Nat)) (upsL x))))],
      Value.int IntKind.i64 n_4]
      a_2.m (Value.agg #[Value.int IntKind.i64 n_5, Value.int IntKind.u64 n_6]) ∧
      ∃ (a' : EndsX),
      ((a'.k ≤ x.hs.length ∧ Agree n { π := m.π, sz := n, uf := m.uf : M } a'.m) ∧
      a_2.m = a'.m ∧
      ((SV.val (Value.int IntKind.i64 (IntKind.i64.wrap ((↑a_2.k : Int) + (1 : Int)))) =
      SV.val (Value.int IntKind.i64 (↑a'.k : Int)) ∧
      true = true) ∧
      (SV.own (0 : Nat) (0 : Nat) = SV.own (0 : Nat) (0 : Nat) ∧ true = true) ∧
      (SV.own (1 : Nat) (0 : Nat) = SV.own (1 : Nat) (0 : Nat) ∧ true = true) ∧
      (SV.own (2 : Nat) (0 : Nat) = SV.own (2 : Nat) (0 : Nat) ∧ true = true) ∧
      (SV.own (11 : Nat) (0 : Nat) = SV.own (11 : Nat) (0 : Nat) ∧ true = true) ∧
      (SV.own (12 : Nat) (0 : Nat) = SV.own (12 : Nat) (0 : Nat) ∧ true = true) ∧ True) ∧
      (some
      { ty := (46 : TypeId), cs := [Value.string x.key, Value.int IntKind.i64 x.lo, Value.int IntKind.i64 x.hi, Value.int IntKind.i64 x.base, Value.int IntKind.i64 x.round, Value.slice a x.hs.length c, Value.int IntKind.i64 x.lk.cl, Value.int IntKind.i64 x.lk.sq, Value.int IntKind.i64 x.lk.hm, Value.int IntKind.i64 x.lk.n] : Bx } =
      some
      { ty := (46 : TypeId), cs := [Value.string x.key, Value.int IntKind.i64 x.lo, Value.int IntKind.i64 x.hi, Value.int IntKind.i64 x.base, Value.int IntKind.i64 x.round, Value.slice a x.hs.length c, Value.int IntKind.i64 x.lk.cl, Value.int IntKind.i64 x.lk.sq, Value.int IntKind.i64 x.lk.hm, Value.int IntKind.i64 x.lk.n] : Bx } ∧
      true = true) ∧
      (some { ty := (108 : TypeId), cs := [Value.int IntKind.i64 (0 : Int), Value.int IntKind.u64 (0 : Int)] : Bx } =
      some
      { ty := (108 : TypeId), cs := [Value.int IntKind.i64 (0 : Int), Value.int IntKind.u64 (0 : Int)] : Bx } ∧
      true = true) ∧
      (some { ty := (108 : TypeId), cs := [Value.int IntKind.i64 (0 : Int), Value.int IntKind.u64 (0 : Int)] : Bx } =
      some
      { ty := (108 : TypeId), cs := [Value.int IntKind.i64 (0 : Int), Value.int IntKind.u64 (0 : Int)] : Bx } ∧
      true = true) ∧
      (some { ty := (108 : TypeId), cs := [Value.int IntKind.i64 n_2, Value.int IntKind.u64 n_3] : Bx } =
      some
      { ty := (108 : TypeId), cs := [Value.int IntKind.i64 (wideHi (sumI (List.take (a'.k + (1 : Nat)) (dnsL x)))), Value.int IntKind.u64 (wideLo (sumI (List.take (a'.k + (1 : Nat)) (dnsL x))))] : Bx } ∧
      true = true) ∧
      (some { ty := (108 : TypeId), cs := [Value.int IntKind.i64 n_5, Value.int IntKind.u64 n_6] : Bx } =
      some
      { ty := (108 : TypeId), cs := [Value.int IntKind.i64 (wideHi (sumI (List.take (a'.k + (1 : Nat)) (upsL x)))), Value.int IntKind.u64 (wideLo (sumI (List.take (a'.k + (1 : Nat)) (upsL x))))] : Bx } ∧
      true = true) ∧
      True) ∧
      x.hs.length - a'.k < x.hs.length - a_2.k)
      (true = true ∧
      Done
      (Value.tuple
      #[Value.agg
      #[Value.int IntKind.i64 (wideHi (sumI (List.take (a_2.k + (1 : Nat)) (dnsL x)))),
      Value.int IntKind.u64 (wideLo (sumI (List.take (a_2.k + (1 : Nat)) (dnsL x))))],
      Value.agg
      #[Value.int IntKind.i64 (wideHi (sumI (List.take (a_2.k + (1 : Nat)) (upsL x)))),
      Value.int IntKind.u64 (wideLo (sumI (List.take (a_2.k + (1 : Nat)) (upsL x))))]] =
      Value.tuple
      #[Value.agg #[Value.int IntKind.i64 (wideHi (sumI (dnsL x))), Value.int IntKind.u64 (wideLo (sumI (dnsL x)))],
      Value.agg #[Value.int IntKind.i64 (wideHi (sumI (upsL x))), Value.int IntKind.u64 (wideLo (sumI (upsL x)))]]))) (by kernel_rfl) ?_
  have h' := h.sz hn
  have s1 : sumI [x.base] = x.base := by simp [sumI]
  have r1 : ∀ (m1 : M) b, b < m1.sz → CellsAt m1 b 0 [I x.base] → QSpec Try.prog 60 [.slice (some ⟨b, 0, none⟩) 1 1] m1 (wide x.base) := fun m1 b hb hc => by
    have := of_q (some ⟨b, 0, none⟩) 1 [x.base] (by simpa using hx.base) (by simp) m1 (.at _ _ _ hb hc)
    rw [s1] at this
    exact this
  have c1 : ∀ (m1 : M) b cs, b < (m1.newBlock b cs).sz := fun m1 b cs => by simp only [M.newBlock]; omega
  refine ⟨rfl, ⟨rfl, ⟨rfl, fun b hb => ⟨MLe.newBlock hb, _, _, r1 _ b (c1 _ _ _) cellsAt_new, ⟨rfl, fun b2 hb2 => ⟨MLe.newBlock hb2, _, _, r1 _ b2 (c1 _ _ _) cellsAt_new, _, (newBlock_agreeB hb).trans (newBlock_agreeB (by show n ≤ b2; omega)), rfl, by simp⟩⟩, trivial⟩⟩,
    ⟨rfl, fun b hb => ⟨MLe.newBlock hb, ⟨rfl, fun b2 hb2 => ⟨MLe.newBlock hb2, _, _, r1 _ b2 (c1 _ _ _) cellsAt_new, _, _, r1 _ b (by simp only [M.newBlock]; omega) (cellsAt_new.of (newBlock_other (by omega))), _, (newBlock_agreeB hb).trans (newBlock_agreeB (by show n ≤ b2; omega)), rfl, by simp⟩⟩, trivial⟩⟩, trivial⟩,
    fun y hy => ⟨⟨⟨0, y⟩, ⟨Nat.zero_le _, hy⟩, by simp [s1]⟩, fun y ⟨hk, hag⟩ => ifB_intro (fun hb => ?_) (fun hb => ?_)⟩⟩
  · have hk2 : y.k < x.hs.length := by simpa using hb
    obtain ⟨b, o, rfl, hc⟩ := (h'.agree hag).cells (by rw [hds_len]; omega)
    have hlen := hx.len
    have w1 : IntKind.i64.wrap ((y.k : Int) + 1) = ((y.k + 1 : Nat) : Int) := by simp [IntKind.wrap_i64]; omega
    have hw := hx.hs _ (List.getElem_mem hk2)
    have hcell := hd_at hc hk2
    have hc3 : CellsAt y.m b (o + y.k * 4 + 3) [I x.hs[y.k].dn] := CellsAt.drop (cs := [I x.hs[y.k].nd, I x.hs[y.k].le, I x.hs[y.k].up]) hcell
    have hc2 : CellsAt y.m b (o + y.k * 4 + 2) [I x.hs[y.k].up] := (CellsAt.drop (cs := [I x.hs[y.k].nd, I x.hs[y.k].le]) (ds := [I x.hs[y.k].up, I x.hs[y.k].dn]) hcell).take (ds := [I x.hs[y.k].dn])
    have e1 : sumI ((upsL x).take (y.k + 1 + 1)) = sumI ((upsL x).take (y.k + 1)) + x.hs[y.k].up := by
      rw [sumI_take (upsL x) (y.k + 1) (by simpa using hk2)]; simp
    have e2 : sumI ((dnsL x).take (y.k + 1 + 1)) = sumI ((dnsL x).take (y.k + 1)) - x.hs[y.k].dn := by
      rw [sumI_take (dnsL x) (y.k + 1) (by simpa using hk2)]; simp; omega
    refine ⟨rfl, b, o, rfl, by omega, _, by simpa using hc3, _, _, less_q _ _ hw.2.2.2 _, b, o, rfl, by omega, _, by simpa using hc2, _, _, plus_q _ _ hw.2.2.1 _, ⟨y.k + 1, y.m⟩, ⟨⟨hk2, hag⟩, by simp only [e1, e2]; simp [w1]⟩, by simp only; omega⟩
  · have hk2 : y.k = x.hs.length := by simp at hb; omega
    rw [List.take_of_length_le (l := dnsL x) (by simp [hk2]), List.take_of_length_le (l := upsL x) (by simp [hk2])]
    exact ⟨rfl, ⟨rfl⟩⟩

theorem dn_len {x : Ac} : (dnsL x).length = x.hs.length + 1 := by simp

theorem up_len {x : Ac} : (upsL x).length = x.hs.length + 1 := by simp

theorem ups64 {x : Ac} (hx : x.wf) : ∀ v ∈ upsL x, In64 v := fun v hv => by
  rcases List.mem_cons.1 hv with rfl | hv
  · exact hx.base
  · obtain ⟨h, hh, rfl⟩ := List.mem_map.1 hv
    exact (hx.hs h hh).2.2.1

theorem ups_bound {x : Ac} (hx : x.wf) (h : holdB 0 x.hs = true) : -85070591730234615865843651857942052864 ≤ sumI (upsL x) ∧ sumI (upsL x) ≤ 85070591730234615865843651857942052864 := by
  have h1 := sumI_bound _ (ups64 hx)
  have h2 := hold_len h
  rw [up_len] at h1
  have h3 : ((x.hs.length + 1 : Nat) : Int) ≤ 6 := by omega
  omega

theorem dns_bound {x : Ac} (hx : x.wf) (h : holdB 0 x.hs = true) : -85070591730234615865843651857942052864 ≤ sumI (dnsL x) ∧ sumI (dnsL x) ≤ x.base := by
  have hm := hold_mem _ _ h
  have h4 : ∀ v ∈ dnsL x, In64 v := fun v hv => by
    rcases List.mem_cons.1 hv with rfl | hv
    · exact hx.base
    · obtain ⟨h, hh, rfl⟩ := List.mem_map.1 hv
      have h1 := (hx.hs h hh).2.2.2
      have h2 := (hm h hh).2.2.2.2
      unfold In64 at *; omega
  have h1 := sumI_bound _ h4
  have h2 := hold_len h
  rw [dn_len] at h1
  have h3 : ((x.hs.length + 1 : Nat) : Int) ≤ 6 := by omega
  have := (up_ge h).2
  omega

theorem rright_q (x : Ac) (a : Option Addr) (c : Nat) (hx : x.wf) (m : M) (h : Row m a (hds x.hs)) : QSpec Try.prog 32 [acv x a c] m (.bool (rightB x)) := by
  refine QSpec.of_vc Try.func32 (ann := fun n _ => { A := Nat, inv := fun k => k ≤ x.hs.length ∧ holdB 0 x.hs = holdB (lastNd x.hs k) (x.hs.drop k), st := fun k => [(1, .own 0 0), (3, .val (I (lastNd x.hs k))), (4, .val (I k))], own := fun _ => [(0, ⟨46, acc x a c⟩)], m := fun _ => { m with sz := n }, μ := fun k => x.hs.length - k }) fun n hn => ?_
  refine vc_by (X :=
      true = true ∧
      ∃ (b : Bool),
      QSpec Try.prog (67 : Nat) [Value.string x.key] { π := m.π, sz := n, uf := m.uf : M } (Value.bool b) ∧
      ifB (!b) (Done (Value.bool false = Value.bool (rightB x)))
      (∃ (b : Bool),
      QSpec Try.prog (68 : Nat) [Value.agg #[Value.int IntKind.i64 x.lo, Value.int IntKind.i64 x.hi], Value.int IntKind.i64 x.base] { π := m.π, sz := n, uf := m.uf : M }
      (Value.bool b) ∧
      ifB (!b) (Done (Value.bool false = Value.bool (rightB x)))
      (ifB (decide (x.round < (0 : Int))) (Done (Value.bool false = Value.bool (rightB x)))
      ((∃ (a_1 : Nat),
      (a_1 ≤ x.hs.length ∧ holdB (0 : Int) x.hs = holdB (lastNd x.hs a_1) (List.drop a_1 x.hs)) ∧
      { π := m.π, sz := n, uf := m.uf : M } = { π := m.π, sz := n, uf := m.uf : M } ∧
      ((SV.own ((0 : Nat) + (0 : Nat)) (0 : Nat) = SV.own (0 : Nat) (0 : Nat) ∧ true = true) ∧
      (SV.val (Value.int IntKind.i64 (0 : Int)) = SV.val (Value.int IntKind.i64 (lastNd x.hs a_1)) ∧ true = true) ∧
      (SV.val (Value.int IntKind.i64 (0 : Int)) = SV.val (Value.int IntKind.i64 (↑a_1 : Int)) ∧ true = true) ∧ True) ∧
      (some
      { ty := (46 : Nat), cs := [Value.string x.key, Value.int IntKind.i64 x.lo, Value.int IntKind.i64 x.hi, Value.int IntKind.i64 x.base, Value.int IntKind.i64 x.round, Value.slice a x.hs.length c, Value.int IntKind.i64 x.lk.cl, Value.int IntKind.i64 x.lk.sq, Value.int IntKind.i64 x.lk.hm, Value.int IntKind.i64 x.lk.n] : Bx } =
      some
      { ty := (46 : TypeId), cs := [Value.string x.key, Value.int IntKind.i64 x.lo, Value.int IntKind.i64 x.hi, Value.int IntKind.i64 x.base, Value.int IntKind.i64 x.round, Value.slice a x.hs.length c, Value.int IntKind.i64 x.lk.cl, Value.int IntKind.i64 x.lk.sq, Value.int IntKind.i64 x.lk.hm, Value.int IntKind.i64 x.lk.n] : Bx } ∧
      true = true) ∧
      True) ∧
      ∀ (a_1 : Nat),
      a_1 ≤ x.hs.length ∧ holdB (0 : Int) x.hs = holdB (lastNd x.hs a_1) (List.drop a_1 x.hs) →
      ifB (decide ((↑a_1 : Int) < (↑x.hs.length : Int)))
      (∃ (b : Nat),
      ∃ (off : Nat),
      a = some { block := b, off := off : Addr } ∧
      ((0 : Int) ≤ (↑a_1 : Int) ∧ (↑a_1 : Int) < (↑x.hs.length : Int)) ∧
      ∃ (n_1 : Int),
      ∃ (n_2 : Int),
      ∃ (n_3 : Int),
      ∃ (n_4 : Int),
      CellsAt { π := m.π, sz := n, uf := m.uf : M } b (off + (↑a_1 : Int).toNat * (4 : Nat))
      [Value.int IntKind.i64 n_1, Value.int IntKind.i64 n_2, Value.int IntKind.i64 n_3, Value.int IntKind.i64 n_4] ∧
      ifB (decide (n_1 ≤ lastNd x.hs a_1)) (Done (Value.bool false = Value.bool (rightB x)))
      (ifB (decide (n_1 > (5 : Int))) (Done (Value.bool false = Value.bool (rightB x)))
      (ifB (decide (n_2 < (1 : Int))) (Done (Value.bool false = Value.bool (rightB x)))
      (ifB (decide (n_3 < (0 : Int))) (Done (Value.bool false = Value.bool (rightB x)))
      (ifB (decide (n_4 < (0 : Int))) (Done (Value.bool false = Value.bool (rightB x)))
      (∃ (a' : Nat),
      ((a' ≤ x.hs.length ∧ holdB (0 : Int) x.hs = holdB (lastNd x.hs a') (List.drop a' x.hs)) ∧
      { π := m.π, sz := n, uf := m.uf : M } = { π := m.π, sz := n, uf := m.uf : M } ∧
      ((SV.own (0 : Nat) (0 : Nat) = SV.own (0 : Nat) (0 : Nat) ∧ true = true) ∧
      (SV.val (Value.int IntKind.i64 n_1) = SV.val (Value.int IntKind.i64 (lastNd x.hs a')) ∧ true = true) ∧
      (SV.val (Value.int IntKind.i64 (IntKind.i64.wrap ((↑a_1 : Int) + (1 : Int)))) =
      SV.val (Value.int IntKind.i64 (↑a' : Int)) ∧
      true = true) ∧
      True) ∧
      (some
      { ty := (46 : TypeId), cs := [Value.string x.key, Value.int IntKind.i64 x.lo, Value.int IntKind.i64 x.hi, Value.int IntKind.i64 x.base, Value.int IntKind.i64 x.round, Value.slice a x.hs.length c, Value.int IntKind.i64 x.lk.cl, Value.int IntKind.i64 x.lk.sq, Value.int IntKind.i64 x.lk.hm, Value.int IntKind.i64 x.lk.n] : Bx } =
      some
      { ty := (46 : TypeId), cs := [Value.string x.key, Value.int IntKind.i64 x.lo, Value.int IntKind.i64 x.hi, Value.int IntKind.i64 x.base, Value.int IntKind.i64 x.round, Value.slice a x.hs.length c, Value.int IntKind.i64 x.lk.cl, Value.int IntKind.i64 x.lk.sq, Value.int IntKind.i64 x.lk.hm, Value.int IntKind.i64 x.lk.n] : Bx } ∧
      true = true) ∧
      True) ∧
      x.hs.length - a' < x.hs.length - a_1))))))
      (∃ (n_1 : Int),
      ∃ (n_2 : Int),
      ∃ (n_3 : Int),
      ∃ (n_4 : Int),
      QSpec Try.prog (69 : Nat)
      [Value.agg
      #[Value.string x.key, Value.int IntKind.i64 x.lo, Value.int IntKind.i64 x.hi, Value.int IntKind.i64 x.base, Value.int IntKind.i64 x.round,
      Value.slice a x.hs.length c, Value.int IntKind.i64 x.lk.cl, Value.int IntKind.i64 x.lk.sq, Value.int IntKind.i64 x.lk.hm,
      Value.int IntKind.i64 x.lk.n]]
      { π := m.π, sz := n, uf := m.uf : M }
      (Value.tuple
      #[Value.agg #[Value.int IntKind.i64 n_1, Value.int IntKind.u64 n_2], Value.agg #[Value.int IntKind.i64 n_3, Value.int IntKind.u64 n_4]]) ∧
      ∃ (b : Bool),
      QSpec Try.prog (70 : Nat) [Value.agg #[Value.int IntKind.i64 n_3, Value.int IntKind.u64 n_4], Value.int IntKind.i64 x.hi]
      { π := m.π, sz := n, uf := m.uf : M } (Value.bool b) ∧
      ifB b (Done (Value.bool false = Value.bool (rightB x)))
      (∃ (n_5 : Int),
      ∃ (n_6 : Int),
      QSpec Try.prog (62 : Nat) [Value.agg #[Value.int IntKind.i64 n_1, Value.int IntKind.u64 n_2], Value.int IntKind.i64 x.lo]
      { π := m.π, sz := n, uf := m.uf : M } (Value.agg #[Value.int IntKind.i64 n_5, Value.int IntKind.u64 n_6]) ∧
      ifB (decide (n_5 < (0 : Int))) (Done (Value.bool false = Value.bool (rightB x)))
      (ifB (x.lk.cl == (0 : Int))
      (Done
      (Value.bool (x.lk.cl == (0 : Int) && (x.lk.sq == (0 : Int) && (x.lk.hm == (0 : Int) && (x.lk.n == (0 : Int) && true)))) =
      Value.bool (rightB x)))
      (true = true ∧
      ∀ (b : Nat),
      n ≤ b →
      ∃ (n_7 : Int),
      ∃ (n_8 : Int),
      QSpec Try.prog (60 : Nat) [Value.slice (some { block := b, off := (0 : Nat) : Addr }) (2 : Nat) (2 : Nat)]
      ({ π := m.π, sz := n, uf := m.uf : M }.newBlock b [Value.int IntKind.i64 x.base, Value.int IntKind.i64 x.lk.n])
      (Value.agg #[Value.int IntKind.i64 n_7, Value.int IntKind.u64 n_8]) ∧
      ∃ (n_9 : Int),
      ∃ (b_1 : Bool),
      QSpec Try.prog (61 : Nat) [Value.agg #[Value.int IntKind.i64 n_7, Value.int IntKind.u64 n_8]]
      ({ π := m.π, sz := n, uf := m.uf : M }.newBlock b
      [Value.int IntKind.i64 x.base, Value.int IntKind.i64 x.lk.n])
      (Value.tuple #[Value.int IntKind.i64 n_9, Value.bool b_1]) ∧
      ∃ (b_2 : Bool),
      QSpec Try.prog (71 : Nat)
      [Value.agg
      #[Value.int IntKind.i64 x.lk.cl, Value.int IntKind.i64 x.lk.sq, Value.int IntKind.i64 x.lk.hm,
      Value.int IntKind.i64 x.lk.n]]
      ({ π := m.π, sz := n, uf := m.uf : M }.newBlock b
      [Value.int IntKind.i64 x.base, Value.int IntKind.i64 x.lk.n])
      (Value.bool b_2) ∧
      ifB b_2
      (ifB ((↑x.hs.length : Int) == (0 : Int))
      (ifB b_1
      (∃ (b_3 : Bool),
      QSpec Try.prog (68 : Nat)
      [Value.agg #[Value.int IntKind.i64 x.lo, Value.int IntKind.i64 x.hi], Value.int IntKind.i64 n_9]
      ({ π := m.π, sz := n, uf := m.uf : M }.newBlock b
      [Value.int IntKind.i64 x.base, Value.int IntKind.i64 x.lk.n])
      (Value.bool b_3) ∧
      Done (Value.bool b_3 = Value.bool (rightB x)))
      (Done (Value.bool false = Value.bool (rightB x))))
      (Done (Value.bool false = Value.bool (rightB x))))
      (Done (Value.bool false = Value.bool (rightB x))))))))))) (by kernel_rfl) ?_
  have h' := h.sz hn
  refine ⟨rfl, _, rkey_q _ _, ifB_intro (fun h1 => ⟨?_⟩) (fun h1 => ⟨_, rhas_q _ _ _ _, ifB_intro (fun h2 => ⟨?_⟩) (fun h2 => ifB_intro (fun h3 => ⟨?_⟩) (fun h3 => ⟨⟨0, by simp [lastNd]⟩, fun k ⟨hk, hq⟩ => ifB_intro (fun hb => ?_) (fun hb => ?_)⟩))⟩)⟩
  · simp at h1; simp [rightB, h1]
  · simp at h2; simp [rightB, h2]
  · simp at h3; simp [rightB]; omega
  · have hk2 : k < x.hs.length := by simpa using hb
    obtain ⟨b, o, rfl, hc⟩ := h'.cells (by rw [hds_len]; omega)
    have hlen := hx.len
    have w1 : IntKind.i64.wrap ((k : Int) + 1) = ((k + 1 : Nat) : Int) := by simp [IntKind.wrap_i64]; omega
    rw [holdB_drop hk2] at hq
    refine ⟨b, o, rfl, by omega, _, _, _, _, by simpa using hd_at hc hk2, ?_⟩
    have bad : hdB (lastNd x.hs k) x.hs[k] = false → Done (Value.bool false = Value.bool (rightB x)) := fun hh => by
      rw [hh] at hq
      exact ⟨by simp [rightB, hq]⟩
    refine ifB_intro (fun h1 => bad ?_) (fun h1 => ifB_intro (fun h2 => bad ?_) (fun h2 => ifB_intro (fun h3 => bad ?_) (fun h3 => ifB_intro (fun h4 => bad ?_) (fun h4 => ifB_intro (fun h5 => bad ?_) (fun h5 => ⟨k + 1, ⟨⟨hk2, ?_⟩, by simp [w1, lastNd_succ hk2]⟩, by omega⟩)))))
    · simp at h1; simp [hdB]; omega
    · simp at h2; simp [hdB]; omega
    · simp at h3; simp [hdB]; omega
    · simp at h4; simp [hdB]; omega
    · simp at h5; simp [hdB]; omega
    · rw [hq, lastNd_succ hk2]; simp [hdB] at *; omega
  · have hkl : k = x.hs.length := by simp at hb; omega
    have h5 : holdB 0 x.hs = true := by rw [hq, hkl]; simp [holdB]
    have hh : hasB x.lo x.hi x.base = true := by simpa using h2
    have hkey : keyB x.key = true := by simpa using h1
    have hr : 0 ≤ x.round := by simpa using h3
    have hR : rightB x = (decide (sumI (upsL x) ≤ x.hi) && decide (x.lo ≤ sumI (dnsL x)) && lockB x) := by simp [rightB, hkey, hh, hr, h5]
    have hub := ups_bound hx h5
    have hdb := dns_bound hx h5
    have hlo := hx.lo
    have hhi := hx.hi
    have hba := hx.base
    have e1 : wideHi (sumI (dnsL x) - x.lo) < 0 ↔ sumI (dnsL x) < x.lo := by
      unfold In64 at *; simp [wideHi, IntKind.wrap_i64]; omega
    rw [hR]
    refine ⟨_, _, _, _, ends_q x a c hx _ h', _, above_q _ _ hub hx.hi _, ifB_intro (fun h6 => ⟨?_⟩) (fun h6 => ⟨_, _, less_q _ _ hx.lo _, ifB_intro (fun h7 => ⟨?_⟩) (fun h7 => ?_)⟩)⟩
    · simp at h6; simp; omega
    · have h7 := e1.1 (by simpa using h7)
      simp; omega
    · have h6 : sumI (upsL x) ≤ x.hi := by simp at h6; omega
      have h7 : x.lo ≤ sumI (dnsL x) := by
        have : ¬ sumI (dnsL x) < x.lo := fun hh => by simp at h7; have := e1.2 hh; omega
        omega
      simp only [h6, h7, decide_true, Bool.true_and]
      refine ifB_intro (fun h8 => ⟨?_⟩) (fun h8 => ⟨trivial, fun b hb => ?_⟩)
      · simp at h8; simp [lockB, h8, lkZ, Bool.beq_eq_decide_eq, Bool.and_assoc]
      · have s2 : sumI [x.base, x.lk.n] = x.base + x.lk.n := by simp [sumI]
        have hln := hx.lk.2.2.2
        have q1 := of_q (some ⟨b, 0, none⟩) 2 [x.base, x.lk.n] (by intro y hy; simp at hy; rcases hy with rfl | rfl; exact hx.base; exact hln) (by simp) (({ m with sz := n } : M).newBlock b [I x.base, I x.lk.n]) (.at _ _ _ (by simp only [M.newBlock]; omega) cellsAt_new)
        rw [s2] at q1
        unfold In64 at hba hln
        have h8 : x.lk.cl ≠ 0 := by simpa using h8
        have hL : lockB x = (keeperB x.lk && x.hs.isEmpty && fitsB x x.lk) := by simp [lockB, h8]
        rw [hL]
        refine ⟨_, _, q1, _, _, int_q _ (by omega) (by omega) _, _, rlocked_q _ _, ?_⟩
        refine ifB_intro (fun h9 => ifB_intro (fun h10 => ifB_intro (fun h11 => ⟨_, rhas_q _ _ _ _, ⟨?_⟩⟩) (fun h11 => ⟨?_⟩)) (fun h10 => ⟨?_⟩)) (fun h9 => ⟨?_⟩)
        · have h11 : In64 (x.base + x.lk.n) := by simpa using h11
          unfold In64 at h11
          have hw : IntKind.i64.wrap (x.base + x.lk.n) = x.base + x.lk.n := by simp [IntKind.wrap_i64]; omega
          simp at h10
          rw [hw]; simp [h9, h10, fitsB]
        · have h11 : ¬ In64 (x.base + x.lk.n) := by simpa using h11
          unfold In64 at h11 hlo hhi
          have : fitsB x x.lk = false := by simp [fitsB, hasB]; omega
          simp [this]
        · simp at h10; simp [h10]
        · simp [h9]

end Go.Proofs.Ytfkielfnceeedaa
set_option linter.unusedVariables false
set_option linter.unusedSimpArgs false
namespace Go.Proofs.Ytfkielfnceeedaa
open Go.Vc Go.RowKit

theorem wf_key (k : ByteArray) (hk : k.size ≤ 9223372036854775807) : (⟨k, 0, 0, 0, 0, [], ⟨0, 0, 0, 0⟩⟩ : Ac).wf :=
  ⟨hk, (by decide : In64 0), (by decide : In64 0), (by decide : In64 0), (by decide : In64 0), fun h hh => (by simp at hh), Nat.zero_le _, ⟨(by decide : In64 0), (by decide : In64 0), (by decide : In64 0), (by decide : In64 0)⟩⟩

theorem rfind_q (x : Ac) (a : Option Addr) (c : Nat) (nd : Int) (hx : x.wf) (m : M) (h : Row m a (hds x.hs)) : QSpec Try.prog 52 [acv x a c, I nd] m (.tuple #[hdv (findH x nd), .bool (findB x nd)]) := by
  refine QSpec.of_vc Try.func52 (ann := fun n _ => { A := Nat, inv := fun k => k ≤ x.hs.length ∧ fndH x.hs nd = fndH (x.hs.drop k) nd ∧ (rightB x = false → k = 0), st := fun k => [(6, .val (I k)), (2, .own 0 0), (1, .val (I nd)), (4, .own 1 0)], own := fun _ => [(0, ⟨46, acc x a c⟩), (1, ⟨67, [I 0, I 0, I 0, I 0]⟩)], m := fun _ => { m with sz := n }, μ := fun k => x.hs.length - k }) fun n hn => ?_
  refine vc_by (X :=
      true = true ∧
      (∃ (a_1 : Nat),
      (a_1 ≤ x.hs.length ∧ fndH x.hs nd = fndH (List.drop a_1 x.hs) nd ∧ (rightB x = false → a_1 = (0 : Nat))) ∧
      { π := m.π, sz := n, uf := m.uf : M } = { π := m.π, sz := n, uf := m.uf : M } ∧
      ((SV.val (Value.int IntKind.i64 (0 : Int)) = SV.val (Value.int IntKind.i64 (↑a_1 : Int)) ∧ true = true) ∧
      (SV.own ((0 : Nat) + (0 : Nat)) (0 : Nat) = SV.own (0 : Nat) (0 : Nat) ∧ true = true) ∧
      (SV.val (Value.int IntKind.i64 nd) = SV.val (Value.int IntKind.i64 nd) ∧ true = true) ∧
      (SV.own ((0 : Nat) + (1 : Nat)) (0 : Nat) = SV.own (1 : Nat) (0 : Nat) ∧ true = true) ∧ True) ∧
      (some
      { ty := (46 : Nat), cs := [Value.string x.key, Value.int IntKind.i64 x.lo, Value.int IntKind.i64 x.hi, Value.int IntKind.i64 x.base, Value.int IntKind.i64 x.round, Value.slice a x.hs.length c, Value.int IntKind.i64 x.lk.cl, Value.int IntKind.i64 x.lk.sq, Value.int IntKind.i64 x.lk.hm, Value.int IntKind.i64 x.lk.n] : Bx } =
      some
      { ty := (46 : TypeId), cs := [Value.string x.key, Value.int IntKind.i64 x.lo, Value.int IntKind.i64 x.hi, Value.int IntKind.i64 x.base, Value.int IntKind.i64 x.round, Value.slice a x.hs.length c, Value.int IntKind.i64 x.lk.cl, Value.int IntKind.i64 x.lk.sq, Value.int IntKind.i64 x.lk.hm, Value.int IntKind.i64 x.lk.n] : Bx } ∧
      true = true) ∧
      (some
      { ty := (67 : Nat), cs := [Value.int IntKind.i64 (0 : Int), Value.int IntKind.i64 (0 : Int), Value.int IntKind.i64 (0 : Int), Value.int IntKind.i64 (0 : Int)] : Bx } =
      some
      { ty := (67 : TypeId), cs := [Value.int IntKind.i64 (0 : Int), Value.int IntKind.i64 (0 : Int), Value.int IntKind.i64 (0 : Int), Value.int IntKind.i64 (0 : Int)] : Bx } ∧
      true = true) ∧
      True) ∧
      ∀ (a_1 : Nat),
      a_1 ≤ x.hs.length ∧ fndH x.hs nd = fndH (List.drop a_1 x.hs) nd ∧ (rightB x = false → a_1 = (0 : Nat)) →
      ∃ (b : Bool),
      QSpec Try.prog (32 : Nat)
      [Value.agg
      #[Value.string x.key, Value.int IntKind.i64 x.lo, Value.int IntKind.i64 x.hi, Value.int IntKind.i64 x.base, Value.int IntKind.i64 x.round,
      Value.slice a x.hs.length c, Value.int IntKind.i64 x.lk.cl, Value.int IntKind.i64 x.lk.sq, Value.int IntKind.i64 x.lk.hm, Value.int IntKind.i64 x.lk.n]]
      { π := m.π, sz := n, uf := m.uf : M } (Value.bool b) ∧
      ifB b
      (ifB (decide ((↑a_1 : Int) < (↑x.hs.length : Int)))
      (∃ (b : Nat),
      ∃ (off : Nat),
      a = some { block := b, off := off : Addr } ∧
      ((0 : Int) ≤ (↑a_1 : Int) ∧ (↑a_1 : Int) < (↑x.hs.length : Int)) ∧
      ∃ (n_1 : Int),
      CellsAt { π := m.π, sz := n, uf := m.uf : M } b (off + (↑a_1 : Int).toNat * (4 : Nat) + (0 : Nat)) [Value.int IntKind.i64 n_1] ∧
      ifB (n_1 == nd)
      (∃ (b : Nat),
      ∃ (off : Nat),
      a = some { block := b, off := off : Addr } ∧
      ((0 : Int) ≤ (↑a_1 : Int) ∧ (↑a_1 : Int) < (↑x.hs.length : Int)) ∧
      ∃ (n_2 : Int),
      ∃ (n_3 : Int),
      ∃ (n_4 : Int),
      ∃ (n_5 : Int),
      CellsAt { π := m.π, sz := n, uf := m.uf : M } b (off + (↑a_1 : Int).toNat * (4 : Nat))
      [Value.int IntKind.i64 n_2, Value.int IntKind.i64 n_3, Value.int IntKind.i64 n_4, Value.int IntKind.i64 n_5] ∧
      Done
      (Value.tuple
      #[Value.agg #[Value.int IntKind.i64 n_2, Value.int IntKind.i64 n_3, Value.int IntKind.i64 n_4, Value.int IntKind.i64 n_5],
      Value.bool true] =
      Value.tuple
      #[Value.agg
      #[Value.int IntKind.i64 (findH x nd).nd, Value.int IntKind.i64 (findH x nd).le, Value.int IntKind.i64 (findH x nd).up,
      Value.int IntKind.i64 (findH x nd).dn],
      Value.bool (findB x nd)]))
      (∃ (a' : Nat),
      ((a' ≤ x.hs.length ∧ fndH x.hs nd = fndH (List.drop a' x.hs) nd ∧ (rightB x = false → a' = (0 : Nat))) ∧
      { π := m.π, sz := n, uf := m.uf : M } = { π := m.π, sz := n, uf := m.uf : M } ∧
      ((SV.val (Value.int IntKind.i64 (IntKind.i64.wrap ((↑a_1 : Int) + (1 : Int)))) = SV.val (Value.int IntKind.i64 (↑a' : Int)) ∧ true = true) ∧
      (SV.own (0 : Nat) (0 : Nat) = SV.own (0 : Nat) (0 : Nat) ∧ true = true) ∧
      (SV.val (Value.int IntKind.i64 nd) = SV.val (Value.int IntKind.i64 nd) ∧ true = true) ∧
      (SV.own (1 : Nat) (0 : Nat) = SV.own (1 : Nat) (0 : Nat) ∧ true = true) ∧ True) ∧
      (some
      { ty := (46 : TypeId), cs := [Value.string x.key, Value.int IntKind.i64 x.lo, Value.int IntKind.i64 x.hi, Value.int IntKind.i64 x.base, Value.int IntKind.i64 x.round, Value.slice a x.hs.length c, Value.int IntKind.i64 x.lk.cl, Value.int IntKind.i64 x.lk.sq, Value.int IntKind.i64 x.lk.hm, Value.int IntKind.i64 x.lk.n] : Bx } =
      some
      { ty := (46 : TypeId), cs := [Value.string x.key, Value.int IntKind.i64 x.lo, Value.int IntKind.i64 x.hi, Value.int IntKind.i64 x.base, Value.int IntKind.i64 x.round, Value.slice a x.hs.length c, Value.int IntKind.i64 x.lk.cl, Value.int IntKind.i64 x.lk.sq, Value.int IntKind.i64 x.lk.hm, Value.int IntKind.i64 x.lk.n] : Bx } ∧
      true = true) ∧
      (some
      { ty := (67 : TypeId), cs := [Value.int IntKind.i64 (0 : Int), Value.int IntKind.i64 (0 : Int), Value.int IntKind.i64 (0 : Int), Value.int IntKind.i64 (0 : Int)] : Bx } =
      some
      { ty := (67 : TypeId), cs := [Value.int IntKind.i64 (0 : Int), Value.int IntKind.i64 (0 : Int), Value.int IntKind.i64 (0 : Int), Value.int IntKind.i64 (0 : Int)] : Bx } ∧
      true = true) ∧
      True) ∧
      x.hs.length - a' < x.hs.length - a_1))
      (Done
      (Value.tuple
      #[Value.agg #[Value.int IntKind.i64 (0 : Int), Value.int IntKind.i64 (0 : Int), Value.int IntKind.i64 (0 : Int), Value.int IntKind.i64 (0 : Int)],
      Value.bool false] =
      Value.tuple
      #[Value.agg
      #[Value.int IntKind.i64 (findH x nd).nd, Value.int IntKind.i64 (findH x nd).le, Value.int IntKind.i64 (findH x nd).up,
      Value.int IntKind.i64 (findH x nd).dn],
      Value.bool (findB x nd)])))
      (Done
      (Value.tuple
      #[Value.agg #[Value.int IntKind.i64 (0 : Int), Value.int IntKind.i64 (0 : Int), Value.int IntKind.i64 (0 : Int), Value.int IntKind.i64 (0 : Int)],
      Value.bool false] =
      Value.tuple
      #[Value.agg
      #[Value.int IntKind.i64 (findH x nd).nd, Value.int IntKind.i64 (findH x nd).le, Value.int IntKind.i64 (findH x nd).up,
      Value.int IntKind.i64 (findH x nd).dn],
      Value.bool (findB x nd)]))) (by kernel_rfl) ?_
  have h' := h.sz hn
  refine ⟨rfl, ⟨0, by simp⟩, fun k ⟨hk, hq, hz⟩ => ⟨_, rright_q x a c hx _ h', ?_⟩⟩
  cases hr : rightB x
  · exact ifB_false ⟨by simp [findH, findB, hr, hd0]⟩
  · refine ifB_true (ifB_intro (fun hb => ?_) (fun hb => ⟨?_⟩))
    · have hk2 : k < x.hs.length := by simpa using hb
      obtain ⟨b, o, rfl, hc⟩ := h'.cells (by rw [hds_len]; omega)
      have hlen := hx.len
      have w1 : IntKind.i64.wrap ((k : Int) + 1) = ((k + 1 : Nat) : Int) := by simp [IntKind.wrap_i64]; omega
      rw [fndH_drop hk2] at hq
      have hcell := hd_at hc hk2
      have hc0 : CellsAt { m with sz := n } b (o + k * 4) [I x.hs[k].nd] := hcell.take (ds := [I x.hs[k].le, I x.hs[k].up, I x.hs[k].dn])
      refine ⟨b, o, rfl, by omega, _, by simpa using hc0, ifB_intro (fun h1 => ⟨b, o, rfl, by omega, _, _, _, _, by simpa using hcell, ⟨?_⟩⟩) (fun h1 => ⟨k + 1, ⟨⟨hk2, ?_, fun h => by cases h⟩, by simp [w1]⟩, by omega⟩)⟩
      · simp at h1; simp [findH, findB, hr, hq, h1]
      · simp at h1; simp [hq, h1]
    · have : k = x.hs.length := by simp at hb; omega
      subst this
      simp [fndH] at hq
      have : List.find? (fun h => h.nd == nd) x.hs = none := by simpa using hq
      simp [findH, findB, hr, fndH, hd0, this]

theorem hd_ext {a b : Hd} : a = b ↔ a.nd = b.nd ∧ a.le = b.le ∧ a.up = b.up ∧ a.dn = b.dn := by
  cases a; cases b; simp

instance : DecidableEq Hd := fun _ _ => decidable_of_iff' _ hd_ext

theorem lk_ext {a b : Lk} : a = b ↔ a.cl = b.cl ∧ a.sq = b.sq ∧ a.hm = b.hm ∧ a.n = b.n := by
  cases a; cases b; simp

instance : DecidableEq Lk := fun _ _ => decidable_of_iff' _ lk_ext

theorem ac_ext {a b : Ac} : a = b ↔ a.key = b.key ∧ a.lo = b.lo ∧ a.hi = b.hi ∧ a.base = b.base ∧ a.round = b.round ∧ a.hs = b.hs ∧ a.lk = b.lk := by
  cases a; cases b; simp

instance : DecidableEq Ac := fun _ _ => decidable_of_iff' _ ac_ext

theorem hplain_q (a a2 : Option Addr) (c c2 : Nat) (l l2 : List Hd) (hn1 : l.length ≤ 9223372036854775807) (m : M) (h : Row m a (hds l)) (h2 : Row m a2 (hds l2)) :
    QSpec Try.prog 66 [.slice a l.length c, .slice a2 l2.length c2] m (.bool (decide (l = l2))) := by
  refine QSpec.of_vc Try.func66 (ann := fun n _ => { A := Nat, inv := fun k => k ≤ l.length ∧ l.take k = l2.take k, st := fun k => [(5, .val (I k)), (0, .val (.slice a l.length c)), (1, .val (.slice a2 l2.length c2))], own := fun _ => [], m := fun _ => { m with sz := n }, μ := fun k => (l.length - k) }) fun n hn => ?_
  refine vc_by (X :=
      true = true ∧
      ifB ((↑l.length : Int) != (↑l2.length : Int)) (Done (Value.bool false = Value.bool (decide (l = l2))))
      ((∃ (a_1 : Nat),
      (a_1 ≤ l.length ∧ List.take a_1 l = List.take a_1 l2) ∧
      { π := m.π, sz := n, uf := m.uf : M } = { π := m.π, sz := n, uf := m.uf : M } ∧
      ((SV.val (Value.int IntKind.i64 (0 : Int)) = SV.val (Value.int IntKind.i64 (↑a_1 : Int)) ∧ true = true) ∧
      (SV.val (Value.slice a l.length c) = SV.val (Value.slice a l.length c) ∧ true = true) ∧
      (SV.val (Value.slice a2 l2.length c2) = SV.val (Value.slice a2 l2.length c2) ∧ true = true) ∧ True) ∧
      True) ∧
      ∀ (a_1 : Nat),
      a_1 ≤ l.length ∧ List.take a_1 l = List.take a_1 l2 →
      ifB (decide ((↑a_1 : Int) < (↑l.length : Int)))
      (true = true ∧
      ∃ (b : Nat),
      ∃ (off : Nat),
      a = some { block := b, off := off : Addr } ∧
      ((0 : Int) ≤ (↑a_1 : Int) ∧ (↑a_1 : Int) < (↑l.length : Int)) ∧
      ∃ (n_1 : Int),
      ∃ (n_2 : Int),
      ∃ (n_3 : Int),
      ∃ (n_4 : Int),
      CellsAt { π := m.π, sz := n, uf := m.uf : M } b (off + (↑a_1 : Int).toNat * (4 : Nat))
      [Value.int IntKind.i64 n_1, Value.int IntKind.i64 n_2, Value.int IntKind.i64 n_3, Value.int IntKind.i64 n_4] ∧
      ∃ (b : Nat),
      ∃ (off : Nat),
      a2 = some { block := b, off := off : Addr } ∧
      ((0 : Int) ≤ (↑a_1 : Int) ∧ (↑a_1 : Int) < (↑l2.length : Int)) ∧
      ∃ (n_5 : Int),
      ∃ (n_6 : Int),
      ∃ (n_7 : Int),
      ∃ (n_8 : Int),
      CellsAt { π := m.π, sz := n, uf := m.uf : M } b (off + (↑a_1 : Int).toNat * (4 : Nat))
      [Value.int IntKind.i64 n_5, Value.int IntKind.i64 n_6, Value.int IntKind.i64 n_7, Value.int IntKind.i64 n_8] ∧
      ifB (!(n_1 == n_5 && (n_2 == n_6 && (n_3 == n_7 && (n_4 == n_8 && true)))))
      (Done (Value.bool false = Value.bool (decide (l = l2))))
      (∃ (a' : Nat),
      ((a' ≤ l.length ∧ List.take a' l = List.take a' l2) ∧
      { π := m.π, sz := n, uf := m.uf : M } = { π := m.π, sz := n, uf := m.uf : M } ∧
      ((SV.val (Value.int IntKind.i64 (IntKind.i64.wrap ((↑a_1 : Int) + (1 : Int)))) =
      SV.val (Value.int IntKind.i64 (↑a' : Int)) ∧
      true = true) ∧
      (SV.val (Value.slice a l.length c) = SV.val (Value.slice a l.length c) ∧ true = true) ∧
      (SV.val (Value.slice a2 l2.length c2) = SV.val (Value.slice a2 l2.length c2) ∧ true = true) ∧ True) ∧
      True) ∧
      l.length - a' < l.length - a_1))
      (Done (Value.bool true = Value.bool (decide (l = l2)))))) (by kernel_rfl) ?_
  have h' := h.sz hn
  have h2' := h2.sz hn
  refine ⟨rfl, ifB_intro (fun hb => ⟨?_⟩) (fun hb => ⟨⟨0, by simp⟩, fun k hk => ifB_intro (fun hb2 => ?_) (fun hb2 => ⟨?_⟩)⟩)⟩
  · have : l ≠ l2 := fun e => by subst e; simp at hb
    simp [this]
  · have hlen : l.length = l2.length := by simp at hb; omega
    have hk2 : k < l.length := by simpa using hb2
    obtain ⟨b, o, rfl, hc⟩ := h'.cells (by rw [hds_len]; omega)
    obtain ⟨b2, o2, rfl, hc2⟩ := h2'.cells (by rw [hds_len]; omega)
    have w1 : IntKind.i64.wrap ((k : Int) + 1) = ((k + 1 : Nat) : Int) := by simp [IntKind.wrap_i64]; omega
    refine ⟨rfl, b, o, rfl, by omega, _, _, _, _, by simpa using hd_at hc hk2, b2, o2, rfl, by omega, _, _, _, _, by simpa using hd_at hc2 (by omega : k < l2.length), ifB_intro (fun h3 => ⟨?_⟩) (fun h3 => ⟨k + 1, ⟨⟨hk2, ?_⟩, by simp [w1]⟩, by omega⟩)⟩
    · have : l ≠ l2 := fun e => by subst e; simp at h3
      simp [this]
    · have h3 : l[k] = l2[k] := by rw [hd_ext]; simpa using h3
      rw [List.take_succ_eq_append_getElem hk2, List.take_succ_eq_append_getElem (by omega : k < l2.length), hk.2, h3]
  · have hlen : l.length = l2.length := by simp at hb; omega
    have : k = l.length := by simp at hb2; omega
    have e := hk.2
    rw [this, List.take_length, hlen, List.take_length] at e
    simp [e]

theorem saccount_q (x y : Ac) (a a2 : Option Addr) (c c2 : Nat) (hx : x.wf) (hy : y.wf) (m : M) (h : Row m a (hds x.hs)) (h2' : Row m a2 (hds y.hs)) : QSpec Try.prog 31 [acv x a c, acv y a2 c2] m (.bool (decide (x = y))) := by
  refine QSpec.of_vc Try.func31 (ann := fun _ => noAnn) fun n hn => ?_
  refine vc_by (X :=
      true = true ∧
      ifB (x.key.toList == y.key.toList)
      (ifB (x.lo == y.lo && (x.hi == y.hi && true))
      (ifB (x.base == y.base)
      (ifB (x.round == y.round)
      (∃ (b : Bool),
      QSpec Try.prog (66 : Nat) [Value.slice a x.hs.length c, Value.slice a2 y.hs.length c2] { π := m.π, sz := n, uf := m.uf : M } (Value.bool b) ∧
      ifB b (Done (Value.bool (x.lk.cl == y.lk.cl && (x.lk.sq == y.lk.sq && (x.lk.hm == y.lk.hm && (x.lk.n == y.lk.n && true)))) = Value.bool (decide (x = y))))
      (Done (Value.bool false = Value.bool (decide (x = y)))))
      (Done (Value.bool false = Value.bool (decide (x = y)))))
      (Done (Value.bool false = Value.bool (decide (x = y)))))
      (Done (Value.bool false = Value.bool (decide (x = y)))))
      (Done (Value.bool false = Value.bool (decide (x = y))))) (by kernel_rfl) ?_
  refine ⟨rfl, ?_⟩
  rw [bytes_beq]
  refine ifB_intro (fun h1 => ifB_intro (fun h2 => ifB_intro (fun h3 => ifB_intro (fun h4 => ⟨_, hplain_q a a2 c c2 x.hs y.hs hx.len _ (h.sz hn) (h2'.sz hn), ifB_intro (fun h5 => ⟨?_⟩) (fun h5 => ⟨?_⟩)⟩) (fun h4 => ⟨?_⟩)) (fun h3 => ⟨?_⟩)) (fun h2 => ⟨?_⟩)) (fun h1 => ⟨?_⟩)
  all_goals simp only [Bool.and_eq_true, decide_eq_true_eq, beq_iff_eq, and_true, decide_eq_false_iff_not, beq_eq_false_iff_ne, Bool.and_eq_false_imp] at *
  all_goals rw [Value.bool.injEq, Bool.eq_iff_iff]
  all_goals simp [ac_ext, lk_ext, *]
  all_goals (intro e1 e2; exact absurd (h2 e1 e2) (by simp))

/-- what 'Own' hands back: the list, two marks behind it, in a block of its own -/
structure Owned (m : M) (cs marks : List Value) (len cap : Nat) (v : Value) (m' : M) : Prop where
  out : ∃ b, v = .slice (some ⟨b, 0, none⟩) len cap ∧ m.sz ≤ b ∧ b < m'.sz ∧ m'.uf b ∧ CellsAt m' b 0 (cs ++ marks)

end Go.Proofs.Ytfkielfnceeedaa
set_option linter.unusedVariables false
set_option linter.unusedSimpArgs false
namespace Go.Proofs.Ytfkielfnceeedaa
open Go.Vc Go.RowKit
set_option maxRecDepth 100000

def rmayB (r : Rt) : Bool := decide (1 ≤ r.g) && decide (r.g < 8) && keyB r.ky && decide (1 ≤ r.le)

/-- does one stand ahead of another? -/
def bel (a b : Rt) : Bool := decide (a.g < b.g) || (decide (a.g = b.g) && ltS a.ky b.ky)

def sameK (a b : Rt) : Bool := decide (a.g = b.g) && decide (a.ky = b.ky)

def ordR (a b : Rt) : Int := if a.g = b.g then cmpS a.ky b.ky else if a.g < b.g then -1 else 1

def okP (p : Option Rt) (x : Rt) : Bool := match p with | none => true | some q => bel q x

def ledB : Option Rt → List Rt → Bool
  | _, [] => true
  | p, x :: xs => okP p x && rmayB x && ledB (some x) xs

theorem bel_irr (a : Rt) : bel a a = false := by simp [bel, ltS_irr]

theorem bel_trans {a b c : Rt} (h1 : bel a b = true) (h2 : bel b c = true) : bel a c = true := by
  simp only [bel, Bool.or_eq_true, Bool.and_eq_true, decide_eq_true_eq] at *
  rcases h1 with h1 | ⟨h1, k1⟩ <;> rcases h2 with h2 | ⟨h2, k2⟩
  · exact .inl (by omega)
  · exact .inl (by omega)
  · exact .inl (by omega)
  · exact .inr ⟨by omega, ltS_trans k1 k2⟩

theorem bel_asym {a b : Rt} (h : bel a b = true) : bel b a = false := by
  cases h2 : bel b a with
  | false => rfl
  | true => have := bel_trans h h2; rw [bel_irr] at this; cases this

theorem bel_tri (a b : Rt) : bel a b = true ∨ sameK a b = true ∨ bel b a = true := by
  simp only [bel, sameK, Bool.or_eq_true, Bool.and_eq_true, decide_eq_true_eq]
  rcases Int.lt_trichotomy a.g b.g with h | h | h
  · exact .inl (.inl h)
  · rcases ltS_tri a.ky b.ky with k | k | k
    · exact .inl (.inr ⟨h, k⟩)
    · exact .inr (.inl ⟨h, k⟩)
    · exact .inr (.inr (.inr ⟨h.symm, k⟩))
  · exact .inr (.inr (.inl h))

theorem bel_same {a b : Rt} (h : sameK a b = true) : bel a b = false ∧ bel b a = false := by
  simp only [sameK, Bool.and_eq_true, decide_eq_true_eq] at h
  simp [bel, h.1, h.2, ltS_irr]

theorem bel_ne {a b : Rt} (h : bel a b = true) : sameK a b = false ∧ sameK b a = false := by
  constructor
  · cases h2 : sameK a b with
    | false => rfl
    | true => rw [(bel_same h2).1] at h; cases h
  · cases h2 : sameK b a with
    | false => rfl
    | true => rw [(bel_same h2).2] at h; cases h

theorem same_left {a b c : Rt} (h : sameK a b = true) : bel a c = bel b c ∧ bel c a = bel c b ∧ sameK a c = sameK b c ∧ sameK c a = sameK c b := by
  simp only [sameK, Bool.and_eq_true, decide_eq_true_eq] at h
  simp [bel, sameK, h.1, h.2]

theorem ord_bel (a b : Rt) : ordR a b = if bel a b = true then -1 else if sameK a b = true then 0 else 1 := by
  unfold ordR bel sameK cmpS
  by_cases h : a.g = b.g
  · simp [h]
  · by_cases h2 : a.g < b.g <;> simp [h, h2]

theorem led_cons {p : Option Rt} {x : Rt} {xs : List Rt} : ledB p (x :: xs) = true ↔ (∀ q, p = some q → bel q x = true) ∧ rmayB x = true ∧ ledB (some x) xs = true := by
  simp only [ledB, Bool.and_eq_true, and_assoc]
  refine and_congr ?_ Iff.rfl
  cases p <;> simp [okP]

theorem led_mem : ∀ {l : List Rt} {p : Option Rt}, ledB p l = true → ∀ x ∈ l, (∀ q, p = some q → bel q x = true) ∧ rmayB x = true
  | [], _, _, x, hx => by simp at hx
  | y :: ys, p, h, x, hx => by
    obtain ⟨h1, h2, h3⟩ := led_cons.1 h
    rcases List.mem_cons.1 hx with rfl | hx
    · exact ⟨h1, h2⟩
    · have := led_mem h3 x hx
      exact ⟨fun q e => bel_trans (h1 q e) (this.1 y rfl), this.2⟩

theorem led_some {l : List Rt} {q : Rt} (h : ledB none l = true) (hq : ∀ x ∈ l, bel q x = true) : ledB (some q) l = true := by
  cases l with
  | nil => rfl
  | cons x xs =>
    obtain ⟨h1, h2, h3⟩ := led_cons.1 h
    exact led_cons.2 ⟨fun q' e => by cases e; exact hq x (by simp), h2, h3⟩

theorem led_none {l : List Rt} {p : Option Rt} (h : ledB p l = true) : ledB none l = true := by
  cases l with
  | nil => rfl
  | cons x xs =>
    obtain ⟨h1, h2, h3⟩ := led_cons.1 h
    exact led_cons.2 ⟨fun q' e => (by cases e), h2, h3⟩

/-- what stands ahead of r, r, and what stands behind -/
def putL (l : List Rt) (r : Rt) : List Rt := (l.filter fun x => bel x r) ++ r :: l.filter fun x => bel r x

def ofR (l : List Rt) (r : Rt) : Option Rt := l.find? fun x => sameK x r

theorem led_split (r : Rt) : ∀ {l : List Rt} {p : Option Rt}, ledB p l = true → l = (l.filter fun x => bel x r) ++ ((ofR l r).toList ++ l.filter fun x => bel r x)
  | [], _, _ => rfl
  | x :: xs, p, h => by
    obtain ⟨h1, h2, h3⟩ := led_cons.1 h
    have hm := led_mem h3
    rcases bel_tri x r with hlt | heq | hgt
    · have ih := led_split r h3
      have e1 := bel_asym hlt
      have e2 := (bel_ne hlt).1
      rw [List.filter_cons_of_pos (by simpa using hlt), List.filter_cons_of_neg (by simp [e1])]
      have : ofR (x :: xs) r = ofR xs r := by simp [ofR, List.find?_cons, e2]
      rw [this, List.cons_append, ← ih]
    · have e0 := bel_same heq
      have e1 : (xs.filter fun z => bel z r) = [] := List.filter_eq_nil_iff.2 fun z hz => by
        have := (hm z hz).1 x rfl
        rw [(same_left heq).1] at this
        simp [bel_asym this]
      have e2 : (xs.filter fun z => bel r z) = xs := List.filter_eq_self.2 fun z hz => by
        have := (hm z hz).1 x rfl
        rw [(same_left heq).1] at this
        exact this
      rw [List.filter_cons_of_neg (by simp [e0.1]), List.filter_cons_of_neg (by simp [e0.2]), e1, e2]
      simp [ofR, List.find?_cons, heq]
    · have e1 : (xs.filter fun z => bel z r) = [] := List.filter_eq_nil_iff.2 fun z hz => by
        have := bel_trans hgt ((hm z hz).1 x rfl)
        simp [bel_asym this]
      have e2 : (xs.filter fun z => bel r z) = xs := List.filter_eq_self.2 fun z hz => bel_trans hgt ((hm z hz).1 x rfl)
      have e3 : xs.find? (fun z => sameK z r) = none := List.find?_eq_none.2 fun z hz => by
        have := bel_trans hgt ((hm z hz).1 x rfl)
        simp [(bel_ne this).2]
      rw [List.filter_cons_of_neg (by simp [bel_asym hgt]), List.filter_cons_of_pos (by simpa using hgt), e1, e2]
      simp [ofR, List.find?_cons, (bel_ne hgt).2, e3]

theorem led_append : ∀ {l : List Rt} {p : Option Rt} {r : Rt} {g : List Rt}, ledB p l = true → (∀ x ∈ l, bel x r = true) → (∀ q, p = some q → bel q r = true) → rmayB r = true → ledB (some r) g = true → ledB p (l ++ r :: g) = true
  | [], p, r, g, _, _, hp, hr, hg => led_cons.2 ⟨hp, hr, hg⟩
  | x :: xs, p, r, g, h, hl, hp, hr, hg => by
    obtain ⟨h1, h2, h3⟩ := led_cons.1 h
    exact led_cons.2 ⟨h1, h2, led_append h3 (fun y hy => hl y (by simp [hy])) (fun q e => by cases e; exact hl x (by simp)) hr hg⟩

theorem led_filter (f : Rt → Bool) : ∀ {l : List Rt} {p : Option Rt}, ledB p l = true → ledB p (l.filter f) = true
  | [], _, _ => rfl
  | x :: xs, p, h => by
    obtain ⟨h1, h2, h3⟩ := led_cons.1 h
    have ih := led_filter f h3
    by_cases e : f x = true
    · rw [List.filter_cons_of_pos e]; exact led_cons.2 ⟨h1, h2, ih⟩
    · rw [List.filter_cons_of_neg e]
      have hm := led_mem h3
      cases p with
      | none => exact led_none ih
      | some q => exact led_some (led_none ih) fun y hy => bel_trans (h1 q rfl) ((hm y (List.mem_filter.1 hy).1).1 x rfl)

theorem put_led {l : List Rt} {r : Rt} (h : ledB none l = true) (hr : rmayB r = true) : ledB none (putL l r) = true := by
  refine led_append (led_filter _ h) (fun x hx => (List.mem_filter.1 hx).2) (fun q e => by cases e) hr ?_
  exact led_some (led_filter _ h) fun x hx => (List.mem_filter.1 hx).2

theorem ofR_some {l : List Rt} {r x : Rt} (h : ofR l r = some x) : x ∈ l ∧ sameK x r = true := by
  unfold ofR at h
  have := List.find?_some h
  exact ⟨List.mem_of_find?_eq_some h, by simpa using this⟩

theorem put_of {l : List Rt} (h : ledB none l = true) (r z : Rt) : ofR (putL l r) z = if sameK r z = true then some r else ofR l z := by
  by_cases e : sameK r z = true
  · have e1 : (l.filter fun x => bel x r).find? (fun x => sameK x z) = none := List.find?_eq_none.2 fun x hx => by
      have h := (List.mem_filter.1 hx).2
      intro h2
      have := (bel_ne h).1
      rw [(same_left e).2.2.2] at this
      rw [this] at h2; cases h2
    unfold ofR putL
    rw [List.find?_append, List.find?_cons, e1, e]; simp
  · have e' : sameK r z = false := by simpa using e
    have e2 : ((ofR l r).toList).find? (fun x => sameK x z) = none := by
      cases ho : ofR l r with
      | none => rfl
      | some x =>
        have := (ofR_some ho).2
        simp [(same_left this).2.2.1, e']
    rw [if_neg e]
    conv => rhs; rw [led_split r h]
    unfold ofR at e2 ⊢
    unfold putL
    rw [List.find?_append, List.find?_append, List.find?_append, List.find?_cons, e', e2]
    simp

theorem led_ext : ∀ {a b : List Rt} {p : Option Rt}, ledB p a = true → ledB p b = true → (∀ z, ofR a z = ofR b z) → a = b
  | [], [], _, _, _, _ => rfl
  | [], y :: ys, _, _, _, h => by have := h y; simp [ofR, sameK] at this
  | x :: xs, [], _, _, _, h => by have := h x; simp [ofR, sameK] at this
  | x :: xs, y :: ys, p, ha, hb, h => by
    obtain ⟨a1, a2, a3⟩ := led_cons.1 ha
    obtain ⟨b1, b2, b3⟩ := led_cons.1 hb
    have hx := h x
    have hy := h y
    have sx : sameK x x = true := by simp [sameK]
    have sy : sameK y y = true := by simp [sameK]
    have e : x = y := by
      by_cases e1 : sameK y x = true
      · simp [ofR, List.find?_cons, sx, e1] at hx; exact hx
      · have e1 : sameK y x = false := by simpa using e1
        have e2 : sameK x y = false := by
          cases h2 : sameK x y with
          | false => rfl
          | true => rw [(same_left h2).2.2.2, sy] at e1; cases e1
        simp only [ofR, List.find?_cons, sx, sy, e1, e2] at hx hy
        have h1 := (led_mem b3 x (List.mem_of_find?_eq_some hx.symm)).1 y rfl
        have h2 := (led_mem a3 y (List.mem_of_find?_eq_some hy)).1 x rfl
        rw [bel_asym h1] at h2; cases h2
    subst e
    congr 1
    refine led_ext a3 b3 fun z => ?_
    by_cases e1 : sameK x z = true
    · have n : ∀ {l : List Rt}, ledB (some x) l = true → ofR l z = none := fun hl => List.find?_eq_none.2 fun w hw g => by
        have := (led_mem hl w hw).1 x rfl
        rw [← (same_left e1).2.2.2] at g
        rw [(bel_ne this).2] at g; cases g
      rw [n a3, n b3]
    · have e1 : sameK x z = false := by simpa using e1
      have := h z
      simpa [ofR, List.find?_cons, e1] using this

theorem put_put {l : List Rt} {r : Rt} (h : ledB none l = true) (hr : rmayB r = true) : putL (putL l r) r = putL l r := by
  refine led_ext (put_led (put_led h hr) hr) (put_led h hr) fun z => ?_
  rw [put_of (put_led h hr), put_of h]
  split <;> rfl

/-- where a right stands, or would stand -/
def rtP (l : List Rt) (r : Rt) : Nat := (l.filter fun x => bel x r).length

theorem rtP_le (l : List Rt) (r : Rt) : rtP l r ≤ l.length := List.length_filter_le _ _

/-- a list cut at where r stands, or would stand -/
theorem led_cut {l : List Rt} (r : Rt) (h : ledB none l = true) : ∃ L G : List Rt, l = L ++ ((ofR l r).toList ++ G) ∧ rtP l r = L.length ∧ putL l r = L ++ r :: G ∧ (∀ x ∈ L, bel x r = true) ∧ ∀ x ∈ G, bel r x = true :=
  ⟨_, _, led_split r h, rfl, rfl, fun x hx => by simpa using (List.mem_filter.1 hx).2, fun x hx => by simpa using (List.mem_filter.1 hx).2⟩

theorem rtP_lt {l : List Rt} {r : Rt} (h : ledB none l = true) : ∀ k (hk : k < l.length), k < rtP l r → bel l[k] r = true := by
  intro k hk hp
  obtain ⟨L, G, e, e2, -, e3, -⟩ := led_cut r h
  rw [e2] at hp
  refine e3 _ (List.mem_of_getElem? (i := k) ?_)
  rw [← List.getElem?_append_left (l₂ := (ofR l r).toList ++ G) hp, ← e]
  exact List.getElem?_eq_getElem hk

theorem rtP_ge {l : List Rt} {r : Rt} (h : ledB none l = true) : ∀ k (hk : k < l.length), rtP l r ≤ k → bel l[k] r = false := by
  intro k hk hp
  obtain ⟨L, G, e, e2, -, -, e3⟩ := led_cut r h
  rw [e2] at hp
  have hm : l[k] ∈ (ofR l r).toList ++ G := by
    refine List.mem_of_getElem? (i := k - L.length) ?_
    rw [← List.getElem?_append_right hp, ← e]
    exact List.getElem?_eq_getElem hk
  rcases List.mem_append.1 hm with g | g
  · cases ho : ofR l r with
    | none => rw [ho] at g; simp at g
    | some x =>
      rw [ho] at g
      simp at g
      rw [g]
      exact (bel_same (ofR_some ho).2).1
  · exact bel_asym (e3 _ g)

theorem rtP_at {l : List Rt} {r x : Rt} (h : ledB none l = true) (ho : ofR l r = some x) : ∃ hk : rtP l r < l.length, l[rtP l r] = x ∧ l.set (rtP l r) r = putL l r := by
  obtain ⟨L, G, e, e2, e3, -, -⟩ := led_cut r h
  rw [ho] at e
  simp only [Option.toList, List.cons_append, List.nil_append] at e
  rw [e2, e3]
  subst e
  exact ⟨by simp, by simp, by simp⟩

theorem rtP_no {l : List Rt} {r : Rt} (h : ledB none l = true) (ho : ofR l r = none) : l.take (rtP l r) ++ r :: l.drop (rtP l r) = putL l r := by
  obtain ⟨L, G, e, e2, e3, -, -⟩ := led_cut r h
  rw [ho] at e
  simp only [Option.toList, List.nil_append] at e
  rw [e2, e3]
  subst e
  simp

theorem rtP_of {l : List Rt} {r : Rt} (h : ledB none l = true) : ((l[rtP l r]?).any fun x => decide (ordR x r = 0)) = (ofR l r).isSome := by
  have hz : ∀ x : Rt, ordR x r = 0 ↔ sameK x r = true := fun x => by
    rw [ord_bel]
    by_cases h1 : bel x r = true
    · simp [h1, (bel_ne h1).1]
    · by_cases h2 : sameK x r = true <;> simp [h1, h2]
  cases ho : ofR l r with
  | some x =>
    obtain ⟨hk, hx, -⟩ := rtP_at h ho
    rw [List.getElem?_eq_getElem hk, hx]
    simp [hz, (ofR_some ho).2]
  | none =>
    cases hg : l[rtP l r]? with
    | none => rfl
    | some x =>
      obtain ⟨hk, hx⟩ := List.getElem?_eq_some_iff.1 hg
      have : ¬ sameK x r = true := fun e => by
        have := List.find?_eq_none.1 ho x (by rw [← hx]; exact List.getElem_mem _)
        exact this e
      simp [hz, this]

end Go.Proofs.Ytfkielfnceeedaa
set_option linter.unusedVariables false
set_option linter.unusedSimpArgs false
namespace Go.Proofs.Ytfkielfnceeedaa
open Go.Vc Go.RowKit
set_option maxRecDepth 100000

structure rtBsX where
  i : Nat
  j : Nat

theorem rt_bsearch (a : Option Addr) (c : Nat) (l : List Rt) (nd : Rt) (f : Rt → Int) (p : Nat) (hn : l.length ≤ 3518437208870) (m : M) (h : Row m a (l.flatMap encRt))
    (hf : ∀ x ∈ l, ∀ m', QSpec Try.prog 44 [.agg (encRt x).toArray, rtv nd] m' (I (f x))) (hp : p ≤ l.length) (h1 : ∀ k (hk : k < l.length), k < p → f l[k] < 0) (h2 : ∀ k (hk : k < l.length), p ≤ k → 0 ≤ f l[k]) :
    QSpec Try.prog 43 [.slice a l.length c, rtv nd, .func (.func 44) #[] #[]] m (.tuple #[I p, .bool ((l[p]?).any fun x => decide (f x = 0))]) := by
  refine QSpec.of_vc Try.func43 (ann := fun n _ => { A := rtBsX, inv := fun y => y.i ≤ p ∧ p ≤ y.j ∧ y.j ≤ l.length, st := fun y => [(9, .val (I y.i)), (10, .val (I y.j)), (8, .val (I l.length)), (0, .val (.slice a l.length c)), (4, .own 0 0), (2, .val (.func (.func 44) #[] #[]))], own := fun _ => [(0, ⟨24, encRt nd⟩)], m := fun _ => { m with sz := n }, μ := fun y => y.j - y.i }) fun n hn' => ?_
  refine vc_by (X :=
      true = true ∧
      (∃ (a_1 : rtBsX),
      (a_1.i ≤ p ∧ p ≤ a_1.j ∧ a_1.j ≤ l.length) ∧
      { π := m.π, sz := n, uf := m.uf : M } = { π := m.π, sz := n, uf := m.uf : M } ∧
      ((SV.val (Value.int IntKind.i64 (0 : Int)) = SV.val (Value.int IntKind.i64 (↑a_1.i : Int)) ∧ true = true) ∧
      (SV.val (Value.int IntKind.i64 (↑l.length : Int)) = SV.val (Value.int IntKind.i64 (↑a_1.j : Int)) ∧ true = true) ∧
      (SV.val (Value.int IntKind.i64 (↑l.length : Int)) = SV.val (Value.int IntKind.i64 (↑l.length : Int)) ∧ true = true) ∧
      (SV.val (Value.slice a l.length c) = SV.val (Value.slice a l.length c) ∧ true = true) ∧
      (SV.own ((0 : Nat) + (0 : Nat)) (0 : Nat) = SV.own (0 : Nat) (0 : Nat) ∧ true = true) ∧
      (SV.val (Value.func (Fn.func (44 : FuncId)) #[] #[]) = SV.val (Value.func (Fn.func (44 : FuncId)) #[] #[]) ∧ true = true) ∧ True) ∧
      (some { ty := (24 : Nat), cs := [Value.int IntKind.i64 nd.g, Value.string nd.ky, Value.int IntKind.i64 nd.le, Value.int IntKind.i64 nd.ne] : Bx } =
      some { ty := (24 : TypeId), cs := [Value.int IntKind.i64 nd.g, Value.string nd.ky, Value.int IntKind.i64 nd.le, Value.int IntKind.i64 nd.ne] : Bx } ∧
      true = true) ∧
      True) ∧
      ∀ (a_1 : rtBsX),
      a_1.i ≤ p ∧ p ≤ a_1.j ∧ a_1.j ≤ l.length →
      ifB (decide ((↑a_1.i : Int) < (↑a_1.j : Int)))
      (true = true ∧
      ∃ (b : Nat),
      ∃ (off : Nat),
      a = some { block := b, off := off : Addr } ∧
      ((0 : Int) ≤ IntKind.i64.wrap ((IntKind.u64.wrap (IntKind.i64.wrap ((↑a_1.i : Int) + (↑a_1.j : Int)))).fdiv ((2 : Int) ^ (1 : Nat))) ∧
      IntKind.i64.wrap ((IntKind.u64.wrap (IntKind.i64.wrap ((↑a_1.i : Int) + (↑a_1.j : Int)))).fdiv ((2 : Int) ^ (1 : Nat))) < (↑l.length : Int)) ∧
      ∃ (n_1 : Int),
      ∃ (s : ByteArray),
      ∃ (n_2 : Int),
      ∃ (n_3 : Int),
      CellsAt { π := m.π, sz := n, uf := m.uf : M } b
      (off + (IntKind.i64.wrap ((IntKind.u64.wrap (IntKind.i64.wrap ((↑a_1.i : Int) + (↑a_1.j : Int)))).fdiv ((2 : Int) ^ (1 : Nat)))).toNat * (4 : Nat))
      [Value.int IntKind.i64 n_1, Value.string s, Value.int IntKind.i64 n_2, Value.int IntKind.i64 n_3] ∧
      ∃ (n_4 : Int),
      QSpec Try.prog (44 : FuncId)
      [Value.agg #[Value.int IntKind.i64 n_1, Value.string s, Value.int IntKind.i64 n_2, Value.int IntKind.i64 n_3],
      Value.agg #[Value.int IntKind.i64 nd.g, Value.string nd.ky, Value.int IntKind.i64 nd.le, Value.int IntKind.i64 nd.ne]]
      { π := m.π, sz := n, uf := m.uf : M } (Value.int IntKind.i64 n_4) ∧
      ifB (decide (n_4 < (0 : Int)))
      (∃ (a' : rtBsX),
      ((a'.i ≤ p ∧ p ≤ a'.j ∧ a'.j ≤ l.length) ∧
      { π := m.π, sz := n, uf := m.uf : M } = { π := m.π, sz := n, uf := m.uf : M } ∧
      ((SV.val
      (Value.int IntKind.i64
      (IntKind.i64.wrap
      (IntKind.i64.wrap ((IntKind.u64.wrap (IntKind.i64.wrap ((↑a_1.i : Int) + (↑a_1.j : Int)))).fdiv ((2 : Int) ^ (1 : Nat))) +
      (1 : Int)))) =
      SV.val (Value.int IntKind.i64 (↑a'.i : Int)) ∧
      true = true) ∧
      (SV.val (Value.int IntKind.i64 (↑a_1.j : Int)) = SV.val (Value.int IntKind.i64 (↑a'.j : Int)) ∧ true = true) ∧
      (SV.val (Value.int IntKind.i64 (↑l.length : Int)) = SV.val (Value.int IntKind.i64 (↑l.length : Int)) ∧ true = true) ∧
      (SV.val (Value.slice a l.length c) = SV.val (Value.slice a l.length c) ∧ true = true) ∧
      (SV.own (0 : Nat) (0 : Nat) = SV.own (0 : Nat) (0 : Nat) ∧ true = true) ∧
      (SV.val (Value.func (Fn.func (44 : FuncId)) #[] #[]) = SV.val (Value.func (Fn.func (44 : FuncId)) #[] #[]) ∧ true = true) ∧
      True) ∧
      (some
      { ty := (24 : TypeId), cs := [Value.int IntKind.i64 nd.g, Value.string nd.ky, Value.int IntKind.i64 nd.le, Value.int IntKind.i64 nd.ne] : Bx } =
      some
      { ty := (24 : TypeId), cs := [Value.int IntKind.i64 nd.g, Value.string nd.ky, Value.int IntKind.i64 nd.le, Value.int IntKind.i64 nd.ne] : Bx } ∧
      true = true) ∧
      True) ∧
      a'.j - a'.i < a_1.j - a_1.i)
      (∃ (a' : rtBsX),
      ((a'.i ≤ p ∧ p ≤ a'.j ∧ a'.j ≤ l.length) ∧
      { π := m.π, sz := n, uf := m.uf : M } = { π := m.π, sz := n, uf := m.uf : M } ∧
      ((SV.val (Value.int IntKind.i64 (↑a_1.i : Int)) = SV.val (Value.int IntKind.i64 (↑a'.i : Int)) ∧ true = true) ∧
      (SV.val
      (Value.int IntKind.i64
      (IntKind.i64.wrap
      ((IntKind.u64.wrap (IntKind.i64.wrap ((↑a_1.i : Int) + (↑a_1.j : Int)))).fdiv ((2 : Int) ^ (1 : Nat))))) =
      SV.val (Value.int IntKind.i64 (↑a'.j : Int)) ∧
      true = true) ∧
      (SV.val (Value.int IntKind.i64 (↑l.length : Int)) = SV.val (Value.int IntKind.i64 (↑l.length : Int)) ∧ true = true) ∧
      (SV.val (Value.slice a l.length c) = SV.val (Value.slice a l.length c) ∧ true = true) ∧
      (SV.own (0 : Nat) (0 : Nat) = SV.own (0 : Nat) (0 : Nat) ∧ true = true) ∧
      (SV.val (Value.func (Fn.func (44 : FuncId)) #[] #[]) = SV.val (Value.func (Fn.func (44 : FuncId)) #[] #[]) ∧ true = true) ∧
      True) ∧
      (some
      { ty := (24 : TypeId), cs := [Value.int IntKind.i64 nd.g, Value.string nd.ky, Value.int IntKind.i64 nd.le, Value.int IntKind.i64 nd.ne] : Bx } =
      some
      { ty := (24 : TypeId), cs := [Value.int IntKind.i64 nd.g, Value.string nd.ky, Value.int IntKind.i64 nd.le, Value.int IntKind.i64 nd.ne] : Bx } ∧
      true = true) ∧
      True) ∧
      a'.j - a'.i < a_1.j - a_1.i))
      (true = true ∧
      ifB (decide ((↑a_1.i : Int) < (↑l.length : Int)))
      (∃ (b : Nat),
      ∃ (off : Nat),
      a = some { block := b, off := off : Addr } ∧
      ((0 : Int) ≤ (↑a_1.i : Int) ∧ (↑a_1.i : Int) < (↑l.length : Int)) ∧
      ∃ (n_1 : Int),
      ∃ (s : ByteArray),
      ∃ (n_2 : Int),
      ∃ (n_3 : Int),
      CellsAt { π := m.π, sz := n, uf := m.uf : M } b (off + (↑a_1.i : Int).toNat * (4 : Nat))
      [Value.int IntKind.i64 n_1, Value.string s, Value.int IntKind.i64 n_2, Value.int IntKind.i64 n_3] ∧
      ∃ (n_4 : Int),
      QSpec Try.prog (44 : FuncId)
      [Value.agg #[Value.int IntKind.i64 n_1, Value.string s, Value.int IntKind.i64 n_2, Value.int IntKind.i64 n_3],
      Value.agg #[Value.int IntKind.i64 nd.g, Value.string nd.ky, Value.int IntKind.i64 nd.le, Value.int IntKind.i64 nd.ne]]
      { π := m.π, sz := n, uf := m.uf : M } (Value.int IntKind.i64 n_4) ∧
      Done
      (Value.tuple #[Value.int IntKind.i64 (↑a_1.i : Int), Value.bool (n_4 == (0 : Int))] =
      Value.tuple #[Value.int IntKind.i64 (↑p : Int), Value.bool (Option.any (fun (x : Rt) => decide (f x = (0 : Int))) l[p]?)]))
      (Done
      (Value.tuple #[Value.int IntKind.i64 (↑a_1.i : Int), Value.bool false] =
      Value.tuple #[Value.int IntKind.i64 (↑p : Int), Value.bool (Option.any (fun (x : Rt) => decide (f x = (0 : Int))) l[p]?)])))) (by kernel_rfl) ?_
  have h' := h.sz hn'
  have hk : ∀ x, (encRt x).length = 4 := fun _ => rfl
  have hcell : ∀ k (hlt : k < l.length), ∃ b o, a = some ⟨b, o, none⟩ ∧ CellsAt { m with sz := n } b (o + k * 4) (encRt l[k]) := fun k hlt => by
    obtain ⟨b, o, e, hc⟩ := h'.cells (by rw [flat_len hk]; omega)
    exact ⟨b, o, e, CellsAt.elem hk l o k hlt hc⟩
  refine ⟨rfl, ⟨⟨0, l.length⟩, ⟨Nat.zero_le _, hp, Nat.le_refl _⟩, by simp⟩, fun y ⟨g1, g2, g3⟩ => ifB_intro (fun hb => ?_) (fun hb => ?_)⟩
  · have hij : y.i < y.j := by simp at hb; omega
    have wm : IntKind.i64.wrap ((IntKind.u64.wrap (IntKind.i64.wrap ((y.i : Int) + (y.j : Int)))).fdiv (2 ^ 1)) = (((y.i + y.j) / 2 : Nat) : Int) := by
      rw [Int.fdiv_eq_ediv_of_nonneg _ (by decide)]
      simp [IntKind.wrap_i64, IntKind.wrap_u64]; omega
    have hm : (y.i + y.j) / 2 < l.length := by omega
    obtain ⟨b, o, rfl, hc⟩ := hcell _ hm
    have w1 : IntKind.i64.wrap ((((y.i + y.j) / 2 : Nat) : Int) + 1) = (((y.i + y.j) / 2 + 1 : Nat) : Int) := by simp [IntKind.wrap_i64]; omega
    rw [wm, w1]
    simp only [Int.toNat_natCast]
    refine ⟨trivial, b, o, rfl, by omega, _,_,_,_, hc, _, hf _ (List.getElem_mem hm) _, ifB_intro (fun hb2 => ?_) (fun hb2 => ?_)⟩
    · have hlt : f l[(y.i + y.j) / 2] < 0 := by simpa using hb2
      have : (y.i + y.j) / 2 < p := by
        rcases Nat.lt_or_ge ((y.i + y.j) / 2) p with h | h
        · exact h
        · have := h2 _ hm h; omega
      exact ⟨⟨(y.i + y.j) / 2 + 1, y.j⟩, ⟨⟨by simp only; omega, g2, g3⟩, by simp⟩, by simp only; omega⟩
    · have hlt : ¬ f l[(y.i + y.j) / 2] < 0 := by simpa using hb2
      have : p ≤ (y.i + y.j) / 2 := by
        rcases Nat.lt_or_ge ((y.i + y.j) / 2) p with h | h
        · exact absurd (h1 _ hm h) hlt
        · exact h
      exact ⟨⟨y.i, (y.i + y.j) / 2⟩, ⟨⟨g1, by simp only; omega, by simp only; omega⟩, by simp⟩, by simp only; omega⟩
  · have hij : y.i = p := by simp at hb; omega
    rw [hij]
    refine ⟨by trivial, ifB_intro (fun hb2 => ?_) (fun hb2 => ⟨?_⟩)⟩
    · have hlt : p < l.length := by simp at hb2; omega
      obtain ⟨b, o, rfl, hc⟩ := hcell p hlt
      refine ⟨b, o, rfl, by omega, _,_,_,_, by simpa using hc, _, hf _ (List.getElem_mem hlt) _, ⟨?_⟩⟩
      rw [List.getElem?_eq_getElem hlt]
      rfl
    · have hlt : l.length ≤ p := by simp at hb2; omega
      rw [List.getElem?_eq_none hlt]
      rfl

end Go.Proofs.Ytfkielfnceeedaa
set_option linter.unusedVariables false
set_option linter.unusedSimpArgs false
namespace Go.Proofs.Ytfkielfnceeedaa
open Go.Vc Go.RowKit
set_option maxRecDepth 100000

theorem rt_insert (a : Option Addr) (c : Nat) (l : List Rt) (i vb vo vc : Nat) (x : Rt) (S : Nat → Prop) (hn : l.length ≤ 3518437208870) (hi : i ≤ l.length) (m : M) (h : NewR m.sz S m 4 a l.length c (l.flatMap encRt)) (hS : l ≠ [] → ∀ b o, a = some ⟨b, o, none⟩ → b ≠ vb) (hvlt : vb < m.sz) (hu : m.uf vb) (hv : CellsAt m vb vo (encRt x)) :
    SpecW Try.prog 45 [.slice a l.length c, I i, .slice (some ⟨vb, vo, none⟩) 1 vc] m S fun v m' => ∃ a' c', v = .slice a' (l.length + 1) c' ∧ NewR m.sz S m' 4 a' (l.length + 1) c' ((l.take i ++ x :: l.drop i).flatMap encRt) := by
  refine SpecW.of_vc Try.func45 (ann := noAnn) ?_
  refine vc_by (X :=
      true = true ∧
      (true = true ∧ (0 : Int) ≤ (↑i : Int) ∧ (↑i : Int) ≤ (↑l.length : Int) ∧ True ∧ True) ∧
      ifB ((↑i : Int) == (↑l.length : Int))
      (∃ (old : List Value),
      ∃ (src : List Value),
      AppPre m.sz S m (4 : Nat) (40 : Nat) a l.length c (some { block := vb, off := vo : Addr }) (1 : Nat) old src ∧
      ∀ (a' : Option Addr) (c' : Nat) (m' : M),
      AppPost Try.prog (24 : Nat) m (4 : Nat) a l.length c (1 : Nat) old src a' c' m' →
      Done
      (∃ (a'_1 : Option Addr),
      ∃ (c'_1 : Nat),
      Value.slice a' (l.length + (1 : Nat)) c' = Value.slice a'_1 (l.length + (1 : Nat)) c'_1 ∧
      NewR m.sz S m' (4 : Nat) a'_1 (l.length + (1 : Nat)) c'_1 (List.flatMap encRt (List.take i l ++ x :: List.drop i l))))
      (ifB (decide (IntKind.i64.wrap ((↑l.length : Int) + (↑(1 : Nat) : Int)) > (↑c : Int)))
      ((true = true ∧ (0 : Int) ≤ (0 : Int) ∧ (0 : Int) ≤ (↑i : Int) ∧ (↑i : Int) ≤ (↑c : Int) ∧ True) ∧
      ∃ (old : List Value),
      ((0 : Int) ≤ IntKind.i64.wrap (IntKind.i64.wrap ((↑l.length : Int) + (↑(1 : Nat) : Int)) - (↑i : Int)) ∧
      AppPreZ Try.prog (24 : Nat) m.sz S m (4 : Nat) (40 : Nat) (if (↑c : Int).toNat = (0 : Nat) then a else Option.map (fun (x : Addr) => x) a)
      ((↑i : Int).toNat - (0 : Nat)) ((↑c : Int).toNat - (0 : Nat)) (IntKind.i64.wrap (IntKind.i64.wrap ((↑l.length : Int) + (↑(1 : Nat) : Int)) - (↑i : Int))).toNat
      old) ∧
      ∀ (a' : Option Addr) (c' : Nat) (m' : M),
      AppPost Try.prog (24 : Nat) m (4 : Nat) (if (↑c : Int).toNat = (0 : Nat) then a else Option.map (fun (x : Addr) => x) a) ((↑i : Int).toNat - (0 : Nat))
      ((↑c : Int).toNat - (0 : Nat)) (IntKind.i64.wrap (IntKind.i64.wrap ((↑l.length : Int) + (↑(1 : Nat) : Int)) - (↑i : Int))).toNat old
      (zeroRow Try.prog (24 : Nat) (IntKind.i64.wrap (IntKind.i64.wrap ((↑l.length : Int) + (↑(1 : Nat) : Int)) - (↑i : Int))).toNat) a' c' m' →
      (true = true ∧
      (0 : Int) ≤ (↑i : Int) ∧
      (↑i : Int) ≤ (↑((↑i : Int).toNat - (0 : Nat) + (IntKind.i64.wrap (IntKind.i64.wrap ((↑l.length : Int) + (↑(1 : Nat) : Int)) - (↑i : Int))).toNat) : Int) ∧
      True ∧ True) ∧
      ∃ (src : List Value),
      CopyPre m.sz S m' (4 : Nat)
      (if (↑c' : Int).toNat = (↑i : Int).toNat then a' else Option.map (fun (x : Addr) => x.add ((↑i : Int).toNat * Try.prog.types[(24 : Nat)].size)) a')
      ((↑((↑i : Int).toNat - (0 : Nat) + (IntKind.i64.wrap (IntKind.i64.wrap ((↑l.length : Int) + (↑(1 : Nat) : Int)) - (↑i : Int))).toNat) : Int).toNat -
      (↑i : Int).toNat)
      (some { block := vb, off := vo : Addr }) (1 : Nat) src ∧
      ∀ (m'_1 : M),
      CopyPost m'
      (if (↑c' : Int).toNat = (↑i : Int).toNat then a' else Option.map (fun (x : Addr) => x.add ((↑i : Int).toNat * Try.prog.types[(24 : Nat)].size)) a')
      src m'_1 →
      true = true ∧
      (true = true ∧
      (0 : Int) ≤ IntKind.i64.wrap ((↑i : Int) + (↑(1 : Nat) : Int)) ∧
      IntKind.i64.wrap ((↑i : Int) + (↑(1 : Nat) : Int)) ≤
      (↑((↑i : Int).toNat - (0 : Nat) + (IntKind.i64.wrap (IntKind.i64.wrap ((↑l.length : Int) + (↑(1 : Nat) : Int)) - (↑i : Int))).toNat) :
      Int) ∧
      True ∧ True) ∧
      (true = true ∧ (0 : Int) ≤ (↑i : Int) ∧ (↑i : Int) ≤ (↑l.length : Int) ∧ True ∧ True) ∧
      (∃ (src : List Value),
      CopyPre m.sz S m'_1 (4 : Nat)
      (if (↑c' : Int).toNat = (IntKind.i64.wrap ((↑i : Int) + (↑(1 : Nat) : Int))).toNat then a'
      else
      Option.map (fun (x : Addr) => x.add ((IntKind.i64.wrap ((↑i : Int) + (↑(1 : Nat) : Int))).toNat * Try.prog.types[(24 : Nat)].size)) a')
      ((↑((↑i : Int).toNat - (0 : Nat) + (IntKind.i64.wrap (IntKind.i64.wrap ((↑l.length : Int) + (↑(1 : Nat) : Int)) - (↑i : Int))).toNat) :
      Int).toNat -
      (IntKind.i64.wrap ((↑i : Int) + (↑(1 : Nat) : Int))).toNat)
      (if (↑c : Int).toNat = (↑i : Int).toNat then a
      else Option.map (fun (x : Addr) => x.add ((↑i : Int).toNat * Try.prog.types[(24 : Nat)].size)) a)
      ((↑l.length : Int).toNat - (↑i : Int).toNat) src ∧
      ∀ (m' : M),
      CopyPost m'_1
      (if (↑c' : Int).toNat = (IntKind.i64.wrap ((↑i : Int) + (↑(1 : Nat) : Int))).toNat then a'
      else
      Option.map (fun (x : Addr) => x.add ((IntKind.i64.wrap ((↑i : Int) + (↑(1 : Nat) : Int))).toNat * Try.prog.types[(24 : Nat)].size))
      a')
      src m' →
      Done
      (∃ (a'_1 : Option Addr),
      ∃ (c'_1 : Nat),
      Value.slice a'
      ((↑i : Int).toNat - (0 : Nat) +
      (IntKind.i64.wrap (IntKind.i64.wrap ((↑l.length : Int) + (↑(1 : Nat) : Int)) - (↑i : Int))).toNat)
      c' =
      Value.slice a'_1 (l.length + (1 : Nat)) c'_1 ∧
      NewR m.sz S m' (4 : Nat) a'_1 (l.length + (1 : Nat)) c'_1 (List.flatMap encRt (List.take i l ++ x :: List.drop i l)))) ∧
      True)
      ((true = true ∧
      (0 : Int) ≤ (0 : Int) ∧
      (0 : Int) ≤ IntKind.i64.wrap ((↑l.length : Int) + (↑(1 : Nat) : Int)) ∧ IntKind.i64.wrap ((↑l.length : Int) + (↑(1 : Nat) : Int)) ≤ (↑c : Int) ∧ True) ∧
      (true = true ∧
      (0 : Int) ≤ IntKind.i64.wrap ((↑i : Int) + (↑(1 : Nat) : Int)) ∧
      IntKind.i64.wrap ((↑i : Int) + (↑(1 : Nat) : Int)) ≤ (↑((IntKind.i64.wrap ((↑l.length : Int) + (↑(1 : Nat) : Int))).toNat - (0 : Nat)) : Int) ∧ True ∧ True) ∧
      ∃ (b : Bool),
      RunV Try.prog (79 : Nat)
      [Value.slice (some { block := vb, off := vo : Addr }) (1 : Nat) vc,
      Value.slice
      (if (↑((↑c : Int).toNat - (0 : Nat)) : Int).toNat = (IntKind.i64.wrap ((↑i : Int) + (↑(1 : Nat) : Int))).toNat then
      if (↑c : Int).toNat = (0 : Nat) then a else Option.map (fun (x : Addr) => x) a
      else
      Option.map (fun (x : Addr) => x.add ((IntKind.i64.wrap ((↑i : Int) + (↑(1 : Nat) : Int))).toNat * Try.prog.types[(24 : Nat)].size))
      (if (↑c : Int).toNat = (0 : Nat) then a else Option.map (fun (x : Addr) => x) a))
      ((↑((IntKind.i64.wrap ((↑l.length : Int) + (↑(1 : Nat) : Int))).toNat - (0 : Nat)) : Int).toNat - (IntKind.i64.wrap ((↑i : Int) + (↑(1 : Nat) : Int))).toNat)
      ((↑((↑c : Int).toNat - (0 : Nat)) : Int).toNat - (IntKind.i64.wrap ((↑i : Int) + (↑(1 : Nat) : Int))).toNat)]
      m (Value.bool b) ∧
      ifB (!b)
      (true = true ∧
      (true = true ∧
      (0 : Int) ≤ IntKind.i64.wrap ((↑i : Int) + (↑(1 : Nat) : Int)) ∧
      IntKind.i64.wrap ((↑i : Int) + (↑(1 : Nat) : Int)) ≤ (↑((IntKind.i64.wrap ((↑l.length : Int) + (↑(1 : Nat) : Int))).toNat - (0 : Nat)) : Int) ∧
      True ∧ True) ∧
      (true = true ∧ (0 : Int) ≤ (↑i : Int) ∧ (↑i : Int) ≤ (↑((IntKind.i64.wrap ((↑l.length : Int) + (↑(1 : Nat) : Int))).toNat - (0 : Nat)) : Int) ∧ True ∧ True) ∧
      (∃ (src : List Value),
      CopyPre m.sz S m (4 : Nat)
      (if (↑((↑c : Int).toNat - (0 : Nat)) : Int).toNat = (IntKind.i64.wrap ((↑i : Int) + (↑(1 : Nat) : Int))).toNat then
      if (↑c : Int).toNat = (0 : Nat) then a else Option.map (fun (x : Addr) => x) a
      else
      Option.map (fun (x : Addr) => x.add ((IntKind.i64.wrap ((↑i : Int) + (↑(1 : Nat) : Int))).toNat * Try.prog.types[(24 : Nat)].size))
      (if (↑c : Int).toNat = (0 : Nat) then a else Option.map (fun (x : Addr) => x) a))
      ((↑((IntKind.i64.wrap ((↑l.length : Int) + (↑(1 : Nat) : Int))).toNat - (0 : Nat)) : Int).toNat -
      (IntKind.i64.wrap ((↑i : Int) + (↑(1 : Nat) : Int))).toNat)
      (if (↑((↑c : Int).toNat - (0 : Nat)) : Int).toNat = (↑i : Int).toNat then
      if (↑c : Int).toNat = (0 : Nat) then a else Option.map (fun (x : Addr) => x) a
      else
      Option.map (fun (x : Addr) => x.add ((↑i : Int).toNat * Try.prog.types[(24 : Nat)].size))
      (if (↑c : Int).toNat = (0 : Nat) then a else Option.map (fun (x : Addr) => x) a))
      ((↑((IntKind.i64.wrap ((↑l.length : Int) + (↑(1 : Nat) : Int))).toNat - (0 : Nat)) : Int).toNat - (↑i : Int).toNat) src ∧
      ∀ (m' : M),
      CopyPost m
      (if (↑((↑c : Int).toNat - (0 : Nat)) : Int).toNat = (IntKind.i64.wrap ((↑i : Int) + (↑(1 : Nat) : Int))).toNat then
      if (↑c : Int).toNat = (0 : Nat) then a else Option.map (fun (x : Addr) => x) a
      else
      Option.map (fun (x : Addr) => x.add ((IntKind.i64.wrap ((↑i : Int) + (↑(1 : Nat) : Int))).toNat * Try.prog.types[(24 : Nat)].size))
      (if (↑c : Int).toNat = (0 : Nat) then a else Option.map (fun (x : Addr) => x) a))
      src m' →
      (true = true ∧
      (0 : Int) ≤ (↑i : Int) ∧
      (↑i : Int) ≤ (↑((IntKind.i64.wrap ((↑l.length : Int) + (↑(1 : Nat) : Int))).toNat - (0 : Nat)) : Int) ∧ True ∧ True) ∧
      ∃ (src : List Value),
      CopyPre m.sz S m' (4 : Nat)
      (if (↑((↑c : Int).toNat - (0 : Nat)) : Int).toNat = (↑i : Int).toNat then
      if (↑c : Int).toNat = (0 : Nat) then a else Option.map (fun (x : Addr) => x) a
      else
      Option.map (fun (x : Addr) => x.add ((↑i : Int).toNat * Try.prog.types[(24 : Nat)].size))
      (if (↑c : Int).toNat = (0 : Nat) then a else Option.map (fun (x : Addr) => x) a))
      ((↑((IntKind.i64.wrap ((↑l.length : Int) + (↑(1 : Nat) : Int))).toNat - (0 : Nat)) : Int).toNat - (↑i : Int).toNat)
      (some { block := vb, off := vo : Addr }) (1 : Nat) src ∧
      ∀ (m'_1 : M),
      CopyPost m'
      (if (↑((↑c : Int).toNat - (0 : Nat)) : Int).toNat = (↑i : Int).toNat then
      if (↑c : Int).toNat = (0 : Nat) then a else Option.map (fun (x : Addr) => x) a
      else
      Option.map (fun (x : Addr) => x.add ((↑i : Int).toNat * Try.prog.types[(24 : Nat)].size))
      (if (↑c : Int).toNat = (0 : Nat) then a else Option.map (fun (x : Addr) => x) a))
      src m'_1 →
      Done
      (∃ (a' : Option Addr),
      ∃ (c' : Nat),
      Value.slice (if (↑c : Int).toNat = (0 : Nat) then a else Option.map (fun (x : Addr) => x) a)
      ((IntKind.i64.wrap ((↑l.length : Int) + (↑(1 : Nat) : Int))).toNat - (0 : Nat)) ((↑c : Int).toNat - (0 : Nat)) =
      Value.slice a' (l.length + (1 : Nat)) c' ∧
      NewR m.sz S m'_1 (4 : Nat) a' (l.length + (1 : Nat)) c' (List.flatMap encRt (List.take i l ++ x :: List.drop i l)))) ∧
      True)
      ((true = true ∧
      (0 : Int) ≤ (↑l.length : Int) ∧ (↑l.length : Int) ≤ (↑((IntKind.i64.wrap ((↑l.length : Int) + (↑(1 : Nat) : Int))).toNat - (0 : Nat)) : Int) ∧ True ∧ True) ∧
      ∃ (src : List Value),
      CopyPre m.sz S m (4 : Nat)
      (if (↑((↑c : Int).toNat - (0 : Nat)) : Int).toNat = (↑l.length : Int).toNat then
      if (↑c : Int).toNat = (0 : Nat) then a else Option.map (fun (x : Addr) => x) a
      else
      Option.map (fun (x : Addr) => x.add ((↑l.length : Int).toNat * Try.prog.types[(24 : Nat)].size))
      (if (↑c : Int).toNat = (0 : Nat) then a else Option.map (fun (x : Addr) => x) a))
      ((↑((IntKind.i64.wrap ((↑l.length : Int) + (↑(1 : Nat) : Int))).toNat - (0 : Nat)) : Int).toNat - (↑l.length : Int).toNat)
      (some { block := vb, off := vo : Addr }) (1 : Nat) src ∧
      ∀ (m' : M),
      CopyPost m
      (if (↑((↑c : Int).toNat - (0 : Nat)) : Int).toNat = (↑l.length : Int).toNat then
      if (↑c : Int).toNat = (0 : Nat) then a else Option.map (fun (x : Addr) => x) a
      else
      Option.map (fun (x : Addr) => x.add ((↑l.length : Int).toNat * Try.prog.types[(24 : Nat)].size))
      (if (↑c : Int).toNat = (0 : Nat) then a else Option.map (fun (x : Addr) => x) a))
      src m' →
      (true = true ∧
      (0 : Int) ≤ (↑i : Int) ∧ (↑i : Int) ≤ (↑((IntKind.i64.wrap ((↑l.length : Int) + (↑(1 : Nat) : Int))).toNat - (0 : Nat)) : Int) ∧ True ∧ True) ∧
      ∃ (S' : Nat → Prop),
      (∀ (b : Nat), S' b → m'.uf b ∧ (m.sz ≤ b ∨ S b)) ∧
      ∀ (n : Nat),
      m'.sz ≤ n →
      SpecW Try.prog (80 : Nat)
      [Value.slice
      (if (↑((↑c : Int).toNat - (0 : Nat)) : Int).toNat = (↑i : Int).toNat then
      if (↑c : Int).toNat = (0 : Nat) then a else Option.map (fun (x : Addr) => x) a
      else
      Option.map (fun (x : Addr) => x.add ((↑i : Int).toNat * Try.prog.types[(24 : Nat)].size))
      (if (↑c : Int).toNat = (0 : Nat) then a else Option.map (fun (x : Addr) => x) a))
      ((↑((IntKind.i64.wrap ((↑l.length : Int) + (↑(1 : Nat) : Int))).toNat - (0 : Nat)) : Int).toNat - (↑i : Int).toNat)
      ((↑((↑c : Int).toNat - (0 : Nat)) : Int).toNat - (↑i : Int).toNat),
      Value.int IntKind.i64 (↑(1 : Nat) : Int)]
      { π := m'.π, sz := n, uf := m'.uf : M } S' fun (v : Value) (m' : M) =>
      v = Value.tuple #[] ∧
      Done
      (∃ (a' : Option Addr),
      ∃ (c' : Nat),
      Value.slice (if (↑c : Int).toNat = (0 : Nat) then a else Option.map (fun (x : Addr) => x) a)
      ((IntKind.i64.wrap ((↑l.length : Int) + (↑(1 : Nat) : Int))).toNat - (0 : Nat)) ((↑c : Int).toNat - (0 : Nat)) =
      Value.slice a' (l.length + (1 : Nat)) c' ∧
      NewR m.sz S m' (4 : Nat) a' (l.length + (1 : Nat)) c' (List.flatMap encRt (List.take i l ++ x :: List.drop i l))))))) (by kernel_rfl) ?_
  have hk : ∀ x, (encRt x).length = 4 := fun _ => rfl
  have w1 : IntKind.i64.wrap ((l.length : Int) + ((1 : Nat) : Int)) = ((l.length + 1 : Nat) : Int) := by simp [IntKind.wrap_i64]; omega
  have w2 : IntKind.i64.wrap (((l.length + 1 : Nat) : Int) - (i : Int)) = ((l.length + 1 - i : Nat) : Int) := by simp [IntKind.wrap_i64]; omega
  have w3 : IntKind.i64.wrap ((i : Int) + ((1 : Nat) : Int)) = ((i + 1 : Nat) : Int) := by simp [IntKind.wrap_i64]; omega
  have es : Try.prog.types[24].size = 4 := by kernel_rfl
  simp only [w1, w2, w3, es, Int.toNat_natCast, Nat.sub_zero, Option.map_id_fun', id_eq, ite_self]
  have zl : ∀ k, (zeroRow Try.prog 24 k).length = k * 4 := zrLen (by kernel_rfl)
  have z1 : ∀ k, oneCells (zeroRow Try.prog 24 k) = true := zrOne (by kernel_rfl)
  have o1 : ∀ y : List Rt, oneCells (y.flatMap encRt) = true := fun y => by
    rw [oneCells_iff]; intro v hv
    obtain ⟨w, -, hw⟩ := List.mem_flatMap.1 hv
    exact oneCells_iff.1 (rfl : oneCells (encRt w) = true) v hw
  have hvr : Row m (some ⟨vb, vo, none⟩) (encRt x) := .at _ _ _ hvlt hv
  have eres : (l.take i ++ x :: l.drop i).flatMap encRt = (l.take i).flatMap encRt ++ (encRt x ++ (l.drop i).flatMap encRt) := by
    rw [List.flatMap_append, List.flatMap_cons]
  rw [eres]
  refine ⟨trivial, ⟨trivial, by omega, by omega, trivial, trivial⟩, ifB_intro (fun hb => ?_) (fun hb => ?_)⟩
  · have hil : i = l.length := by simp at hb; omega
    subst hil
    refine ⟨_, _, h.appPre hvr (hk x) rfl (by omega), fun a' c' m' hp => ⟨⟨a', c', rfl, ?_⟩⟩⟩
    have := h.append hp (hk x) zl (Nat.le_refl _)
    rw [List.take_length, List.drop_length, List.flatMap_nil, List.append_nil]
    exact this
  have hil : i < l.length := by simp at hb; omega
  have ho := h.toOwn (by omega)
  obtain ⟨b, o, rfl, -⟩ := ho.row.cells (by rw [flat_len hk]; omega)
  have hcl := ho.capLe
  have hbv := hS (fun e => by subst e; simp at hil) b o rfl
  have hTl : ((l.take i).flatMap encRt).length = i * 4 := by rw [flat_len hk, List.length_take]; congr 1; omega
  have hDl : ((l.drop i).flatMap encRt).length = (l.length - i) * 4 := by rw [flat_len hk, List.length_drop]
  have hne : some (⟨b, o, none⟩ : Addr) ≠ none := by simp
  have hci : c ≠ i := by omega
  rw [flat_cut l i] at ho
  generalize hT : (l.take i).flatMap encRt = T at *
  generalize hD : (l.drop i).flatMap encRt = D at *
  refine ifB_intro (fun hc => ?_) (fun hc => ?_)
  · have hcl2 : c = l.length := by simp at hc; omega
    refine ⟨⟨trivial, by omega, by omega, by omega, trivial⟩, T, ⟨by omega, ⟨ho.row.take.rowAt, hTl, zl _, z1 _, by decide, by omega, (fun e => by cases e), fun _ hr => by omega⟩⟩, fun a' c' m' hp => ⟨⟨trivial, by omega, by omega, trivial, trivial⟩, ?_⟩⟩
    rcases hp with ⟨hr, -⟩ | ⟨-, b', hb', hc', rfl, rfl⟩
    · omega
    have hbb : b ≠ b' := by have := ho.lt rfl; omega
    have hvb : vb ≠ b' := by omega
    have e1 : i + (l.length + 1 - i) = l.length + 1 := by omega
    generalize hz : zeroRow Try.prog 24 (l.length + 1 - i) = z at *
    have hzl : z.length = (l.length + 1 - i) * 4 := by rw [← hz, zl]
    have zs : z = z.take 4 ++ z.drop 4 := (List.take_append_drop _ _).symm
    have zt : (z.take 4).length = 4 := by rw [List.length_take, hzl]; omega
    have zd : (z.drop 4).length = (l.length - i) * 4 := by rw [List.length_drop, hzl]; omega
    have q1 : OwnB m.sz S (m.newBlock b' (T ++ z ++ zeroRow Try.prog 24 (c' - (i + (l.length + 1 - i))))) 4 (some ⟨b', 0, none⟩) (l.length + 1) c' (T ++ (z.take 4 ++ z.drop 4)) := by
      rw [← zs]
      exact OwnB.new hb' (by rw [List.length_append, hTl, hzl]; omega) (by rw [zl]; congr 1; omega) (by omega)
    obtain ⟨g1, q2⟩ := q1.set (new := encRt x) (by rw [zt]; exact hk x)
    rw [hTl] at g1 q2
    have q2' : OwnB m.sz S ((m.newBlock b' (T ++ z ++ zeroRow Try.prog 24 (c' - (i + (l.length + 1 - i))))).setCells b' (0 + i * 4) (encRt x)) 4 (some ⟨b', 0, none⟩) (l.length + 1) c' ((T ++ encRt x) ++ (z.drop 4 ++ [])) := by
      rw [show (T ++ encRt x) ++ (z.drop 4 ++ []) = T ++ (encRt x ++ z.drop 4) by rw [List.append_nil, List.append_assoc]]; exact q2
    obtain ⟨g2, q3⟩ := q2'.set (new := D) (by rw [zd, hDl])
    have el : (T ++ encRt x).length = (i + 1) * 4 := by rw [List.length_append, hTl, hk]; omega
    rw [el] at g2 q3
    refine ⟨encRt x, copyPre (sub_addr (by omega)) (hvr.newBlock hb').rowAt (by rw [hk]; omega) rfl g1 (by simp), fun m1 hp1 => ?_⟩
    have hm1 := hp1.atc (sub_addr (by omega))
    subst hm1
    have hDr : Row ((m.newBlock b' (T ++ z ++ zeroRow Try.prog 24 (c' - (i + (l.length + 1 - i))))).setCells b' (0 + i * 4) (encRt x)) (some ⟨b, o + i * 4, none⟩) D := by
      have h1 := ho.row.drop hTl
      rw [show (some (⟨b, o, none⟩ : Addr)).map (fun x => x.add (i * 4)) = some ⟨b, o + i * 4, none⟩ from by show some (Addr.add _ _) = _; rw [add_none]] at h1
      exact (h1.newBlock hb').of (Nat.le_refl _) fun b2 o2 e2 _ => setCells_other (by cases e2; exact hbb)
    refine ⟨trivial, ⟨trivial, by omega, by omega, trivial, trivial⟩, ⟨trivial, by omega, by omega, trivial, trivial⟩, ⟨D, copyPre (sub_addr (by omega)) (by rw [sub_addr hci]; exact hDr.rowAt) (by rw [hDl]; congr 1; omega) (by rw [← hD]; exact o1 _) g2 (by rw [sub_addr hci]; simp), fun m2 hp2 => ?_⟩, trivial⟩
    have hm2 := hp2.atc (sub_addr (by omega))
    subst hm2
    refine ⟨⟨_, c', by rw [e1], .own ?_⟩⟩
    rw [show (T ++ encRt x) ++ (D ++ []) = T ++ (encRt x ++ D) by rw [List.append_nil, List.append_assoc]] at q3
    exact q3
  · have hcl2 : l.length + 1 ≤ c := by simp at hc; omega
    have hi1 : c ≠ i + 1 := by omega
    have hov : RunV Try.prog 79 [.slice (some ⟨vb, vo, none⟩) 1 vc, .slice (some ⟨b, o + (i + 1) * 4, none⟩) (l.length + 1 - (i + 1)) (c - (i + 1))] m (.bool false) :=
      over_run Try.func79 (by kernel_rfl) (by kernel_rfl) (by kernel_rfl) (t := 22) (tR := 4) (by kernel_rfl) Try.underlying22 (i := Try.prog.types[24]) (by kernel_rfl) (Ne.symm hbv) hu (ho.uf rfl) (by
        obtain ⟨b2, o2, e2, hcell⟩ := ho.row.cells (by rw [List.length_append, hTl, hDl]; omega)
        cases e2
        have h0 := hcell.out 0 (by rw [List.length_append, hTl, hDl]; omega)
        rw [List.getElem?_eq_getElem (by rw [List.length_append, hTl, hDl]; omega)] at h0
        exact ⟨_, _, h0⟩)
    cases ho with
    | «at» b o len cap cs rest lo lt uf hcells hl hr hc' =>
    have rs : rest = rest.take 4 ++ rest.drop 4 := (List.take_append_drop _ _).symm
    have rt : (rest.take 4).length = 4 := by rw [List.length_take, hr]; omega
    have rd : (rest.drop 4).length = (c - (l.length + 1)) * 4 := by rw [List.length_drop, hr]; omega
    have ds : D = D.take 4 ++ D.drop 4 := (List.take_append_drop _ _).symm
    have dt : (D.take 4).length = 4 := by rw [List.length_take, hDl]; omega
    have dd : (D.drop 4).length = (l.length - (i + 1)) * 4 := by rw [List.length_drop, hDl]; omega
    have q1 : OwnB m.sz S m 4 (some ⟨b, o, none⟩) (l.length + 1) c ((T ++ D.take 4) ++ ((D.drop 4 ++ rest.take 4) ++ [])) := by
      refine .at b o _ _ _ (rest.drop 4) lo lt uf ?_ (by simp only [List.length_append, List.length_nil, hTl, dt, dd, rt]; omega) rd hcl2
      have e1 : T ++ D.take 4 ++ ((D.drop 4 ++ rest.take 4) ++ []) ++ rest.drop 4 = T ++ D ++ rest := by
        conv => rhs; rw [ds, rs]
        simp only [List.append_assoc, List.append_nil]
      rw [e1]; exact hcells
    obtain ⟨g1, q2⟩ := q1.set (new := D) (by rw [List.length_append, dd, rt, hDl]; omega)
    have el : (T ++ D.take 4).length = (i + 1) * 4 := by rw [List.length_append, hTl, dt]; omega
    rw [el] at g1 q2
    rw [show (T ++ D.take 4) ++ (D ++ []) = T ++ (D.take 4 ++ D) by rw [List.append_nil, List.append_assoc]] at q2
    obtain ⟨g2, q3⟩ := q2.set (new := encRt x) (by rw [dt]; exact hk x)
    rw [hTl] at g2 q3
    have hDr : RowAt m (some ⟨b, o + i * 4, none⟩) D := by
      have := hcells.take.drop
      rw [hTl] at this
      exact .inr ⟨b, _, rfl, this⟩
    refine ⟨⟨trivial, by omega, by omega, by omega, trivial⟩, ⟨trivial, by omega, by omega, trivial, trivial⟩, false, by rw [sub_addr hi1]; exact hov, ifB_true ⟨trivial, ⟨trivial, by omega, by omega, trivial, trivial⟩, ⟨trivial, by omega, by omega, trivial, trivial⟩, ⟨D, copyPre (sub_addr hi1) (by rw [sub_addr hci]; exact hDr) (by rw [hDl]; congr 1; omega) (by rw [← hD]; exact o1 _) g1 (by rw [sub_addr hci]; simp), fun m1 hp1 => ?_⟩, trivial⟩⟩
    have hm1 := hp1.atc (sub_addr hi1)
    subst hm1
    refine ⟨⟨trivial, by omega, by omega, trivial, trivial⟩, encRt x, copyPre (sub_addr hci) (Row.of (m' := m.setCells b (o + (i + 1) * 4) D) hvr (Nat.le_refl _) fun b2 o2 e2 _ => setCells_other (by cases e2; exact Ne.symm hbv)).rowAt (by rw [hk]; omega) rfl g2 (by simp), fun m2 hp2 => ?_⟩
    have hm2 := hp2.atc (sub_addr hci)
    subst hm2
    exact ⟨⟨_, c, rfl, .own q3⟩⟩

end Go.Proofs.Ytfkielfnceeedaa
set_option linter.unusedVariables false
set_option linter.unusedSimpArgs false
namespace Go.Proofs.Ytfkielfnceeedaa
open Go.Vc Go.RowKit
set_option maxRecDepth 100000

theorem rt_none {B : List Rt} {a : Option Addr} {m : M} (h : Row m a (rts B)) (e : a = none) : B = [] := by
  cases B with
  | nil => rfl
  | cons x xs =>
    obtain ⟨b, o, e2, -⟩ := h.cells (by rw [rt_len]; simp)
    rw [e] at e2; simp at e2

theorem group_q (g : Int) (m : M) : QSpec Try.prog 63 [I g] m (.bool (decide (1 ≤ g) && decide (g < 8))) := by
  refine QSpec.of_vc Try.func63 (ann := fun _ => noAnn) fun n hn => ?_
  refine vc_by (X :=
      true = true ∧
      ifB (decide (g ≥ (1 : Int))) (Done (Value.bool (decide (g < (8 : Int))) = Value.bool (decide ((1 : Int) ≤ g) && decide (g < (8 : Int)))))
      (Done (Value.bool false = Value.bool (decide ((1 : Int) ≤ g) && decide (g < (8 : Int)))))) (by kernel_rfl) ?_
  refine ⟨rfl, ifB_intro (fun h => ⟨?_⟩) (fun h => ⟨?_⟩)⟩
  · simp at h; simp [h]
  · simp at h; simp; omega

theorem rgroup_q (g : Int) (m : M) : QSpec Try.prog 64 [I g] m (.bool (decide (1 ≤ g) && decide (g < 8))) := by
  refine QSpec.of_vc Try.func64 (ann := fun _ => noAnn) fun n hn => ?_
  refine vc_by (X :=
      true = true ∧
      ifB (decide (g ≥ (1 : Int))) (Done (Value.bool (decide (g < (8 : Int))) = Value.bool (decide ((1 : Int) ≤ g) && decide (g < (8 : Int)))))
      (Done (Value.bool false = Value.bool (decide ((1 : Int) ≤ g) && decide (g < (8 : Int)))))) (by kernel_rfl) ?_
  refine ⟨rfl, ifB_intro (fun h => ⟨?_⟩) (fun h => ⟨?_⟩)⟩
  · simp at h; simp [h]
  · simp at h; simp; omega

theorem rmay_q (r : Rt) (m : M) : QSpec Try.prog 41 [rtv r] m (.bool (rmayB r)) := by
  refine QSpec.of_vc Try.func41 (ann := fun _ => noAnn) fun n hn => ?_
  refine vc_by (X :=
      true = true ∧
      ∃ (b : Bool),
      QSpec Try.prog (63 : Nat) [Value.int IntKind.i64 r.g] { π := m.π, sz := n, uf := m.uf : M } (Value.bool b) ∧
      ifB b
      (ifB (decide ((↑r.ky.size : Int) ≥ (1 : Int)))
      (ifB (decide ((↑r.ky.size : Int) ≤ (16 : Int))) (Done (Value.bool (decide (r.le ≥ (1 : Int))) = Value.bool (rmayB r))) (Done (Value.bool false = Value.bool (rmayB r))))
      (Done (Value.bool false = Value.bool (rmayB r))))
      (Done (Value.bool false = Value.bool (rmayB r)))) (by kernel_rfl) ?_
  refine ⟨rfl, _, group_q _ _, ?_⟩
  refine ifB_intro (fun h1 => ifB_intro (fun h2 => ifB_intro (fun h3 => ⟨?_⟩) (fun h3 => ⟨?_⟩)) (fun h2 => ⟨?_⟩)) (fun h1 => ⟨?_⟩)
  · have k : keyB r.ky = true := by simp at h2 h3; simp [keyB]; omega
    simp [rmayB, h1, k]
  · have k : keyB r.ky = false := by simp at h2 h3; simp [keyB]; omega
    simp [rmayB, k]
  · have k : keyB r.ky = false := by simp at h2; simp [keyB]; omega
    simp [rmayB, k]
  · simp [rmayB, h1]

theorem rrmay_q (r : Rt) (m : M) : QSpec Try.prog 39 [rtv r] m (.bool (rmayB r)) := by
  refine QSpec.of_vc Try.func39 (ann := fun _ => noAnn) fun n hn => ?_
  refine vc_by (X :=
      true = true ∧
      ∃ (b : Bool),
      QSpec Try.prog (64 : Nat) [Value.int IntKind.i64 r.g] { π := m.π, sz := n, uf := m.uf : M } (Value.bool b) ∧
      ifB b
      (∃ (b : Bool),
      QSpec Try.prog (67 : Nat) [Value.string r.ky] { π := m.π, sz := n, uf := m.uf : M } (Value.bool b) ∧
      ifB b (Done (Value.bool (decide (r.le ≥ (1 : Int))) = Value.bool (rmayB r))) (Done (Value.bool false = Value.bool (rmayB r))))
      (Done (Value.bool false = Value.bool (rmayB r)))) (by kernel_rfl) ?_
  refine ⟨rfl, _, rgroup_q _ _, ?_⟩
  refine ifB_intro (fun h1 => ⟨_, rkey_q _ _, ifB_intro (fun h2 => ⟨?_⟩) (fun h2 => ⟨?_⟩)⟩) (fun h1 => ⟨?_⟩)
  · simp [rmayB, h1, h2]
  · simp [rmayB, h2]
  · simp [rmayB, h1]

theorem rbel_q (a b : Rt) (m : M) : QSpec Try.prog 40 [rtv a, rtv b] m (.bool (bel a b)) := by
  refine QSpec.of_vc Try.func40 (ann := fun _ => noAnn) fun n hn => ?_
  refine vc_by (X :=
      true = true ∧
      ifB (decide (a.g < b.g)) (Done (Value.bool true = Value.bool (bel a b)))
      (ifB (a.g == b.g) (Done (Value.bool (Op.bytesLess a.ky.toList b.ky.toList) = Value.bool (bel a b))) (Done (Value.bool false = Value.bool (bel a b))))) (by kernel_rfl) ?_
  refine ⟨rfl, ifB_intro (fun h1 => ⟨?_⟩) (fun h1 => ifB_intro (fun h2 => ⟨?_⟩) (fun h2 => ⟨?_⟩))⟩
  · simp at h1; simp [bel, h1]
  · simp at h1 h2; simp [bel, h2, ltS]
  · simp at h1 h2; simp [bel, h2]; omega

theorem cmpstr (a b : ByteArray) : CallV Try.prog 109 [.string a, .string b] (I (cmpS a b)) := by
  refine ⟨?_⟩
  rw [← cmp_cmpS]
  show (Value.int .i64 (Extern.BytealgCompare.cmp a b)) = _
  rfl

theorem cmps_q (a b : ByteArray) (m : M) : QSpec Try.prog 98 [.string a, .string b] m (I (cmpS a b)) := by
  refine QSpec.of_vc Try.func98 (ann := fun _ => noAnn) fun n hn => ?_
  refine vc_by (X :=
      true = true ∧ ∃ (n : Int), CallV Try.prog (109 : Nat) [Value.string a, Value.string b] (Value.int IntKind.i64 n) ∧ Done (Value.int IntKind.i64 n = Value.int IntKind.i64 (cmpS a b))) (by kernel_rfl) ?_
  exact ⟨rfl, _, cmpstr a b, ⟨rfl⟩⟩

theorem compare_q (a b : ByteArray) (m : M) : QSpec Try.prog 78 [.string a, .string b] m (I (cmpS a b)) := by
  refine QSpec.of_vc Try.func78 (ann := fun _ => noAnn) fun n hn => ?_
  refine vc_by (X :=
      true = true ∧
      ∃ (n_1 : Int),
      QSpec Try.prog (98 : Nat) [Value.string a, Value.string b] { π := m.π, sz := n, uf := m.uf : M } (Value.int IntKind.i64 n_1) ∧
      Done (Value.int IntKind.i64 n_1 = Value.int IntKind.i64 (cmpS a b))) (by kernel_rfl) ?_
  exact ⟨rfl, _, cmps_q a b _, ⟨rfl⟩⟩

theorem order_q (a b : Rt) (m : M) : QSpec Try.prog 44 [rtv a, rtv b] m (I (ordR a b)) := by
  refine QSpec.of_vc Try.func44 (ann := fun _ => noAnn) fun n hn => ?_
  refine vc_by (X :=
      true = true ∧
      ifB (a.g != b.g)
      (ifB (decide (a.g < b.g)) (Done (Value.int IntKind.i64 (-1 : Int) = Value.int IntKind.i64 (ordR a b)))
      (Done (Value.int IntKind.i64 (1 : Int) = Value.int IntKind.i64 (ordR a b))))
      (∃ (n_1 : Int),
      QSpec Try.prog (78 : Nat) [Value.string a.ky, Value.string b.ky] { π := m.π, sz := n, uf := m.uf : M } (Value.int IntKind.i64 n_1) ∧
      Done (Value.int IntKind.i64 n_1 = Value.int IntKind.i64 (ordR a b)))) (by kernel_rfl) ?_
  refine ⟨rfl, ifB_intro (fun h1 => ifB_intro (fun h2 => ⟨?_⟩) (fun h2 => ⟨?_⟩)) (fun h1 => ⟨_, compare_q _ _ _, ⟨?_⟩⟩)⟩
  · simp at h1 h2; simp [ordR, h1, h2]
  · simp at h1 h2; simp [ordR, h1, show ¬ a.g < b.g by omega]
  · simp at h1; simp [ordR, h1]

/-- the one ahead -/
def prevR (l : List Rt) (k : Nat) : Option Rt := if k = 0 then none else l[k - 1]?

theorem lcheck_q (a : Option Addr) (cp : Nat) (l : List Rt) (hn : l.length ≤ 9223372036854775807) (m : M) (h : Row m a (rts l)) : QSpec Try.prog 14 [.slice a l.length cp] m (I (if ledB none l then 0 else 21)) := by
  refine QSpec.of_vc Try.func14 (ann := fun n _ => { A := Nat, inv := fun k => k ≤ l.length ∧ ledB none l = ledB (prevR l k) (l.drop k), st := fun k => [(7, .val (I k)), (6, .val (I l.length)), (5, .val (.slice a l.length cp)), (0, .val (.slice a l.length cp))], own := fun _ => [], m := fun _ => { m with sz := n }, μ := fun k => l.length - k }) fun n hn' => ?_
  refine vc_by (X :=
      true = true ∧
      (∃ (a_1 : Nat),
      (a_1 ≤ l.length ∧ ledB none l = ledB (prevR l a_1) (List.drop a_1 l)) ∧
      { π := m.π, sz := n, uf := m.uf : M } = { π := m.π, sz := n, uf := m.uf : M } ∧
      ((SV.val (Value.int IntKind.i64 (0 : Int)) = SV.val (Value.int IntKind.i64 (↑a_1 : Int)) ∧ true = true) ∧
      (SV.val (Value.int IntKind.i64 (↑l.length : Int)) = SV.val (Value.int IntKind.i64 (↑l.length : Int)) ∧ true = true) ∧
      (SV.val (Value.slice a l.length cp) = SV.val (Value.slice a l.length cp) ∧ true = true) ∧
      (SV.val (Value.slice a l.length cp) = SV.val (Value.slice a l.length cp) ∧ true = true) ∧ True) ∧
      True) ∧
      ∀ (a_1 : Nat),
      a_1 ≤ l.length ∧ ledB none l = ledB (prevR l a_1) (List.drop a_1 l) →
      ifB (decide ((↑a_1 : Int) < (↑l.length : Int)))
      (∃ (b : Nat),
      ∃ (off : Nat),
      a = some { block := b, off := off : Addr } ∧
      ((0 : Int) ≤ (↑a_1 : Int) ∧ (↑a_1 : Int) < (↑l.length : Int)) ∧
      ∃ (n_1 : Int),
      ∃ (s : ByteArray),
      ∃ (n_2 : Int),
      ∃ (n_3 : Int),
      CellsAt { π := m.π, sz := n, uf := m.uf : M } b (off + (↑a_1 : Int).toNat * (4 : Nat))
      [Value.int IntKind.i64 n_1, Value.string s, Value.int IntKind.i64 n_2, Value.int IntKind.i64 n_3] ∧
      true = true ∧
      ∃ (b : Bool),
      QSpec Try.prog (41 : Nat) [Value.agg #[Value.int IntKind.i64 n_1, Value.string s, Value.int IntKind.i64 n_2, Value.int IntKind.i64 n_3]]
      { π := m.π, sz := n, uf := m.uf : M } (Value.bool b) ∧
      ifB (!b) (Done (Value.int IntKind.i64 (21 : Int) = Value.int IntKind.i64 (if ledB none l = true then (0 : Int) else (21 : Int))))
      (ifB (decide ((↑a_1 : Int) > (0 : Int)))
      (∃ (b : Nat),
      ∃ (off : Nat),
      a = some { block := b, off := off : Addr } ∧
      ((0 : Int) ≤ IntKind.i64.wrap ((↑a_1 : Int) - (1 : Int)) ∧ IntKind.i64.wrap ((↑a_1 : Int) - (1 : Int)) < (↑l.length : Int)) ∧
      ∃ (n_4 : Int),
      ∃ (s_1 : ByteArray),
      ∃ (n_5 : Int),
      ∃ (n_6 : Int),
      CellsAt { π := m.π, sz := n, uf := m.uf : M } b (off + (IntKind.i64.wrap ((↑a_1 : Int) - (1 : Int))).toNat * (4 : Nat))
      [Value.int IntKind.i64 n_4, Value.string s_1, Value.int IntKind.i64 n_5, Value.int IntKind.i64 n_6] ∧
      ∃ (n_7 : Int),
      QSpec Try.prog (44 : Nat)
      [Value.agg #[Value.int IntKind.i64 n_4, Value.string s_1, Value.int IntKind.i64 n_5, Value.int IntKind.i64 n_6],
      Value.agg #[Value.int IntKind.i64 n_1, Value.string s, Value.int IntKind.i64 n_2, Value.int IntKind.i64 n_3]]
      { π := m.π, sz := n, uf := m.uf : M } (Value.int IntKind.i64 n_7) ∧
      ifB (decide (n_7 ≥ (0 : Int)))
      (Done
      (Value.int IntKind.i64 (21 : Int) = Value.int IntKind.i64 (if ledB none l = true then (0 : Int) else (21 : Int))))
      (∃ (a' : Nat),
      ((a' ≤ l.length ∧ ledB none l = ledB (prevR l a') (List.drop a' l)) ∧
      { π := m.π, sz := n, uf := m.uf : M } = { π := m.π, sz := n, uf := m.uf : M } ∧
      ((SV.val (Value.int IntKind.i64 (IntKind.i64.wrap ((↑a_1 : Int) + (1 : Int)))) =
      SV.val (Value.int IntKind.i64 (↑a' : Int)) ∧
      true = true) ∧
      (SV.val (Value.int IntKind.i64 (↑l.length : Int)) = SV.val (Value.int IntKind.i64 (↑l.length : Int)) ∧
      true = true) ∧
      (SV.val (Value.slice a l.length cp) = SV.val (Value.slice a l.length cp) ∧ true = true) ∧
      (SV.val (Value.slice a l.length cp) = SV.val (Value.slice a l.length cp) ∧ true = true) ∧ True) ∧
      True) ∧
      l.length - a' < l.length - a_1))
      (∃ (a' : Nat),
      ((a' ≤ l.length ∧ ledB none l = ledB (prevR l a') (List.drop a' l)) ∧
      { π := m.π, sz := n, uf := m.uf : M } = { π := m.π, sz := n, uf := m.uf : M } ∧
      ((SV.val (Value.int IntKind.i64 (IntKind.i64.wrap ((↑a_1 : Int) + (1 : Int)))) = SV.val (Value.int IntKind.i64 (↑a' : Int)) ∧
      true = true) ∧
      (SV.val (Value.int IntKind.i64 (↑l.length : Int)) = SV.val (Value.int IntKind.i64 (↑l.length : Int)) ∧ true = true) ∧
      (SV.val (Value.slice a l.length cp) = SV.val (Value.slice a l.length cp) ∧ true = true) ∧
      (SV.val (Value.slice a l.length cp) = SV.val (Value.slice a l.length cp) ∧ true = true) ∧ True) ∧
      True) ∧
      l.length - a' < l.length - a_1)))
      (Done (Value.int IntKind.i64 (0 : Int) = Value.int IntKind.i64 (if ledB none l = true then (0 : Int) else (21 : Int))))) (by kernel_rfl) ?_
  have h' := h.sz hn'
  refine ⟨rfl, ⟨0, by simp [prevR]⟩, fun k ⟨hk, hq⟩ => ifB_intro (fun hb => ?_) (fun hb => ⟨?_⟩)⟩
  · have hk2 : k < l.length := by simpa using hb
    obtain ⟨b, o, rfl, hc⟩ := h'.cells (by rw [rt_len]; omega)
    have w1 : IntKind.i64.wrap ((k : Int) + 1) = ((k + 1 : Nat) : Int) := by simp [IntKind.wrap_i64]; omega
    rw [List.drop_eq_getElem_cons hk2, ledB] at hq
    have hnx : prevR l (k + 1) = some l[k] := by simp [prevR, List.getElem?_eq_getElem hk2]
    have hp0 : k = 0 → okP (prevR l k) l[k] = true := fun e => by simp [prevR, e, okP]
    have hpk : ∀ (hk0 : 0 < k), okP (prevR l k) l[k] = bel (l[k - 1]'(by omega)) l[k] := fun hk0 => by
      have : k ≠ 0 := by omega
      simp [prevR, this, List.getElem?_eq_getElem (show k - 1 < l.length by omega), okP]
    have w2 : 0 < k → IntKind.i64.wrap ((k : Int) - 1) = ((k - 1 : Nat) : Int) := fun h => by simp [IntKind.wrap_i64]; omega
    have bad : (okP (prevR l k) l[k] && rmayB l[k]) = false → ledB none l = false := fun e => by rw [hq, e, Bool.false_and]
    have nx : (okP (prevR l k) l[k] && rmayB l[k]) = true → (k + 1 ≤ l.length ∧ ledB none l = ledB (prevR l (k + 1)) (l.drop (k + 1))) := fun e => ⟨hk2, by rw [hq, e, Bool.true_and, hnx]⟩
    refine ⟨b, o, rfl, by omega, _, _, _, _, by simpa using rt_at hc hk2, rfl, _, rmay_q l[k] _, ifB_intro (fun h1 => ⟨?_⟩) (fun h1 => ifB_intro (fun h2 => ?_) (fun h2 => ⟨k + 1, ⟨nx ?_, by simp [w1]⟩, by omega⟩))⟩
    · have h1 : rmayB l[k] = false := by simpa using h1
      simp [bad (by simp [h1])]
    · have h1 : rmayB l[k] = true := by simpa using h1
      have h2 : 0 < k := by simpa using h2
      have hk3 : k - 1 < l.length := by omega
      rw [w2 h2]
      refine ⟨b, o, rfl, by omega, _, _, _, _, by simpa using rt_at hc hk3, _, order_q l[k - 1] l[k] _, ifB_intro (fun h3 => ⟨?_⟩) (fun h3 => ⟨k + 1, ⟨nx ?_, by simp [w1]⟩, by omega⟩)⟩
      · have h3 : bel l[k - 1] l[k] = false := by
          cases h4 : bel l[k - 1] l[k] with
          | false => rfl
          | true => rw [ord_bel, h4] at h3; simp at h3
        simp [bad (by rw [hpk h2, h3]; rfl)]
      · have h3 : bel l[k - 1] l[k] = true := by
          cases h4 : bel l[k - 1] l[k] with
          | true => rfl
          | false =>
            rw [ord_bel, h4] at h3
            by_cases h5 : sameK l[k - 1] l[k] = true <;> simp [h5] at h3
        rw [hpk h2, h3, h1]; rfl
    · have h1 : rmayB l[k] = true := by simpa using h1
      have h2 : k = 0 := by simp at h2; omega
      rw [hp0 h2, h1]; rfl
  · have : k = l.length := by simp at hb; omega
    rw [this] at hq
    simp [hq, ledB]

theorem rright_l (a : Option Addr) (cp : Nat) (l : List Rt) (hn : l.length ≤ 9223372036854775807) (m : M) (h : Row m a (rts l)) : QSpec Try.prog 10 [.slice a l.length cp] m (.bool (ledB none l)) := by
  refine QSpec.of_vc Try.func10 (ann := fun n _ => { A := Nat, inv := fun k => k ≤ l.length ∧ ledB none l = ledB (prevR l k) (l.drop k), st := fun k => [(3, .val (I k)), (0, .val (.slice a l.length cp))], own := fun _ => [], m := fun _ => { m with sz := n }, μ := fun k => l.length - k }) fun n hn' => ?_
  refine vc_by (X :=
      true = true ∧
      (∃ (a_1 : Nat),
      (a_1 ≤ l.length ∧ ledB none l = ledB (prevR l a_1) (List.drop a_1 l)) ∧
      { π := m.π, sz := n, uf := m.uf : M } = { π := m.π, sz := n, uf := m.uf : M } ∧
      ((SV.val (Value.int IntKind.i64 (0 : Int)) = SV.val (Value.int IntKind.i64 (↑a_1 : Int)) ∧ true = true) ∧
      (SV.val (Value.slice a l.length cp) = SV.val (Value.slice a l.length cp) ∧ true = true) ∧ True) ∧
      True) ∧
      ∀ (a_1 : Nat),
      a_1 ≤ l.length ∧ ledB none l = ledB (prevR l a_1) (List.drop a_1 l) →
      ifB (decide ((↑a_1 : Int) < (↑l.length : Int)))
      (true = true ∧
      ∃ (b : Nat),
      ∃ (off : Nat),
      a = some { block := b, off := off : Addr } ∧
      ((0 : Int) ≤ (↑a_1 : Int) ∧ (↑a_1 : Int) < (↑l.length : Int)) ∧
      ∃ (n_1 : Int),
      ∃ (s : ByteArray),
      ∃ (n_2 : Int),
      ∃ (n_3 : Int),
      CellsAt { π := m.π, sz := n, uf := m.uf : M } b (off + (↑a_1 : Int).toNat * (4 : Nat))
      [Value.int IntKind.i64 n_1, Value.string s, Value.int IntKind.i64 n_2, Value.int IntKind.i64 n_3] ∧
      ∃ (b : Bool),
      QSpec Try.prog (39 : Nat) [Value.agg #[Value.int IntKind.i64 n_1, Value.string s, Value.int IntKind.i64 n_2, Value.int IntKind.i64 n_3]]
      { π := m.π, sz := n, uf := m.uf : M } (Value.bool b) ∧
      ifB (!b) (Done (Value.bool false = Value.bool (ledB none l)))
      (ifB (decide ((↑a_1 : Int) > (0 : Int)))
      (∃ (b : Nat),
      ∃ (off : Nat),
      a = some { block := b, off := off : Addr } ∧
      ((0 : Int) ≤ IntKind.i64.wrap ((↑a_1 : Int) - (1 : Int)) ∧ IntKind.i64.wrap ((↑a_1 : Int) - (1 : Int)) < (↑l.length : Int)) ∧
      ∃ (n_4 : Int),
      ∃ (s : ByteArray),
      ∃ (n_5 : Int),
      ∃ (n_6 : Int),
      CellsAt { π := m.π, sz := n, uf := m.uf : M } b (off + (IntKind.i64.wrap ((↑a_1 : Int) - (1 : Int))).toNat * (4 : Nat))
      [Value.int IntKind.i64 n_4, Value.string s, Value.int IntKind.i64 n_5, Value.int IntKind.i64 n_6] ∧
      ∃ (b : Nat),
      ∃ (off : Nat),
      a = some { block := b, off := off : Addr } ∧
      ((0 : Int) ≤ (↑a_1 : Int) ∧ (↑a_1 : Int) < (↑l.length : Int)) ∧
      ∃ (n_7 : Int),
      ∃ (s_1 : ByteArray),
      ∃ (n_8 : Int),
      ∃ (n_9 : Int),
      CellsAt { π := m.π, sz := n, uf := m.uf : M } b (off + (↑a_1 : Int).toNat * (4 : Nat))
      [Value.int IntKind.i64 n_7, Value.string s_1, Value.int IntKind.i64 n_8, Value.int IntKind.i64 n_9] ∧
      ∃ (b : Bool),
      QSpec Try.prog (40 : Nat)
      [Value.agg
      #[Value.int IntKind.i64 n_4, Value.string s, Value.int IntKind.i64 n_5,
      Value.int IntKind.i64 n_6],
      Value.agg
      #[Value.int IntKind.i64 n_7, Value.string s_1, Value.int IntKind.i64 n_8,
      Value.int IntKind.i64 n_9]]
      { π := m.π, sz := n, uf := m.uf : M } (Value.bool b) ∧
      ifB (!b) (Done (Value.bool false = Value.bool (ledB none l)))
      (∃ (a' : Nat),
      ((a' ≤ l.length ∧ ledB none l = ledB (prevR l a') (List.drop a' l)) ∧
      { π := m.π, sz := n, uf := m.uf : M } = { π := m.π, sz := n, uf := m.uf : M } ∧
      ((SV.val (Value.int IntKind.i64 (IntKind.i64.wrap ((↑a_1 : Int) + (1 : Int)))) =
      SV.val (Value.int IntKind.i64 (↑a' : Int)) ∧
      true = true) ∧
      (SV.val (Value.slice a l.length cp) = SV.val (Value.slice a l.length cp) ∧
      true = true) ∧
      True) ∧
      True) ∧
      l.length - a' < l.length - a_1))
      (∃ (a' : Nat),
      ((a' ≤ l.length ∧ ledB none l = ledB (prevR l a') (List.drop a' l)) ∧
      { π := m.π, sz := n, uf := m.uf : M } = { π := m.π, sz := n, uf := m.uf : M } ∧
      ((SV.val (Value.int IntKind.i64 (IntKind.i64.wrap ((↑a_1 : Int) + (1 : Int)))) = SV.val (Value.int IntKind.i64 (↑a' : Int)) ∧
      true = true) ∧
      (SV.val (Value.slice a l.length cp) = SV.val (Value.slice a l.length cp) ∧ true = true) ∧ True) ∧
      True) ∧
      l.length - a' < l.length - a_1)))
      (Done (Value.bool true = Value.bool (ledB none l)))) (by kernel_rfl) ?_
  have h' := h.sz hn'
  refine ⟨rfl, ⟨0, by simp [prevR]⟩, fun k ⟨hk, hq⟩ => ifB_intro (fun hb => ?_) (fun hb => ⟨?_⟩)⟩
  · have hk2 : k < l.length := by simpa using hb
    obtain ⟨b, o, rfl, hc⟩ := h'.cells (by rw [rt_len]; omega)
    have w1 : IntKind.i64.wrap ((k : Int) + 1) = ((k + 1 : Nat) : Int) := by simp [IntKind.wrap_i64]; omega
    rw [List.drop_eq_getElem_cons hk2, ledB] at hq
    have hnx : prevR l (k + 1) = some l[k] := by simp [prevR, List.getElem?_eq_getElem hk2]
    have hp0 : k = 0 → okP (prevR l k) l[k] = true := fun e => by simp [prevR, e, okP]
    have hpk : ∀ (hk0 : 0 < k), okP (prevR l k) l[k] = bel (l[k - 1]'(by omega)) l[k] := fun hk0 => by
      have : k ≠ 0 := by omega
      simp [prevR, this, List.getElem?_eq_getElem (show k - 1 < l.length by omega), okP]
    have w2 : 0 < k → IntKind.i64.wrap ((k : Int) - 1) = ((k - 1 : Nat) : Int) := fun h => by simp [IntKind.wrap_i64]; omega
    have bad : (okP (prevR l k) l[k] && rmayB l[k]) = false → ledB none l = false := fun e => by rw [hq, e, Bool.false_and]
    have nx : (okP (prevR l k) l[k] && rmayB l[k]) = true → (k + 1 ≤ l.length ∧ ledB none l = ledB (prevR l (k + 1)) (l.drop (k + 1))) := fun e => ⟨hk2, by rw [hq, e, Bool.true_and, hnx]⟩
    refine ⟨rfl, b, o, rfl, by omega, _, _, _, _, by simpa using rt_at hc hk2, _, rrmay_q l[k] _, ifB_intro (fun h1 => ⟨?_⟩) (fun h1 => ifB_intro (fun h2 => ?_) (fun h2 => ⟨k + 1, ⟨nx ?_, by simp [w1]⟩, by omega⟩))⟩
    · have h1 : rmayB l[k] = false := by simpa using h1
      simp [bad (by simp [h1])]
    · have h1 : rmayB l[k] = true := by simpa using h1
      have h2 : 0 < k := by simpa using h2
      have hk3 : k - 1 < l.length := by omega
      rw [w2 h2]
      refine ⟨b, o, rfl, by omega, _, _, _, _, by simpa using rt_at hc hk3, b, o, rfl, by omega, _, _, _, _, by simpa using rt_at hc hk2, _, rbel_q l[k - 1] l[k] _, ifB_intro (fun h3 => ⟨?_⟩) (fun h3 => ⟨k + 1, ⟨nx ?_, by simp [w1]⟩, by omega⟩)⟩
      · have h3 : bel l[k - 1] l[k] = false := by simpa using h3
        simp [bad (by rw [hpk h2, h3]; rfl)]
      · have h3 : bel l[k - 1] l[k] = true := by simpa using h3
        rw [hpk h2, h3, h1]; rfl
    · have h1 : rmayB l[k] = true := by simpa using h1
      have h2 : k = 0 := by simp at h2; omega
      rw [hp0 h2, h1]; rfl
  · have : k = l.length := by simp at hb; omega
    rw [this] at hq
    simp [hq, ledB]

end Go.Proofs.Ytfkielfnceeedaa
