/-
  Contracts of functions of this seat: what each hands back, and what it leaves of memory (n24). Nothing here is trusted: Lean checks it.
-/
import Derived.Test.YtbhlhnkjmncloaaVcLem
import Derived.Test.YtbhlhnkjmncloaaVcOwned
import Derived.Test.YtbhlhnkjmncloaaRows
set_option linter.unusedVariables false
set_option linter.unusedSimpArgs false
namespace Go.Proofs.Ytbhlhnkjmncloaa
open Go.Vc Go.RowKit
set_option maxRecDepth 100000

abbrev I (n : Int) : Value := .int .i64 n

abbrev U (n : Int) : Value := .int .u64 n

abbrev sp (lo hi : Int) : Value := .agg #[.int .i64 lo, .int .i64 hi]

def In64 (n : Int) : Prop := -9223372036854775808 ≤ n ∧ n ≤ 9223372036854775807

instance (n : Int) : Decidable (In64 n) := by unfold In64; infer_instance

def InU (n : Int) : Prop := 0 ≤ n ∧ n ≤ 18446744073709551615

def addV (a b : Int) : Int := if In64 (a + b) then a + b else 0

def addE (a b : Int) : Int := if In64 (a + b) then 0 else 10

def subV (a b : Int) : Int := if In64 (a - b) then a - b else 0

def subE (a b : Int) : Int := if In64 (a - b) then 0 else 10

def hasB (lo hi v : Int) : Bool := decide (lo ≤ v) && decide (v ≤ hi)

def roomD (lo hi v : Int) : Int := if hasB lo hi v then v - lo else 0

def roomU (lo hi v : Int) : Int := if hasB lo hi v then hi - v else 0

def meetOk (a b c d : Int) : Bool := decide (a ≤ b) && (decide (c ≤ d) && decide (max a c ≤ min b d))

def meetLo (a b c d : Int) : Int := if meetOk a b c d then max a c else 0

def meetHi (a b c d : Int) : Int := if meetOk a b c d then min b d else 0

def shiftE (a b k : Int) : Int := if b < a then 1 else if In64 (a + k) ∧ In64 (b + k) then 0 else 10

def shiftLo (a b k : Int) : Int := if b < a then 0 else if In64 (a + k) ∧ In64 (b + k) then a + k else 0

def shiftHi (a b k : Int) : Int := if b < a then 0 else if In64 (a + k) ∧ In64 (b + k) then b + k else 0

def shareV (n p i : Int) : Int := if p < 1 ∨ i < 0 ∨ p ≤ i then 0 else if i < n % p then n / p + 1 else n / p

def fitV (n : Int) : Int := min n 9223372036854775807

theorem add_q (a b : Int) (ha : In64 a) (hb : In64 b) (m : M) : QSpec Try.prog 52 [I a, I b] m (.tuple #[I (addV a b), I (addE a b)]) := by
  refine QSpec.of_vc Try.func52 (ann := fun _ => noAnn) fun n hn => ?_
  refine vc_by (X :=
      true = true ∧
      ifB (decide (a ≥ (0 : Int)))
      (ifB (decide (b ≥ (0 : Int)))
      (ifB (decide (IntKind.i64.wrap (a + b) < (0 : Int)))
      (Done
      (Value.tuple #[Value.int IntKind.i64 (0 : Int), Value.int IntKind.i64 (10 : Int)] = Value.tuple #[Value.int IntKind.i64 (addV a b), Value.int IntKind.i64 (addE a b)]))
      (ifB (decide (a < (0 : Int)))
      (ifB (decide (b < (0 : Int)))
      (ifB (decide (IntKind.i64.wrap (a + b) ≥ (0 : Int)))
      (Done
      (Value.tuple #[Value.int IntKind.i64 (0 : Int), Value.int IntKind.i64 (10 : Int)] =
      Value.tuple #[Value.int IntKind.i64 (addV a b), Value.int IntKind.i64 (addE a b)]))
      (Done
      (Value.tuple #[Value.int IntKind.i64 (IntKind.i64.wrap (a + b)), Value.int IntKind.i64 (0 : Int)] =
      Value.tuple #[Value.int IntKind.i64 (addV a b), Value.int IntKind.i64 (addE a b)])))
      (Done
      (Value.tuple #[Value.int IntKind.i64 (IntKind.i64.wrap (a + b)), Value.int IntKind.i64 (0 : Int)] =
      Value.tuple #[Value.int IntKind.i64 (addV a b), Value.int IntKind.i64 (addE a b)])))
      (Done
      (Value.tuple #[Value.int IntKind.i64 (IntKind.i64.wrap (a + b)), Value.int IntKind.i64 (0 : Int)] =
      Value.tuple #[Value.int IntKind.i64 (addV a b), Value.int IntKind.i64 (addE a b)]))))
      (ifB (decide (a < (0 : Int)))
      (ifB (decide (b < (0 : Int)))
      (ifB (decide (IntKind.i64.wrap (a + b) ≥ (0 : Int)))
      (Done
      (Value.tuple #[Value.int IntKind.i64 (0 : Int), Value.int IntKind.i64 (10 : Int)] =
      Value.tuple #[Value.int IntKind.i64 (addV a b), Value.int IntKind.i64 (addE a b)]))
      (Done
      (Value.tuple #[Value.int IntKind.i64 (IntKind.i64.wrap (a + b)), Value.int IntKind.i64 (0 : Int)] =
      Value.tuple #[Value.int IntKind.i64 (addV a b), Value.int IntKind.i64 (addE a b)])))
      (Done
      (Value.tuple #[Value.int IntKind.i64 (IntKind.i64.wrap (a + b)), Value.int IntKind.i64 (0 : Int)] =
      Value.tuple #[Value.int IntKind.i64 (addV a b), Value.int IntKind.i64 (addE a b)])))
      (Done
      (Value.tuple #[Value.int IntKind.i64 (IntKind.i64.wrap (a + b)), Value.int IntKind.i64 (0 : Int)] =
      Value.tuple #[Value.int IntKind.i64 (addV a b), Value.int IntKind.i64 (addE a b)]))))
      (ifB (decide (a < (0 : Int)))
      (ifB (decide (b < (0 : Int)))
      (ifB (decide (IntKind.i64.wrap (a + b) ≥ (0 : Int)))
      (Done
      (Value.tuple #[Value.int IntKind.i64 (0 : Int), Value.int IntKind.i64 (10 : Int)] = Value.tuple #[Value.int IntKind.i64 (addV a b), Value.int IntKind.i64 (addE a b)]))
      (Done
      (Value.tuple #[Value.int IntKind.i64 (IntKind.i64.wrap (a + b)), Value.int IntKind.i64 (0 : Int)] =
      Value.tuple #[Value.int IntKind.i64 (addV a b), Value.int IntKind.i64 (addE a b)])))
      (Done
      (Value.tuple #[Value.int IntKind.i64 (IntKind.i64.wrap (a + b)), Value.int IntKind.i64 (0 : Int)] =
      Value.tuple #[Value.int IntKind.i64 (addV a b), Value.int IntKind.i64 (addE a b)])))
      (Done
      (Value.tuple #[Value.int IntKind.i64 (IntKind.i64.wrap (a + b)), Value.int IntKind.i64 (0 : Int)] =
      Value.tuple #[Value.int IntKind.i64 (addV a b), Value.int IntKind.i64 (addE a b)])))) (by kernel_rfl) ?_
  refine ⟨rfl, ?_⟩
  repeat' (refine ifB_intro (fun h => ?_) (fun h => ?_))
  all_goals refine ⟨?_⟩
  all_goals (by_cases hin : In64 (a + b) <;> simp [addV, addE, hin] <;> simp [IntKind.wrap_i64, In64] at * <;> omega)

theorem has_q (a b v : Int) (m : M) : QSpec Try.prog 38 [sp a b, I v] m (.bool (hasB a b v)) := by
  refine QSpec.of_vc Try.func38 (ann := fun _ => noAnn) fun n hn => ?_
  refine vc_by (X :=
      true = true ∧ ifB (decide (a ≤ v)) (Done (Value.bool (decide (v ≤ b)) = Value.bool (hasB a b v))) (Done (Value.bool false = Value.bool (hasB a b v)))) (by kernel_rfl) ?_
  refine ⟨rfl, ?_⟩
  repeat' (refine ifB_intro (fun h => ?_) (fun h => ?_))
  all_goals (refine ⟨?_⟩; simp [hasB, h])

theorem add_ok (a b : Int) : addE a b = 0 ↔ In64 (a + b) := by unfold addE; split <;> simp [*]

theorem div_facts (a b : Int) (ha : 0 ≤ a) (hb : 1 ≤ b) : 0 ≤ a / b ∧ a / b ≤ a ∧ 0 ≤ a % b ∧ a % b < b ∧ a / b * b = a - a % b ∧ a / b ≤ a - a % b := by
  have h1 := Int.ediv_nonneg ha (by omega : 0 ≤ b)
  have h2 := Int.emod_nonneg a (by omega : b ≠ 0)
  have h3 := Int.emod_lt_of_pos a (by omega : 0 < b)
  have h4 := Int.mul_ediv_add_emod a b
  have h5 := Int.ediv_le_self b ha
  have h6 : a / b * 1 ≤ a / b * b := Int.mul_le_mul_of_nonneg_left hb h1
  have h7 : a / b * b = a - a % b := by rw [Int.mul_comm]; omega
  exact ⟨h1, h5, h2, h3, h7, by omega⟩

theorem rhas_q (a b v : Int) (m : M) : QSpec Try.prog 32 [sp a b, I v] m (.bool (hasB a b v)) := by
  refine QSpec.of_vc Try.func32 (ann := fun _ => noAnn) fun n hn => ?_
  refine vc_by (X :=
      true = true ∧ ifB (decide (a ≤ v)) (Done (Value.bool (decide (v ≤ b)) = Value.bool (hasB a b v))) (Done (Value.bool false = Value.bool (hasB a b v)))) (by kernel_rfl) ?_
  refine ⟨rfl, ?_⟩
  repeat' (refine ifB_intro (fun h => ?_) (fun h => ?_))
  all_goals (refine ⟨?_⟩; simp [hasB, h])

def wideHi (W : Int) : Int := IntKind.i64.wrap (W / 18446744073709551616)

def wideLo (W : Int) : Int := W % 18446744073709551616

abbrev wide (W : Int) : Value := .agg #[I (wideHi W), U (wideLo W)]

theorem add64 (x y c : Int) (hx : 0 ≤ x ∧ x < 18446744073709551616) (hy : 0 ≤ y ∧ y < 18446744073709551616) (hc : c = 0 ∨ c = 1) : CallV Try.prog 45 [U x, U y, U c] (.tuple #[U ((x + y + c) % 18446744073709551616), U ((x + y + c) / 18446744073709551616)]) := by
  refine ⟨?_⟩
  rcases hc with rfl | rfl
  all_goals
    show (Value.tuple #[.int .u64 (Int.ofNat ((x.toNat + y.toNat + Int.toNat _) % Extern.MathBitsCarry.m64)), .int .u64 (Int.ofNat ((x.toNat + y.toNat + Int.toNat _) / Extern.MathBitsCarry.m64))]) = _
    simp only [Extern.MathBitsCarry.m64, Value.tuple.injEq, Array.mk.injEq, List.cons.injEq, Value.int.injEq, true_and, and_true]
    constructor <;> simp <;> omega

theorem plus_q (W k : Int) (hk : In64 k) (m : M) : QSpec Try.prog 19 [wide W, I k] m (wide (W + k)) := by
  refine QSpec.of_vc Try.func19 (ann := fun _ => noAnn) fun n hn => ?_
  refine vc_by (X :=
      true = true ∧
      ∃ (n : Int),
      ∃ (n_1 : Int),
      CallV Try.prog (45 : Nat) [Value.int IntKind.u64 (wideLo W), Value.int IntKind.u64 (IntKind.u64.wrap k), Value.int IntKind.u64 (0 : Int)]
      (Value.tuple #[Value.int IntKind.u64 n, Value.int IntKind.u64 n_1]) ∧
      ifB (decide (k < (0 : Int)))
      (Done
      (Value.agg #[Value.int IntKind.i64 (IntKind.i64.wrap (IntKind.i64.wrap (wideHi W + IntKind.i64.wrap n_1) - (1 : Int))), Value.int IntKind.u64 n] =
      Value.agg #[Value.int IntKind.i64 (wideHi (W + k)), Value.int IntKind.u64 (wideLo (W + k))]))
      (Done
      (Value.agg #[Value.int IntKind.i64 (IntKind.i64.wrap (wideHi W + IntKind.i64.wrap n_1)), Value.int IntKind.u64 n] =
      Value.agg #[Value.int IntKind.i64 (wideHi (W + k)), Value.int IntKind.u64 (wideLo (W + k))]))) (by kernel_rfl) ?_
  unfold In64 at hk
  refine ⟨rfl, _, _, add64 _ _ _ (by unfold wideLo; omega) (by simp [IntKind.wrap_u64]; omega) (.inl rfl), ifB_intro (fun h => ⟨?_⟩) (fun h => ⟨?_⟩)⟩
  all_goals
    simp at h
    simp [wideHi, wideLo, IntKind.wrap_i64, IntKind.wrap_u64]
    omega

theorem not_int (k : Int) (hk : In64 k) : IntKind.i64.wrap ((BitVec.ofInt IntKind.i64.bits (-1) ^^^ BitVec.ofInt IntKind.i64.bits k).toNat : Int) = -k - 1 := by
  have e1 : BitVec.ofInt IntKind.i64.bits (-1) = BitVec.allOnes 64 := rfl
  have e2 : (BitVec.allOnes 64 ^^^ BitVec.ofInt 64 k) = ~~~ (BitVec.ofInt 64 k) := by rw [BitVec.xor_comm]; exact BitVec.xor_allOnes
  rw [e1]
  show IntKind.i64.wrap ((BitVec.allOnes 64 ^^^ BitVec.ofInt 64 k).toNat : Int) = -k - 1
  rw [e2, BitVec.toNat_not, BitVec.toNat_ofInt]
  unfold In64 at hk
  simp [IntKind.wrap_i64]
  omega

theorem less_q (W k : Int) (hk : In64 k) (m : M) : QSpec Try.prog 20 [wide W, I k] m (wide (W - k)) := by
  refine QSpec.of_vc Try.func20 (ann := fun _ => noAnn) fun n hn => ?_
  refine vc_by (X :=
      true = true ∧
      ∃ (n_1 : Int),
      ∃ (n_2 : Int),
      QSpec Try.prog (19 : Nat)
      [Value.agg #[Value.int IntKind.i64 (wideHi W), Value.int IntKind.u64 (wideLo W)],
      Value.int IntKind.i64 (IntKind.i64.wrap (↑(BitVec.ofInt (64 : Nat) (if true = true then (-1 : Int) else IntKind.i64.max) ^^^ BitVec.ofInt (64 : Nat) k).toNat : Int))]
      { π := m.π, sz := n, uf := m.uf : M } (Value.agg #[Value.int IntKind.i64 n_1, Value.int IntKind.u64 n_2]) ∧
      ∃ (n_3 : Int),
      ∃ (n_4 : Int),
      QSpec Try.prog (19 : Nat) [Value.agg #[Value.int IntKind.i64 n_1, Value.int IntKind.u64 n_2], Value.int IntKind.i64 (1 : Int)] { π := m.π, sz := n, uf := m.uf : M }
      (Value.agg #[Value.int IntKind.i64 n_3, Value.int IntKind.u64 n_4]) ∧
      Done (Value.agg #[Value.int IntKind.i64 n_3, Value.int IntKind.u64 n_4] = Value.agg #[Value.int IntKind.i64 (wideHi (W - k)), Value.int IntKind.u64 (wideLo (W - k))])) (by kernel_rfl) ?_
  have e : IntKind.i64.wrap ((BitVec.ofInt 64 (if true = true then -1 else IntKind.i64.max) ^^^ BitVec.ofInt 64 k).toNat : Int) = -k - 1 := not_int k hk
  rw [e]
  have e2 : W + (-k - 1) + 1 = W - k := by omega
  have hk' : In64 (-k - 1) := by unfold In64 at *; omega
  have h1 := plus_q (W + (-k - 1)) 1 (by decide) { m with sz := n }
  rw [e2] at h1
  exact ⟨rfl, _, _, plus_q W (-k - 1) hk' _, _, _, h1, ⟨rfl⟩⟩

theorem int_q (W : Int) (h1 : -85070591730234615865843651857942052864 ≤ W) (h2 : W ≤ 85070591730234615865843651857942052864) (m : M) :
    QSpec Try.prog 56 [wide W] m (.tuple #[I (IntKind.i64.wrap W), .bool (decide (In64 W))]) := by
  refine QSpec.of_vc Try.func56 (ann := fun _ => noAnn) fun n hn => ?_
  refine vc_by (X :=
      true = true ∧
      true = true ∧
      ifB (wideHi W == (0 : Int))
      (ifB (decide (wideLo W < (9223372036854775808 : Int)))
      (Done
      (Value.tuple #[Value.int IntKind.i64 (IntKind.i64.wrap (wideLo W)), Value.bool true] =
      Value.tuple #[Value.int IntKind.i64 (IntKind.i64.wrap W), Value.bool (decide (In64 W))]))
      (ifB (wideHi W == (-1 : Int))
      (Done
      (Value.tuple #[Value.int IntKind.i64 (IntKind.i64.wrap (wideLo W)), Value.bool (decide (wideLo W ≥ (9223372036854775808 : Int)))] =
      Value.tuple #[Value.int IntKind.i64 (IntKind.i64.wrap W), Value.bool (decide (In64 W))]))
      (Done
      (Value.tuple #[Value.int IntKind.i64 (IntKind.i64.wrap (wideLo W)), Value.bool false] =
      Value.tuple #[Value.int IntKind.i64 (IntKind.i64.wrap W), Value.bool (decide (In64 W))]))))
      (ifB (wideHi W == (-1 : Int))
      (Done
      (Value.tuple #[Value.int IntKind.i64 (IntKind.i64.wrap (wideLo W)), Value.bool (decide (wideLo W ≥ (9223372036854775808 : Int)))] =
      Value.tuple #[Value.int IntKind.i64 (IntKind.i64.wrap W), Value.bool (decide (In64 W))]))
      (Done
      (Value.tuple #[Value.int IntKind.i64 (IntKind.i64.wrap (wideLo W)), Value.bool false] =
      Value.tuple #[Value.int IntKind.i64 (IntKind.i64.wrap W), Value.bool (decide (In64 W))])))) (by kernel_rfl) ?_
  refine ⟨rfl, rfl, ?_⟩
  repeat' (refine ifB_intro (fun h => ?_) (fun h => ?_))
  all_goals refine ⟨?_⟩
  all_goals simp only [Value.tuple.injEq, Array.mk.injEq, List.cons.injEq, Value.bool.injEq, and_true, eq_comm (a := true), eq_comm (a := false), decide_eq_true_eq, decide_eq_false_iff_not, decide_eq_decide, beq_iff_eq, beq_eq_false_iff_ne] at *
  all_goals simp [wideHi, wideLo, IntKind.wrap_i64, In64] at *
  all_goals omega

/-- the sum of many, in order -/
def sumI (l : List Int) : Int := l.foldl (· + ·) 0

theorem foldl_add (l : List Int) (a : Int) : l.foldl (· + ·) a = a + l.foldl (· + ·) 0 := by
  induction l generalizing a with
  | nil => simp
  | cons x r ih => simp only [List.foldl_cons]; rw [ih, ih (0 + x)]; omega

theorem sumI_take (l : List Int) (k : Nat) (h : k < l.length) : sumI (l.take (k + 1)) = sumI (l.take k) + l[k] := by
  unfold sumI
  rw [List.take_succ_eq_append_getElem h, List.foldl_append]
  simp

theorem sumI_bound (l : List Int) (h : ∀ x ∈ l, In64 x) : -9223372036854775808 * (l.length : Int) ≤ sumI l ∧ sumI l ≤ 9223372036854775807 * (l.length : Int) := by
  induction l with
  | nil => simp [sumI]
  | cons x r ih =>
    have := ih (fun y hy => h y (by simp [hy]))
    have hx := h x (by simp)
    unfold In64 at hx
    have e : sumI (x :: r) = x + sumI r := by simp only [sumI, List.foldl_cons]; rw [foldl_add]; simp
    rw [e]
    simp only [List.length_cons, Int.natCast_add]
    omega

abbrev ints (l : List Int) : List Value := l.flatMap fun x => [I x]

theorem ints_len (l : List Int) : (ints l).length = l.length := by
  induction l with
  | nil => rfl
  | cons x r ih => simp only [ints, List.flatMap_cons, List.length_append, List.length_cons, List.length_nil] at *; omega

theorem ints_at {m : M} {b o i : Nat} {l : List Int} (h : CellsAt m b o (ints l)) (hi : i < l.length) : CellsAt m b (o + i) [I l[i]] := by
  have := CellsAt.elem (k := 1) (enc := fun x => [I x]) (fun _ => rfl) l o i hi h
  simpa using this

def ofAnn (a : Option Addr) (c : Nat) (l : List Int) (m : M) : Ann where
  A := Nat
  inv k := k ≤ l.length
  st k := [(4, .val (I k)), (0, .val (.slice a l.length c)), (3, .own 2 0), (2, .own 0 0)]
  own k := [(0, ⟨44, [I 0, U 0]⟩), (2, ⟨44, [I (wideHi (sumI (l.take k))), U (wideLo (sumI (l.take k)))]⟩)]
  m _ := m
  μ k := l.length - k

theorem of_q (a : Option Addr) (c : Nat) (l : List Int) (hl : ∀ x ∈ l, In64 x) (hn : l.length ≤ 140737488355328) (m : M) (h : Row m a (ints l)) :
    QSpec Try.prog 18 [.slice a l.length c] m (wide (sumI l)) := by
  refine QSpec.of_vc Try.func18 (ann := fun n _ => ofAnn a c l { m with sz := n }) fun n hn => ?_
  refine vc_by (X :=
      true = true ∧
      (∃ (a_1 : Nat),
      a_1 ≤ l.length ∧
      { π := m.π, sz := n, uf := m.uf : M } = { π := m.π, sz := n, uf := m.uf : M } ∧
      ((SV.val (Value.int IntKind.i64 (0 : Int)) = SV.val (Value.int IntKind.i64 (↑a_1 : Int)) ∧ true = true) ∧
      (SV.val (Value.slice a l.length c) = SV.val (Value.slice a l.length c) ∧ true = true) ∧
      (SV.own ((0 : Nat) + (1 : Nat) + (1 : Nat)) (0 : Nat) = SV.own (2 : Nat) (0 : Nat) ∧ true = true) ∧
      (SV.own ((0 : Nat) + (0 : Nat)) (0 : Nat) = SV.own (0 : Nat) (0 : Nat) ∧ true = true) ∧ True) ∧
      (some { ty := (44 : Nat), cs := [Value.int IntKind.i64 (0 : Int), Value.int IntKind.u64 (0 : Int)] : Bx } =
      some { ty := (44 : TypeId), cs := [Value.int IntKind.i64 (0 : Int), Value.int IntKind.u64 (0 : Int)] : Bx } ∧
      true = true) ∧
      (some { ty := (44 : Nat), cs := [Value.int IntKind.i64 (0 : Int), Value.int IntKind.u64 (0 : Int)] : Bx } =
      some { ty := (44 : TypeId), cs := [Value.int IntKind.i64 (wideHi (sumI (List.take a_1 l))), Value.int IntKind.u64 (wideLo (sumI (List.take a_1 l)))] : Bx } ∧
      true = true) ∧
      True) ∧
      ∀ (a_1 : Nat),
      a_1 ≤ l.length →
      ifB (decide ((↑a_1 : Int) < (↑l.length : Int)))
      (true = true ∧
      ∃ (b : Nat),
      ∃ (off : Nat),
      a = some { block := b, off := off : Addr } ∧
      ((0 : Int) ≤ (↑a_1 : Int) ∧ (↑a_1 : Int) < (↑l.length : Int)) ∧
      ∃ (n_1 : Int),
      CellsAt { π := m.π, sz := n, uf := m.uf : M } b (off + (↑a_1 : Int).toNat * (1 : Nat)) [Value.int IntKind.i64 n_1] ∧
      ∃ (n_2 : Int),
      ∃ (n_3 : Int),
      QSpec Try.prog (19 : Nat)
      [Value.agg #[Value.int IntKind.i64 (wideHi (sumI (List.take a_1 l))), Value.int IntKind.u64 (wideLo (sumI (List.take a_1 l)))],
      Value.int IntKind.i64 n_1]
      { π := m.π, sz := n, uf := m.uf : M } (Value.agg #[Value.int IntKind.i64 n_2, Value.int IntKind.u64 n_3]) ∧
      ∃ (a' : Nat),
      (a' ≤ l.length ∧
      { π := m.π, sz := n, uf := m.uf : M } = { π := m.π, sz := n, uf := m.uf : M } ∧
      ((SV.val (Value.int IntKind.i64 (IntKind.i64.wrap ((↑a_1 : Int) + (1 : Int)))) = SV.val (Value.int IntKind.i64 (↑a' : Int)) ∧ true = true) ∧
      (SV.val (Value.slice a l.length c) = SV.val (Value.slice a l.length c) ∧ true = true) ∧
      (SV.own (2 : Nat) (0 : Nat) = SV.own (2 : Nat) (0 : Nat) ∧ true = true) ∧
      (SV.own (0 : Nat) (0 : Nat) = SV.own (0 : Nat) (0 : Nat) ∧ true = true) ∧ True) ∧
      (some { ty := (44 : TypeId), cs := [Value.int IntKind.i64 (0 : Int), Value.int IntKind.u64 (0 : Int)] : Bx } =
      some { ty := (44 : TypeId), cs := [Value.int IntKind.i64 (0 : Int), Value.int IntKind.u64 (0 : Int)] : Bx } ∧
      true = true) ∧
      (some { ty := (44 : TypeId), cs := [Value.int IntKind.i64 n_2, Value.int IntKind.u64 n_3] : Bx } =
      some
      { ty := (44 : TypeId), cs := [Value.int IntKind.i64 (wideHi (sumI (List.take a' l))), Value.int IntKind.u64 (wideLo (sumI (List.take a' l)))] : Bx } ∧
      true = true) ∧
      True) ∧
      l.length - a' < l.length - a_1)
      (Done
      (Value.agg #[Value.int IntKind.i64 (wideHi (sumI (List.take a_1 l))), Value.int IntKind.u64 (wideLo (sumI (List.take a_1 l)))] =
      Value.agg #[Value.int IntKind.i64 (wideHi (sumI l)), Value.int IntKind.u64 (wideLo (sumI l))]))) (by kernel_rfl) ?_
  have h' := h.sz hn
  refine ⟨rfl, ⟨0, by simp [sumI, wideHi, wideLo, IntKind.wrap_i64]⟩, fun k hk => ifB_intro (fun hb => ?_) (fun hb => ⟨?_⟩)⟩
  · have hk2 : k < l.length := by simpa using hb
    obtain ⟨b, o, rfl, hc⟩ := h'.cells (by rw [ints_len]; omega)
    refine ⟨rfl, b, o, rfl, by omega, l[k], by simpa using ints_at hc hk2, _, _, plus_q _ _ (hl _ (List.getElem_mem hk2)) _, k + 1, ⟨hk2, rfl, ⟨⟨?_, rfl⟩, by simp⟩, ?_⟩, by omega⟩
    · simp [IntKind.wrap_i64]; omega
    · rw [sumI_take l k hk2]; simp
  · have : k = l.length := by simp at hb; omega
    subst this
    simp

theorem row2 {m : M} {b : Nat} (a c : Int) : Row (m.newBlock b [I a, I c]) (some ⟨b, 0, none⟩) (ints [a, c]) := .at _ _ _ (by simp only [M.newBlock]; omega) cellsAt_new

theorem row1 {m : M} {b : Nat} (a : Int) : Row (m.newBlock b [I a]) (some ⟨b, 0, none⟩) (ints [a]) := .at _ _ _ (by simp only [M.newBlock]; omega) cellsAt_new

theorem ofNat63 (n : Int) : n.fdiv (2 ^ 63) = n / 9223372036854775808 := by rw [Int.fdiv_eq_ediv_of_nonneg _ (by decide)]; rfl

/-- what the first k parts have together -/
def shareS (a b : Int) (k : Nat) : Int := k * (a / b) + min (k : Int) (a % b)

theorem share_at (a b : Int) (k : Nat) (h1 : 1 ≤ b) (h2 : (k : Int) < b) : shareV a b k = a / b + (if (k : Int) < a % b then 1 else 0) := by
  have : ¬ (b < 1 ∨ (k : Int) < 0 ∨ b ≤ k) := by omega
  unfold shareV
  rw [if_neg this]
  split <;> simp

theorem share_step (a b : Int) (k : Nat) (h1 : 1 ≤ b) (h2 : (k : Int) < b) : shareS a b (k + 1) = shareS a b k + shareV a b k := by
  rw [share_at a b k h1 h2]
  unfold shareS
  push_cast
  rw [Int.add_mul, Int.one_mul]
  split <;> omega

theorem sumI_append (a b : List Int) : sumI (a ++ b) = sumI a + sumI b := by
  unfold sumI
  rw [List.foldl_append, foldl_add]

theorem sumI_reverse (l : List Int) : sumI l.reverse = sumI l := by
  induction l with
  | nil => rfl
  | cons x r ih =>
    rw [List.reverse_cons, sumI_append, ih, show x :: r = [x] ++ r from rfl, sumI_append]
    omega

structure OrdX where
  j : Nat
  a : Option Addr
  c : Nat
  m : M

def ordAnn (a : Option Addr) (c : Nat) (l : List Int) (k : Int) (m : M) : Ann where
  A := OrdX
  inv x := x.j ≤ l.length ∧ OwnB m.sz (fun _ => False) x.m 1 x.a x.j x.c (ints (l.reverse.take x.j)) ∧ Agree m.sz m x.m
  st x := [(6, .val (I ((l.length : Int) - 1 - x.j))), (5, .val (.slice x.a x.j x.c)), (0, .val (.slice a l.length c)), (1, .val (I k))]
  own _ := []
  m x := x.m
  μ x := l.length - x.j

end Go.Proofs.Ytbhlhnkjmncloaa
