/-
  Contracts of functions of this seat: what each hands back, and what it leaves of memory (n24, opn, l_tt, l_an, l_oq, wit1, wit2, bs_tt, ins_tt, del_tt, wit3, wit4). Nothing here is trusted: Lean checks it.
-/
import Derived.Test.YtbhlhnkjmncloaaVcLem
import Derived.Test.YtbhlhnkjmncloaaVcOwned
import Derived.Test.YtbhlhnkjmncloaaRows
import Derived.Test.YtbhlhnkjmncloaaVcOpen
import Derived.Test.YtbhlhnkjmncloaaVcOver
import Derived.Test.YtbhlhnkjmncloaaVcStr
import Derived.Test.YtbhlhnkjmncloaaVcList
set_option linter.unusedVariables false
set_option linter.unusedSimpArgs false
namespace Go.Proofs.Ytbhlhnkjmncloaa
open Go.Vc Go.RowKit
set_option maxRecDepth 100000

abbrev I (n : Int) : Value := .int .i64 n

abbrev U (n : Int) : Value := .int .u64 n

abbrev sp (lo hi : Int) : Value := .agg #[.int .i64 lo, .int .i64 hi]

def In64 (n : Int) : Prop := -9223372036854775808 ≤ n ∧ n ≤ 9223372036854775807

instance (n : Int) : Decidable (In64 n) := by unfold In64; infer_instance

def InU (n : Int) : Prop := 0 ≤ n ∧ n ≤ 18446744073709551615

def addV (a b : Int) : Int := if In64 (a + b) then a + b else 0

def addE (a b : Int) : Int := if In64 (a + b) then 0 else 10

def subV (a b : Int) : Int := if In64 (a - b) then a - b else 0

def subE (a b : Int) : Int := if In64 (a - b) then 0 else 10

def hasB (lo hi v : Int) : Bool := decide (lo ≤ v) && decide (v ≤ hi)

def roomD (lo hi v : Int) : Int := if hasB lo hi v then v - lo else 0

def roomU (lo hi v : Int) : Int := if hasB lo hi v then hi - v else 0

def meetOk (a b c d : Int) : Bool := decide (a ≤ b) && (decide (c ≤ d) && decide (max a c ≤ min b d))

def meetLo (a b c d : Int) : Int := if meetOk a b c d then max a c else 0

def meetHi (a b c d : Int) : Int := if meetOk a b c d then min b d else 0

def shiftE (a b k : Int) : Int := if b < a then 1 else if In64 (a + k) ∧ In64 (b + k) then 0 else 10

def shiftLo (a b k : Int) : Int := if b < a then 0 else if In64 (a + k) ∧ In64 (b + k) then a + k else 0

def shiftHi (a b k : Int) : Int := if b < a then 0 else if In64 (a + k) ∧ In64 (b + k) then b + k else 0

def shareV (n p i : Int) : Int := if p < 1 ∨ i < 0 ∨ p ≤ i then 0 else if i < n % p then n / p + 1 else n / p

def fitV (n : Int) : Int := min n 9223372036854775807

theorem add_q (a b : Int) (ha : In64 a) (hb : In64 b) (m : M) : QSpec Try.prog 52 [I a, I b] m (.tuple #[I (addV a b), I (addE a b)]) := by
  refine QSpec.of_vc Try.func52 (ann := fun _ => noAnn) fun n hn => ?_
  refine vc_by (X :=
      true = true ∧
      ifB (decide (a ≥ (0 : Int)))
      (ifB (decide (b ≥ (0 : Int)))
      (ifB (decide (IntKind.i64.wrap (a + b) < (0 : Int)))
      (Done
      (Value.tuple #[Value.int IntKind.i64 (0 : Int), Value.int IntKind.i64 (10 : Int)] = Value.tuple #[Value.int IntKind.i64 (addV a b), Value.int IntKind.i64 (addE a b)]))
      (ifB (decide (a < (0 : Int)))
      (ifB (decide (b < (0 : Int)))
      (ifB (decide (IntKind.i64.wrap (a + b) ≥ (0 : Int)))
      (Done
      (Value.tuple #[Value.int IntKind.i64 (0 : Int), Value.int IntKind.i64 (10 : Int)] =
      Value.tuple #[Value.int IntKind.i64 (addV a b), Value.int IntKind.i64 (addE a b)]))
      (Done
      (Value.tuple #[Value.int IntKind.i64 (IntKind.i64.wrap (a + b)), Value.int IntKind.i64 (0 : Int)] =
      Value.tuple #[Value.int IntKind.i64 (addV a b), Value.int IntKind.i64 (addE a b)])))
      (Done
      (Value.tuple #[Value.int IntKind.i64 (IntKind.i64.wrap (a + b)), Value.int IntKind.i64 (0 : Int)] =
      Value.tuple #[Value.int IntKind.i64 (addV a b), Value.int IntKind.i64 (addE a b)])))
      (Done
      (Value.tuple #[Value.int IntKind.i64 (IntKind.i64.wrap (a + b)), Value.int IntKind.i64 (0 : Int)] =
      Value.tuple #[Value.int IntKind.i64 (addV a b), Value.int IntKind.i64 (addE a b)]))))
      (ifB (decide (a < (0 : Int)))
      (ifB (decide (b < (0 : Int)))
      (ifB (decide (IntKind.i64.wrap (a + b) ≥ (0 : Int)))
      (Done
      (Value.tuple #[Value.int IntKind.i64 (0 : Int), Value.int IntKind.i64 (10 : Int)] =
      Value.tuple #[Value.int IntKind.i64 (addV a b), Value.int IntKind.i64 (addE a b)]))
      (Done
      (Value.tuple #[Value.int IntKind.i64 (IntKind.i64.wrap (a + b)), Value.int IntKind.i64 (0 : Int)] =
      Value.tuple #[Value.int IntKind.i64 (addV a b), Value.int IntKind.i64 (addE a b)])))
      (Done
      (Value.tuple #[Value.int IntKind.i64 (IntKind.i64.wrap (a + b)), Value.int IntKind.i64 (0 : Int)] =
      Value.tuple #[Value.int IntKind.i64 (addV a b), Value.int IntKind.i64 (addE a b)])))
      (Done
      (Value.tuple #[Value.int IntKind.i64 (IntKind.i64.wrap (a + b)), Value.int IntKind.i64 (0 : Int)] =
      Value.tuple #[Value.int IntKind.i64 (addV a b), Value.int IntKind.i64 (addE a b)]))))
      (ifB (decide (a < (0 : Int)))
      (ifB (decide (b < (0 : Int)))
      (ifB (decide (IntKind.i64.wrap (a + b) ≥ (0 : Int)))
      (Done
      (Value.tuple #[Value.int IntKind.i64 (0 : Int), Value.int IntKind.i64 (10 : Int)] = Value.tuple #[Value.int IntKind.i64 (addV a b), Value.int IntKind.i64 (addE a b)]))
      (Done
      (Value.tuple #[Value.int IntKind.i64 (IntKind.i64.wrap (a + b)), Value.int IntKind.i64 (0 : Int)] =
      Value.tuple #[Value.int IntKind.i64 (addV a b), Value.int IntKind.i64 (addE a b)])))
      (Done
      (Value.tuple #[Value.int IntKind.i64 (IntKind.i64.wrap (a + b)), Value.int IntKind.i64 (0 : Int)] =
      Value.tuple #[Value.int IntKind.i64 (addV a b), Value.int IntKind.i64 (addE a b)])))
      (Done
      (Value.tuple #[Value.int IntKind.i64 (IntKind.i64.wrap (a + b)), Value.int IntKind.i64 (0 : Int)] =
      Value.tuple #[Value.int IntKind.i64 (addV a b), Value.int IntKind.i64 (addE a b)])))) (by kernel_rfl) ?_
  refine ⟨rfl, ?_⟩
  repeat' (refine ifB_intro (fun h => ?_) (fun h => ?_))
  all_goals refine ⟨?_⟩
  all_goals (by_cases hin : In64 (a + b) <;> simp [addV, addE, hin] <;> simp [IntKind.wrap_i64, In64] at * <;> omega)

theorem has_q (a b v : Int) (m : M) : QSpec Try.prog 38 [sp a b, I v] m (.bool (hasB a b v)) := by
  refine QSpec.of_vc Try.func38 (ann := fun _ => noAnn) fun n hn => ?_
  refine vc_by (X :=
      true = true ∧ ifB (decide (a ≤ v)) (Done (Value.bool (decide (v ≤ b)) = Value.bool (hasB a b v))) (Done (Value.bool false = Value.bool (hasB a b v)))) (by kernel_rfl) ?_
  refine ⟨rfl, ?_⟩
  repeat' (refine ifB_intro (fun h => ?_) (fun h => ?_))
  all_goals (refine ⟨?_⟩; simp [hasB, h])

theorem add_ok (a b : Int) : addE a b = 0 ↔ In64 (a + b) := by unfold addE; split <;> simp [*]

theorem div_facts (a b : Int) (ha : 0 ≤ a) (hb : 1 ≤ b) : 0 ≤ a / b ∧ a / b ≤ a ∧ 0 ≤ a % b ∧ a % b < b ∧ a / b * b = a - a % b ∧ a / b ≤ a - a % b := by
  have h1 := Int.ediv_nonneg ha (by omega : 0 ≤ b)
  have h2 := Int.emod_nonneg a (by omega : b ≠ 0)
  have h3 := Int.emod_lt_of_pos a (by omega : 0 < b)
  have h4 := Int.mul_ediv_add_emod a b
  have h5 := Int.ediv_le_self b ha
  have h6 : a / b * 1 ≤ a / b * b := Int.mul_le_mul_of_nonneg_left hb h1
  have h7 : a / b * b = a - a % b := by rw [Int.mul_comm]; omega
  exact ⟨h1, h5, h2, h3, h7, by omega⟩

theorem rhas_q (a b v : Int) (m : M) : QSpec Try.prog 32 [sp a b, I v] m (.bool (hasB a b v)) := by
  refine QSpec.of_vc Try.func32 (ann := fun _ => noAnn) fun n hn => ?_
  refine vc_by (X :=
      true = true ∧ ifB (decide (a ≤ v)) (Done (Value.bool (decide (v ≤ b)) = Value.bool (hasB a b v))) (Done (Value.bool false = Value.bool (hasB a b v)))) (by kernel_rfl) ?_
  refine ⟨rfl, ?_⟩
  repeat' (refine ifB_intro (fun h => ?_) (fun h => ?_))
  all_goals (refine ⟨?_⟩; simp [hasB, h])

def wideHi (W : Int) : Int := IntKind.i64.wrap (W / 18446744073709551616)

def wideLo (W : Int) : Int := W % 18446744073709551616

abbrev wide (W : Int) : Value := .agg #[I (wideHi W), U (wideLo W)]

theorem add64 (x y c : Int) (hx : 0 ≤ x ∧ x < 18446744073709551616) (hy : 0 ≤ y ∧ y < 18446744073709551616) (hc : c = 0 ∨ c = 1) : CallV Try.prog 45 [U x, U y, U c] (.tuple #[U ((x + y + c) % 18446744073709551616), U ((x + y + c) / 18446744073709551616)]) := by
  refine ⟨?_⟩
  rcases hc with rfl | rfl
  all_goals
    show (Value.tuple #[.int .u64 (Int.ofNat ((x.toNat + y.toNat + Int.toNat _) % Extern.MathBitsCarry.m64)), .int .u64 (Int.ofNat ((x.toNat + y.toNat + Int.toNat _) / Extern.MathBitsCarry.m64))]) = _
    simp only [Extern.MathBitsCarry.m64, Value.tuple.injEq, Array.mk.injEq, List.cons.injEq, Value.int.injEq, true_and, and_true]
    constructor <;> simp <;> omega

theorem plus_q (W k : Int) (hk : In64 k) (m : M) : QSpec Try.prog 19 [wide W, I k] m (wide (W + k)) := by
  refine QSpec.of_vc Try.func19 (ann := fun _ => noAnn) fun n hn => ?_
  refine vc_by (X :=
      true = true ∧
      ∃ (n : Int),
      ∃ (n_1 : Int),
      CallV Try.prog (45 : Nat) [Value.int IntKind.u64 (wideLo W), Value.int IntKind.u64 (IntKind.u64.wrap k), Value.int IntKind.u64 (0 : Int)]
      (Value.tuple #[Value.int IntKind.u64 n, Value.int IntKind.u64 n_1]) ∧
      ifB (decide (k < (0 : Int)))
      (Done
      (Value.agg #[Value.int IntKind.i64 (IntKind.i64.wrap (IntKind.i64.wrap (wideHi W + IntKind.i64.wrap n_1) - (1 : Int))), Value.int IntKind.u64 n] =
      Value.agg #[Value.int IntKind.i64 (wideHi (W + k)), Value.int IntKind.u64 (wideLo (W + k))]))
      (Done
      (Value.agg #[Value.int IntKind.i64 (IntKind.i64.wrap (wideHi W + IntKind.i64.wrap n_1)), Value.int IntKind.u64 n] =
      Value.agg #[Value.int IntKind.i64 (wideHi (W + k)), Value.int IntKind.u64 (wideLo (W + k))]))) (by kernel_rfl) ?_
  unfold In64 at hk
  refine ⟨rfl, _, _, add64 _ _ _ (by unfold wideLo; omega) (by simp [IntKind.wrap_u64]; omega) (.inl rfl), ifB_intro (fun h => ⟨?_⟩) (fun h => ⟨?_⟩)⟩
  all_goals
    simp at h
    simp [wideHi, wideLo, IntKind.wrap_i64, IntKind.wrap_u64]
    omega

theorem not_int (k : Int) (hk : In64 k) : IntKind.i64.wrap ((BitVec.ofInt IntKind.i64.bits (-1) ^^^ BitVec.ofInt IntKind.i64.bits k).toNat : Int) = -k - 1 := by
  have e1 : BitVec.ofInt IntKind.i64.bits (-1) = BitVec.allOnes 64 := rfl
  have e2 : (BitVec.allOnes 64 ^^^ BitVec.ofInt 64 k) = ~~~ (BitVec.ofInt 64 k) := by rw [BitVec.xor_comm]; exact BitVec.xor_allOnes
  rw [e1]
  show IntKind.i64.wrap ((BitVec.allOnes 64 ^^^ BitVec.ofInt 64 k).toNat : Int) = -k - 1
  rw [e2, BitVec.toNat_not, BitVec.toNat_ofInt]
  unfold In64 at hk
  simp [IntKind.wrap_i64]
  omega

theorem less_q (W k : Int) (hk : In64 k) (m : M) : QSpec Try.prog 20 [wide W, I k] m (wide (W - k)) := by
  refine QSpec.of_vc Try.func20 (ann := fun _ => noAnn) fun n hn => ?_
  refine vc_by (X :=
      true = true ∧
      ∃ (n_1 : Int),
      ∃ (n_2 : Int),
      QSpec Try.prog (19 : Nat)
      [Value.agg #[Value.int IntKind.i64 (wideHi W), Value.int IntKind.u64 (wideLo W)],
      Value.int IntKind.i64 (IntKind.i64.wrap (↑(BitVec.ofInt (64 : Nat) (if true = true then (-1 : Int) else IntKind.i64.max) ^^^ BitVec.ofInt (64 : Nat) k).toNat : Int))]
      { π := m.π, sz := n, uf := m.uf : M } (Value.agg #[Value.int IntKind.i64 n_1, Value.int IntKind.u64 n_2]) ∧
      ∃ (n_3 : Int),
      ∃ (n_4 : Int),
      QSpec Try.prog (19 : Nat) [Value.agg #[Value.int IntKind.i64 n_1, Value.int IntKind.u64 n_2], Value.int IntKind.i64 (1 : Int)] { π := m.π, sz := n, uf := m.uf : M }
      (Value.agg #[Value.int IntKind.i64 n_3, Value.int IntKind.u64 n_4]) ∧
      Done (Value.agg #[Value.int IntKind.i64 n_3, Value.int IntKind.u64 n_4] = Value.agg #[Value.int IntKind.i64 (wideHi (W - k)), Value.int IntKind.u64 (wideLo (W - k))])) (by kernel_rfl) ?_
  have e : IntKind.i64.wrap ((BitVec.ofInt 64 (if true = true then -1 else IntKind.i64.max) ^^^ BitVec.ofInt 64 k).toNat : Int) = -k - 1 := not_int k hk
  rw [e]
  have e2 : W + (-k - 1) + 1 = W - k := by omega
  have hk' : In64 (-k - 1) := by unfold In64 at *; omega
  have h1 := plus_q (W + (-k - 1)) 1 (by decide) { m with sz := n }
  rw [e2] at h1
  exact ⟨rfl, _, _, plus_q W (-k - 1) hk' _, _, _, h1, ⟨rfl⟩⟩

theorem int_q (W : Int) (h1 : -85070591730234615865843651857942052864 ≤ W) (h2 : W ≤ 85070591730234615865843651857942052864) (m : M) :
    QSpec Try.prog 56 [wide W] m (.tuple #[I (IntKind.i64.wrap W), .bool (decide (In64 W))]) := by
  refine QSpec.of_vc Try.func56 (ann := fun _ => noAnn) fun n hn => ?_
  refine vc_by (X :=
      true = true ∧
      true = true ∧
      ifB (wideHi W == (0 : Int))
      (ifB (decide (wideLo W < (9223372036854775808 : Int)))
      (Done
      (Value.tuple #[Value.int IntKind.i64 (IntKind.i64.wrap (wideLo W)), Value.bool true] =
      Value.tuple #[Value.int IntKind.i64 (IntKind.i64.wrap W), Value.bool (decide (In64 W))]))
      (ifB (wideHi W == (-1 : Int))
      (Done
      (Value.tuple #[Value.int IntKind.i64 (IntKind.i64.wrap (wideLo W)), Value.bool (decide (wideLo W ≥ (9223372036854775808 : Int)))] =
      Value.tuple #[Value.int IntKind.i64 (IntKind.i64.wrap W), Value.bool (decide (In64 W))]))
      (Done
      (Value.tuple #[Value.int IntKind.i64 (IntKind.i64.wrap (wideLo W)), Value.bool false] =
      Value.tuple #[Value.int IntKind.i64 (IntKind.i64.wrap W), Value.bool (decide (In64 W))]))))
      (ifB (wideHi W == (-1 : Int))
      (Done
      (Value.tuple #[Value.int IntKind.i64 (IntKind.i64.wrap (wideLo W)), Value.bool (decide (wideLo W ≥ (9223372036854775808 : Int)))] =
      Value.tuple #[Value.int IntKind.i64 (IntKind.i64.wrap W), Value.bool (decide (In64 W))]))
      (Done
      (Value.tuple #[Value.int IntKind.i64 (IntKind.i64.wrap (wideLo W)), Value.bool false] =
      Value.tuple #[Value.int IntKind.i64 (IntKind.i64.wrap W), Value.bool (decide (In64 W))])))) (by kernel_rfl) ?_
  refine ⟨rfl, rfl, ?_⟩
  repeat' (refine ifB_intro (fun h => ?_) (fun h => ?_))
  all_goals refine ⟨?_⟩
  all_goals simp only [Value.tuple.injEq, Array.mk.injEq, List.cons.injEq, Value.bool.injEq, and_true, eq_comm (a := true), eq_comm (a := false), decide_eq_true_eq, decide_eq_false_iff_not, decide_eq_decide, beq_iff_eq, beq_eq_false_iff_ne] at *
  all_goals simp [wideHi, wideLo, IntKind.wrap_i64, In64] at *
  all_goals omega

/-- the sum of many, in order -/
def sumI (l : List Int) : Int := l.foldl (· + ·) 0

theorem foldl_add (l : List Int) (a : Int) : l.foldl (· + ·) a = a + l.foldl (· + ·) 0 := by
  induction l generalizing a with
  | nil => simp
  | cons x r ih => simp only [List.foldl_cons]; rw [ih, ih (0 + x)]; omega

theorem sumI_take (l : List Int) (k : Nat) (h : k < l.length) : sumI (l.take (k + 1)) = sumI (l.take k) + l[k] := by
  unfold sumI
  rw [List.take_succ_eq_append_getElem h, List.foldl_append]
  simp

theorem sumI_bound (l : List Int) (h : ∀ x ∈ l, In64 x) : -9223372036854775808 * (l.length : Int) ≤ sumI l ∧ sumI l ≤ 9223372036854775807 * (l.length : Int) := by
  induction l with
  | nil => simp [sumI]
  | cons x r ih =>
    have := ih (fun y hy => h y (by simp [hy]))
    have hx := h x (by simp)
    unfold In64 at hx
    have e : sumI (x :: r) = x + sumI r := by simp only [sumI, List.foldl_cons]; rw [foldl_add]; simp
    rw [e]
    simp only [List.length_cons, Int.natCast_add]
    omega

abbrev ints (l : List Int) : List Value := l.flatMap fun x => [I x]

theorem ints_len (l : List Int) : (ints l).length = l.length := by
  induction l with
  | nil => rfl
  | cons x r ih => simp only [ints, List.flatMap_cons, List.length_append, List.length_cons, List.length_nil] at *; omega

theorem ints_at {m : M} {b o i : Nat} {l : List Int} (h : CellsAt m b o (ints l)) (hi : i < l.length) : CellsAt m b (o + i) [I l[i]] := by
  have := CellsAt.elem (k := 1) (enc := fun x => [I x]) (fun _ => rfl) l o i hi h
  simpa using this

def ofAnn (a : Option Addr) (c : Nat) (l : List Int) (m : M) : Ann where
  A := Nat
  inv k := k ≤ l.length
  st k := [(4, .val (I k)), (0, .val (.slice a l.length c)), (3, .own 2 0), (2, .own 0 0)]
  own k := [(0, ⟨44, [I 0, U 0]⟩), (2, ⟨44, [I (wideHi (sumI (l.take k))), U (wideLo (sumI (l.take k)))]⟩)]
  m _ := m
  μ k := l.length - k

theorem of_q (a : Option Addr) (c : Nat) (l : List Int) (hl : ∀ x ∈ l, In64 x) (hn : l.length ≤ 140737488355328) (m : M) (h : Row m a (ints l)) :
    QSpec Try.prog 18 [.slice a l.length c] m (wide (sumI l)) := by
  refine QSpec.of_vc Try.func18 (ann := fun n _ => ofAnn a c l { m with sz := n }) fun n hn => ?_
  refine vc_by (X :=
      true = true ∧
      (∃ (a_1 : Nat),
      a_1 ≤ l.length ∧
      { π := m.π, sz := n, uf := m.uf : M } = { π := m.π, sz := n, uf := m.uf : M } ∧
      ((SV.val (Value.int IntKind.i64 (0 : Int)) = SV.val (Value.int IntKind.i64 (↑a_1 : Int)) ∧ true = true) ∧
      (SV.val (Value.slice a l.length c) = SV.val (Value.slice a l.length c) ∧ true = true) ∧
      (SV.own ((0 : Nat) + (1 : Nat) + (1 : Nat)) (0 : Nat) = SV.own (2 : Nat) (0 : Nat) ∧ true = true) ∧
      (SV.own ((0 : Nat) + (0 : Nat)) (0 : Nat) = SV.own (0 : Nat) (0 : Nat) ∧ true = true) ∧ True) ∧
      (some { ty := (44 : Nat), cs := [Value.int IntKind.i64 (0 : Int), Value.int IntKind.u64 (0 : Int)] : Bx } =
      some { ty := (44 : TypeId), cs := [Value.int IntKind.i64 (0 : Int), Value.int IntKind.u64 (0 : Int)] : Bx } ∧
      true = true) ∧
      (some { ty := (44 : Nat), cs := [Value.int IntKind.i64 (0 : Int), Value.int IntKind.u64 (0 : Int)] : Bx } =
      some { ty := (44 : TypeId), cs := [Value.int IntKind.i64 (wideHi (sumI (List.take a_1 l))), Value.int IntKind.u64 (wideLo (sumI (List.take a_1 l)))] : Bx } ∧
      true = true) ∧
      True) ∧
      ∀ (a_1 : Nat),
      a_1 ≤ l.length →
      ifB (decide ((↑a_1 : Int) < (↑l.length : Int)))
      (true = true ∧
      ∃ (b : Nat),
      ∃ (off : Nat),
      a = some { block := b, off := off : Addr } ∧
      ((0 : Int) ≤ (↑a_1 : Int) ∧ (↑a_1 : Int) < (↑l.length : Int)) ∧
      ∃ (n_1 : Int),
      CellsAt { π := m.π, sz := n, uf := m.uf : M } b (off + (↑a_1 : Int).toNat * (1 : Nat)) [Value.int IntKind.i64 n_1] ∧
      ∃ (n_2 : Int),
      ∃ (n_3 : Int),
      QSpec Try.prog (19 : Nat)
      [Value.agg #[Value.int IntKind.i64 (wideHi (sumI (List.take a_1 l))), Value.int IntKind.u64 (wideLo (sumI (List.take a_1 l)))],
      Value.int IntKind.i64 n_1]
      { π := m.π, sz := n, uf := m.uf : M } (Value.agg #[Value.int IntKind.i64 n_2, Value.int IntKind.u64 n_3]) ∧
      ∃ (a' : Nat),
      (a' ≤ l.length ∧
      { π := m.π, sz := n, uf := m.uf : M } = { π := m.π, sz := n, uf := m.uf : M } ∧
      ((SV.val (Value.int IntKind.i64 (IntKind.i64.wrap ((↑a_1 : Int) + (1 : Int)))) = SV.val (Value.int IntKind.i64 (↑a' : Int)) ∧ true = true) ∧
      (SV.val (Value.slice a l.length c) = SV.val (Value.slice a l.length c) ∧ true = true) ∧
      (SV.own (2 : Nat) (0 : Nat) = SV.own (2 : Nat) (0 : Nat) ∧ true = true) ∧
      (SV.own (0 : Nat) (0 : Nat) = SV.own (0 : Nat) (0 : Nat) ∧ true = true) ∧ True) ∧
      (some { ty := (44 : TypeId), cs := [Value.int IntKind.i64 (0 : Int), Value.int IntKind.u64 (0 : Int)] : Bx } =
      some { ty := (44 : TypeId), cs := [Value.int IntKind.i64 (0 : Int), Value.int IntKind.u64 (0 : Int)] : Bx } ∧
      true = true) ∧
      (some { ty := (44 : TypeId), cs := [Value.int IntKind.i64 n_2, Value.int IntKind.u64 n_3] : Bx } =
      some
      { ty := (44 : TypeId), cs := [Value.int IntKind.i64 (wideHi (sumI (List.take a' l))), Value.int IntKind.u64 (wideLo (sumI (List.take a' l)))] : Bx } ∧
      true = true) ∧
      True) ∧
      l.length - a' < l.length - a_1)
      (Done
      (Value.agg #[Value.int IntKind.i64 (wideHi (sumI (List.take a_1 l))), Value.int IntKind.u64 (wideLo (sumI (List.take a_1 l)))] =
      Value.agg #[Value.int IntKind.i64 (wideHi (sumI l)), Value.int IntKind.u64 (wideLo (sumI l))]))) (by kernel_rfl) ?_
  have h' := h.sz hn
  refine ⟨rfl, ⟨0, by simp [sumI, wideHi, wideLo, IntKind.wrap_i64]⟩, fun k hk => ifB_intro (fun hb => ?_) (fun hb => ⟨?_⟩)⟩
  · have hk2 : k < l.length := by simpa using hb
    obtain ⟨b, o, rfl, hc⟩ := h'.cells (by rw [ints_len]; omega)
    refine ⟨rfl, b, o, rfl, by omega, l[k], by simpa using ints_at hc hk2, _, _, plus_q _ _ (hl _ (List.getElem_mem hk2)) _, k + 1, ⟨hk2, rfl, ⟨⟨?_, rfl⟩, by simp⟩, ?_⟩, by omega⟩
    · simp [IntKind.wrap_i64]; omega
    · rw [sumI_take l k hk2]; simp
  · have : k = l.length := by simp at hb; omega
    subst this
    simp

theorem row2 {m : M} {b : Nat} (a c : Int) : Row (m.newBlock b [I a, I c]) (some ⟨b, 0, none⟩) (ints [a, c]) := .at _ _ _ (by simp only [M.newBlock]; omega) cellsAt_new

theorem row1 {m : M} {b : Nat} (a : Int) : Row (m.newBlock b [I a]) (some ⟨b, 0, none⟩) (ints [a]) := .at _ _ _ (by simp only [M.newBlock]; omega) cellsAt_new

theorem ofNat63 (n : Int) : n.fdiv (2 ^ 63) = n / 9223372036854775808 := by rw [Int.fdiv_eq_ediv_of_nonneg _ (by decide)]; rfl

/-- what the first k parts have together -/
def shareS (a b : Int) (k : Nat) : Int := k * (a / b) + min (k : Int) (a % b)

theorem share_at (a b : Int) (k : Nat) (h1 : 1 ≤ b) (h2 : (k : Int) < b) : shareV a b k = a / b + (if (k : Int) < a % b then 1 else 0) := by
  have : ¬ (b < 1 ∨ (k : Int) < 0 ∨ b ≤ k) := by omega
  unfold shareV
  rw [if_neg this]
  split <;> simp

theorem share_step (a b : Int) (k : Nat) (h1 : 1 ≤ b) (h2 : (k : Int) < b) : shareS a b (k + 1) = shareS a b k + shareV a b k := by
  rw [share_at a b k h1 h2]
  unfold shareS
  push_cast
  rw [Int.add_mul, Int.one_mul]
  split <;> omega

theorem sumI_append (a b : List Int) : sumI (a ++ b) = sumI a + sumI b := by
  unfold sumI
  rw [List.foldl_append, foldl_add]

theorem sumI_reverse (l : List Int) : sumI l.reverse = sumI l := by
  induction l with
  | nil => rfl
  | cons x r ih =>
    rw [List.reverse_cons, sumI_append, ih, show x :: r = [x] ++ r from rfl, sumI_append]
    omega

structure OrdX where
  j : Nat
  a : Option Addr
  c : Nat
  m : M

def ordAnn (a : Option Addr) (c : Nat) (l : List Int) (k : Int) (m : M) : Ann where
  A := OrdX
  inv x := x.j ≤ l.length ∧ OwnB m.sz (fun _ => False) x.m 1 x.a x.j x.c (ints (l.reverse.take x.j)) ∧ Agree m.sz m x.m
  st x := [(6, .val (I ((l.length : Int) - 1 - x.j))), (5, .val (.slice x.a x.j x.c)), (0, .val (.slice a l.length c)), (1, .val (I k))]
  own _ := []
  m x := x.m
  μ x := l.length - x.j

end Go.Proofs.Ytbhlhnkjmncloaa
set_option linter.unusedVariables false
set_option linter.unusedSimpArgs false
namespace Go.Proofs.Ytbhlhnkjmncloaa
open Go.Vc Go.RowKit Go.ChangeShapes Go.WideShapes Go.ChangeAt
set_option maxRecDepth 100000

theorem bulk_mem {H : Type} {d : DataW H} : ∀ {l : List (DataW H)}, d ∈ l → Rows.uptoBulk d ≤ Rows.uptoBulkAll l
  | x :: r, h => by
    simp only [Rows.uptoBulkAll]
    rcases List.mem_cons.1 h with e | e
    · subst e; omega
    · have := bulk_mem e; omega

theorem bulk_pos {H : Type} (d : DataW H) : 1 ≤ Rows.uptoBulk d := by
  cases d with
  | lit l => cases l <;> simp [Rows.uptoBulk]
  | _ => simp [Rows.uptoBulk]

theorem bulk_len {H : Type} : ∀ (l : List (DataW H)), l.length ≤ Rows.uptoBulkAll l
  | [] => by simp
  | x :: r => by have := bulk_pos x; have := bulk_len r; simp only [Rows.uptoBulkAll, List.length_cons]; omega

theorem bound_upto (H : Type) : Bound (H := H) 1048576 (fun d => Rows.uptoBulk d ≤ 1048576) where
  str l h _ := by simp [Rows.uptoBulk] at h; omega
  sl el sp h := by
    simp only [Rows.uptoBulk] at h
    have h1 := bulk_len el
    have h2 := bulk_len sp
    refine ⟨fun _ => by omega, fun x hx => ?_⟩
    rcases hx with hx | hx
    · have := bulk_mem hx; omega
    · have := bulk_mem hx; omega
  agg ps h x hx := by simp only [Rows.uptoBulk] at h; have := bulk_mem hx; omega

theorem bound_any (H : Type) : Bound (H := H) 9223372036854775807 (fun _ => True) where
  str l _ h := h
  sl el sp _ := ⟨fun h => h, fun _ _ => trivial⟩
  agg ps _ x _ := trivial

variable {H : Type} {enc : TypeId × Value → H} {W : World} {r : Reach} {b0 : Nat} {v : Value} {d : DataW H} {p : List MemPlace} {N : Nat} {Bd : DataW H → Prop}

theorem in64_of {n : Int} (h : IntKind.min .i64 ≤ n ∧ n ≤ IntKind.max .i64) : In64 n := by
  simpa [In64, IntKind.min, IntKind.max, IntKind.signed, IntKind.bits] using h

theorem open_i (hv : Value.okWide Try.prog W r b0 3 v) (h : DataW.Trod enc Try.prog W 0 (fun _ => true) true 3 v d p) : ∃ n : Int, v = I n ∧ In64 n := by
  obtain ⟨n, rfl⟩ := okWide_int Try.underlying3 hv
  obtain ⟨fuel, hf⟩ := h
  obtain ⟨n', hn, -, hw⟩ := DataW.trod_int Try.underlying3 hf
  cases hn
  exact ⟨n, rfl, in64_of (by simpa [Lit.wf] using hw)⟩

theorem open_b (hv : Value.okWide Try.prog W r b0 4 v) : ∃ b : Bool, v = .bool b := okWide_bool Try.underlying4 hv

theorem open_s (B : Bound N Bd) (hv : Value.okWide Try.prog W r b0 9 v) (h : DataW.Trod enc Try.prog W 0 (fun _ => true) true 9 v d p) (hb : Bd d) : ∃ s : ByteArray, v = .string s ∧ s.size ≤ N := by
  obtain ⟨s, rfl⟩ := okWide_string Try.underlying9 hv
  obtain ⟨fuel, hf⟩ := h
  have hr := rd_of_trod B 1 fuel 9 _ _ hf hb
  have e := Try.underlying9
  simp only [Rd, e] at hr
  obtain ⟨s', hs, hl⟩ := hr
  simp [Value.cells] at hs
  subst hs
  exact ⟨s, rfl, hl⟩

/-- a struct's cells -/
theorem open_agg {fs : Array Field} {t : TypeId} {k : Nat} (ht : Try.prog.underlying t = some (.struct fs)) (hk : Try.prog.cellsOf t = k) (hv : Value.okWide Try.prog W r b0 t v) : ∃ cs : List Value, v = .agg cs.toArray ∧ cs.length = k := by
  obtain ⟨cs, rfl, hs⟩ := okWide_struct ht hv
  exact ⟨cs.toList, by simp, by simpa using hs.trans hk⟩

/-- the rows of a list, one by one -/
theorem rows_list {α : Type} {e : α → List Value} {p : α → Prop} : ∀ (rows : List (List Value)), (∀ r ∈ rows, ∃ x : α, r = e x ∧ p x) → ∃ z : List α, z.length = rows.length ∧ rows.flatten = z.flatMap e ∧ ∀ x ∈ z, p x
  | [], _ => ⟨[], rfl, rfl, fun x hx => by simp at hx⟩
  | r :: rs, h => by
    obtain ⟨z, h1, h2, h3⟩ := rows_list rs fun r hr => h r (by simp [hr])
    obtain ⟨n, rfl, hn⟩ := h r (by simp)
    refine ⟨n :: z, by simp [h1], by simp only [List.flatten_cons, h2, List.flatMap_cons], fun x hx => ?_⟩
    rcases List.mem_cons.1 hx with e | e
    · subst e; exact hn
    · exact h3 x e

theorem open_ints (B : Bound N Bd) (hv : Value.okWide Try.prog W r b0 75 v) (h : DataW.Trod enc Try.prog W 0 (fun _ => true) true 75 v d p) (hb : Bd d) :
    ∃ (a : Option Addr) (c : Nat) (z : List Int), v = .slice a z.length c ∧ z.length ≤ N ∧ (∀ x ∈ z, In64 x) ∧ Row (M.all W) a (ints z) := by
  obtain ⟨a, len, cap, rfl⟩ := okWide_slice Try.underlying75 hv
  obtain ⟨fuel, hf⟩ := h
  have hr := rd_of_trod B 2 fuel 75 _ _ hf hb
  simp only [Rd, Try.underlying75, Try.underlying3] at hr
  obtain ⟨a', cap', rows, hcs, h1, h2, h3, h4, h5⟩ := hr
  obtain ⟨z, hz, he, hi⟩ := rows_list (α := Int) (e := fun n => [I n]) (p := In64) rows fun r hr => by
    obtain ⟨-, n, hn, hw⟩ := h4 r hr
    exact ⟨n, hn, in64_of hw⟩
  simp [Value.cells] at hcs
  obtain ⟨rfl, rfl, rfl⟩ := hcs
  rw [he] at h5
  exact ⟨a, cap, z, by rw [hz], by omega, hi, h5⟩

end Go.Proofs.Ytbhlhnkjmncloaa
set_option linter.unusedVariables false
set_option linter.unusedSimpArgs false
namespace Go.Proofs.Ytbhlhnkjmncloaa
open Go.Vc Go.RowKit Go.ChangeShapes Go.WideShapes Go.ChangeAt
set_option maxRecDepth 100000

structure Tt where
  ky : ByteArray
  sp_lo : Int
  sp_hi : Int
  va : Int

def Tt.wf (x : Tt) : Prop := x.ky.size ≤ 9223372036854775807 ∧ In64 x.sp_lo ∧ In64 x.sp_hi ∧ In64 x.va

abbrev encTt (x : Tt) : List Value := [.string x.ky, I x.sp_lo, I x.sp_hi, I x.va]

abbrev ttv (x : Tt) : Value := .agg #[.string x.ky, I x.sp_lo, I x.sp_hi, I x.va]

abbrev tts (l : List Tt) : List Value := l.flatMap encTt

theorem tt_k (x : Tt) : (encTt x).length = 4 := rfl

theorem tt_len (l : List Tt) : (tts l).length = l.length * 4 := flat_len tt_k l

theorem tt_at {m : M} {b o i : Nat} {l : List Tt} (h : CellsAt m b o (tts l)) (hi : i < l.length) : CellsAt m b (o + i * 4) (encTt l[i]) := CellsAt.elem tt_k l o i hi h

theorem tt_ext {a b : Tt} : a = b ↔ a.ky = b.ky ∧ a.sp_lo = b.sp_lo ∧ a.sp_hi = b.sp_hi ∧ a.va = b.va := by
  cases a; cases b; simp

instance : DecidableEq Tt := fun _ _ => decidable_of_iff' _ tt_ext

theorem tt_one (l : List Tt) : oneCells (tts l) = true := by
  rw [oneCells_iff]; intro v hv
  obtain ⟨w, -, hw⟩ := List.mem_flatMap.1 hv
  exact oneCells_iff.1 (rfl : oneCells (encTt w) = true) v hw

theorem tt_zr (k : Nat) : (zeroRow Try.prog 29 k).length = k * 4 := zrLen (by kernel_rfl) k

theorem tt_cells : Try.prog.cellsOf 29 = 4 := by kernel_rfl

theorem tt_rd {m : M} {N d : Nat} {cs : List Value} (h : Rd Try.prog m N (d + 3) 29 cs) (hN : N ≤ 9223372036854775807) : ∃ x : Tt, cs = encTt x ∧ x.wf := by
  have hc1 := (by kernel_rfl : Try.prog.cellsOf 3 = 1)
  have hc2 := (by kernel_rfl : Try.prog.cellsOf 9 = 1)
  have hc3 := (by kernel_rfl : Try.prog.cellsOf 27 = 2)
  simp only [Rd, Try.underlying29, Try.underlying3, Try.underlying9, Try.underlying27, fieldsD, tt_cells, hc1, hc2, hc3] at h
  obtain ⟨hl, ⟨k1, e1, w1⟩, ⟨-, ⟨k2, e2, w2⟩, ⟨k3, e3, w3⟩, -⟩, ⟨k4, e4, w4⟩, -⟩ := h
  obtain ⟨c1, c2, c3, c4, rfl⟩ : ∃ c1 c2 c3 c4, cs = [c1, c2, c3, c4] := by
    match cs, hl with
    | [c1, c2, c3, c4], _ => exact ⟨_, _, _, _, rfl⟩
  simp at e1 e2 e3 e4
  subst e1 e2 e3 e4
  exact ⟨⟨k1, k2, k3, k4⟩, rfl, Nat.le_trans w1 hN, in64_of w2, in64_of w3, in64_of w4⟩

theorem open_tt {H : Type} {enc : TypeId × Value → H} {W : World} {r : Reach} {b0 : Nat} {v : Value} {d : DataW H} {p : List MemPlace} {N : Nat} {Bd : DataW H → Prop} (B : Bound N Bd) (hN : N ≤ 9223372036854775807) (hv : Value.okWide Try.prog W r b0 29 v) (h : DataW.Trod enc Try.prog W 0 (fun _ => true) true 29 v d p) (hb : Bd d) : ∃ x : Tt, v = ttv x ∧ x.wf := by
  obtain ⟨cs, rfl, hl⟩ := open_agg Try.underlying29 tt_cells hv
  obtain ⟨fuel, hf⟩ := h
  have hr := rd_of_trod B 3 fuel 29 _ _ hf hb
  simp only [Value.cells] at hr
  obtain ⟨x, he, hw⟩ := tt_rd (d := 0) hr hN
  exact ⟨x, by rw [show cs = encTt x from he], hw⟩

theorem open_tts {H : Type} {enc : TypeId × Value → H} {W : World} {r : Reach} {b0 : Nat} {v : Value} {d : DataW H} {p : List MemPlace} {N : Nat} {Bd : DataW H → Prop} (B : Bound N Bd) (hN : N ≤ 9223372036854775807) (hv : Value.okWide Try.prog W r b0 22 v) (h : DataW.Trod enc Try.prog W 0 (fun _ => true) true 22 v d p) (hb : Bd d) :
    ∃ (a : Option Addr) (c : Nat) (z : List Tt), v = .slice a z.length c ∧ z.length ≤ N ∧ (∀ x ∈ z, x.wf) ∧ (a = none → z = []) ∧ Row (M.all W) a (tts z) := by
  obtain ⟨a, len, cap, rfl⟩ := okWide_slice Try.underlying22 hv
  obtain ⟨fuel, hf⟩ := h
  have hr := rd_of_trod B 4 fuel 22 _ _ hf hb
  rw [Rd] at hr
  simp only [Try.underlying22] at hr
  obtain ⟨a', cap', rows, hcs, h1, h2, h3, h4, h5⟩ := hr
  obtain ⟨z, hz, he, hi⟩ := rows_list (α := Tt) (e := encTt) (p := Tt.wf) rows fun r hr => tt_rd (d := 0) (h4 r hr).2 hN
  simp [Value.cells] at hcs
  obtain ⟨rfl, rfl, rfl⟩ := hcs
  rw [he] at h5
  exact ⟨a, cap, z, by rw [hz], by omega, hi, fun e => List.eq_nil_of_length_eq_zero (by have := h3 e; omega), h5⟩

theorem tt_plain (a a2 : Option Addr) (c c2 : Nat) (l l2 : List Tt) (hn1 : l.length ≤ 9223372036854775807) (m : M) (h : Row m a (tts l)) (h2 : Row m a2 (tts l2)) :
    QSpec Try.prog 16 [.slice a l.length c, .slice a2 l2.length c2] m (.bool (decide (l = l2))) := by
  refine QSpec.of_vc Try.func16 (ann := fun n _ => { A := Nat, inv := fun k => k ≤ l.length ∧ l.take k = l2.take k, st := fun k => [(5, .val (I k)), (0, .val (.slice a l.length c)), (1, .val (.slice a2 l2.length c2))], own := fun _ => [], m := fun _ => { m with sz := n }, μ := fun k => (l.length - k) }) fun n hn => ?_
  refine vc_by (X :=
      true = true ∧
      ifB ((↑l.length : Int) != (↑l2.length : Int)) (Done (Value.bool false = Value.bool (decide (l = l2))))
      ((∃ (a_1 : Nat),
      (a_1 ≤ l.length ∧ List.take a_1 l = List.take a_1 l2) ∧
      { π := m.π, sz := n, uf := m.uf : M } = { π := m.π, sz := n, uf := m.uf : M } ∧
      ((SV.val (Value.int IntKind.i64 (0 : Int)) = SV.val (Value.int IntKind.i64 (↑a_1 : Int)) ∧ true = true) ∧
      (SV.val (Value.slice a l.length c) = SV.val (Value.slice a l.length c) ∧ true = true) ∧
      (SV.val (Value.slice a2 l2.length c2) = SV.val (Value.slice a2 l2.length c2) ∧ true = true) ∧ True) ∧
      True) ∧
      ∀ (a_1 : Nat),
      a_1 ≤ l.length ∧ List.take a_1 l = List.take a_1 l2 →
      ifB (decide ((↑a_1 : Int) < (↑l.length : Int)))
      (true = true ∧
      ∃ (b : Nat),
      ∃ (off : Nat),
      a = some { block := b, off := off : Addr } ∧
      ((0 : Int) ≤ (↑a_1 : Int) ∧ (↑a_1 : Int) < (↑l.length : Int)) ∧
      ∃ (s : ByteArray),
      ∃ (n_1 : Int),
      ∃ (n_2 : Int),
      ∃ (n_3 : Int),
      CellsAt { π := m.π, sz := n, uf := m.uf : M } b (off + (↑a_1 : Int).toNat * (4 : Nat))
      [Value.string s, Value.int IntKind.i64 n_1, Value.int IntKind.i64 n_2, Value.int IntKind.i64 n_3] ∧
      ∃ (b : Nat),
      ∃ (off : Nat),
      a2 = some { block := b, off := off : Addr } ∧
      ((0 : Int) ≤ (↑a_1 : Int) ∧ (↑a_1 : Int) < (↑l2.length : Int)) ∧
      ∃ (s_1 : ByteArray),
      ∃ (n_4 : Int),
      ∃ (n_5 : Int),
      ∃ (n_6 : Int),
      CellsAt { π := m.π, sz := n, uf := m.uf : M } b (off + (↑a_1 : Int).toNat * (4 : Nat))
      [Value.string s_1, Value.int IntKind.i64 n_4, Value.int IntKind.i64 n_5, Value.int IntKind.i64 n_6] ∧
      ifB (!(s.toList == s_1.toList && (n_1 == n_4 && (n_2 == n_5 && true) && (n_3 == n_6 && true))))
      (Done (Value.bool false = Value.bool (decide (l = l2))))
      (∃ (a' : Nat),
      ((a' ≤ l.length ∧ List.take a' l = List.take a' l2) ∧
      { π := m.π, sz := n, uf := m.uf : M } = { π := m.π, sz := n, uf := m.uf : M } ∧
      ((SV.val (Value.int IntKind.i64 (IntKind.i64.wrap ((↑a_1 : Int) + (1 : Int)))) =
      SV.val (Value.int IntKind.i64 (↑a' : Int)) ∧
      true = true) ∧
      (SV.val (Value.slice a l.length c) = SV.val (Value.slice a l.length c) ∧ true = true) ∧
      (SV.val (Value.slice a2 l2.length c2) = SV.val (Value.slice a2 l2.length c2) ∧ true = true) ∧ True) ∧
      True) ∧
      l.length - a' < l.length - a_1))
      (Done (Value.bool true = Value.bool (decide (l = l2)))))) (by kernel_rfl) ?_
  have h' := h.sz hn
  have h2' := h2.sz hn
  refine ⟨rfl, ifB_intro (fun hb => ⟨?_⟩) (fun hb => ⟨⟨0, by simp⟩, fun k hk => ifB_intro (fun hb2 => ?_) (fun hb2 => ⟨?_⟩)⟩)⟩
  · have : l ≠ l2 := fun e => by subst e; simp at hb
    simp [this]
  · have hlen : l.length = l2.length := by simp at hb; omega
    have hk2 : k < l.length := by simpa using hb2
    obtain ⟨b, o, rfl, hc⟩ := h'.cells (by rw [tt_len]; omega)
    obtain ⟨b2, o2, rfl, hc2⟩ := h2'.cells (by rw [tt_len]; omega)
    have w1 : IntKind.i64.wrap ((k : Int) + 1) = ((k + 1 : Nat) : Int) := by simp [IntKind.wrap_i64]; omega
    refine ⟨rfl, b, o, rfl, by omega, _, _, _, _, by simpa using tt_at hc hk2, b2, o2, rfl, by omega, _, _, _, _, by simpa using tt_at hc2 (by omega : k < l2.length), ifB_intro (fun h3 => ⟨?_⟩) (fun h3 => ⟨k + 1, ⟨⟨hk2, ?_⟩, by simp [w1]⟩, by omega⟩)⟩
    · have : l ≠ l2 := fun e => by subst e; simp at h3
      simp [this]
    · have h3 : l[k] = l2[k] := by rw [tt_ext]; simpa [bytes_beq, and_assoc] using h3
      rw [List.take_succ_eq_append_getElem hk2, List.take_succ_eq_append_getElem (by omega : k < l2.length), hk.2, h3]
  · have hlen : l.length = l2.length := by simp at hb; omega
    have : k = l.length := by simp at hb2; omega
    have e := hk.2
    rw [this, List.take_length, hlen, List.take_length] at e
    simp [e]

theorem tt_clone (l : List Tt) (a : Option Addr) (c : Nat) (hn : l.length ≤ 3518437208870) (h0 : a = none → l = []) (m : M) (h : Row m a (tts l)) : Vc.Spec Try.prog 34 [.slice a l.length c] m (fun v m' => ∃ a' c', v = .slice a' l.length c' ∧ NewR m.sz (fun _ => False) m' 4 a' l.length c' (tts l)) := by
  refine Vc.Spec.of_vc Try.func34 (ann := noAnn) ?_
  refine vc_by (X :=
      true = true ∧
      ifB a.isNone
      (Done
      (∃ (a' : Option Addr),
      ∃ (c' : Nat), Value.slice none (0 : Nat) (0 : Nat) = Value.slice a' l.length c' ∧ NewR m.sz (fun (x : Nat) => False) m (4 : Nat) a' l.length c' (tts l)))
      (true = true ∧
      ∀ (b : Nat),
      m.sz ≤ b →
      ∃ (old : List Value),
      ∃ (src : List Value),
      AppPre m.sz (fun (x : Nat) => False) (m.newBlock b []) (4 : Nat) (40 : Nat) (some { block := b, off := (0 : Nat) : Addr }) (0 : Nat) (0 : Nat) a l.length old src ∧
      ∀ (a' : Option Addr) (c' : Nat) (m' : M),
      AppPost Try.prog (29 : Nat) (m.newBlock b []) (4 : Nat) (some { block := b, off := (0 : Nat) : Addr }) (0 : Nat) (0 : Nat) l.length old src a' c' m' →
      Done
      (∃ (a'_1 : Option Addr),
      ∃ (c'_1 : Nat),
      Value.slice a' ((0 : Nat) + l.length) c' = Value.slice a'_1 l.length c'_1 ∧ NewR m.sz (fun (x : Nat) => False) m' (4 : Nat) a'_1 l.length c'_1 (tts l)))) (by kernel_rfl) ?_
  refine ⟨rfl, ifB_intro (fun h1 => ⟨?_⟩) (fun h1 => ⟨rfl, fun b hb => ?_⟩)⟩
  · have : l = [] := h0 (by simpa using h1)
    subst this
    exact ⟨_, _, rfl, .nil _⟩
  · have ho : OwnB m.sz (fun _ => False) (m.newBlock b []) 4 (some ⟨b, 0, none⟩) 0 0 [] := OwnB.fresh hb rfl
    have hr : Row (m.newBlock b []) a (tts l) := h.newBlock hb
    refine ⟨_, _, ho.appPre hr (tt_len l) (tt_one l) (by omega), fun a' c' m' hp => ⟨a', c', by simp, .own ?_⟩⟩
    have := ho.append hp (tt_len l) tt_zr (by simp only [M.newBlock]; omega)
    simpa using this

theorem tt_own (a : Option Addr) (c : Nat) (l : List Tt) (mk : Tt) (hn : l.length ≤ 3518437208870) (m : M) (h : Row m a (tts l)) :
    Vc.Spec Try.prog 10 [.slice a l.length c, ttv mk] m (Owned m (tts l) (encTt mk ++ encTt mk) l.length (l.length + 2)) := by
  refine Vc.Spec.of_vc Try.func10 (ann := noAnn) ?_
  refine vc_by (X :=
      true = true ∧
      ((0 : Int) ≤ (0 : Int) ∧
      (0 : Int) ≤ IntKind.i64.wrap ((↑l.length : Int) + (2 : Int)) ∧
      (↑(40 : Nat) : Int) * IntKind.i64.wrap ((↑l.length : Int) + (2 : Int)) ≤ (281474976710656 : Int) ∧
      IntKind.i64.wrap ((↑l.length : Int) + (2 : Int)) ≤ (9223372036854775807 : Int)) ∧
      ∀ (b : Nat),
      m.sz ≤ b →
      ∃ (old : List Value),
      ∃ (src : List Value),
      AppPre m.sz (fun (x : Nat) => False)
      (m.newBlock b
      (madeCells #[Value.string { data := #[] : ByteArray }, Value.int IntKind.i64 (0 : Int), Value.int IntKind.i64 (0 : Int), Value.int IntKind.i64 (0 : Int)]
      ((IntKind.i64.wrap ((↑l.length : Int) + (2 : Int))).toNat * (4 : Nat))).toList)
      (4 : Nat) (40 : Nat) (some { block := b, off := (0 : Nat) : Addr }) (0 : Nat) (IntKind.i64.wrap ((↑l.length : Int) + (2 : Int))).toNat a l.length old src ∧
      ∀ (a' : Option Addr) (c' : Nat) (m' : M),
      AppPost Try.prog (29 : Nat)
      (m.newBlock b
      (madeCells #[Value.string { data := #[] : ByteArray }, Value.int IntKind.i64 (0 : Int), Value.int IntKind.i64 (0 : Int), Value.int IntKind.i64 (0 : Int)]
      ((IntKind.i64.wrap ((↑l.length : Int) + (2 : Int))).toNat * (4 : Nat))).toList)
      (4 : Nat) (some { block := b, off := (0 : Nat) : Addr }) (0 : Nat) (IntKind.i64.wrap ((↑l.length : Int) + (2 : Int))).toNat l.length old src a' c' m' →
      true = true ∧
      ∀ (b : Nat),
      m'.sz ≤ b →
      ∃ (old : List Value),
      ∃ (src : List Value),
      AppPre m.sz (fun (x : Nat) => False)
      (m'.newBlock b
      [Value.string mk.ky, Value.int IntKind.i64 mk.sp_lo, Value.int IntKind.i64 mk.sp_hi, Value.int IntKind.i64 mk.va, Value.string mk.ky,
      Value.int IntKind.i64 mk.sp_lo, Value.int IntKind.i64 mk.sp_hi, Value.int IntKind.i64 mk.va])
      (4 : Nat) (40 : Nat) a' ((0 : Nat) + l.length) c' (some { block := b, off := (0 : Nat) : Addr }) (2 : Nat) old src ∧
      ∀ (a'_1 : Option Addr) (c'_1 : Nat) (m'_1 : M),
      AppPost Try.prog (29 : Nat)
      (m'.newBlock b
      [Value.string mk.ky, Value.int IntKind.i64 mk.sp_lo, Value.int IntKind.i64 mk.sp_hi, Value.int IntKind.i64 mk.va, Value.string mk.ky,
      Value.int IntKind.i64 mk.sp_lo, Value.int IntKind.i64 mk.sp_hi, Value.int IntKind.i64 mk.va])
      (4 : Nat) a' ((0 : Nat) + l.length) c' (2 : Nat) old src a'_1 c'_1 m'_1 →
      (true = true ∧ (0 : Int) ≤ (0 : Int) ∧ (0 : Int) ≤ (↑l.length : Int) ∧ (↑l.length : Int) ≤ (↑c'_1 : Int) ∧ True) ∧
      Done
      (Owned m (tts l)
      [Value.string mk.ky, Value.int IntKind.i64 mk.sp_lo, Value.int IntKind.i64 mk.sp_hi, Value.int IntKind.i64 mk.va, Value.string mk.ky,
      Value.int IntKind.i64 mk.sp_lo, Value.int IntKind.i64 mk.sp_hi, Value.int IntKind.i64 mk.va]
      l.length (l.length + (2 : Nat))
      (Value.slice (if (↑c'_1 : Int).toNat = (0 : Nat) then a'_1 else Option.map (fun (x : Addr) => x) a'_1) ((↑l.length : Int).toNat - (0 : Nat))
      ((↑c'_1 : Int).toNat - (0 : Nat)))
      m'_1)) (by kernel_rfl) ?_
  have e : IntKind.i64.wrap ((l.length : Int) + 2) = ((l.length + 2 : Nat) : Int) := by simp [IntKind.wrap_i64]; omega
  rw [e]
  simp only [Int.toNat_natCast]
  refine ⟨trivial, by omega, fun b hb => ?_⟩
  obtain ⟨p1, p2⟩ := owned_calc (P := Try.prog) (e := 29) (size := 4) (bytes := 40) (len := l.length) (m := m) (b := b) (z := (madeCells #[.string .empty, I 0, I 0, I 0] ((l.length + 2) * 4)).toList) (cs := tts l) (marks := encTt mk ++ encTt mk) hb h (tt_len l) (tt_one l) rfl rfl tt_zr (by simp [madeCells]) (by omega)
  refine ⟨[], tts l, p1, fun a' c' m' hp => ⟨trivial, fun b2 hb2 => ?_⟩⟩
  obtain ⟨p3, p4⟩ := p2 a' c' m' hp b2 hb2
  refine ⟨tts l, encTt mk ++ encTt mk, p3, fun a'' c'' m'' hp2 => ?_⟩
  obtain ⟨rfl, rfl, q3, q5, q4⟩ := p4 a'' c'' m'' hp2
  exact ⟨⟨trivial, by omega, by omega, by omega, trivial⟩, ⟨⟨b, by simp, hb, q3, q5, q4⟩⟩⟩

theorem tt_kept (b : Nat) (l : List Tt) (a2 : Option Addr) (c2 : Nat) (mk : Tt) (hn : l.length ≤ 3518437208870) (m : M) (hb : b < m.sz) (h : CellsAt m b 0 (tts l ++ (encTt mk ++ encTt mk))) (h2 : Row m a2 (tts l)) :
    QSpec Try.prog 17 [.slice (some ⟨b, 0, none⟩) l.length (l.length + 2), .slice a2 l.length c2, ttv mk] m (.bool true) := by
  refine QSpec.of_vc Try.func17 (ann := fun _ => noAnn) fun n hn => ?_
  refine vc_by (X :=
      true = true ∧
      ifB ((↑l.length : Int) != (↑l.length : Int)) (Done (Value.bool false = Value.bool true))
      (ifB (decide ((↑(l.length + (2 : Nat)) : Int) < IntKind.i64.wrap ((↑l.length : Int) + (2 : Int)))) (Done (Value.bool false = Value.bool true))
      ((true = true ∧
      (0 : Int) ≤ (0 : Int) ∧
      (0 : Int) ≤ IntKind.i64.wrap ((↑l.length : Int) + (2 : Int)) ∧ IntKind.i64.wrap ((↑l.length : Int) + (2 : Int)) ≤ (↑(l.length + (2 : Nat)) : Int) ∧ True) ∧
      true = true ∧
      ∃ (b_1 : Bool),
      QSpec Try.prog (16 : Nat) [Value.slice (some { block := b, off := (0 : Nat) : Addr }) l.length (l.length + (2 : Nat)), Value.slice a2 l.length c2]
      { π := m.π, sz := n, uf := m.uf : M } (Value.bool b_1) ∧
      ifB b_1
      (∃ (b_2 : Nat),
      ∃ (off : Nat),
      some { block := b, off := (0 : Nat) : Addr } = some { block := b_2, off := off : Addr } ∧
      ((0 : Int) ≤ (↑l.length : Int) ∧ (↑l.length : Int) < (↑((IntKind.i64.wrap ((↑l.length : Int) + (2 : Int))).toNat - (0 : Nat)) : Int)) ∧
      ∃ (s : ByteArray),
      ∃ (n_1 : Int),
      ∃ (n_2 : Int),
      ∃ (n_3 : Int),
      CellsAt { π := m.π, sz := n, uf := m.uf : M } b_2 (off + (↑l.length : Int).toNat * (4 : Nat))
      [Value.string s, Value.int IntKind.i64 n_1, Value.int IntKind.i64 n_2, Value.int IntKind.i64 n_3] ∧
      ifB (s.toList == mk.ky.toList && (n_1 == mk.sp_lo && (n_2 == mk.sp_hi && true) && (n_3 == mk.va && true)))
      (∃ (b_3 : Nat),
      ∃ (off : Nat),
      some { block := b, off := (0 : Nat) : Addr } = some { block := b_3, off := off : Addr } ∧
      ((0 : Int) ≤ IntKind.i64.wrap ((↑l.length : Int) + (1 : Int)) ∧
      IntKind.i64.wrap ((↑l.length : Int) + (1 : Int)) < (↑((IntKind.i64.wrap ((↑l.length : Int) + (2 : Int))).toNat - (0 : Nat)) : Int)) ∧
      ∃ (s : ByteArray),
      ∃ (n_4 : Int),
      ∃ (n_5 : Int),
      ∃ (n_6 : Int),
      CellsAt { π := m.π, sz := n, uf := m.uf : M } b_3 (off + (IntKind.i64.wrap ((↑l.length : Int) + (1 : Int))).toNat * (4 : Nat))
      [Value.string s, Value.int IntKind.i64 n_4, Value.int IntKind.i64 n_5, Value.int IntKind.i64 n_6] ∧
      Done
      (Value.bool (s.toList == mk.ky.toList && (n_4 == mk.sp_lo && (n_5 == mk.sp_hi && true) && (n_6 == mk.va && true))) =
      Value.bool true))
      (Done (Value.bool false = Value.bool true)))
      (Done (Value.bool false = Value.bool true))))) (by kernel_rfl) ?_
  have e : IntKind.i64.wrap ((l.length : Int) + 2) = ((l.length + 2 : Nat) : Int) := by simp [IntKind.wrap_i64]; omega
  have e1 : IntKind.i64.wrap ((l.length : Int) + 1) = ((l.length + 1 : Nat) : Int) := by simp [IntKind.wrap_i64]; omega
  rw [e, e1]
  simp only [Int.toNat_natCast]
  have hk := h.drop
  rw [tt_len] at hk
  have k1 : CellsAt m b (0 + l.length * 4) (encTt mk) := hk.take
  have k2 : CellsAt m b (0 + (l.length + 1) * 4) (encTt mk) := by
    have := hk.drop (cs := encTt mk)
    rw [show 0 + (l.length + 1) * 4 = 0 + l.length * 4 + (encTt mk).length by rw [tt_k]; omega]
    exact this
  have hq := tt_plain (some ⟨b, 0, none⟩) a2 (l.length + 2) c2 l l (by omega) { m with sz := n } (.at _ _ _ (Nat.lt_of_lt_of_le hb hn) ⟨h.take.out⟩) (h2.sz hn)
  refine ⟨trivial, ifB_intro (fun h3 => by simp at h3) (fun h3 => ifB_intro (fun h4 => by simp at h4) (fun h4 => ⟨⟨trivial, by omega, by omega, by omega, trivial⟩, trivial, _, hq, ?_⟩))⟩
  have et : decide (l = l) = true := by simp
  rw [et]
  refine ifB_true ⟨b, 0, rfl, by constructor <;> simp <;> omega, _, _, _, _, ⟨k1.out⟩, ifB_intro (fun h5 => ⟨b, 0, rfl, by constructor <;> simp <;> omega, _, _, _, _, ⟨k2.out⟩, ⟨by simp⟩⟩) (fun h5 => by simp at h5)⟩

theorem tt_keptr (b : Nat) (l : List Tt) (a2 : Option Addr) (c2 : Nat) (mk : Tt) (hn : l.length ≤ 3518437208870) (m : M) (h : Row m (some ⟨b, 0, none⟩) (tts l ++ (encTt mk ++ encTt mk))) (h2 : Row m a2 (tts l)) :
    QSpec Try.prog 17 [.slice (some ⟨b, 0, none⟩) l.length (l.length + 2), .slice a2 l.length c2, ttv mk] m (.bool true) := by
  obtain ⟨b', o, e, hc⟩ := h.cells (by simp)
  cases e
  exact tt_kept b l a2 c2 mk hn m (h.lt (by simp) rfl) hc h2

end Go.Proofs.Ytbhlhnkjmncloaa
set_option linter.unusedVariables false
set_option linter.unusedSimpArgs false
namespace Go.Proofs.Ytbhlhnkjmncloaa
open Go.Vc Go.RowKit Go.ChangeShapes Go.WideShapes Go.ChangeAt
set_option maxRecDepth 100000

structure An where
  er : Int
  va : Int
  le : Int
  mo : Int

def An.wf (x : An) : Prop := In64 x.er ∧ In64 x.va ∧ In64 x.le ∧ In64 x.mo

abbrev encAn (x : An) : List Value := [I x.er, I x.va, I x.le, I x.mo]

abbrev anv (x : An) : Value := .agg #[I x.er, I x.va, I x.le, I x.mo]

abbrev ans (l : List An) : List Value := l.flatMap encAn

theorem an_k (x : An) : (encAn x).length = 4 := rfl

theorem an_len (l : List An) : (ans l).length = l.length * 4 := flat_len an_k l

theorem an_at {m : M} {b o i : Nat} {l : List An} (h : CellsAt m b o (ans l)) (hi : i < l.length) : CellsAt m b (o + i * 4) (encAn l[i]) := CellsAt.elem an_k l o i hi h

theorem an_ext {a b : An} : a = b ↔ a.er = b.er ∧ a.va = b.va ∧ a.le = b.le ∧ a.mo = b.mo := by
  cases a; cases b; simp

instance : DecidableEq An := fun _ _ => decidable_of_iff' _ an_ext

theorem an_one (l : List An) : oneCells (ans l) = true := by
  rw [oneCells_iff]; intro v hv
  obtain ⟨w, -, hw⟩ := List.mem_flatMap.1 hv
  exact oneCells_iff.1 (rfl : oneCells (encAn w) = true) v hw

theorem an_zr (k : Nat) : (zeroRow Try.prog 33 k).length = k * 4 := zrLen (by kernel_rfl) k

theorem an_cells : Try.prog.cellsOf 33 = 4 := by kernel_rfl

theorem an_rd {m : M} {N d : Nat} {cs : List Value} (h : Rd Try.prog m N (d + 2) 33 cs) (hN : N ≤ 9223372036854775807) : ∃ x : An, cs = encAn x ∧ x.wf := by
  have hc1 := (by kernel_rfl : Try.prog.cellsOf 3 = 1)
  have hc2 := (by kernel_rfl : Try.prog.cellsOf 30 = 1)
  simp only [Rd, Try.underlying33, Try.underlying3, Try.underlying30, fieldsD, an_cells, hc1, hc2] at h
  obtain ⟨hl, ⟨k1, e1, w1⟩, ⟨k2, e2, w2⟩, ⟨k3, e3, w3⟩, ⟨k4, e4, w4⟩, -⟩ := h
  obtain ⟨c1, c2, c3, c4, rfl⟩ : ∃ c1 c2 c3 c4, cs = [c1, c2, c3, c4] := by
    match cs, hl with
    | [c1, c2, c3, c4], _ => exact ⟨_, _, _, _, rfl⟩
  simp at e1 e2 e3 e4
  subst e1 e2 e3 e4
  exact ⟨⟨k1, k2, k3, k4⟩, rfl, in64_of w1, in64_of w2, in64_of w3, in64_of w4⟩

theorem open_an {H : Type} {enc : TypeId × Value → H} {W : World} {r : Reach} {b0 : Nat} {v : Value} {d : DataW H} {p : List MemPlace} {N : Nat} {Bd : DataW H → Prop} (B : Bound N Bd) (hN : N ≤ 9223372036854775807) (hv : Value.okWide Try.prog W r b0 33 v) (h : DataW.Trod enc Try.prog W 0 (fun _ => true) true 33 v d p) (hb : Bd d) : ∃ x : An, v = anv x ∧ x.wf := by
  obtain ⟨cs, rfl, hl⟩ := open_agg Try.underlying33 an_cells hv
  obtain ⟨fuel, hf⟩ := h
  have hr := rd_of_trod B 2 fuel 33 _ _ hf hb
  simp only [Value.cells] at hr
  obtain ⟨x, he, hw⟩ := an_rd (d := 0) hr hN
  exact ⟨x, by rw [show cs = encAn x from he], hw⟩

end Go.Proofs.Ytbhlhnkjmncloaa
set_option linter.unusedVariables false
set_option linter.unusedSimpArgs false
namespace Go.Proofs.Ytbhlhnkjmncloaa
open Go.Vc Go.RowKit Go.ChangeShapes Go.WideShapes Go.ChangeAt
set_option maxRecDepth 100000

structure Oq where
  kd : Int
  ky : ByteArray
  ot : ByteArray
  n : Int
  lo : Int
  hi : Int

def Oq.wf (x : Oq) : Prop := In64 x.kd ∧ x.ky.size ≤ 9223372036854775807 ∧ x.ot.size ≤ 9223372036854775807 ∧ In64 x.n ∧ In64 x.lo ∧ In64 x.hi

abbrev encOq (x : Oq) : List Value := [I x.kd, .string x.ky, .string x.ot, I x.n, I x.lo, I x.hi]

abbrev oqv (x : Oq) : Value := .agg #[I x.kd, .string x.ky, .string x.ot, I x.n, I x.lo, I x.hi]

abbrev oqs (l : List Oq) : List Value := l.flatMap encOq

theorem oq_k (x : Oq) : (encOq x).length = 6 := rfl

theorem oq_len (l : List Oq) : (oqs l).length = l.length * 6 := flat_len oq_k l

theorem oq_at {m : M} {b o i : Nat} {l : List Oq} (h : CellsAt m b o (oqs l)) (hi : i < l.length) : CellsAt m b (o + i * 6) (encOq l[i]) := CellsAt.elem oq_k l o i hi h

theorem oq_ext {a b : Oq} : a = b ↔ a.kd = b.kd ∧ a.ky = b.ky ∧ a.ot = b.ot ∧ a.n = b.n ∧ a.lo = b.lo ∧ a.hi = b.hi := by
  cases a; cases b; simp

instance : DecidableEq Oq := fun _ _ => decidable_of_iff' _ oq_ext

theorem oq_one (l : List Oq) : oneCells (oqs l) = true := by
  rw [oneCells_iff]; intro v hv
  obtain ⟨w, -, hw⟩ := List.mem_flatMap.1 hv
  exact oneCells_iff.1 (rfl : oneCells (encOq w) = true) v hw

theorem oq_zr (k : Nat) : (zeroRow Try.prog 24 k).length = k * 6 := zrLen (by kernel_rfl) k

theorem oq_cells : Try.prog.cellsOf 24 = 6 := by kernel_rfl

theorem oq_rd {m : M} {N d : Nat} {cs : List Value} (h : Rd Try.prog m N (d + 2) 24 cs) (hN : N ≤ 9223372036854775807) : ∃ x : Oq, cs = encOq x ∧ x.wf := by
  have hc1 := (by kernel_rfl : Try.prog.cellsOf 3 = 1)
  have hc2 := (by kernel_rfl : Try.prog.cellsOf 9 = 1)
  simp only [Rd, Try.underlying24, Try.underlying3, Try.underlying9, fieldsD, oq_cells, hc1, hc2] at h
  obtain ⟨hl, ⟨k1, e1, w1⟩, ⟨k2, e2, w2⟩, ⟨k3, e3, w3⟩, ⟨k4, e4, w4⟩, ⟨k5, e5, w5⟩, ⟨k6, e6, w6⟩, -⟩ := h
  obtain ⟨c1, c2, c3, c4, c5, c6, rfl⟩ : ∃ c1 c2 c3 c4 c5 c6, cs = [c1, c2, c3, c4, c5, c6] := by
    match cs, hl with
    | [c1, c2, c3, c4, c5, c6], _ => exact ⟨_, _, _, _, _, _, rfl⟩
  simp at e1 e2 e3 e4 e5 e6
  subst e1 e2 e3 e4 e5 e6
  exact ⟨⟨k1, k2, k3, k4, k5, k6⟩, rfl, in64_of w1, Nat.le_trans w2 hN, Nat.le_trans w3 hN, in64_of w4, in64_of w5, in64_of w6⟩

theorem open_oq {H : Type} {enc : TypeId × Value → H} {W : World} {r : Reach} {b0 : Nat} {v : Value} {d : DataW H} {p : List MemPlace} {N : Nat} {Bd : DataW H → Prop} (B : Bound N Bd) (hN : N ≤ 9223372036854775807) (hv : Value.okWide Try.prog W r b0 24 v) (h : DataW.Trod enc Try.prog W 0 (fun _ => true) true 24 v d p) (hb : Bd d) : ∃ x : Oq, v = oqv x ∧ x.wf := by
  obtain ⟨cs, rfl, hl⟩ := open_agg Try.underlying24 oq_cells hv
  obtain ⟨fuel, hf⟩ := h
  have hr := rd_of_trod B 2 fuel 24 _ _ hf hb
  simp only [Value.cells] at hr
  obtain ⟨x, he, hw⟩ := oq_rd (d := 0) hr hN
  exact ⟨x, by rw [show cs = encOq x from he], hw⟩

theorem open_oqs {H : Type} {enc : TypeId × Value → H} {W : World} {r : Reach} {b0 : Nat} {v : Value} {d : DataW H} {p : List MemPlace} {N : Nat} {Bd : DataW H → Prop} (B : Bound N Bd) (hN : N ≤ 9223372036854775807) (hv : Value.okWide Try.prog W r b0 41 v) (h : DataW.Trod enc Try.prog W 0 (fun _ => true) true 41 v d p) (hb : Bd d) :
    ∃ (a : Option Addr) (c : Nat) (z : List Oq), v = .slice a z.length c ∧ z.length ≤ N ∧ (∀ x ∈ z, x.wf) ∧ (a = none → z = []) ∧ Row (M.all W) a (oqs z) := by
  obtain ⟨a, len, cap, rfl⟩ := okWide_slice Try.underlying41 hv
  obtain ⟨fuel, hf⟩ := h
  have hr := rd_of_trod B 3 fuel 41 _ _ hf hb
  rw [Rd] at hr
  simp only [Try.underlying41] at hr
  obtain ⟨a', cap', rows, hcs, h1, h2, h3, h4, h5⟩ := hr
  obtain ⟨z, hz, he, hi⟩ := rows_list (α := Oq) (e := encOq) (p := Oq.wf) rows fun r hr => oq_rd (d := 0) (h4 r hr).2 hN
  simp [Value.cells] at hcs
  obtain ⟨rfl, rfl, rfl⟩ := hcs
  rw [he] at h5
  exact ⟨a, cap, z, by rw [hz], by omega, hi, fun e => List.eq_nil_of_length_eq_zero (by have := h3 e; omega), h5⟩

end Go.Proofs.Ytbhlhnkjmncloaa
set_option linter.unusedVariables false
set_option linter.unusedSimpArgs false
namespace Go.Proofs.Ytbhlhnkjmncloaa
open Go.Vc Go.RowKit
set_option maxRecDepth 100000

def keyB (k : ByteArray) : Bool := decide (1 ≤ k.size) && decide (k.size ≤ 16)

/-- there is nothing in it -/
def plainT (x : Tt) : Bool := decide (x.sp_lo = 0) && decide (x.sp_hi = 0) && decide (x.va = 0)

def hasT (x : Tt) : Bool := decide (x.sp_lo ≤ x.va) && decide (x.va ≤ x.sp_hi)

def tmayB (r : Tt) : Bool := keyB r.ky && hasT r && !plainT r

/-- does one stand ahead of another? -/
def belT (a b : Tt) : Bool := ltS a.ky b.ky

def sameT (a b : Tt) : Bool := decide (a.ky = b.ky)

def ordT (a b : Tt) : Int := cmpS a.ky b.ky

def okT0 (p : Option Tt) (x : Tt) : Bool := match p with | none => true | some q => belT q x

def totB : Option Tt → List Tt → Bool
  | _, [] => true
  | p, x :: xs => okT0 p x && tmayB x && totB (some x) xs

theorem belT_irr (a : Tt) : belT a a = false := by simp [belT, ltS_irr]

theorem belT_trans {a b c : Tt} (h1 : belT a b = true) (h2 : belT b c = true) : belT a c = true := ltS_trans h1 h2

theorem belT_asym {a b : Tt} (h : belT a b = true) : belT b a = false := by
  cases h2 : belT b a with
  | false => rfl
  | true => have := belT_trans h h2; rw [belT_irr] at this; cases this

theorem belT_tri (a b : Tt) : belT a b = true ∨ sameT a b = true ∨ belT b a = true := by
  simp only [belT, sameT, decide_eq_true_eq]
  exact ltS_tri a.ky b.ky

theorem belT_same {a b : Tt} (h : sameT a b = true) : belT a b = false ∧ belT b a = false := by
  simp only [sameT, decide_eq_true_eq] at h
  simp [belT, h, ltS_irr]

theorem belT_ne {a b : Tt} (h : belT a b = true) : sameT a b = false ∧ sameT b a = false := by
  constructor
  · cases h2 : sameT a b with
    | false => rfl
    | true => rw [(belT_same h2).1] at h; cases h
  · cases h2 : sameT b a with
    | false => rfl
    | true => rw [(belT_same h2).2] at h; cases h

theorem sameT_left {a b c : Tt} (h : sameT a b = true) : belT a c = belT b c ∧ belT c a = belT c b ∧ sameT a c = sameT b c ∧ sameT c a = sameT c b := by
  simp only [sameT, decide_eq_true_eq] at h
  simp [belT, sameT, h]

theorem ordT_bel (a b : Tt) : ordT a b = if belT a b = true then -1 else if sameT a b = true then 0 else 1 := by
  unfold ordT belT sameT cmpS
  simp

theorem tot_cons {p : Option Tt} {x : Tt} {xs : List Tt} : totB p (x :: xs) = true ↔ (∀ q, p = some q → belT q x = true) ∧ tmayB x = true ∧ totB (some x) xs = true := by
  simp only [totB, Bool.and_eq_true, and_assoc]
  refine and_congr ?_ Iff.rfl
  cases p <;> simp [okT0]

theorem tot_mem : ∀ {l : List Tt} {p : Option Tt}, totB p l = true → ∀ x ∈ l, (∀ q, p = some q → belT q x = true) ∧ tmayB x = true
  | [], _, _, x, hx => by simp at hx
  | y :: ys, p, h, x, hx => by
    obtain ⟨h1, h2, h3⟩ := tot_cons.1 h
    rcases List.mem_cons.1 hx with rfl | hx
    · exact ⟨h1, h2⟩
    · have := tot_mem h3 x hx
      exact ⟨fun q e => belT_trans (h1 q e) (this.1 y rfl), this.2⟩

theorem tot_some {l : List Tt} {q : Tt} (h : totB none l = true) (hq : ∀ x ∈ l, belT q x = true) : totB (some q) l = true := by
  cases l with
  | nil => rfl
  | cons x xs =>
    obtain ⟨h1, h2, h3⟩ := tot_cons.1 h
    exact tot_cons.2 ⟨fun q' e => by cases e; exact hq x (by simp), h2, h3⟩

theorem tot_none {l : List Tt} {p : Option Tt} (h : totB p l = true) : totB none l = true := by
  cases l with
  | nil => rfl
  | cons x xs =>
    obtain ⟨h1, h2, h3⟩ := tot_cons.1 h
    exact tot_cons.2 ⟨fun q' e => (by cases e), h2, h3⟩

/-- what stands ahead of r, r, and what stands behind -/
def putT (l : List Tt) (r : Tt) : List Tt := (l.filter fun x => belT x r) ++ r :: l.filter fun x => belT r x

def ofT (l : List Tt) (r : Tt) : Option Tt := l.find? fun x => sameT x r

theorem tot_split (r : Tt) : ∀ {l : List Tt} {p : Option Tt}, totB p l = true → l = (l.filter fun x => belT x r) ++ ((ofT l r).toList ++ l.filter fun x => belT r x)
  | [], _, _ => rfl
  | x :: xs, p, h => by
    obtain ⟨h1, h2, h3⟩ := tot_cons.1 h
    have hm := tot_mem h3
    rcases belT_tri x r with hlt | heq | hgt
    · have ih := tot_split r h3
      have e1 := belT_asym hlt
      have e2 := (belT_ne hlt).1
      rw [List.filter_cons_of_pos (by simpa using hlt), List.filter_cons_of_neg (by simp [e1])]
      have : ofT (x :: xs) r = ofT xs r := by simp [ofT, List.find?_cons, e2]
      rw [this, List.cons_append, ← ih]
    · have e0 := belT_same heq
      have e1 : (xs.filter fun z => belT z r) = [] := List.filter_eq_nil_iff.2 fun z hz => by
        have := (hm z hz).1 x rfl
        rw [(sameT_left heq).1] at this
        simp [belT_asym this]
      have e2 : (xs.filter fun z => belT r z) = xs := List.filter_eq_self.2 fun z hz => by
        have := (hm z hz).1 x rfl
        rw [(sameT_left heq).1] at this
        exact this
      rw [List.filter_cons_of_neg (by simp [e0.1]), List.filter_cons_of_neg (by simp [e0.2]), e1, e2]
      simp [ofT, List.find?_cons, heq]
    · have e1 : (xs.filter fun z => belT z r) = [] := List.filter_eq_nil_iff.2 fun z hz => by
        have := belT_trans hgt ((hm z hz).1 x rfl)
        simp [belT_asym this]
      have e2 : (xs.filter fun z => belT r z) = xs := List.filter_eq_self.2 fun z hz => belT_trans hgt ((hm z hz).1 x rfl)
      have e3 : xs.find? (fun z => sameT z r) = none := List.find?_eq_none.2 fun z hz => by
        have := belT_trans hgt ((hm z hz).1 x rfl)
        simp [(belT_ne this).2]
      rw [List.filter_cons_of_neg (by simp [belT_asym hgt]), List.filter_cons_of_pos (by simpa using hgt), e1, e2]
      simp [ofT, List.find?_cons, (belT_ne hgt).2, e3]

theorem tot_append : ∀ {l : List Tt} {p : Option Tt} {r : Tt} {g : List Tt}, totB p l = true → (∀ x ∈ l, belT x r = true) → (∀ q, p = some q → belT q r = true) → tmayB r = true → totB (some r) g = true → totB p (l ++ r :: g) = true
  | [], p, r, g, _, _, hp, hr, hg => tot_cons.2 ⟨hp, hr, hg⟩
  | x :: xs, p, r, g, h, hl, hp, hr, hg => by
    obtain ⟨h1, h2, h3⟩ := tot_cons.1 h
    exact tot_cons.2 ⟨h1, h2, tot_append h3 (fun y hy => hl y (by simp [hy])) (fun q e => by cases e; exact hl x (by simp)) hr hg⟩

theorem tot_filter (f : Tt → Bool) : ∀ {l : List Tt} {p : Option Tt}, totB p l = true → totB p (l.filter f) = true
  | [], _, _ => rfl
  | x :: xs, p, h => by
    obtain ⟨h1, h2, h3⟩ := tot_cons.1 h
    have ih := tot_filter f h3
    by_cases e : f x = true
    · rw [List.filter_cons_of_pos e]; exact tot_cons.2 ⟨h1, h2, ih⟩
    · rw [List.filter_cons_of_neg e]
      have hm := tot_mem h3
      cases p with
      | none => exact tot_none ih
      | some q => exact tot_some (tot_none ih) fun y hy => belT_trans (h1 q rfl) ((hm y (List.mem_filter.1 hy).1).1 x rfl)

theorem putT_led {l : List Tt} {r : Tt} (h : totB none l = true) (hr : tmayB r = true) : totB none (putT l r) = true := by
  refine tot_append (tot_filter _ h) (fun x hx => (List.mem_filter.1 hx).2) (fun q e => by cases e) hr ?_
  exact tot_some (tot_filter _ h) fun x hx => (List.mem_filter.1 hx).2

theorem ofT_some {l : List Tt} {r x : Tt} (h : ofT l r = some x) : x ∈ l ∧ sameT x r = true := by
  unfold ofT at h
  have := List.find?_some h
  exact ⟨List.mem_of_find?_eq_some h, by simpa using this⟩

theorem putT_of {l : List Tt} (h : totB none l = true) (r z : Tt) : ofT (putT l r) z = if sameT r z = true then some r else ofT l z := by
  by_cases e : sameT r z = true
  · have e1 : (l.filter fun x => belT x r).find? (fun x => sameT x z) = none := List.find?_eq_none.2 fun x hx => by
      have h := (List.mem_filter.1 hx).2
      intro h2
      have := (belT_ne h).1
      rw [(sameT_left e).2.2.2] at this
      rw [this] at h2; cases h2
    unfold ofT putT
    rw [List.find?_append, List.find?_cons, e1, e]; simp
  · have e' : sameT r z = false := by simpa using e
    have e2 : ((ofT l r).toList).find? (fun x => sameT x z) = none := by
      cases ho : ofT l r with
      | none => rfl
      | some x =>
        have := (ofT_some ho).2
        simp [(sameT_left this).2.2.1, e']
    rw [if_neg e]
    conv => rhs; rw [tot_split r h]
    unfold ofT at e2 ⊢
    unfold putT
    rw [List.find?_append, List.find?_append, List.find?_append, List.find?_cons, e', e2]
    simp

theorem tot_ext : ∀ {a b : List Tt} {p : Option Tt}, totB p a = true → totB p b = true → (∀ z, ofT a z = ofT b z) → a = b
  | [], [], _, _, _, _ => rfl
  | [], y :: ys, _, _, _, h => by have := h y; simp [ofT, sameT] at this
  | x :: xs, [], _, _, _, h => by have := h x; simp [ofT, sameT] at this
  | x :: xs, y :: ys, p, ha, hb, h => by
    obtain ⟨a1, a2, a3⟩ := tot_cons.1 ha
    obtain ⟨b1, b2, b3⟩ := tot_cons.1 hb
    have hx := h x
    have hy := h y
    have sx : sameT x x = true := by simp [sameT]
    have sy : sameT y y = true := by simp [sameT]
    have e : x = y := by
      by_cases e1 : sameT y x = true
      · simp [ofT, List.find?_cons, sx, e1] at hx; exact hx
      · have e1 : sameT y x = false := by simpa using e1
        have e2 : sameT x y = false := by
          cases h2 : sameT x y with
          | false => rfl
          | true => rw [(sameT_left h2).2.2.2, sy] at e1; cases e1
        simp only [ofT, List.find?_cons, sx, sy, e1, e2] at hx hy
        have h1 := (tot_mem b3 x (List.mem_of_find?_eq_some hx.symm)).1 y rfl
        have h2 := (tot_mem a3 y (List.mem_of_find?_eq_some hy)).1 x rfl
        rw [belT_asym h1] at h2; cases h2
    subst e
    congr 1
    refine tot_ext a3 b3 fun z => ?_
    by_cases e1 : sameT x z = true
    · have n : ∀ {l : List Tt}, totB (some x) l = true → ofT l z = none := fun hl => List.find?_eq_none.2 fun w hw g => by
        have := (tot_mem hl w hw).1 x rfl
        rw [← (sameT_left e1).2.2.2] at g
        rw [(belT_ne this).2] at g; cases g
      rw [n a3, n b3]
    · have e1 : sameT x z = false := by simpa using e1
      have := h z
      simpa [ofT, List.find?_cons, e1] using this

theorem putT_put {l : List Tt} {r : Tt} (h : totB none l = true) (hr : tmayB r = true) : putT (putT l r) r = putT l r := by
  refine tot_ext (putT_led (putT_led h hr) hr) (putT_led h hr) fun z => ?_
  rw [putT_of (putT_led h hr), putT_of h]
  split <;> rfl

/-- where a right stands, or would stand -/
def ttP (l : List Tt) (r : Tt) : Nat := (l.filter fun x => belT x r).length

theorem ttP_le (l : List Tt) (r : Tt) : ttP l r ≤ l.length := List.length_filter_le _ _

/-- a list cut at where r stands, or would stand -/
theorem tot_cut {l : List Tt} (r : Tt) (h : totB none l = true) : ∃ L G : List Tt, l = L ++ ((ofT l r).toList ++ G) ∧ ttP l r = L.length ∧ putT l r = L ++ r :: G ∧ (∀ x ∈ L, belT x r = true) ∧ ∀ x ∈ G, belT r x = true :=
  ⟨_, _, tot_split r h, rfl, rfl, fun x hx => by simpa using (List.mem_filter.1 hx).2, fun x hx => by simpa using (List.mem_filter.1 hx).2⟩

theorem ttP_lt {l : List Tt} {r : Tt} (h : totB none l = true) : ∀ k (hk : k < l.length), k < ttP l r → belT l[k] r = true := by
  intro k hk hp
  obtain ⟨L, G, e, e2, -, e3, -⟩ := tot_cut r h
  rw [e2] at hp
  refine e3 _ (List.mem_of_getElem? (i := k) ?_)
  rw [← List.getElem?_append_left (l₂ := (ofT l r).toList ++ G) hp, ← e]
  exact List.getElem?_eq_getElem hk

theorem ttP_ge {l : List Tt} {r : Tt} (h : totB none l = true) : ∀ k (hk : k < l.length), ttP l r ≤ k → belT l[k] r = false := by
  intro k hk hp
  obtain ⟨L, G, e, e2, -, -, e3⟩ := tot_cut r h
  rw [e2] at hp
  have hm : l[k] ∈ (ofT l r).toList ++ G := by
    refine List.mem_of_getElem? (i := k - L.length) ?_
    rw [← List.getElem?_append_right hp, ← e]
    exact List.getElem?_eq_getElem hk
  rcases List.mem_append.1 hm with g | g
  · cases ho : ofT l r with
    | none => rw [ho] at g; simp at g
    | some x =>
      rw [ho] at g
      simp at g
      rw [g]
      exact (belT_same (ofT_some ho).2).1
  · exact belT_asym (e3 _ g)

theorem ttP_at {l : List Tt} {r x : Tt} (h : totB none l = true) (ho : ofT l r = some x) : ∃ hk : ttP l r < l.length, l[ttP l r] = x ∧ l.set (ttP l r) r = putT l r := by
  obtain ⟨L, G, e, e2, e3, -, -⟩ := tot_cut r h
  rw [ho] at e
  simp only [Option.toList, List.cons_append, List.nil_append] at e
  rw [e2, e3]
  subst e
  exact ⟨by simp, by simp, by simp⟩

theorem ttP_no {l : List Tt} {r : Tt} (h : totB none l = true) (ho : ofT l r = none) : l.take (ttP l r) ++ r :: l.drop (ttP l r) = putT l r := by
  obtain ⟨L, G, e, e2, e3, -, -⟩ := tot_cut r h
  rw [ho] at e
  simp only [Option.toList, List.nil_append] at e
  rw [e2, e3]
  subst e
  simp

theorem ttP_of {l : List Tt} {r : Tt} (h : totB none l = true) : ((l[ttP l r]?).any fun x => decide (ordT x r = 0)) = (ofT l r).isSome := by
  have hz : ∀ x : Tt, ordT x r = 0 ↔ sameT x r = true := fun x => by
    rw [ordT_bel]
    by_cases h1 : belT x r = true
    · simp [h1, (belT_ne h1).1]
    · by_cases h2 : sameT x r = true <;> simp [h1, h2]
  cases ho : ofT l r with
  | some x =>
    obtain ⟨hk, hx, -⟩ := ttP_at h ho
    rw [List.getElem?_eq_getElem hk, hx]
    simp [hz, (ofT_some ho).2]
  | none =>
    cases hg : l[ttP l r]? with
    | none => rfl
    | some x =>
      obtain ⟨hk, hx⟩ := List.getElem?_eq_some_iff.1 hg
      have : ¬ sameT x r = true := fun e => by
        have := List.find?_eq_none.1 ho x (by rw [← hx]; exact List.getElem_mem _)
        exact this e
      simp [hz, this]

/-- a total in its place; one in which there is nothing goes -/
def setT (l : List Tt) (r : Tt) : List Tt := (l.filter fun x => belT x r) ++ ((if plainT r = true then [] else [r]) ++ l.filter fun x => belT r x)

theorem setT_put {l : List Tt} {r : Tt} (h : plainT r = false) : setT l r = putT l r := by simp [setT, putT, h]

theorem tot_app : ∀ {l : List Tt} {p : Option Tt} {g : List Tt}, totB p l = true → totB none g = true → (∀ x ∈ l, ∀ y ∈ g, belT x y = true) → (∀ q, p = some q → ∀ y ∈ g, belT q y = true) → totB p (l ++ g) = true
  | [], p, g, _, hg, _, hp => by
    cases p with
    | none => exact hg
    | some q => exact tot_some hg (hp q rfl)
  | x :: xs, p, g, h, hg, hl, hp => by
    obtain ⟨h1, h2, h3⟩ := tot_cons.1 h
    exact tot_cons.2 ⟨h1, h2, tot_app h3 hg (fun y hy => hl y (by simp [hy])) (fun q e => by cases e; exact hl x (by simp))⟩

theorem setT_tot {l : List Tt} {r : Tt} (h : totB none l = true) (hr : plainT r = true ∨ tmayB r = true) : totB none (setT l r) = true := by
  by_cases e : plainT r = true
  · simp only [setT, e, if_true, List.nil_append]
    exact tot_app (tot_filter _ h) (tot_filter _ h) (fun x hx y hy => belT_trans (by simpa using (List.mem_filter.1 hx).2) (by simpa using (List.mem_filter.1 hy).2)) (fun q e => by cases e)
  · rw [setT_put (by simpa using e)]
    exact putT_led h (hr.resolve_left e)

theorem setT_of {l : List Tt} (h : totB none l = true) (r z : Tt) : ofT (setT l r) z = if sameT r z = true then (if plainT r = true then none else some r) else ofT l z := by
  by_cases e : plainT r = true
  · have e3 : setT l r = (l.filter fun x => belT x r) ++ l.filter fun x => belT r x := by simp [setT, e]
    have e4 : ofT (putT l r) z = _ := putT_of h r z
    by_cases e5 : sameT r z = true
    · rw [if_pos e5, if_pos e, e3]
      refine List.find?_eq_none.2 fun x hx h2 => ?_
      have h3 : sameT x r = true := by
        have := (sameT_left (c := x) e5).2.2.2
        rw [this]; exact h2
      rcases List.mem_append.1 hx with g | g
      · have := (belT_same h3).1
        rw [show belT x r = true from by simpa using (List.mem_filter.1 g).2] at this; cases this
      · have := (belT_same h3).2
        rw [show belT r x = true from by simpa using (List.mem_filter.1 g).2] at this; cases this
    · rw [if_neg e5] at e4 ⊢
      rw [← e4, e3]
      have e6 : sameT r z = false := by simpa using e5
      unfold ofT putT
      rw [List.find?_append, List.find?_append, List.find?_cons, e6]
  · rw [setT_put (by simpa using e), putT_of h, if_neg e]

theorem ttP_del {l : List Tt} {r x : Tt} (h : totB none l = true) (ho : ofT l r = some x) (hp : plainT r = true) : l.take (ttP l r) ++ l.drop (ttP l r + 1) = setT l r := by
  obtain ⟨L, G, e, e2, e3, -, -⟩ := tot_cut r h
  have e4 : setT l r = L ++ G := by
    have e5 : (l.filter fun x => belT x r) = L := by
      have e6 : putT l r = (l.filter fun x => belT x r) ++ r :: l.filter fun x => belT r x := rfl
      have e7 : (l.filter fun x => belT x r).length = L.length := e2
      rw [e3] at e6
      exact (List.append_inj_left e6 e7.symm).symm
    have e8 : (l.filter fun x => belT r x) = G := by
      have e6 : putT l r = (l.filter fun x => belT x r) ++ r :: l.filter fun x => belT r x := rfl
      rw [e3, e5] at e6
      have := List.append_cancel_left e6
      exact (List.cons.inj this).2.symm
    simp [setT, hp, e5, e8]
  rw [e4, e2]
  rw [ho] at e
  simp only [Option.toList, List.cons_append, List.nil_append] at e
  subst e
  simp

theorem ttP_plain {l : List Tt} {r : Tt} (h : totB none l = true) (ho : ofT l r = none) (hp : plainT r = true) : l = setT l r := by
  conv => lhs; rw [tot_split r h]
  simp [ho, setT, hp]

theorem setT_len (l : List Tt) (r : Tt) : (setT l r).length ≤ 2 * l.length + 1 := by
  have f1 := List.length_filter_le (fun x => belT x r) l
  have f2 := List.length_filter_le (fun x => belT r x) l
  unfold setT
  split <;> simp <;> omega

theorem fil_len {l : List Tt} {r : Tt} : (l.filter fun x => belT x r).length + (l.filter fun x => belT r x).length ≤ l.length := by
  induction l with
  | nil => simp
  | cons x xs ih =>
    simp only [List.filter_cons, List.length_cons]
    cases h1 : belT x r
    · cases h2 : belT r x <;> simp <;> omega
    · simp [belT_asym h1]; omega

/-- at most one more -/
theorem setT_len1 (l : List Tt) (r : Tt) : (setT l r).length ≤ l.length + 1 := by
  have := fil_len (l := l) (r := r)
  unfold setT
  split <;> simp <;> omega

end Go.Proofs.Ytbhlhnkjmncloaa
set_option linter.unusedVariables false
set_option linter.unusedSimpArgs false
namespace Go.Proofs.Ytbhlhnkjmncloaa
open Go.Vc Go.RowKit
set_option maxRecDepth 100000

theorem tt_none {B : List Tt} {a : Option Addr} {m : M} (h : Row m a (tts B)) (e : a = none) : B = [] := by
  cases B with
  | nil => rfl
  | cons x xs =>
    obtain ⟨b, o, e2, -⟩ := h.cells (by rw [tt_len]; simp)
    rw [e] at e2; simp at e2

/-- may an operation be? -/
def mayO (o : Oq) : Bool := keyB o.ky && decide (1 ≤ o.kd) && decide (o.kd ≤ 8) && (if o.kd = 1 ∨ o.kd = 2 then decide (1 ≤ o.n) else if o.kd = 6 then decide (1 ≤ o.n) && keyB o.ot && !decide (o.ot = o.ky) else true)

theorem keyed_q (k : ByteArray) (m : M) : QSpec Try.prog 43 [.string k] m (.bool (keyB k)) := by
  refine QSpec.of_vc Try.func43 (ann := fun _ => noAnn) fun n hn => ?_
  refine vc_by (X :=
      true = true ∧
      ifB (decide ((↑k.size : Int) ≥ (1 : Int))) (Done (Value.bool (decide ((↑k.size : Int) ≤ (16 : Int))) = Value.bool (keyB k))) (Done (Value.bool false = Value.bool (keyB k)))) (by kernel_rfl) ?_
  refine ⟨rfl, ifB_intro (fun h => ⟨?_⟩) (fun h => ⟨?_⟩)⟩
  · have h1 : 1 ≤ k.size := by simp at h; omega
    simp [keyB, h1]; omega
  · simp at h; simp [keyB]; omega

theorem rkey_q (k : ByteArray) (m : M) : QSpec Try.prog 31 [.string k] m (.bool (keyB k)) := by
  refine QSpec.of_vc Try.func31 (ann := fun _ => noAnn) fun n hn => ?_
  refine vc_by (X :=
      true = true ∧
      ifB (decide ((↑k.size : Int) ≥ (1 : Int))) (Done (Value.bool (decide ((↑k.size : Int) ≤ (16 : Int))) = Value.bool (keyB k))) (Done (Value.bool false = Value.bool (keyB k)))) (by kernel_rfl) ?_
  refine ⟨rfl, ifB_intro (fun h => ⟨?_⟩) (fun h => ⟨?_⟩)⟩
  · have h1 : 1 ≤ k.size := by simp at h; omega
    simp [keyB, h1]; omega
  · simp at h; simp [keyB]; omega

theorem beq_eq_dec (a b : Int) : (a == b) = decide (a = b) := rfl

theorem wplain_q (x : Tt) (m : M) : QSpec Try.prog 44 [ttv x] m (.bool (plainT x)) := by
  refine QSpec.of_vc Try.func44 (ann := fun _ => noAnn) fun n hn => ?_
  refine vc_by (X :=
      true = true ∧
      ifB (x.sp_lo == (0 : Int) && (x.sp_hi == (0 : Int) && true)) (Done (Value.bool (x.va == (0 : Int)) = Value.bool (plainT x))) (Done (Value.bool false = Value.bool (plainT x)))) (by kernel_rfl) ?_
  refine ⟨rfl, ifB_intro (fun h => ⟨?_⟩) (fun h => ⟨?_⟩)⟩
  · simp at h; simp [plainT, h, beq_eq_dec]
  · simp at h; simp [plainT]; intro h1 h2; exact absurd h2 (h h1)

theorem wmay_q (o : Oq) (m : M) : QSpec Try.prog 33 [oqv o] m (.bool (mayO o)) := by
  refine QSpec.of_vc Try.func33 (ann := fun _ => noAnn) fun n hn => ?_
  refine vc_by (X :=
      true = true ∧
      ∃ (b : Bool),
      QSpec Try.prog (43 : Nat) [Value.string o.ky] { π := m.π, sz := n, uf := m.uf : M } (Value.bool b) ∧
      ifB (!b) (Done (Value.bool false = Value.bool (mayO o)))
      (ifB (decide (o.kd < (1 : Int))) (Done (Value.bool false = Value.bool (mayO o)))
      (ifB (decide (o.kd > (8 : Int))) (Done (Value.bool false = Value.bool (mayO o)))
      (ifB (o.kd == (1 : Int)) (Done (Value.bool (decide (o.n ≥ (1 : Int))) = Value.bool (mayO o)))
      (ifB (o.kd == (2 : Int)) (Done (Value.bool (decide (o.n ≥ (1 : Int))) = Value.bool (mayO o)))
      (ifB (o.kd == (6 : Int))
      (ifB (decide (o.n ≥ (1 : Int)))
      (∃ (b : Bool),
      QSpec Try.prog (43 : Nat) [Value.string o.ot] { π := m.π, sz := n, uf := m.uf : M } (Value.bool b) ∧
      ifB b (Done ((Value.bool !o.ot.toList == o.ky.toList) = Value.bool (mayO o))) (Done (Value.bool false = Value.bool (mayO o))))
      (Done (Value.bool false = Value.bool (mayO o))))
      (Done (Value.bool true = Value.bool (mayO o))))))))) (by kernel_rfl) ?_
  refine ⟨rfl, _, keyed_q _ _, ?_⟩
  cases hk : keyB o.ky
  · exact ifB_true ⟨by simp [mayO, hk]⟩
  refine ifB_false (ifB_intro (fun h1 => ⟨?_⟩) (fun h1 => ifB_intro (fun h2 => ⟨?_⟩) (fun h2 => ifB_intro (fun h3 => ⟨?_⟩) (fun h3 => ifB_intro (fun h4 => ⟨?_⟩) (fun h4 => ifB_intro (fun h5 => ifB_intro (fun h6 => ⟨_, keyed_q _ _, ifB_intro (fun h7 => ⟨?_⟩) (fun h7 => ⟨?_⟩)⟩) (fun h6 => ⟨?_⟩)) (fun h5 => ⟨?_⟩))))))
  · simp at h1; simp [mayO, show ¬ 1 ≤ o.kd by omega]
  · simp at h2; simp [mayO, show ¬ o.kd ≤ 8 by omega]
  · simp at h3; simp [mayO, hk, h3]
  · simp at h3 h4; simp [mayO, hk, h4]
  · simp at h3 h4 h5 h6; simp [mayO, hk, h5, h6, h7, bytes_beq]
  · simp at h3 h4 h5 h6; simp [mayO, hk, h5, h6, h7]
  · simp at h3 h4 h5 h6; simp [mayO, hk, h5, show ¬ 1 ≤ o.n by omega]
  · simp at h1 h2 h3 h4 h5; simp [mayO, hk, h1, h2, h3, h4, h5]

theorem cmpstr (a b : ByteArray) : CallV Try.prog 74 [.string a, .string b] (I (cmpS a b)) := by
  refine ⟨?_⟩
  rw [← cmp_cmpS]
  show (Value.int .i64 (Extern.BytealgCompare.cmp a b)) = _
  rfl

theorem cmps_q (a b : ByteArray) (m : M) : QSpec Try.prog 70 [.string a, .string b] m (I (cmpS a b)) := by
  refine QSpec.of_vc Try.func70 (ann := fun _ => noAnn) fun n hn => ?_
  refine vc_by (X :=
      true = true ∧ ∃ (n : Int), CallV Try.prog (74 : Nat) [Value.string a, Value.string b] (Value.int IntKind.i64 n) ∧ Done (Value.int IntKind.i64 n = Value.int IntKind.i64 (cmpS a b))) (by kernel_rfl) ?_
  exact ⟨rfl, _, cmpstr a b, ⟨rfl⟩⟩

theorem compare_q (a b : ByteArray) (m : M) : QSpec Try.prog 65 [.string a, .string b] m (I (cmpS a b)) := by
  refine QSpec.of_vc Try.func65 (ann := fun _ => noAnn) fun n hn => ?_
  refine vc_by (X :=
      true = true ∧
      ∃ (n_1 : Int),
      QSpec Try.prog (70 : Nat) [Value.string a, Value.string b] { π := m.π, sz := n, uf := m.uf : M } (Value.int IntKind.i64 n_1) ∧
      Done (Value.int IntKind.i64 n_1 = Value.int IntKind.i64 (cmpS a b))) (by kernel_rfl) ?_
  exact ⟨rfl, _, cmps_q a b _, ⟨rfl⟩⟩

theorem wplace1_q (x : Tt) (k : ByteArray) (m : M) : QSpec Try.prog 64 [ttv x, .string k] m (I (cmpS x.ky k)) := by
  refine QSpec.of_vc Try.func64 (ann := fun _ => noAnn) fun n hn => ?_
  refine vc_by (X :=
      true = true ∧
      ∃ (n_1 : Int),
      QSpec Try.prog (65 : Nat) [Value.string x.ky, Value.string k] { π := m.π, sz := n, uf := m.uf : M } (Value.int IntKind.i64 n_1) ∧
      Done (Value.int IntKind.i64 n_1 = Value.int IntKind.i64 (cmpS x.ky k))) (by kernel_rfl) ?_
  exact ⟨rfl, _, compare_q _ _ _, ⟨rfl⟩⟩

/-- the one ahead -/
def prevT (l : List Tt) (k : Nat) : Option Tt := if k = 0 then none else l[k - 1]?

theorem ltS_nlt (a b : ByteArray) : (Op.bytesLess a.toList b.toList || a.toList == b.toList) = !ltS b a := ltS_leq a b

theorem wcheck_q (a : Option Addr) (cp : Nat) (l : List Tt) (hn : l.length ≤ 9223372036854775807) (m : M) (h : Row m a (tts l)) : QSpec Try.prog 15 [.slice a l.length cp] m (I (if totB none l then 0 else 21)) := by
  refine QSpec.of_vc Try.func15 (ann := fun n _ => { A := Nat, inv := fun k => k ≤ l.length ∧ totB none l = totB (prevT l k) (l.drop k), st := fun k => [(7, .val (I k)), (6, .val (I l.length)), (5, .val (.slice a l.length cp)), (0, .val (.slice a l.length cp))], own := fun _ => [], m := fun _ => { m with sz := n }, μ := fun k => l.length - k }) fun n hn' => ?_
  refine vc_by (X :=
      true = true ∧
      (∃ (a_1 : Nat),
      (a_1 ≤ l.length ∧ totB none l = totB (prevT l a_1) (List.drop a_1 l)) ∧
      { π := m.π, sz := n, uf := m.uf : M } = { π := m.π, sz := n, uf := m.uf : M } ∧
      ((SV.val (Value.int IntKind.i64 (0 : Int)) = SV.val (Value.int IntKind.i64 (↑a_1 : Int)) ∧ true = true) ∧
      (SV.val (Value.int IntKind.i64 (↑l.length : Int)) = SV.val (Value.int IntKind.i64 (↑l.length : Int)) ∧ true = true) ∧
      (SV.val (Value.slice a l.length cp) = SV.val (Value.slice a l.length cp) ∧ true = true) ∧
      (SV.val (Value.slice a l.length cp) = SV.val (Value.slice a l.length cp) ∧ true = true) ∧ True) ∧
      True) ∧
      ∀ (a_1 : Nat),
      a_1 ≤ l.length ∧ totB none l = totB (prevT l a_1) (List.drop a_1 l) →
      ifB (decide ((↑a_1 : Int) < (↑l.length : Int)))
      (∃ (b : Nat),
      ∃ (off : Nat),
      a = some { block := b, off := off : Addr } ∧
      ((0 : Int) ≤ (↑a_1 : Int) ∧ (↑a_1 : Int) < (↑l.length : Int)) ∧
      ∃ (s : ByteArray),
      ∃ (n_1 : Int),
      ∃ (n_2 : Int),
      ∃ (n_3 : Int),
      CellsAt { π := m.π, sz := n, uf := m.uf : M } b (off + (↑a_1 : Int).toNat * (4 : Nat))
      [Value.string s, Value.int IntKind.i64 n_1, Value.int IntKind.i64 n_2, Value.int IntKind.i64 n_3] ∧
      true = true ∧
      ∃ (b : Bool),
      QSpec Try.prog (43 : Nat) [Value.string s] { π := m.π, sz := n, uf := m.uf : M } (Value.bool b) ∧
      ifB (!b) (Done (Value.int IntKind.i64 (21 : Int) = Value.int IntKind.i64 (if totB none l = true then (0 : Int) else (21 : Int))))
      (∃ (b : Bool),
      QSpec Try.prog (38 : Nat) [Value.agg #[Value.int IntKind.i64 n_1, Value.int IntKind.i64 n_2], Value.int IntKind.i64 n_3]
      { π := m.π, sz := n, uf := m.uf : M } (Value.bool b) ∧
      ifB (!b) (Done (Value.int IntKind.i64 (21 : Int) = Value.int IntKind.i64 (if totB none l = true then (0 : Int) else (21 : Int))))
      (∃ (b : Bool),
      QSpec Try.prog (44 : Nat) [Value.agg #[Value.string s, Value.int IntKind.i64 n_1, Value.int IntKind.i64 n_2, Value.int IntKind.i64 n_3]]
      { π := m.π, sz := n, uf := m.uf : M } (Value.bool b) ∧
      ifB b (Done (Value.int IntKind.i64 (21 : Int) = Value.int IntKind.i64 (if totB none l = true then (0 : Int) else (21 : Int))))
      (ifB (decide ((↑a_1 : Int) > (0 : Int)))
      (∃ (b : Nat),
      ∃ (off : Nat),
      a = some { block := b, off := off : Addr } ∧
      ((0 : Int) ≤ IntKind.i64.wrap ((↑a_1 : Int) - (1 : Int)) ∧
      IntKind.i64.wrap ((↑a_1 : Int) - (1 : Int)) < (↑l.length : Int)) ∧
      ∃ (s_1 : ByteArray),
      CellsAt { π := m.π, sz := n, uf := m.uf : M } b
      (off + (IntKind.i64.wrap ((↑a_1 : Int) - (1 : Int))).toNat * (4 : Nat) + (0 : Nat)) [Value.string s_1] ∧
      ifB (Op.bytesLess s.toList s_1.toList || s.toList == s_1.toList)
      (Done
      (Value.int IntKind.i64 (21 : Int) = Value.int IntKind.i64 (if totB none l = true then (0 : Int) else (21 : Int))))
      (∃ (a' : Nat),
      ((a' ≤ l.length ∧ totB none l = totB (prevT l a') (List.drop a' l)) ∧
      { π := m.π, sz := n, uf := m.uf : M } = { π := m.π, sz := n, uf := m.uf : M } ∧
      ((SV.val (Value.int IntKind.i64 (IntKind.i64.wrap ((↑a_1 : Int) + (1 : Int)))) =
      SV.val (Value.int IntKind.i64 (↑a' : Int)) ∧
      true = true) ∧
      (SV.val (Value.int IntKind.i64 (↑l.length : Int)) = SV.val (Value.int IntKind.i64 (↑l.length : Int)) ∧
      true = true) ∧
      (SV.val (Value.slice a l.length cp) = SV.val (Value.slice a l.length cp) ∧ true = true) ∧
      (SV.val (Value.slice a l.length cp) = SV.val (Value.slice a l.length cp) ∧ true = true) ∧ True) ∧
      True) ∧
      l.length - a' < l.length - a_1))
      (∃ (a' : Nat),
      ((a' ≤ l.length ∧ totB none l = totB (prevT l a') (List.drop a' l)) ∧
      { π := m.π, sz := n, uf := m.uf : M } = { π := m.π, sz := n, uf := m.uf : M } ∧
      ((SV.val (Value.int IntKind.i64 (IntKind.i64.wrap ((↑a_1 : Int) + (1 : Int)))) =
      SV.val (Value.int IntKind.i64 (↑a' : Int)) ∧
      true = true) ∧
      (SV.val (Value.int IntKind.i64 (↑l.length : Int)) = SV.val (Value.int IntKind.i64 (↑l.length : Int)) ∧ true = true) ∧
      (SV.val (Value.slice a l.length cp) = SV.val (Value.slice a l.length cp) ∧ true = true) ∧
      (SV.val (Value.slice a l.length cp) = SV.val (Value.slice a l.length cp) ∧ true = true) ∧ True) ∧
      True) ∧
      l.length - a' < l.length - a_1)))))
      (Done (Value.int IntKind.i64 (0 : Int) = Value.int IntKind.i64 (if totB none l = true then (0 : Int) else (21 : Int))))) (by kernel_rfl) ?_
  have h' := h.sz hn'
  refine ⟨rfl, ⟨0, by simp [prevT]⟩, fun k ⟨hk, hq⟩ => ifB_intro (fun hb => ?_) (fun hb => ⟨?_⟩)⟩
  · have hk2 : k < l.length := by simpa using hb
    obtain ⟨b, o, rfl, hc⟩ := h'.cells (by rw [tt_len]; omega)
    have w1 : IntKind.i64.wrap ((k : Int) + 1) = ((k + 1 : Nat) : Int) := by simp [IntKind.wrap_i64]; omega
    rw [List.drop_eq_getElem_cons hk2, totB] at hq
    have hnx : prevT l (k + 1) = some l[k] := by simp [prevT, List.getElem?_eq_getElem hk2]
    have hp0 : k = 0 → okT0 (prevT l k) l[k] = true := fun e => by simp [prevT, e, okT0]
    have hpk : ∀ (hk0 : 0 < k), okT0 (prevT l k) l[k] = belT (l[k - 1]'(by omega)) l[k] := fun hk0 => by
      have : k ≠ 0 := by omega
      simp [prevT, this, List.getElem?_eq_getElem (show k - 1 < l.length by omega), okT0]
    have w2 : 0 < k → IntKind.i64.wrap ((k : Int) - 1) = ((k - 1 : Nat) : Int) := fun h => by simp [IntKind.wrap_i64]; omega
    have bad : (okT0 (prevT l k) l[k] && tmayB l[k]) = false → totB none l = false := fun e => by rw [hq, e, Bool.false_and]
    have nx : (okT0 (prevT l k) l[k] && tmayB l[k]) = true → (k + 1 ≤ l.length ∧ totB none l = totB (prevT l (k + 1)) (l.drop (k + 1))) := fun e => ⟨hk2, by rw [hq, e, Bool.true_and, hnx]⟩
    refine ⟨b, o, rfl, by omega, _, _, _, _, by simpa using tt_at hc hk2, rfl, _, keyed_q _ _, ifB_intro (fun h1 => ⟨?_⟩) (fun h1 => ⟨_, has_q _ _ _ _, ifB_intro (fun h2 => ⟨?_⟩) (fun h2 => ⟨_, wplain_q l[k] _, ifB_intro (fun h3 => ⟨?_⟩) (fun h3 => ?_)⟩)⟩)⟩
    · have h1 : keyB l[k].ky = false := by simpa using h1
      simp [bad (by simp [tmayB, h1])]
    · have h2 : hasT l[k] = false := by have e : (!hasT l[k]) = true := h2; simpa using e
      simp [bad (by simp [tmayB, h2])]
    · simp [bad (by simp [tmayB, h3])]
    · have h1 : keyB l[k].ky = true := by simpa using h1
      have h2 : hasT l[k] = true := by have e : (!hasT l[k]) = false := h2; simpa using e
      have ht : tmayB l[k] = true := by simp [tmayB, h1, h2, h3]
      refine ifB_intro (fun h4 => ?_) (fun h4 => ⟨k + 1, ⟨nx ?_, by simp [w1]⟩, by omega⟩)
      · have h4 : 0 < k := by simpa using h4
        have hk3 : k - 1 < l.length := by omega
        have hc0 := CellsAt.field tt_k hc hk3 (p := []) (old := [.string l[k - 1].ky]) (q := [I l[k - 1].sp_lo, I l[k - 1].sp_hi, I l[k - 1].va]) rfl
        rw [w2 h4]
        refine ⟨b, o, rfl, by omega, _, by simpa using hc0, ?_⟩
        rw [ltS_nlt]
        refine ifB_intro (fun h5 => ⟨?_⟩) (fun h5 => ⟨k + 1, ⟨nx ?_, by simp [w1]⟩, by omega⟩)
        · have h5 : belT l[k - 1] l[k] = false := by simpa [belT] using h5
          simp [bad (by rw [hpk h4, h5]; rfl)]
        · have h5 : belT l[k - 1] l[k] = true := by simpa [belT] using h5
          rw [hpk h4, h5, ht]; rfl
      · have h4 : k = 0 := by simp at h4; omega
        rw [hp0 h4, ht]; rfl
  · have : k = l.length := by simp at hb; omega
    rw [this] at hq
    simp [hq, totB]

theorem rtright_q (a : Option Addr) (cp : Nat) (l : List Tt) (hn : l.length ≤ 9223372036854775807) (m : M) (h : Row m a (tts l)) : QSpec Try.prog 11 [.slice a l.length cp] m (.bool (totB none l)) := by
  refine QSpec.of_vc Try.func11 (ann := fun n _ => { A := Nat, inv := fun k => k ≤ l.length ∧ totB none l = totB (prevT l k) (l.drop k), st := fun k => [(3, .val (I k)), (0, .val (.slice a l.length cp))], own := fun _ => [], m := fun _ => { m with sz := n }, μ := fun k => l.length - k }) fun n hn' => ?_
  refine vc_by (X :=
      true = true ∧
      (∃ (a_1 : Nat),
      (a_1 ≤ l.length ∧ totB none l = totB (prevT l a_1) (List.drop a_1 l)) ∧
      { π := m.π, sz := n, uf := m.uf : M } = { π := m.π, sz := n, uf := m.uf : M } ∧
      ((SV.val (Value.int IntKind.i64 (0 : Int)) = SV.val (Value.int IntKind.i64 (↑a_1 : Int)) ∧ true = true) ∧
      (SV.val (Value.slice a l.length cp) = SV.val (Value.slice a l.length cp) ∧ true = true) ∧ True) ∧
      True) ∧
      ∀ (a_1 : Nat),
      a_1 ≤ l.length ∧ totB none l = totB (prevT l a_1) (List.drop a_1 l) →
      ifB (decide ((↑a_1 : Int) < (↑l.length : Int)))
      (∃ (b : Nat),
      ∃ (off : Nat),
      a = some { block := b, off := off : Addr } ∧
      ((0 : Int) ≤ (↑a_1 : Int) ∧ (↑a_1 : Int) < (↑l.length : Int)) ∧
      ∃ (s : ByteArray),
      ∃ (n_1 : Int),
      ∃ (n_2 : Int),
      ∃ (n_3 : Int),
      CellsAt { π := m.π, sz := n, uf := m.uf : M } b (off + (↑a_1 : Int).toNat * (4 : Nat))
      [Value.string s, Value.int IntKind.i64 n_1, Value.int IntKind.i64 n_2, Value.int IntKind.i64 n_3] ∧
      true = true ∧
      ∃ (b : Bool),
      QSpec Try.prog (31 : Nat) [Value.string s] { π := m.π, sz := n, uf := m.uf : M } (Value.bool b) ∧
      ifB (!b) (Done (Value.bool false = Value.bool (totB none l)))
      (∃ (b : Bool),
      QSpec Try.prog (32 : Nat) [Value.agg #[Value.int IntKind.i64 n_1, Value.int IntKind.i64 n_2], Value.int IntKind.i64 n_3]
      { π := m.π, sz := n, uf := m.uf : M } (Value.bool b) ∧
      ifB (!b) (Done (Value.bool false = Value.bool (totB none l)))
      (ifB (s.toList == s.toList && (n_1 == (0 : Int) && (n_2 == (0 : Int) && true) && (n_3 == (0 : Int) && true)))
      (Done (Value.bool false = Value.bool (totB none l)))
      (ifB (decide ((↑a_1 : Int) > (0 : Int)))
      (∃ (b : Nat),
      ∃ (off : Nat),
      a = some { block := b, off := off : Addr } ∧
      ((0 : Int) ≤ IntKind.i64.wrap ((↑a_1 : Int) - (1 : Int)) ∧ IntKind.i64.wrap ((↑a_1 : Int) - (1 : Int)) < (↑l.length : Int)) ∧
      ∃ (s_1 : ByteArray),
      CellsAt { π := m.π, sz := n, uf := m.uf : M } b
      (off + (IntKind.i64.wrap ((↑a_1 : Int) - (1 : Int))).toNat * (4 : Nat) + (0 : Nat)) [Value.string s_1] ∧
      ifB (Op.bytesLess s.toList s_1.toList || s.toList == s_1.toList) (Done (Value.bool false = Value.bool (totB none l)))
      (∃ (a' : Nat),
      ((a' ≤ l.length ∧ totB none l = totB (prevT l a') (List.drop a' l)) ∧
      { π := m.π, sz := n, uf := m.uf : M } = { π := m.π, sz := n, uf := m.uf : M } ∧
      ((SV.val (Value.int IntKind.i64 (IntKind.i64.wrap ((↑a_1 : Int) + (1 : Int)))) =
      SV.val (Value.int IntKind.i64 (↑a' : Int)) ∧
      true = true) ∧
      (SV.val (Value.slice a l.length cp) = SV.val (Value.slice a l.length cp) ∧ true = true) ∧ True) ∧
      True) ∧
      l.length - a' < l.length - a_1))
      (∃ (a' : Nat),
      ((a' ≤ l.length ∧ totB none l = totB (prevT l a') (List.drop a' l)) ∧
      { π := m.π, sz := n, uf := m.uf : M } = { π := m.π, sz := n, uf := m.uf : M } ∧
      ((SV.val (Value.int IntKind.i64 (IntKind.i64.wrap ((↑a_1 : Int) + (1 : Int)))) = SV.val (Value.int IntKind.i64 (↑a' : Int)) ∧
      true = true) ∧
      (SV.val (Value.slice a l.length cp) = SV.val (Value.slice a l.length cp) ∧ true = true) ∧ True) ∧
      True) ∧
      l.length - a' < l.length - a_1)))))
      (Done (Value.bool true = Value.bool (totB none l)))) (by kernel_rfl) ?_
  have h' := h.sz hn'
  refine ⟨rfl, ⟨0, by simp [prevT]⟩, fun k ⟨hk, hq⟩ => ifB_intro (fun hb => ?_) (fun hb => ⟨?_⟩)⟩
  · have hk2 : k < l.length := by simpa using hb
    obtain ⟨b, o, rfl, hc⟩ := h'.cells (by rw [tt_len]; omega)
    have w1 : IntKind.i64.wrap ((k : Int) + 1) = ((k + 1 : Nat) : Int) := by simp [IntKind.wrap_i64]; omega
    rw [List.drop_eq_getElem_cons hk2, totB] at hq
    have hnx : prevT l (k + 1) = some l[k] := by simp [prevT, List.getElem?_eq_getElem hk2]
    have hp0 : k = 0 → okT0 (prevT l k) l[k] = true := fun e => by simp [prevT, e, okT0]
    have hpk : ∀ (hk0 : 0 < k), okT0 (prevT l k) l[k] = belT (l[k - 1]'(by omega)) l[k] := fun hk0 => by
      have : k ≠ 0 := by omega
      simp [prevT, this, List.getElem?_eq_getElem (show k - 1 < l.length by omega), okT0]
    have w2 : 0 < k → IntKind.i64.wrap ((k : Int) - 1) = ((k - 1 : Nat) : Int) := fun h => by simp [IntKind.wrap_i64]; omega
    have bad : (okT0 (prevT l k) l[k] && tmayB l[k]) = false → totB none l = false := fun e => by rw [hq, e, Bool.false_and]
    have nx : (okT0 (prevT l k) l[k] && tmayB l[k]) = true → (k + 1 ≤ l.length ∧ totB none l = totB (prevT l (k + 1)) (l.drop (k + 1))) := fun e => ⟨hk2, by rw [hq, e, Bool.true_and, hnx]⟩
    have ep : (l[k].ky.toList == l[k].ky.toList && (l[k].sp_lo == 0 && (l[k].sp_hi == 0 && true) && (l[k].va == 0 && true))) = plainT l[k] := by simp [plainT, beq_eq_dec]
    refine ⟨b, o, rfl, by omega, _, _, _, _, by simpa using tt_at hc hk2, rfl, _, rkey_q _ _, ifB_intro (fun h1 => ⟨?_⟩) (fun h1 => ⟨_, rhas_q _ _ _ _, ifB_intro (fun h2 => ⟨?_⟩) (fun h2 => ?_)⟩)⟩
    · have h1 : keyB l[k].ky = false := by simpa using h1
      simp [bad (by simp [tmayB, h1])]
    · have h2 : hasT l[k] = false := by have e : (!hasT l[k]) = true := h2; simpa using e
      simp [bad (by simp [tmayB, h2])]
    rw [ep]
    refine ifB_intro (fun h3 => ⟨?_⟩) (fun h3 => ?_)
    · simp [bad (by simp [tmayB, h3])]
    · have h1 : keyB l[k].ky = true := by simpa using h1
      have h2 : hasT l[k] = true := by have e : (!hasT l[k]) = false := h2; simpa using e
      have ht : tmayB l[k] = true := by simp [tmayB, h1, h2, h3]
      refine ifB_intro (fun h4 => ?_) (fun h4 => ⟨k + 1, ⟨nx ?_, by simp [w1]⟩, by omega⟩)
      · have h4 : 0 < k := by simpa using h4
        have hk3 : k - 1 < l.length := by omega
        have hc0 := CellsAt.field tt_k hc hk3 (p := []) (old := [.string l[k - 1].ky]) (q := [I l[k - 1].sp_lo, I l[k - 1].sp_hi, I l[k - 1].va]) rfl
        rw [w2 h4]
        refine ⟨b, o, rfl, by omega, _, by simpa using hc0, ?_⟩
        rw [ltS_nlt]
        refine ifB_intro (fun h5 => ⟨?_⟩) (fun h5 => ⟨k + 1, ⟨nx ?_, by simp [w1]⟩, by omega⟩)
        · have h5 : belT l[k - 1] l[k] = false := by simpa [belT] using h5
          simp [bad (by rw [hpk h4, h5]; rfl)]
        · have h5 : belT l[k - 1] l[k] = true := by simpa [belT] using h5
          rw [hpk h4, h5, ht]; rfl
      · have h4 : k = 0 := by simp at h4; omega
        rw [hp0 h4, ht]; rfl
  · have : k = l.length := by simp at hb; omega
    rw [this] at hq
    simp [hq, totB]

/-- a key's -/
def zT (k : ByteArray) : Tt := ⟨k, 0, 0, 0⟩

def fndT (l : List Tt) (k : ByteArray) : Tt := (ofT l (zT k)).getD (zT k)

end Go.Proofs.Ytbhlhnkjmncloaa
set_option linter.unusedVariables false
set_option linter.unusedSimpArgs false
namespace Go.Proofs.Ytbhlhnkjmncloaa
open Go.Vc Go.RowKit
set_option maxRecDepth 100000

structure ttBsX where
  i : Nat
  j : Nat

theorem tt_bsearch (a : Option Addr) (c : Nat) (l : List Tt) (nd : ByteArray) (f : Tt → Int) (p : Nat) (hn : l.length ≤ 3518437208870) (m : M) (h : Row m a (l.flatMap encTt))
    (hf : ∀ x ∈ l, ∀ m', QSpec Try.prog 64 [.agg (encTt x).toArray, .string nd] m' (I (f x))) (hp : p ≤ l.length) (h1 : ∀ k (hk : k < l.length), k < p → f l[k] < 0) (h2 : ∀ k (hk : k < l.length), p ≤ k → 0 ≤ f l[k]) :
    QSpec Try.prog 63 [.slice a l.length c, .string nd, .func (.func 64) #[] #[]] m (.tuple #[I p, .bool ((l[p]?).any fun x => decide (f x = 0))]) := by
  refine QSpec.of_vc Try.func63 (ann := fun n _ => { A := ttBsX, inv := fun y => y.i ≤ p ∧ p ≤ y.j ∧ y.j ≤ l.length, st := fun y => [(9, .val (I y.i)), (10, .val (I y.j)), (8, .val (I l.length)), (0, .val (.slice a l.length c)), (1, .val (.string nd)), (2, .val (.func (.func 64) #[] #[]))], own := fun _ => [], m := fun _ => { m with sz := n }, μ := fun y => y.j - y.i }) fun n hn' => ?_
  refine vc_by (X :=
      true = true ∧
      (∃ (a_1 : ttBsX),
      (a_1.i ≤ p ∧ p ≤ a_1.j ∧ a_1.j ≤ l.length) ∧
      { π := m.π, sz := n, uf := m.uf : M } = { π := m.π, sz := n, uf := m.uf : M } ∧
      ((SV.val (Value.int IntKind.i64 (0 : Int)) = SV.val (Value.int IntKind.i64 (↑a_1.i : Int)) ∧ true = true) ∧
      (SV.val (Value.int IntKind.i64 (↑l.length : Int)) = SV.val (Value.int IntKind.i64 (↑a_1.j : Int)) ∧ true = true) ∧
      (SV.val (Value.int IntKind.i64 (↑l.length : Int)) = SV.val (Value.int IntKind.i64 (↑l.length : Int)) ∧ true = true) ∧
      (SV.val (Value.slice a l.length c) = SV.val (Value.slice a l.length c) ∧ true = true) ∧
      (SV.val (Value.string nd) = SV.val (Value.string nd) ∧ true = true) ∧
      (SV.val (Value.func (Fn.func (64 : FuncId)) #[] #[]) = SV.val (Value.func (Fn.func (64 : FuncId)) #[] #[]) ∧ true = true) ∧ True) ∧
      True) ∧
      ∀ (a_1 : ttBsX),
      a_1.i ≤ p ∧ p ≤ a_1.j ∧ a_1.j ≤ l.length →
      ifB (decide ((↑a_1.i : Int) < (↑a_1.j : Int)))
      (∃ (b : Nat),
      ∃ (off : Nat),
      a = some { block := b, off := off : Addr } ∧
      ((0 : Int) ≤ IntKind.i64.wrap ((IntKind.u64.wrap (IntKind.i64.wrap ((↑a_1.i : Int) + (↑a_1.j : Int)))).fdiv ((2 : Int) ^ (1 : Nat))) ∧
      IntKind.i64.wrap ((IntKind.u64.wrap (IntKind.i64.wrap ((↑a_1.i : Int) + (↑a_1.j : Int)))).fdiv ((2 : Int) ^ (1 : Nat))) < (↑l.length : Int)) ∧
      ∃ (s : ByteArray),
      ∃ (n_1 : Int),
      ∃ (n_2 : Int),
      ∃ (n_3 : Int),
      CellsAt { π := m.π, sz := n, uf := m.uf : M } b
      (off + (IntKind.i64.wrap ((IntKind.u64.wrap (IntKind.i64.wrap ((↑a_1.i : Int) + (↑a_1.j : Int)))).fdiv ((2 : Int) ^ (1 : Nat)))).toNat * (4 : Nat))
      [Value.string s, Value.int IntKind.i64 n_1, Value.int IntKind.i64 n_2, Value.int IntKind.i64 n_3] ∧
      ∃ (n_4 : Int),
      QSpec Try.prog (64 : FuncId)
      [Value.agg #[Value.string s, Value.int IntKind.i64 n_1, Value.int IntKind.i64 n_2, Value.int IntKind.i64 n_3], Value.string nd]
      { π := m.π, sz := n, uf := m.uf : M } (Value.int IntKind.i64 n_4) ∧
      ifB (decide (n_4 < (0 : Int)))
      (∃ (a' : ttBsX),
      ((a'.i ≤ p ∧ p ≤ a'.j ∧ a'.j ≤ l.length) ∧
      { π := m.π, sz := n, uf := m.uf : M } = { π := m.π, sz := n, uf := m.uf : M } ∧
      ((SV.val
      (Value.int IntKind.i64
      (IntKind.i64.wrap
      (IntKind.i64.wrap ((IntKind.u64.wrap (IntKind.i64.wrap ((↑a_1.i : Int) + (↑a_1.j : Int)))).fdiv ((2 : Int) ^ (1 : Nat))) +
      (1 : Int)))) =
      SV.val (Value.int IntKind.i64 (↑a'.i : Int)) ∧
      true = true) ∧
      (SV.val (Value.int IntKind.i64 (↑a_1.j : Int)) = SV.val (Value.int IntKind.i64 (↑a'.j : Int)) ∧ true = true) ∧
      (SV.val (Value.int IntKind.i64 (↑l.length : Int)) = SV.val (Value.int IntKind.i64 (↑l.length : Int)) ∧ true = true) ∧
      (SV.val (Value.slice a l.length c) = SV.val (Value.slice a l.length c) ∧ true = true) ∧
      (SV.val (Value.string nd) = SV.val (Value.string nd) ∧ true = true) ∧
      (SV.val (Value.func (Fn.func (64 : FuncId)) #[] #[]) = SV.val (Value.func (Fn.func (64 : FuncId)) #[] #[]) ∧ true = true) ∧
      True) ∧
      True) ∧
      a'.j - a'.i < a_1.j - a_1.i)
      (∃ (a' : ttBsX),
      ((a'.i ≤ p ∧ p ≤ a'.j ∧ a'.j ≤ l.length) ∧
      { π := m.π, sz := n, uf := m.uf : M } = { π := m.π, sz := n, uf := m.uf : M } ∧
      ((SV.val (Value.int IntKind.i64 (↑a_1.i : Int)) = SV.val (Value.int IntKind.i64 (↑a'.i : Int)) ∧ true = true) ∧
      (SV.val
      (Value.int IntKind.i64
      (IntKind.i64.wrap ((IntKind.u64.wrap (IntKind.i64.wrap ((↑a_1.i : Int) + (↑a_1.j : Int)))).fdiv ((2 : Int) ^ (1 : Nat))))) =
      SV.val (Value.int IntKind.i64 (↑a'.j : Int)) ∧
      true = true) ∧
      (SV.val (Value.int IntKind.i64 (↑l.length : Int)) = SV.val (Value.int IntKind.i64 (↑l.length : Int)) ∧ true = true) ∧
      (SV.val (Value.slice a l.length c) = SV.val (Value.slice a l.length c) ∧ true = true) ∧
      (SV.val (Value.string nd) = SV.val (Value.string nd) ∧ true = true) ∧
      (SV.val (Value.func (Fn.func (64 : FuncId)) #[] #[]) = SV.val (Value.func (Fn.func (64 : FuncId)) #[] #[]) ∧ true = true) ∧
      True) ∧
      True) ∧
      a'.j - a'.i < a_1.j - a_1.i))
      (ifB (decide ((↑a_1.i : Int) < (↑l.length : Int)))
      (∃ (b : Nat),
      ∃ (off : Nat),
      a = some { block := b, off := off : Addr } ∧
      ((0 : Int) ≤ (↑a_1.i : Int) ∧ (↑a_1.i : Int) < (↑l.length : Int)) ∧
      ∃ (s : ByteArray),
      ∃ (n_1 : Int),
      ∃ (n_2 : Int),
      ∃ (n_3 : Int),
      CellsAt { π := m.π, sz := n, uf := m.uf : M } b (off + (↑a_1.i : Int).toNat * (4 : Nat))
      [Value.string s, Value.int IntKind.i64 n_1, Value.int IntKind.i64 n_2, Value.int IntKind.i64 n_3] ∧
      ∃ (n_4 : Int),
      QSpec Try.prog (64 : FuncId)
      [Value.agg #[Value.string s, Value.int IntKind.i64 n_1, Value.int IntKind.i64 n_2, Value.int IntKind.i64 n_3], Value.string nd]
      { π := m.π, sz := n, uf := m.uf : M } (Value.int IntKind.i64 n_4) ∧
      Done
      (Value.tuple #[Value.int IntKind.i64 (↑a_1.i : Int), Value.bool (n_4 == (0 : Int))] =
      Value.tuple #[Value.int IntKind.i64 (↑p : Int), Value.bool (Option.any (fun (x : Tt) => decide (f x = (0 : Int))) l[p]?)]))
      (Done
      (Value.tuple #[Value.int IntKind.i64 (↑a_1.i : Int), Value.bool false] =
      Value.tuple #[Value.int IntKind.i64 (↑p : Int), Value.bool (Option.any (fun (x : Tt) => decide (f x = (0 : Int))) l[p]?)])))) (by kernel_rfl) ?_
  have h' := h.sz hn'
  have hk : ∀ x, (encTt x).length = 4 := fun _ => rfl
  have hcell : ∀ k (hlt : k < l.length), ∃ b o, a = some ⟨b, o, none⟩ ∧ CellsAt { m with sz := n } b (o + k * 4) (encTt l[k]) := fun k hlt => by
    obtain ⟨b, o, e, hc⟩ := h'.cells (by rw [flat_len hk]; omega)
    exact ⟨b, o, e, CellsAt.elem hk l o k hlt hc⟩
  refine ⟨rfl, ⟨⟨0, l.length⟩, ⟨Nat.zero_le _, hp, Nat.le_refl _⟩, by simp⟩, fun y ⟨g1, g2, g3⟩ => ifB_intro (fun hb => ?_) (fun hb => ?_)⟩
  · have hij : y.i < y.j := by simp at hb; omega
    have wm : IntKind.i64.wrap ((IntKind.u64.wrap (IntKind.i64.wrap ((y.i : Int) + (y.j : Int)))).fdiv (2 ^ 1)) = (((y.i + y.j) / 2 : Nat) : Int) := by
      rw [Int.fdiv_eq_ediv_of_nonneg _ (by decide)]
      simp [IntKind.wrap_i64, IntKind.wrap_u64]; omega
    have hm : (y.i + y.j) / 2 < l.length := by omega
    obtain ⟨b, o, rfl, hc⟩ := hcell _ hm
    have w1 : IntKind.i64.wrap ((((y.i + y.j) / 2 : Nat) : Int) + 1) = (((y.i + y.j) / 2 + 1 : Nat) : Int) := by simp [IntKind.wrap_i64]; omega
    rw [wm, w1]
    simp only [Int.toNat_natCast]
    refine ⟨b, o, rfl, by omega, _,_,_,_, hc, _, hf _ (List.getElem_mem hm) _, ifB_intro (fun hb2 => ?_) (fun hb2 => ?_)⟩
    · have hlt : f l[(y.i + y.j) / 2] < 0 := by simpa using hb2
      have : (y.i + y.j) / 2 < p := by
        rcases Nat.lt_or_ge ((y.i + y.j) / 2) p with h | h
        · exact h
        · have := h2 _ hm h; omega
      exact ⟨⟨(y.i + y.j) / 2 + 1, y.j⟩, ⟨⟨by simp only; omega, g2, g3⟩, by simp⟩, by simp only; omega⟩
    · have hlt : ¬ f l[(y.i + y.j) / 2] < 0 := by simpa using hb2
      have : p ≤ (y.i + y.j) / 2 := by
        rcases Nat.lt_or_ge ((y.i + y.j) / 2) p with h | h
        · exact absurd (h1 _ hm h) hlt
        · exact h
      exact ⟨⟨y.i, (y.i + y.j) / 2⟩, ⟨⟨g1, by simp only; omega, by simp only; omega⟩, by simp⟩, by simp only; omega⟩
  · have hij : y.i = p := by simp at hb; omega
    rw [hij]
    refine ifB_intro (fun hb2 => ?_) (fun hb2 => ⟨?_⟩)
    · have hlt : p < l.length := by simp at hb2; omega
      obtain ⟨b, o, rfl, hc⟩ := hcell p hlt
      refine ⟨b, o, rfl, by omega, _,_,_,_, by simpa using hc, _, hf _ (List.getElem_mem hlt) _, ⟨?_⟩⟩
      rw [List.getElem?_eq_getElem hlt]
      rfl
    · have hlt : l.length ≤ p := by simp at hb2; omega
      rw [List.getElem?_eq_none hlt]
      rfl

end Go.Proofs.Ytbhlhnkjmncloaa
set_option linter.unusedVariables false
set_option linter.unusedSimpArgs false
namespace Go.Proofs.Ytbhlhnkjmncloaa
open Go.Vc Go.RowKit
set_option maxRecDepth 100000

theorem tt_insert (a : Option Addr) (c : Nat) (l : List Tt) (i vb vo vc : Nat) (x : Tt) (S : Nat → Prop) (hn : l.length ≤ 3518437208870) (hi : i ≤ l.length) (m : M) (h : NewR m.sz S m 4 a l.length c (l.flatMap encTt)) (hS : l ≠ [] → ∀ b o, a = some ⟨b, o, none⟩ → b ≠ vb) (hvlt : vb < m.sz) (hu : m.uf vb) (hv : CellsAt m vb vo (encTt x)) :
    SpecW Try.prog 54 [.slice a l.length c, I i, .slice (some ⟨vb, vo, none⟩) 1 vc] m S fun v m' => ∃ a' c', v = .slice a' (l.length + 1) c' ∧ NewR m.sz S m' 4 a' (l.length + 1) c' ((l.take i ++ x :: l.drop i).flatMap encTt) := by
  refine SpecW.of_vc Try.func54 (ann := noAnn) ?_
  refine vc_by (X :=
      true = true ∧
      (true = true ∧ (0 : Int) ≤ (↑i : Int) ∧ (↑i : Int) ≤ (↑l.length : Int) ∧ True ∧ True) ∧
      ifB ((↑i : Int) == (↑l.length : Int))
      (∃ (old : List Value),
      ∃ (src : List Value),
      AppPre m.sz S m (4 : Nat) (40 : Nat) a l.length c (some { block := vb, off := vo : Addr }) (1 : Nat) old src ∧
      ∀ (a' : Option Addr) (c' : Nat) (m' : M),
      AppPost Try.prog (29 : Nat) m (4 : Nat) a l.length c (1 : Nat) old src a' c' m' →
      Done
      (∃ (a'_1 : Option Addr),
      ∃ (c'_1 : Nat),
      Value.slice a' (l.length + (1 : Nat)) c' = Value.slice a'_1 (l.length + (1 : Nat)) c'_1 ∧
      NewR m.sz S m' (4 : Nat) a'_1 (l.length + (1 : Nat)) c'_1 (List.flatMap encTt (List.take i l ++ x :: List.drop i l))))
      (ifB (decide (IntKind.i64.wrap ((↑l.length : Int) + (↑(1 : Nat) : Int)) > (↑c : Int)))
      ((true = true ∧ (0 : Int) ≤ (0 : Int) ∧ (0 : Int) ≤ (↑i : Int) ∧ (↑i : Int) ≤ (↑c : Int) ∧ True) ∧
      ∃ (old : List Value),
      ((0 : Int) ≤ IntKind.i64.wrap (IntKind.i64.wrap ((↑l.length : Int) + (↑(1 : Nat) : Int)) - (↑i : Int)) ∧
      AppPreZ Try.prog (29 : Nat) m.sz S m (4 : Nat) (40 : Nat) (if (↑c : Int).toNat = (0 : Nat) then a else Option.map (fun (x : Addr) => x) a)
      ((↑i : Int).toNat - (0 : Nat)) ((↑c : Int).toNat - (0 : Nat)) (IntKind.i64.wrap (IntKind.i64.wrap ((↑l.length : Int) + (↑(1 : Nat) : Int)) - (↑i : Int))).toNat
      old) ∧
      ∀ (a' : Option Addr) (c' : Nat) (m' : M),
      AppPost Try.prog (29 : Nat) m (4 : Nat) (if (↑c : Int).toNat = (0 : Nat) then a else Option.map (fun (x : Addr) => x) a) ((↑i : Int).toNat - (0 : Nat))
      ((↑c : Int).toNat - (0 : Nat)) (IntKind.i64.wrap (IntKind.i64.wrap ((↑l.length : Int) + (↑(1 : Nat) : Int)) - (↑i : Int))).toNat old
      (zeroRow Try.prog (29 : Nat) (IntKind.i64.wrap (IntKind.i64.wrap ((↑l.length : Int) + (↑(1 : Nat) : Int)) - (↑i : Int))).toNat) a' c' m' →
      (true = true ∧
      (0 : Int) ≤ (↑i : Int) ∧
      (↑i : Int) ≤ (↑((↑i : Int).toNat - (0 : Nat) + (IntKind.i64.wrap (IntKind.i64.wrap ((↑l.length : Int) + (↑(1 : Nat) : Int)) - (↑i : Int))).toNat) : Int) ∧
      True ∧ True) ∧
      ∃ (src : List Value),
      CopyPre m.sz S m' (4 : Nat)
      (if (↑c' : Int).toNat = (↑i : Int).toNat then a' else Option.map (fun (x : Addr) => x.add ((↑i : Int).toNat * Try.prog.types[(29 : Nat)].size)) a')
      ((↑((↑i : Int).toNat - (0 : Nat) + (IntKind.i64.wrap (IntKind.i64.wrap ((↑l.length : Int) + (↑(1 : Nat) : Int)) - (↑i : Int))).toNat) : Int).toNat -
      (↑i : Int).toNat)
      (some { block := vb, off := vo : Addr }) (1 : Nat) src ∧
      ∀ (m'_1 : M),
      CopyPost m'
      (if (↑c' : Int).toNat = (↑i : Int).toNat then a' else Option.map (fun (x : Addr) => x.add ((↑i : Int).toNat * Try.prog.types[(29 : Nat)].size)) a')
      src m'_1 →
      true = true ∧
      (true = true ∧
      (0 : Int) ≤ IntKind.i64.wrap ((↑i : Int) + (↑(1 : Nat) : Int)) ∧
      IntKind.i64.wrap ((↑i : Int) + (↑(1 : Nat) : Int)) ≤
      (↑((↑i : Int).toNat - (0 : Nat) + (IntKind.i64.wrap (IntKind.i64.wrap ((↑l.length : Int) + (↑(1 : Nat) : Int)) - (↑i : Int))).toNat) :
      Int) ∧
      True ∧ True) ∧
      (true = true ∧ (0 : Int) ≤ (↑i : Int) ∧ (↑i : Int) ≤ (↑l.length : Int) ∧ True ∧ True) ∧
      (∃ (src : List Value),
      CopyPre m.sz S m'_1 (4 : Nat)
      (if (↑c' : Int).toNat = (IntKind.i64.wrap ((↑i : Int) + (↑(1 : Nat) : Int))).toNat then a'
      else
      Option.map (fun (x : Addr) => x.add ((IntKind.i64.wrap ((↑i : Int) + (↑(1 : Nat) : Int))).toNat * Try.prog.types[(29 : Nat)].size)) a')
      ((↑((↑i : Int).toNat - (0 : Nat) + (IntKind.i64.wrap (IntKind.i64.wrap ((↑l.length : Int) + (↑(1 : Nat) : Int)) - (↑i : Int))).toNat) :
      Int).toNat -
      (IntKind.i64.wrap ((↑i : Int) + (↑(1 : Nat) : Int))).toNat)
      (if (↑c : Int).toNat = (↑i : Int).toNat then a
      else Option.map (fun (x : Addr) => x.add ((↑i : Int).toNat * Try.prog.types[(29 : Nat)].size)) a)
      ((↑l.length : Int).toNat - (↑i : Int).toNat) src ∧
      ∀ (m' : M),
      CopyPost m'_1
      (if (↑c' : Int).toNat = (IntKind.i64.wrap ((↑i : Int) + (↑(1 : Nat) : Int))).toNat then a'
      else
      Option.map (fun (x : Addr) => x.add ((IntKind.i64.wrap ((↑i : Int) + (↑(1 : Nat) : Int))).toNat * Try.prog.types[(29 : Nat)].size))
      a')
      src m' →
      Done
      (∃ (a'_1 : Option Addr),
      ∃ (c'_1 : Nat),
      Value.slice a'
      ((↑i : Int).toNat - (0 : Nat) +
      (IntKind.i64.wrap (IntKind.i64.wrap ((↑l.length : Int) + (↑(1 : Nat) : Int)) - (↑i : Int))).toNat)
      c' =
      Value.slice a'_1 (l.length + (1 : Nat)) c'_1 ∧
      NewR m.sz S m' (4 : Nat) a'_1 (l.length + (1 : Nat)) c'_1 (List.flatMap encTt (List.take i l ++ x :: List.drop i l)))) ∧
      True)
      ((true = true ∧
      (0 : Int) ≤ (0 : Int) ∧
      (0 : Int) ≤ IntKind.i64.wrap ((↑l.length : Int) + (↑(1 : Nat) : Int)) ∧ IntKind.i64.wrap ((↑l.length : Int) + (↑(1 : Nat) : Int)) ≤ (↑c : Int) ∧ True) ∧
      (true = true ∧
      (0 : Int) ≤ IntKind.i64.wrap ((↑i : Int) + (↑(1 : Nat) : Int)) ∧
      IntKind.i64.wrap ((↑i : Int) + (↑(1 : Nat) : Int)) ≤ (↑((IntKind.i64.wrap ((↑l.length : Int) + (↑(1 : Nat) : Int))).toNat - (0 : Nat)) : Int) ∧ True ∧ True) ∧
      ∃ (b : Bool),
      RunV Try.prog (66 : Nat)
      [Value.slice (some { block := vb, off := vo : Addr }) (1 : Nat) vc,
      Value.slice
      (if (↑((↑c : Int).toNat - (0 : Nat)) : Int).toNat = (IntKind.i64.wrap ((↑i : Int) + (↑(1 : Nat) : Int))).toNat then
      if (↑c : Int).toNat = (0 : Nat) then a else Option.map (fun (x : Addr) => x) a
      else
      Option.map (fun (x : Addr) => x.add ((IntKind.i64.wrap ((↑i : Int) + (↑(1 : Nat) : Int))).toNat * Try.prog.types[(29 : Nat)].size))
      (if (↑c : Int).toNat = (0 : Nat) then a else Option.map (fun (x : Addr) => x) a))
      ((↑((IntKind.i64.wrap ((↑l.length : Int) + (↑(1 : Nat) : Int))).toNat - (0 : Nat)) : Int).toNat - (IntKind.i64.wrap ((↑i : Int) + (↑(1 : Nat) : Int))).toNat)
      ((↑((↑c : Int).toNat - (0 : Nat)) : Int).toNat - (IntKind.i64.wrap ((↑i : Int) + (↑(1 : Nat) : Int))).toNat)]
      m (Value.bool b) ∧
      ifB (!b)
      (true = true ∧
      (true = true ∧
      (0 : Int) ≤ IntKind.i64.wrap ((↑i : Int) + (↑(1 : Nat) : Int)) ∧
      IntKind.i64.wrap ((↑i : Int) + (↑(1 : Nat) : Int)) ≤ (↑((IntKind.i64.wrap ((↑l.length : Int) + (↑(1 : Nat) : Int))).toNat - (0 : Nat)) : Int) ∧
      True ∧ True) ∧
      (true = true ∧ (0 : Int) ≤ (↑i : Int) ∧ (↑i : Int) ≤ (↑((IntKind.i64.wrap ((↑l.length : Int) + (↑(1 : Nat) : Int))).toNat - (0 : Nat)) : Int) ∧ True ∧ True) ∧
      (∃ (src : List Value),
      CopyPre m.sz S m (4 : Nat)
      (if (↑((↑c : Int).toNat - (0 : Nat)) : Int).toNat = (IntKind.i64.wrap ((↑i : Int) + (↑(1 : Nat) : Int))).toNat then
      if (↑c : Int).toNat = (0 : Nat) then a else Option.map (fun (x : Addr) => x) a
      else
      Option.map (fun (x : Addr) => x.add ((IntKind.i64.wrap ((↑i : Int) + (↑(1 : Nat) : Int))).toNat * Try.prog.types[(29 : Nat)].size))
      (if (↑c : Int).toNat = (0 : Nat) then a else Option.map (fun (x : Addr) => x) a))
      ((↑((IntKind.i64.wrap ((↑l.length : Int) + (↑(1 : Nat) : Int))).toNat - (0 : Nat)) : Int).toNat -
      (IntKind.i64.wrap ((↑i : Int) + (↑(1 : Nat) : Int))).toNat)
      (if (↑((↑c : Int).toNat - (0 : Nat)) : Int).toNat = (↑i : Int).toNat then
      if (↑c : Int).toNat = (0 : Nat) then a else Option.map (fun (x : Addr) => x) a
      else
      Option.map (fun (x : Addr) => x.add ((↑i : Int).toNat * Try.prog.types[(29 : Nat)].size))
      (if (↑c : Int).toNat = (0 : Nat) then a else Option.map (fun (x : Addr) => x) a))
      ((↑((IntKind.i64.wrap ((↑l.length : Int) + (↑(1 : Nat) : Int))).toNat - (0 : Nat)) : Int).toNat - (↑i : Int).toNat) src ∧
      ∀ (m' : M),
      CopyPost m
      (if (↑((↑c : Int).toNat - (0 : Nat)) : Int).toNat = (IntKind.i64.wrap ((↑i : Int) + (↑(1 : Nat) : Int))).toNat then
      if (↑c : Int).toNat = (0 : Nat) then a else Option.map (fun (x : Addr) => x) a
      else
      Option.map (fun (x : Addr) => x.add ((IntKind.i64.wrap ((↑i : Int) + (↑(1 : Nat) : Int))).toNat * Try.prog.types[(29 : Nat)].size))
      (if (↑c : Int).toNat = (0 : Nat) then a else Option.map (fun (x : Addr) => x) a))
      src m' →
      (true = true ∧
      (0 : Int) ≤ (↑i : Int) ∧
      (↑i : Int) ≤ (↑((IntKind.i64.wrap ((↑l.length : Int) + (↑(1 : Nat) : Int))).toNat - (0 : Nat)) : Int) ∧ True ∧ True) ∧
      ∃ (src : List Value),
      CopyPre m.sz S m' (4 : Nat)
      (if (↑((↑c : Int).toNat - (0 : Nat)) : Int).toNat = (↑i : Int).toNat then
      if (↑c : Int).toNat = (0 : Nat) then a else Option.map (fun (x : Addr) => x) a
      else
      Option.map (fun (x : Addr) => x.add ((↑i : Int).toNat * Try.prog.types[(29 : Nat)].size))
      (if (↑c : Int).toNat = (0 : Nat) then a else Option.map (fun (x : Addr) => x) a))
      ((↑((IntKind.i64.wrap ((↑l.length : Int) + (↑(1 : Nat) : Int))).toNat - (0 : Nat)) : Int).toNat - (↑i : Int).toNat)
      (some { block := vb, off := vo : Addr }) (1 : Nat) src ∧
      ∀ (m'_1 : M),
      CopyPost m'
      (if (↑((↑c : Int).toNat - (0 : Nat)) : Int).toNat = (↑i : Int).toNat then
      if (↑c : Int).toNat = (0 : Nat) then a else Option.map (fun (x : Addr) => x) a
      else
      Option.map (fun (x : Addr) => x.add ((↑i : Int).toNat * Try.prog.types[(29 : Nat)].size))
      (if (↑c : Int).toNat = (0 : Nat) then a else Option.map (fun (x : Addr) => x) a))
      src m'_1 →
      Done
      (∃ (a' : Option Addr),
      ∃ (c' : Nat),
      Value.slice (if (↑c : Int).toNat = (0 : Nat) then a else Option.map (fun (x : Addr) => x) a)
      ((IntKind.i64.wrap ((↑l.length : Int) + (↑(1 : Nat) : Int))).toNat - (0 : Nat)) ((↑c : Int).toNat - (0 : Nat)) =
      Value.slice a' (l.length + (1 : Nat)) c' ∧
      NewR m.sz S m'_1 (4 : Nat) a' (l.length + (1 : Nat)) c' (List.flatMap encTt (List.take i l ++ x :: List.drop i l)))) ∧
      True)
      ((true = true ∧
      (0 : Int) ≤ (↑l.length : Int) ∧ (↑l.length : Int) ≤ (↑((IntKind.i64.wrap ((↑l.length : Int) + (↑(1 : Nat) : Int))).toNat - (0 : Nat)) : Int) ∧ True ∧ True) ∧
      ∃ (src : List Value),
      CopyPre m.sz S m (4 : Nat)
      (if (↑((↑c : Int).toNat - (0 : Nat)) : Int).toNat = (↑l.length : Int).toNat then
      if (↑c : Int).toNat = (0 : Nat) then a else Option.map (fun (x : Addr) => x) a
      else
      Option.map (fun (x : Addr) => x.add ((↑l.length : Int).toNat * Try.prog.types[(29 : Nat)].size))
      (if (↑c : Int).toNat = (0 : Nat) then a else Option.map (fun (x : Addr) => x) a))
      ((↑((IntKind.i64.wrap ((↑l.length : Int) + (↑(1 : Nat) : Int))).toNat - (0 : Nat)) : Int).toNat - (↑l.length : Int).toNat)
      (some { block := vb, off := vo : Addr }) (1 : Nat) src ∧
      ∀ (m' : M),
      CopyPost m
      (if (↑((↑c : Int).toNat - (0 : Nat)) : Int).toNat = (↑l.length : Int).toNat then
      if (↑c : Int).toNat = (0 : Nat) then a else Option.map (fun (x : Addr) => x) a
      else
      Option.map (fun (x : Addr) => x.add ((↑l.length : Int).toNat * Try.prog.types[(29 : Nat)].size))
      (if (↑c : Int).toNat = (0 : Nat) then a else Option.map (fun (x : Addr) => x) a))
      src m' →
      (true = true ∧
      (0 : Int) ≤ (↑i : Int) ∧ (↑i : Int) ≤ (↑((IntKind.i64.wrap ((↑l.length : Int) + (↑(1 : Nat) : Int))).toNat - (0 : Nat)) : Int) ∧ True ∧ True) ∧
      ∃ (S' : Nat → Prop),
      (∀ (b : Nat), S' b → m'.uf b ∧ (m.sz ≤ b ∨ S b)) ∧
      ∀ (n : Nat),
      m'.sz ≤ n →
      SpecW Try.prog (67 : Nat)
      [Value.slice
      (if (↑((↑c : Int).toNat - (0 : Nat)) : Int).toNat = (↑i : Int).toNat then
      if (↑c : Int).toNat = (0 : Nat) then a else Option.map (fun (x : Addr) => x) a
      else
      Option.map (fun (x : Addr) => x.add ((↑i : Int).toNat * Try.prog.types[(29 : Nat)].size))
      (if (↑c : Int).toNat = (0 : Nat) then a else Option.map (fun (x : Addr) => x) a))
      ((↑((IntKind.i64.wrap ((↑l.length : Int) + (↑(1 : Nat) : Int))).toNat - (0 : Nat)) : Int).toNat - (↑i : Int).toNat)
      ((↑((↑c : Int).toNat - (0 : Nat)) : Int).toNat - (↑i : Int).toNat),
      Value.int IntKind.i64 (↑(1 : Nat) : Int)]
      { π := m'.π, sz := n, uf := m'.uf : M } S' fun (v : Value) (m' : M) =>
      v = Value.tuple #[] ∧
      Done
      (∃ (a' : Option Addr),
      ∃ (c' : Nat),
      Value.slice (if (↑c : Int).toNat = (0 : Nat) then a else Option.map (fun (x : Addr) => x) a)
      ((IntKind.i64.wrap ((↑l.length : Int) + (↑(1 : Nat) : Int))).toNat - (0 : Nat)) ((↑c : Int).toNat - (0 : Nat)) =
      Value.slice a' (l.length + (1 : Nat)) c' ∧
      NewR m.sz S m' (4 : Nat) a' (l.length + (1 : Nat)) c' (List.flatMap encTt (List.take i l ++ x :: List.drop i l))))))) (by kernel_rfl) ?_
  have hk : ∀ x, (encTt x).length = 4 := fun _ => rfl
  have w1 : IntKind.i64.wrap ((l.length : Int) + ((1 : Nat) : Int)) = ((l.length + 1 : Nat) : Int) := by simp [IntKind.wrap_i64]; omega
  have w2 : IntKind.i64.wrap (((l.length + 1 : Nat) : Int) - (i : Int)) = ((l.length + 1 - i : Nat) : Int) := by simp [IntKind.wrap_i64]; omega
  have w3 : IntKind.i64.wrap ((i : Int) + ((1 : Nat) : Int)) = ((i + 1 : Nat) : Int) := by simp [IntKind.wrap_i64]; omega
  have es : Try.prog.types[29].size = 4 := by kernel_rfl
  simp only [w1, w2, w3, es, Int.toNat_natCast, Nat.sub_zero, Option.map_id_fun', id_eq, ite_self]
  have zl : ∀ k, (zeroRow Try.prog 29 k).length = k * 4 := zrLen (by kernel_rfl)
  have z1 : ∀ k, oneCells (zeroRow Try.prog 29 k) = true := zrOne (by kernel_rfl)
  have o1 : ∀ y : List Tt, oneCells (y.flatMap encTt) = true := fun y => by
    rw [oneCells_iff]; intro v hv
    obtain ⟨w, -, hw⟩ := List.mem_flatMap.1 hv
    exact oneCells_iff.1 (rfl : oneCells (encTt w) = true) v hw
  have hvr : Row m (some ⟨vb, vo, none⟩) (encTt x) := .at _ _ _ hvlt hv
  have eres : (l.take i ++ x :: l.drop i).flatMap encTt = (l.take i).flatMap encTt ++ (encTt x ++ (l.drop i).flatMap encTt) := by
    rw [List.flatMap_append, List.flatMap_cons]
  rw [eres]
  refine ⟨trivial, ⟨trivial, by omega, by omega, trivial, trivial⟩, ifB_intro (fun hb => ?_) (fun hb => ?_)⟩
  · have hil : i = l.length := by simp at hb; omega
    subst hil
    refine ⟨_, _, h.appPre hvr (hk x) rfl (by omega), fun a' c' m' hp => ⟨⟨a', c', rfl, ?_⟩⟩⟩
    have := h.append hp (hk x) zl (Nat.le_refl _)
    rw [List.take_length, List.drop_length, List.flatMap_nil, List.append_nil]
    exact this
  have hil : i < l.length := by simp at hb; omega
  have ho := h.toOwn (by omega)
  obtain ⟨b, o, rfl, -⟩ := ho.row.cells (by rw [flat_len hk]; omega)
  have hcl := ho.capLe
  have hbv := hS (fun e => by subst e; simp at hil) b o rfl
  have hTl : ((l.take i).flatMap encTt).length = i * 4 := by rw [flat_len hk, List.length_take]; congr 1; omega
  have hDl : ((l.drop i).flatMap encTt).length = (l.length - i) * 4 := by rw [flat_len hk, List.length_drop]
  have hne : some (⟨b, o, none⟩ : Addr) ≠ none := by simp
  have hci : c ≠ i := by omega
  rw [flat_cut l i] at ho
  generalize hT : (l.take i).flatMap encTt = T at *
  generalize hD : (l.drop i).flatMap encTt = D at *
  refine ifB_intro (fun hc => ?_) (fun hc => ?_)
  · have hcl2 : c = l.length := by simp at hc; omega
    refine ⟨⟨trivial, by omega, by omega, by omega, trivial⟩, T, ⟨by omega, ⟨ho.row.take.rowAt, hTl, zl _, z1 _, by decide, by omega, (fun e => by cases e), fun _ hr => by omega⟩⟩, fun a' c' m' hp => ⟨⟨trivial, by omega, by omega, trivial, trivial⟩, ?_⟩⟩
    rcases hp with ⟨hr, -⟩ | ⟨-, b', hb', hc', rfl, rfl⟩
    · omega
    have hbb : b ≠ b' := by have := ho.lt rfl; omega
    have hvb : vb ≠ b' := by omega
    have e1 : i + (l.length + 1 - i) = l.length + 1 := by omega
    generalize hz : zeroRow Try.prog 29 (l.length + 1 - i) = z at *
    have hzl : z.length = (l.length + 1 - i) * 4 := by rw [← hz, zl]
    have zs : z = z.take 4 ++ z.drop 4 := (List.take_append_drop _ _).symm
    have zt : (z.take 4).length = 4 := by rw [List.length_take, hzl]; omega
    have zd : (z.drop 4).length = (l.length - i) * 4 := by rw [List.length_drop, hzl]; omega
    have q1 : OwnB m.sz S (m.newBlock b' (T ++ z ++ zeroRow Try.prog 29 (c' - (i + (l.length + 1 - i))))) 4 (some ⟨b', 0, none⟩) (l.length + 1) c' (T ++ (z.take 4 ++ z.drop 4)) := by
      rw [← zs]
      exact OwnB.new hb' (by rw [List.length_append, hTl, hzl]; omega) (by rw [zl]; congr 1; omega) (by omega)
    obtain ⟨g1, q2⟩ := q1.set (new := encTt x) (by rw [zt]; exact hk x)
    rw [hTl] at g1 q2
    have q2' : OwnB m.sz S ((m.newBlock b' (T ++ z ++ zeroRow Try.prog 29 (c' - (i + (l.length + 1 - i))))).setCells b' (0 + i * 4) (encTt x)) 4 (some ⟨b', 0, none⟩) (l.length + 1) c' ((T ++ encTt x) ++ (z.drop 4 ++ [])) := by
      rw [show (T ++ encTt x) ++ (z.drop 4 ++ []) = T ++ (encTt x ++ z.drop 4) by rw [List.append_nil, List.append_assoc]]; exact q2
    obtain ⟨g2, q3⟩ := q2'.set (new := D) (by rw [zd, hDl])
    have el : (T ++ encTt x).length = (i + 1) * 4 := by rw [List.length_append, hTl, hk]; omega
    rw [el] at g2 q3
    refine ⟨encTt x, copyPre (sub_addr (by omega)) (hvr.newBlock hb').rowAt (by rw [hk]; omega) rfl g1 (by simp), fun m1 hp1 => ?_⟩
    have hm1 := hp1.atc (sub_addr (by omega))
    subst hm1
    have hDr : Row ((m.newBlock b' (T ++ z ++ zeroRow Try.prog 29 (c' - (i + (l.length + 1 - i))))).setCells b' (0 + i * 4) (encTt x)) (some ⟨b, o + i * 4, none⟩) D := by
      have h1 := ho.row.drop hTl
      rw [show (some (⟨b, o, none⟩ : Addr)).map (fun x => x.add (i * 4)) = some ⟨b, o + i * 4, none⟩ from by show some (Addr.add _ _) = _; rw [add_none]] at h1
      exact (h1.newBlock hb').of (Nat.le_refl _) fun b2 o2 e2 _ => setCells_other (by cases e2; exact hbb)
    refine ⟨trivial, ⟨trivial, by omega, by omega, trivial, trivial⟩, ⟨trivial, by omega, by omega, trivial, trivial⟩, ⟨D, copyPre (sub_addr (by omega)) (by rw [sub_addr hci]; exact hDr.rowAt) (by rw [hDl]; congr 1; omega) (by rw [← hD]; exact o1 _) g2 (by rw [sub_addr hci]; simp), fun m2 hp2 => ?_⟩, trivial⟩
    have hm2 := hp2.atc (sub_addr (by omega))
    subst hm2
    refine ⟨⟨_, c', by rw [e1], .own ?_⟩⟩
    rw [show (T ++ encTt x) ++ (D ++ []) = T ++ (encTt x ++ D) by rw [List.append_nil, List.append_assoc]] at q3
    exact q3
  · have hcl2 : l.length + 1 ≤ c := by simp at hc; omega
    have hi1 : c ≠ i + 1 := by omega
    have hov : RunV Try.prog 66 [.slice (some ⟨vb, vo, none⟩) 1 vc, .slice (some ⟨b, o + (i + 1) * 4, none⟩) (l.length + 1 - (i + 1)) (c - (i + 1))] m (.bool false) :=
      over_run Try.func66 (by kernel_rfl) (by kernel_rfl) (by kernel_rfl) (t := 22) (tR := 4) (by kernel_rfl) Try.underlying22 (i := Try.prog.types[29]) (by kernel_rfl) (Ne.symm hbv) hu (ho.uf rfl) (by
        obtain ⟨b2, o2, e2, hcell⟩ := ho.row.cells (by rw [List.length_append, hTl, hDl]; omega)
        cases e2
        have h0 := hcell.out 0 (by rw [List.length_append, hTl, hDl]; omega)
        rw [List.getElem?_eq_getElem (by rw [List.length_append, hTl, hDl]; omega)] at h0
        exact ⟨_, _, h0⟩)
    cases ho with
    | «at» b o len cap cs rest lo lt uf hcells hl hr hc' =>
    have rs : rest = rest.take 4 ++ rest.drop 4 := (List.take_append_drop _ _).symm
    have rt : (rest.take 4).length = 4 := by rw [List.length_take, hr]; omega
    have rd : (rest.drop 4).length = (c - (l.length + 1)) * 4 := by rw [List.length_drop, hr]; omega
    have ds : D = D.take 4 ++ D.drop 4 := (List.take_append_drop _ _).symm
    have dt : (D.take 4).length = 4 := by rw [List.length_take, hDl]; omega
    have dd : (D.drop 4).length = (l.length - (i + 1)) * 4 := by rw [List.length_drop, hDl]; omega
    have q1 : OwnB m.sz S m 4 (some ⟨b, o, none⟩) (l.length + 1) c ((T ++ D.take 4) ++ ((D.drop 4 ++ rest.take 4) ++ [])) := by
      refine .at b o _ _ _ (rest.drop 4) lo lt uf ?_ (by simp only [List.length_append, List.length_nil, hTl, dt, dd, rt]; omega) rd hcl2
      have e1 : T ++ D.take 4 ++ ((D.drop 4 ++ rest.take 4) ++ []) ++ rest.drop 4 = T ++ D ++ rest := by
        conv => rhs; rw [ds, rs]
        simp only [List.append_assoc, List.append_nil]
      rw [e1]; exact hcells
    obtain ⟨g1, q2⟩ := q1.set (new := D) (by rw [List.length_append, dd, rt, hDl]; omega)
    have el : (T ++ D.take 4).length = (i + 1) * 4 := by rw [List.length_append, hTl, dt]; omega
    rw [el] at g1 q2
    rw [show (T ++ D.take 4) ++ (D ++ []) = T ++ (D.take 4 ++ D) by rw [List.append_nil, List.append_assoc]] at q2
    obtain ⟨g2, q3⟩ := q2.set (new := encTt x) (by rw [dt]; exact hk x)
    rw [hTl] at g2 q3
    have hDr : RowAt m (some ⟨b, o + i * 4, none⟩) D := by
      have := hcells.take.drop
      rw [hTl] at this
      exact .inr ⟨b, _, rfl, this⟩
    refine ⟨⟨trivial, by omega, by omega, by omega, trivial⟩, ⟨trivial, by omega, by omega, trivial, trivial⟩, false, by rw [sub_addr hi1]; exact hov, ifB_true ⟨trivial, ⟨trivial, by omega, by omega, trivial, trivial⟩, ⟨trivial, by omega, by omega, trivial, trivial⟩, ⟨D, copyPre (sub_addr hi1) (by rw [sub_addr hci]; exact hDr) (by rw [hDl]; congr 1; omega) (by rw [← hD]; exact o1 _) g1 (by rw [sub_addr hci]; simp), fun m1 hp1 => ?_⟩, trivial⟩⟩
    have hm1 := hp1.atc (sub_addr hi1)
    subst hm1
    refine ⟨⟨trivial, by omega, by omega, trivial, trivial⟩, encTt x, copyPre (sub_addr hci) (Row.of (m' := m.setCells b (o + (i + 1) * 4) D) hvr (Nat.le_refl _) fun b2 o2 e2 _ => setCells_other (by cases e2; exact Ne.symm hbv)).rowAt (by rw [hk]; omega) rfl g2 (by simp), fun m2 hp2 => ?_⟩
    have hm2 := hp2.atc (sub_addr hci)
    subst hm2
    exact ⟨⟨_, c, rfl, .own q3⟩⟩

end Go.Proofs.Ytbhlhnkjmncloaa
set_option linter.unusedVariables false
set_option linter.unusedSimpArgs false
namespace Go.Proofs.Ytbhlhnkjmncloaa
open Go.Vc Go.RowKit
set_option maxRecDepth 100000

theorem tt_delete (a : Option Addr) (c : Nat) (l : List Tt) (i : Nat) (S : Nat → Prop) (hn : l.length ≤ 3518437208870) (hi : i < l.length) (m : M) (h : OwnB m.sz S m 4 a l.length c (l.flatMap encTt)) :
    SpecW Try.prog 53 [.slice a l.length c, I i, I ((i + 1 : Nat) : Int)] m S fun v m' => v = .slice a (l.length - 1) c ∧ OwnB m.sz S m' 4 a (l.length - 1) c ((l.take i ++ l.drop (i + 1)).flatMap encTt) := by
  refine SpecW.of_vc Try.func53 (ann := noAnn) ?_
  refine vc_by (X :=
      true = true ∧
      (true = true ∧ (0 : Int) ≤ (↑i : Int) ∧ (↑i : Int) ≤ (↑(i + (1 : Nat)) : Int) ∧ (↑(i + (1 : Nat)) : Int) ≤ (↑l.length : Int) ∧ (↑l.length : Int) ≤ (↑c : Int)) ∧
      ifB ((↑i : Int) == (↑(i + (1 : Nat)) : Int))
      (Done
      (Value.slice a l.length c = Value.slice a (l.length - (1 : Nat)) c ∧
      OwnB m.sz S m (4 : Nat) a (l.length - (1 : Nat)) c (List.flatMap encTt (List.take i l ++ List.drop (i + (1 : Nat)) l))))
      (true = true ∧
      (true = true ∧ (0 : Int) ≤ (0 : Int) ∧ (0 : Int) ≤ (↑i : Int) ∧ (↑i : Int) ≤ (↑c : Int) ∧ True) ∧
      (true = true ∧ (0 : Int) ≤ (↑(i + (1 : Nat)) : Int) ∧ (↑(i + (1 : Nat)) : Int) ≤ (↑l.length : Int) ∧ True ∧ True) ∧
      (∃ (old : List Value),
      ∃ (src : List Value),
      AppPre m.sz S m (4 : Nat) (40 : Nat) (if (↑c : Int).toNat = (0 : Nat) then a else Option.map (fun (x : Addr) => x) a) ((↑i : Int).toNat - (0 : Nat))
      ((↑c : Int).toNat - (0 : Nat))
      (if (↑c : Int).toNat = (↑(i + (1 : Nat)) : Int).toNat then a
      else Option.map (fun (x : Addr) => { block := x.block, off := x.off + (↑(i + (1 : Nat)) : Int).toNat * (4 : Nat) : Addr }) a)
      ((↑l.length : Int).toNat - (↑(i + (1 : Nat)) : Int).toNat) old src ∧
      ∀ (a' : Option Addr) (c' : Nat) (m' : M),
      AppPost Try.prog (29 : Nat) m (4 : Nat) (if (↑c : Int).toNat = (0 : Nat) then a else Option.map (fun (x : Addr) => x) a) ((↑i : Int).toNat - (0 : Nat))
      ((↑c : Int).toNat - (0 : Nat)) ((↑l.length : Int).toNat - (↑(i + (1 : Nat)) : Int).toNat) old src a' c' m' →
      (true = true ∧
      (0 : Int) ≤ (↑((↑i : Int).toNat - (0 : Nat) + ((↑l.length : Int).toNat - (↑(i + (1 : Nat)) : Int).toNat)) : Int) ∧
      (↑((↑i : Int).toNat - (0 : Nat) + ((↑l.length : Int).toNat - (↑(i + (1 : Nat)) : Int).toNat)) : Int) ≤ (↑l.length : Int) ∧
      (↑l.length : Int) ≤ (↑c' : Int) ∧ True) ∧
      true = true ∧
      ((↑l.length : Int).toNat - (↑((↑i : Int).toNat - (0 : Nat) + ((↑l.length : Int).toNat - (↑(i + (1 : Nat)) : Int).toNat)) : Int).toNat ≠ (0 : Nat) →
      ∃ (b : Nat),
      ∃ (o : Nat),
      (if (↑c' : Int).toNat = (↑((↑i : Int).toNat - (0 : Nat) + ((↑l.length : Int).toNat - (↑(i + (1 : Nat)) : Int).toNat)) : Int).toNat then a'
      else
      Option.map
      (fun (x : Addr) =>
      x.add
      ((↑((↑i : Int).toNat - Int.toNat (0 : Int) + ((↑l.length : Int).toNat - (↑(i + (1 : Nat)) : Int).toNat)) : Int).toNat *
      Try.prog.types[(29 : Nat)].size))
      a') =
      some { block := b, off := o : Addr } ∧
      Wr m.sz S m' b o
      (((↑l.length : Int).toNat - (↑((↑i : Int).toNat - (0 : Nat) + ((↑l.length : Int).toNat - (↑(i + (1 : Nat)) : Int).toNat)) : Int).toNat) *
      (4 : Nat))) ∧
      ∀ (m'_1 : M),
      CopyPost m'
      (if (↑c' : Int).toNat = (↑((↑i : Int).toNat - (0 : Nat) + ((↑l.length : Int).toNat - (↑(i + (1 : Nat)) : Int).toNat)) : Int).toNat then a'
      else
      Option.map
      (fun (x : Addr) =>
      x.add
      ((↑((↑i : Int).toNat - Int.toNat (0 : Int) + ((↑l.length : Int).toNat - (↑(i + (1 : Nat)) : Int).toNat)) : Int).toNat *
      Try.prog.types[(29 : Nat)].size))
      a')
      (zeroRow Try.prog (29 : Nat)
      ((↑l.length : Int).toNat - (↑((↑i : Int).toNat - (0 : Nat) + ((↑l.length : Int).toNat - (↑(i + (1 : Nat)) : Int).toNat)) : Int).toNat))
      m'_1 →
      Done
      (Value.slice a' ((↑i : Int).toNat - (0 : Nat) + ((↑l.length : Int).toNat - (↑(i + (1 : Nat)) : Int).toNat)) c' =
      Value.slice a (l.length - (1 : Nat)) c ∧
      OwnB m.sz S m'_1 (4 : Nat) a (l.length - (1 : Nat)) c (List.flatMap encTt (List.take i l ++ List.drop (i + (1 : Nat)) l)))) ∧
      True)) (by kernel_rfl) ?_
  have hk : ∀ x, (encTt x).length = 4 := fun _ => rfl
  have es : Try.prog.types[29].size = 4 := by kernel_rfl
  have zl : ∀ k, (zeroRow Try.prog 29 k).length = k * 4 := zrLen (by kernel_rfl)
  have e0 : i - Int.toNat 0 + (l.length - (i + 1)) = l.length - 1 := by simp; omega
  have e1 : i + (l.length - (i + 1)) = l.length - 1 := by omega
  have e2 : l.length - (l.length - 1) = 1 := by omega
  simp only [es, Int.toNat_natCast, Nat.sub_zero, Option.map_id_fun', id_eq, ite_self, e0, e1, e2]
  have hcl := h.capLe
  have hTl : ((l.take i).flatMap encTt).length = i * 4 := by rw [flat_len hk, List.length_take]; congr 1; omega
  have hDl : ((l.drop (i + 1)).flatMap encTt).length = (l.length - (i + 1)) * 4 := by rw [flat_len hk, List.length_drop]
  have hD1 : oneCells ((l.drop (i + 1)).flatMap encTt) = true := by
    rw [oneCells_iff]; intro v hv
    obtain ⟨w, -, hw⟩ := List.mem_flatMap.1 hv
    exact oneCells_iff.1 (rfl : oneCells (encTt w) = true) v hw
  obtain ⟨b, o, rfl, hcells⟩ := h.row.cells (by rw [flat_len hk]; omega)
  rw [List.flatMap_append]
  rw [flat_split l i hi] at h hcells
  generalize hT : (l.take i).flatMap encTt = T at *
  generalize hD : (l.drop (i + 1)).flatMap encTt = D at *
  have hEl := hk l[i]
  generalize hE : encTt l[i] = E at *
  have hED : (E ++ D).length = D.length + 4 := by rw [List.length_append, hEl]; omega
  have hX : E ++ D = (E ++ D).take D.length ++ (E ++ D).drop D.length := (List.take_append_drop _ _).symm
  have hXl : ((E ++ D).take D.length).length = D.length := by rw [List.length_take, hED]; omega
  have hZl : ((E ++ D).drop D.length).length = 4 := by rw [List.length_drop, hED]; omega
  have q1 : OwnB m.sz S m 4 (some ⟨b, o, none⟩) l.length c (T ++ ((E ++ D).take D.length ++ (E ++ D).drop D.length)) := by rw [← hX]; exact h
  obtain ⟨g1, q2⟩ := q1.set (new := D) hXl.symm
  rw [hTl] at g1 q2
  have q3 : OwnB m.sz S (m.setCells b (o + i * 4) D) 4 (some ⟨b, o, none⟩) l.length c ((T ++ D) ++ (E ++ D).drop D.length) := by rw [List.append_assoc]; exact q2
  have hTD : (T ++ D).length = (l.length - 1) * 4 := by rw [List.length_append, hTl, hDl]; omega
  obtain ⟨g3, q4⟩ := q3.overTail (i := l.length - 1) (new := zeroRow Try.prog 29 1) hTD (by omega) (by rw [zl, hZl])
  rw [zl] at g3
  have hsub : c ≠ l.length - 1 := by omega
  refine ⟨trivial, ⟨trivial, by omega, by omega, by omega, by omega⟩, ifB_intro (fun hb => ?_) (fun _ => ⟨trivial, ⟨trivial, by omega, by omega, by omega, trivial⟩, ⟨trivial, by omega, by omega, trivial, trivial⟩, ⟨T, D, ⟨?_, hTl, ?_, hDl, hD1, by omega, (fun e => by cases e), fun hn0 _ => ⟨b, o, rfl, ?_⟩⟩, fun a' c' m' hp => ?_⟩, trivial⟩)⟩
  · exfalso; simp at hb; omega
  · exact .inr ⟨b, o, rfl, hcells.take⟩
  · by_cases hci : c = i + 1
    · refine .inl (List.eq_nil_of_length_eq_zero ?_)
      rw [hDl]
      have : l.length - (i + 1) = 0 := by omega
      rw [this, Nat.zero_mul]
    · rw [if_neg hci]
      have hdd := hcells.drop.drop
      rw [hTl, hEl] at hdd
      refine .inr ⟨b, o + (i + 1) * 4, rfl, ?_⟩
      rw [show o + (i + 1) * 4 = o + i * 4 + 4 by omega]
      exact hdd
  · have hne : D.length = (l.length - (i + 1)) * 4 := hDl
    rw [← hne]
    exact g1
  · have hm' : a' = some ⟨b, o, none⟩ ∧ c' = c ∧ m' = m.setCells b (o + i * 4) D := by
      rcases hp with ⟨-, rfl, rfl, ⟨h0, rfl⟩ | ⟨b', o', e, rfl⟩⟩ | ⟨hlt, -⟩
      · have : D = [] := List.eq_nil_of_length_eq_zero (by rw [hDl, h0, Nat.zero_mul])
        rw [this, setCells_nil]
        exact ⟨rfl, rfl, rfl⟩
      · cases e; exact ⟨rfl, rfl, rfl⟩
      · omega
    obtain ⟨rfl, rfl, rfl⟩ := hm'
    refine ⟨⟨trivial, by omega, by omega, by omega, trivial⟩, trivial, fun _ => ⟨b, _, sub_addr hsub, g3⟩, fun m2 hp2 => ⟨⟨rfl, ?_⟩⟩⟩
    rw [hp2.atc (sub_addr hsub)]
    exact q4

end Go.Proofs.Ytbhlhnkjmncloaa
set_option linter.unusedVariables false
set_option linter.unusedSimpArgs false
namespace Go.Proofs.Ytbhlhnkjmncloaa
open Go.Vc Go.RowKit
set_option maxRecDepth 100000

theorem wplace_q (a : Option Addr) (cp : Nat) (l : List Tt) (k : ByteArray) (hn : l.length ≤ 3518437208870) (ht : totB none l = true) (m : M) (h : Row m a (tts l)) : QSpec Try.prog 51 [.slice a l.length cp, .string k] m (.tuple #[I (ttP l (zT k)), .bool (ofT l (zT k)).isSome]) := by
  refine QSpec.of_vc Try.func51 (ann := fun _ => noAnn) fun n hn' => ?_
  refine vc_by (X :=
      true = true ∧
      ∃ (n_1 : Int),
      ∃ (b : Bool),
      QSpec Try.prog (63 : Nat) [Value.slice a l.length cp, Value.string k, Value.func (Fn.func (64 : Nat)) #[] #[]] { π := m.π, sz := n, uf := m.uf : M }
      (Value.tuple #[Value.int IntKind.i64 n_1, Value.bool b]) ∧
      Done (Value.tuple #[Value.int IntKind.i64 n_1, Value.bool b] = Value.tuple #[Value.int IntKind.i64 (↑(ttP l (zT k)) : Int), Value.bool (ofT l (zT k)).isSome])) (by kernel_rfl) ?_
  have hbs := tt_bsearch a cp l k (fun x => ordT x (zT k)) (ttP l (zT k)) (by omega) { m with sz := n } (h.sz hn') (fun x _ m'' => wplace1_q x k m'') (ttP_le l _) (fun j hj hp => by
      have := ttP_lt ht j hj hp
      rw [ordT_bel, this]; simp) (fun j hj hp => by
      have := ttP_ge ht j hj hp
      show (0 : Int) ≤ ordT l[j] (zT k)
      rw [ordT_bel, this]
      by_cases h5 : sameT l[j] (zT k) = true <;> simp [h5])
  rw [ttP_of ht] at hbs
  exact ⟨rfl, _, _, hbs, ⟨rfl⟩⟩

theorem wfind_q (a : Option Addr) (cp : Nat) (l : List Tt) (k : ByteArray) (hn : l.length ≤ 3518437208870) (ht : totB none l = true) (m : M) (h : Row m a (tts l)) : QSpec Try.prog 35 [.slice a l.length cp, .string k] m (ttv (fndT l k)) := by
  refine QSpec.of_vc Try.func35 (ann := fun _ => noAnn) fun n hn' => ?_
  refine vc_by (X :=
      true = true ∧
      ∃ (n_1 : Int),
      ∃ (b : Bool),
      QSpec Try.prog (51 : Nat) [Value.slice a l.length cp, Value.string k] { π := m.π, sz := n, uf := m.uf : M } (Value.tuple #[Value.int IntKind.i64 n_1, Value.bool b]) ∧
      ifB b
      (∃ (b : Nat),
      ∃ (off : Nat),
      a = some { block := b, off := off : Addr } ∧
      ((0 : Int) ≤ n_1 ∧ n_1 < (↑l.length : Int)) ∧
      ∃ (s : ByteArray),
      ∃ (n_2 : Int),
      ∃ (n_3 : Int),
      ∃ (n_4 : Int),
      CellsAt { π := m.π, sz := n, uf := m.uf : M } b (off + n_1.toNat * (4 : Nat))
      [Value.string s, Value.int IntKind.i64 n_2, Value.int IntKind.i64 n_3, Value.int IntKind.i64 n_4] ∧
      Done
      (Value.agg #[Value.string s, Value.int IntKind.i64 n_2, Value.int IntKind.i64 n_3, Value.int IntKind.i64 n_4] =
      Value.agg
      #[Value.string (fndT l k).ky, Value.int IntKind.i64 (fndT l k).sp_lo, Value.int IntKind.i64 (fndT l k).sp_hi,
      Value.int IntKind.i64 (fndT l k).va]))
      (Done
      (Value.agg #[Value.string k, Value.int IntKind.i64 (0 : Int), Value.int IntKind.i64 (0 : Int), Value.int IntKind.i64 (0 : Int)] =
      Value.agg #[Value.string (fndT l k).ky, Value.int IntKind.i64 (fndT l k).sp_lo, Value.int IntKind.i64 (fndT l k).sp_hi, Value.int IntKind.i64 (fndT l k).va]))) (by kernel_rfl) ?_
  have h' := h.sz hn'
  refine ⟨rfl, _, _, wplace_q a cp l k hn ht _ h', ?_⟩
  cases ho : ofT l (zT k) with
  | none => exact ifB_false ⟨by rw [show fndT l k = zT k by simp [fndT, ho]]; rfl⟩
  | some z =>
    obtain ⟨hk, hz, -⟩ := ttP_at ht ho
    obtain ⟨b, o, rfl, hc⟩ := h'.cells (by rw [tt_len]; omega)
    have e := tt_at hc hk
    rw [hz] at e
    exact ifB_true ⟨b, o, rfl, by omega, _, _, _, _, by simpa using e, ⟨by simp [fndT, ho]⟩⟩

theorem wwith_s (a : Option Addr) (cp : Nat) (l : List Tt) (x : Tt) (hn : l.length ≤ 3518437208870) (ht : totB none l = true) (m : M) (h : Row m a (tts l)) : Vc.Spec Try.prog 37 [.slice a l.length cp, ttv x] m fun v m' => ∃ a' c', v = .slice a' (setT l x).length c' ∧ Row m' a' (tts (setT l x)) := by
  refine Vc.Spec.of_vc Try.func37 (ann := noAnn) ?_
  refine vc_by (X :=
      true = true ∧
      ∃ (n : Int),
      ∃ (b : Bool),
      QSpec Try.prog (51 : Nat) [Value.slice a l.length cp, Value.string x.ky] m (Value.tuple #[Value.int IntKind.i64 n, Value.bool b]) ∧
      ∃ (S' : Nat → Prop),
      (∀ (b : Nat), S' b → m.uf b ∧ (m.sz ≤ b ∨ False)) ∧
      ∀ (n_1 : Nat),
      m.sz ≤ n_1 →
      SpecW Try.prog (34 : Nat) [Value.slice a l.length cp] { π := m.π, sz := n_1, uf := m.uf : M } S' fun (v : Value) (m' : M) =>
      ∃ (a : Option Addr),
      ∃ (n_2 : Nat),
      ∃ (c : Nat),
      v = Value.slice a n_2 c ∧
      ifB b
      (∃ (b_1 : Bool),
      QSpec Try.prog (44 : Nat) [Value.agg #[Value.string x.ky, Value.int IntKind.i64 x.sp_lo, Value.int IntKind.i64 x.sp_hi, Value.int IntKind.i64 x.va]]
      m' (Value.bool b_1) ∧
      ifB b_1
      (∃ (S' : Nat → Prop),
      (∀ (b : Nat), S' b → m'.uf b ∧ (m.sz ≤ b ∨ False)) ∧
      ∀ (n_3 : Nat),
      m'.sz ≤ n_3 →
      SpecW Try.prog (53 : Nat) [Value.slice a n_2 c, Value.int IntKind.i64 n, Value.int IntKind.i64 (IntKind.i64.wrap (n + (1 : Int)))]
      { π := m'.π, sz := n_3, uf := m'.uf : M } S' fun (v : Value) (m' : M) =>
      ∃ (a : Option Addr),
      ∃ (n : Nat),
      ∃ (c : Nat),
      v = Value.slice a n c ∧
      Done (∃ (a' : Option Addr), ∃ (c' : Nat), Value.slice a n c = Value.slice a' (setT l x).length c' ∧ Row m' a' (tts (setT l x))))
      (ifB b
      (∃ (b : Nat),
      ∃ (off : Nat),
      a = some { block := b, off := off : Addr } ∧
      ((0 : Int) ≤ n ∧ n < (↑n_2 : Int)) ∧
      Wr m.sz (fun (x : Nat) => False) m' b (off + n.toNat * (4 : Nat))
      #[Value.string x.ky, Value.int IntKind.i64 x.sp_lo, Value.int IntKind.i64 x.sp_hi, Value.int IntKind.i64 x.va].size ∧
      Done
      (∃ (a' : Option Addr),
      ∃ (c' : Nat),
      Value.slice a n_2 c = Value.slice a' (setT l x).length c' ∧
      Row
      (m'.setCells b (off + n.toNat * (4 : Nat))
      [Value.string x.ky, Value.int IntKind.i64 x.sp_lo, Value.int IntKind.i64 x.sp_hi, Value.int IntKind.i64 x.va])
      a' (tts (setT l x))))
      (∃ (b : Bool),
      QSpec Try.prog (44 : Nat)
      [Value.agg #[Value.string x.ky, Value.int IntKind.i64 x.sp_lo, Value.int IntKind.i64 x.sp_hi, Value.int IntKind.i64 x.va]] m'
      (Value.bool b) ∧
      ifB b (Done (∃ (a' : Option Addr), ∃ (c' : Nat), Value.slice a n_2 c = Value.slice a' (setT l x).length c' ∧ Row m' a' (tts (setT l x))))
      (true = true ∧
      ∀ (b : Nat),
      m'.sz ≤ b →
      ∃ (S' : Nat → Prop),
      (∀ (b_2 : Nat),
      S' b_2 →
      (m'.newBlock b
      [Value.string x.ky, Value.int IntKind.i64 x.sp_lo, Value.int IntKind.i64 x.sp_hi, Value.int IntKind.i64 x.va]).uf
      b_2 ∧
      (m.sz ≤ b_2 ∨ False)) ∧
      ∀ (n_3 : Nat),
      max m'.sz (b + (1 : Nat)) ≤ n_3 →
      SpecW Try.prog (54 : Nat)
      [Value.slice a n_2 c, Value.int IntKind.i64 n,
      Value.slice (some { block := b, off := (0 : Nat) : Addr }) (1 : Nat) (1 : Nat)]
      { π := (m'.newBlock b [Value.string x.ky, Value.int IntKind.i64 x.sp_lo, Value.int IntKind.i64 x.sp_hi, Value.int IntKind.i64 x.va]).π, sz := n_3, uf := (m'.newBlock b [Value.string x.ky, Value.int IntKind.i64 x.sp_lo, Value.int IntKind.i64 x.sp_hi, Value.int IntKind.i64 x.va]).uf : M }
      S' fun (v : Value) (m' : M) =>
      ∃ (a : Option Addr),
      ∃ (n : Nat),
      ∃ (c : Nat),
      v = Value.slice a n c ∧
      Done
      (∃ (a' : Option Addr),
      ∃ (c' : Nat), Value.slice a n c = Value.slice a' (setT l x).length c' ∧ Row m' a' (tts (setT l x)))))))
      (ifB b
      (∃ (b : Nat),
      ∃ (off : Nat),
      a = some { block := b, off := off : Addr } ∧
      ((0 : Int) ≤ n ∧ n < (↑n_2 : Int)) ∧
      Wr m.sz (fun (x : Nat) => False) m' b (off + n.toNat * (4 : Nat))
      #[Value.string x.ky, Value.int IntKind.i64 x.sp_lo, Value.int IntKind.i64 x.sp_hi, Value.int IntKind.i64 x.va].size ∧
      Done
      (∃ (a' : Option Addr),
      ∃ (c' : Nat),
      Value.slice a n_2 c = Value.slice a' (setT l x).length c' ∧
      Row
      (m'.setCells b (off + n.toNat * (4 : Nat))
      [Value.string x.ky, Value.int IntKind.i64 x.sp_lo, Value.int IntKind.i64 x.sp_hi, Value.int IntKind.i64 x.va])
      a' (tts (setT l x))))
      (∃ (b : Bool),
      QSpec Try.prog (44 : Nat) [Value.agg #[Value.string x.ky, Value.int IntKind.i64 x.sp_lo, Value.int IntKind.i64 x.sp_hi, Value.int IntKind.i64 x.va]]
      m' (Value.bool b) ∧
      ifB b (Done (∃ (a' : Option Addr), ∃ (c' : Nat), Value.slice a n_2 c = Value.slice a' (setT l x).length c' ∧ Row m' a' (tts (setT l x))))
      (true = true ∧
      ∀ (b : Nat),
      m'.sz ≤ b →
      ∃ (S' : Nat → Prop),
      (∀ (b_1 : Nat),
      S' b_1 →
      (m'.newBlock b [Value.string x.ky, Value.int IntKind.i64 x.sp_lo, Value.int IntKind.i64 x.sp_hi, Value.int IntKind.i64 x.va]).uf
      b_1 ∧
      (m.sz ≤ b_1 ∨ False)) ∧
      ∀ (n_3 : Nat),
      max m'.sz (b + (1 : Nat)) ≤ n_3 →
      SpecW Try.prog (54 : Nat)
      [Value.slice a n_2 c, Value.int IntKind.i64 n, Value.slice (some { block := b, off := (0 : Nat) : Addr }) (1 : Nat) (1 : Nat)]
      { π := (m'.newBlock b [Value.string x.ky, Value.int IntKind.i64 x.sp_lo, Value.int IntKind.i64 x.sp_hi, Value.int IntKind.i64 x.va]).π, sz := n_3, uf := (m'.newBlock b [Value.string x.ky, Value.int IntKind.i64 x.sp_lo, Value.int IntKind.i64 x.sp_hi, Value.int IntKind.i64 x.va]).uf : M }
      S' fun (v : Value) (m' : M) =>
      ∃ (a : Option Addr),
      ∃ (n : Nat),
      ∃ (c : Nat),
      v = Value.slice a n c ∧
      Done
      (∃ (a' : Option Addr),
      ∃ (c' : Nat), Value.slice a n c = Value.slice a' (setT l x).length c' ∧ Row m' a' (tts (setT l x))))))) (by kernel_rfl) ?_
  have hple := ttP_le l x
  have ez : ttP l (zT x.ky) = ttP l x := rfl
  have eo : ofT l (zT x.ky) = ofT l x := rfl
  refine ⟨rfl, _, _, wplace_q a cp l x.ky hn ht _ h, _, noS, fun N hN => (tt_clone l a cp (by omega) (tt_none h) _ (h.sz hN)).monoW fun v m' hag ⟨a', c', hv, hr'⟩ => ⟨a', _, c', hv, ?_⟩⟩
  rw [ez, eo]
  cases ho : ofT l x with
  | none =>
    refine ifB_false (ifB_false ⟨_, wplain_q x _, ifB_intro (fun h1 => ⟨a', c', ?_, ?_⟩) (fun h1 => ⟨rfl, fun b hb => ?_⟩)⟩)
    · rw [← ttP_plain ht ho h1]
    · rw [← ttP_plain ht ho h1]; exact hr'.row
    have e := ttP_no ht ho
    rw [← setT_put h1] at e
    have hrN := hr'.newBlock (ds := encTt x) hb
    have hs := tt_insert a' c' l (ttP l x) b 0 1 x (fun b' => ∃ o, a' = some ⟨b', o, none⟩ ∧ (m'.newBlock b (encTt x)).uf b' ∧ m.sz ≤ b') (by omega) hple
    refine ⟨fun b' => ∃ o, a' = some ⟨b', o, none⟩ ∧ (m'.newBlock b (encTt x)).uf b' ∧ m.sz ≤ b', fun b' ⟨o, e, hu, hlo⟩ => ⟨hu, .inl hlo⟩, fun n hn => ?_⟩
    refine (hs { m'.newBlock b (encTt x) with sz := n } ((hrN.sz hn).re fun b' o e hu hlo => .inr ⟨o, e, hu, by rcases hlo with h | h; simp only at h; omega; exact h.elim⟩)
      (fun hne b' o e => ?_) (by simp only; omega) (.inl rfl) ⟨(cellsAt_new (m := m') (b := b) (cs := encTt x)).out⟩).mono fun v3 m3 hag3 ⟨a3, c3, hv3, hr3⟩ => ⟨a3, _, c3, hv3, ⟨a3, c3, ?_, ?_⟩⟩
    · have := (hr'.toOwn (fun e => hne (List.eq_nil_of_length_eq_zero e))).lt e
      omega
    · rw [← e]; congr 1; simp; omega
    · rw [← e]; exact hr3.row
  | some z =>
    obtain ⟨hk, hz, e⟩ := ttP_at ht ho
    have hown := (hr'.toOwn (by omega)).lower hN
    refine ifB_true ⟨_, wplain_q x _, ifB_intro (fun h1 => ?_) (fun h1 => ifB_true ?_)⟩
    · have w1 : IntKind.i64.wrap ((ttP l x : Int) + 1) = ((ttP l x + 1 : Nat) : Int) := by simp [IntKind.wrap_i64]; omega
      rw [w1]
      have e2 := ttP_del ht ho h1
      refine ⟨fun b' => ∃ o, a' = some ⟨b', o, none⟩ ∧ m'.uf b' ∧ m.sz ≤ b', fun b' ⟨o, e, hu, hlo⟩ => ⟨hu, .inl hlo⟩, fun n hn => ?_⟩
      have ho2 := ((hr'.sz hn).re (B' := n) (S' := fun b' => ∃ o, a' = some ⟨b', o, none⟩ ∧ m'.uf b' ∧ m.sz ≤ b') fun b' o e hu hlo => .inr ⟨o, e, hu, by rcases hlo with h | h; simp only at h; omega; exact h.elim⟩).toOwn (by omega)
      refine (tt_delete a' c' l (ttP l x) _ (by omega) hk _ ho2).mono fun v3 m3 hag3 ⟨hv3, hr3⟩ => ⟨_, _, _, hv3, ⟨a', c', ?_, ?_⟩⟩
      · rw [← e2]; congr 1; simp; omega
      · rw [← e2]; exact hr3.row
    · obtain ⟨b, o, rfl, hc⟩ := hown.row.cells (by rw [tt_len]; omega)
      obtain ⟨g1, g2⟩ := OwnB.setAt tt_k hown hk x
      rw [← setT_put h1] at e
      refine ⟨b, o, rfl, by omega, g1, ⟨some ⟨b, o, none⟩, c', by rw [← e]; simp, ?_⟩⟩
      rw [← e]; exact g2.row

def movB (x : Tt) (n : Int) : Bool := decide (In64 (x.va + n)) && hasB x.sp_lo x.sp_hi (x.va + n)

def movT (x : Tt) (n : Int) : Tt := { x with va := x.va + n }

def tt0 : Tt := ⟨.empty, 0, 0, 0⟩

theorem wmoved_q (x : Tt) (n : Int) (hx : In64 x.va) (hn : In64 n) (m : M) : QSpec Try.prog 36 [ttv x, I n] m (.tuple #[ttv (if movB x n then movT x n else tt0), .bool (movB x n)]) := by
  refine QSpec.of_vc Try.func36 (ann := fun _ => noAnn) fun N hn' => ?_
  refine vc_by (X :=
      true = true ∧
      ∃ (n_1 : Int),
      ∃ (n_2 : Int),
      QSpec Try.prog (52 : Nat) [Value.int IntKind.i64 x.va, Value.int IntKind.i64 n] { π := m.π, sz := N, uf := m.uf : M }
      (Value.tuple #[Value.int IntKind.i64 n_1, Value.int IntKind.i64 n_2]) ∧
      ifB (n_2 != (0 : Int))
      (Done
      (Value.tuple
      #[Value.agg #[Value.string { data := #[] : ByteArray }, Value.int IntKind.i64 (0 : Int), Value.int IntKind.i64 (0 : Int), Value.int IntKind.i64 (0 : Int)],
      Value.bool false] =
      Value.tuple
      #[Value.agg
      #[Value.string (if movB x n = true then movT x n else tt0).ky, Value.int IntKind.i64 (if movB x n = true then movT x n else tt0).sp_lo,
      Value.int IntKind.i64 (if movB x n = true then movT x n else tt0).sp_hi, Value.int IntKind.i64 (if movB x n = true then movT x n else tt0).va],
      Value.bool (movB x n)]))
      (∃ (b : Bool),
      QSpec Try.prog (38 : Nat) [Value.agg #[Value.int IntKind.i64 x.sp_lo, Value.int IntKind.i64 x.sp_hi], Value.int IntKind.i64 n_1] { π := m.π, sz := N, uf := m.uf : M }
      (Value.bool b) ∧
      ifB (!b)
      (Done
      (Value.tuple
      #[Value.agg #[Value.string { data := #[] : ByteArray }, Value.int IntKind.i64 (0 : Int), Value.int IntKind.i64 (0 : Int), Value.int IntKind.i64 (0 : Int)],
      Value.bool false] =
      Value.tuple
      #[Value.agg
      #[Value.string (if movB x n = true then movT x n else tt0).ky, Value.int IntKind.i64 (if movB x n = true then movT x n else tt0).sp_lo,
      Value.int IntKind.i64 (if movB x n = true then movT x n else tt0).sp_hi, Value.int IntKind.i64 (if movB x n = true then movT x n else tt0).va],
      Value.bool (movB x n)]))
      (Done
      (Value.tuple #[Value.agg #[Value.string x.ky, Value.int IntKind.i64 x.sp_lo, Value.int IntKind.i64 x.sp_hi, Value.int IntKind.i64 n_1], Value.bool true] =
      Value.tuple
      #[Value.agg
      #[Value.string (if movB x n = true then movT x n else tt0).ky, Value.int IntKind.i64 (if movB x n = true then movT x n else tt0).sp_lo,
      Value.int IntKind.i64 (if movB x n = true then movT x n else tt0).sp_hi, Value.int IntKind.i64 (if movB x n = true then movT x n else tt0).va],
      Value.bool (movB x n)])))) (by kernel_rfl) ?_
  refine ⟨rfl, _, _, add_q _ _ hx hn _, ?_⟩
  by_cases hin : In64 (x.va + n)
  · simp only [addE, addV, hin, if_true]
    refine ifB_false ⟨_, has_q _ _ _ _, ifB_intro (fun h => ⟨?_⟩) (fun h => ⟨?_⟩)⟩
    · have h : hasB x.sp_lo x.sp_hi (x.va + n) = false := by simpa using h
      have : movB x n = false := by simp [movB, h]
      rw [this]; rfl
    · have h : hasB x.sp_lo x.sp_hi (x.va + n) = true := by simpa using h
      have : movB x n = true := by simp [movB, h, hin]
      rw [this]; rfl
  · simp only [addE, addV, hin, if_false]
    have : movB x n = false := by simp [movB, hin]
    rw [this]
    exact ifB_true ⟨rfl⟩

theorem rmore_q (x : Tt) (n : Int) (hx : In64 x.va) (hn : In64 n) (m : M) : QSpec Try.prog 41 [ttv x, wide (x.va + n)] m (.tuple #[ttv (if movB x n then movT x n else x), .bool (movB x n)]) := by
  refine QSpec.of_vc Try.func41 (ann := fun _ => noAnn) fun N hn' => ?_
  refine vc_by (X :=
      true = true ∧
      ∃ (n_1 : Int),
      ∃ (b : Bool),
      QSpec Try.prog (56 : Nat) [Value.agg #[Value.int IntKind.i64 (wideHi (x.va + n)), Value.int IntKind.u64 (wideLo (x.va + n))]] { π := m.π, sz := N, uf := m.uf : M }
      (Value.tuple #[Value.int IntKind.i64 n_1, Value.bool b]) ∧
      ifB (!b)
      (Done
      (Value.tuple #[Value.agg #[Value.string x.ky, Value.int IntKind.i64 x.sp_lo, Value.int IntKind.i64 x.sp_hi, Value.int IntKind.i64 x.va], Value.bool false] =
      Value.tuple
      #[Value.agg
      #[Value.string (if movB x n = true then movT x n else x).ky, Value.int IntKind.i64 (if movB x n = true then movT x n else x).sp_lo,
      Value.int IntKind.i64 (if movB x n = true then movT x n else x).sp_hi, Value.int IntKind.i64 (if movB x n = true then movT x n else x).va],
      Value.bool (movB x n)]))
      (∃ (b : Bool),
      QSpec Try.prog (32 : Nat) [Value.agg #[Value.int IntKind.i64 x.sp_lo, Value.int IntKind.i64 x.sp_hi], Value.int IntKind.i64 n_1] { π := m.π, sz := N, uf := m.uf : M }
      (Value.bool b) ∧
      ifB (!b)
      (Done
      (Value.tuple #[Value.agg #[Value.string x.ky, Value.int IntKind.i64 x.sp_lo, Value.int IntKind.i64 x.sp_hi, Value.int IntKind.i64 x.va], Value.bool false] =
      Value.tuple
      #[Value.agg
      #[Value.string (if movB x n = true then movT x n else x).ky, Value.int IntKind.i64 (if movB x n = true then movT x n else x).sp_lo,
      Value.int IntKind.i64 (if movB x n = true then movT x n else x).sp_hi, Value.int IntKind.i64 (if movB x n = true then movT x n else x).va],
      Value.bool (movB x n)]))
      (Done
      (Value.tuple #[Value.agg #[Value.string x.ky, Value.int IntKind.i64 x.sp_lo, Value.int IntKind.i64 x.sp_hi, Value.int IntKind.i64 n_1], Value.bool true] =
      Value.tuple
      #[Value.agg
      #[Value.string (if movB x n = true then movT x n else x).ky, Value.int IntKind.i64 (if movB x n = true then movT x n else x).sp_lo,
      Value.int IntKind.i64 (if movB x n = true then movT x n else x).sp_hi, Value.int IntKind.i64 (if movB x n = true then movT x n else x).va],
      Value.bool (movB x n)])))) (by kernel_rfl) ?_
  have hx' := hx
  have hn2 := hn
  unfold In64 at hx' hn2
  refine ⟨rfl, _, _, int_q _ (by omega) (by omega) _, ?_⟩
  by_cases hin : In64 (x.va + n)
  · have w : IntKind.i64.wrap (x.va + n) = x.va + n := by unfold In64 at hin; simp [IntKind.wrap_i64]; omega
    rw [w]
    simp only [hin, decide_true, Bool.not_true]
    refine ifB_false ⟨_, rhas_q _ _ _ _, ifB_intro (fun h => ⟨?_⟩) (fun h => ⟨?_⟩)⟩
    · have h : hasB x.sp_lo x.sp_hi (x.va + n) = false := by simpa using h
      have : movB x n = false := by simp [movB, h]
      rw [this]; rfl
    · have h : hasB x.sp_lo x.sp_hi (x.va + n) = true := by simpa using h
      have : movB x n = true := by simp [movB, h, hin]
      rw [this]; rfl
  · simp only [hin, decide_false, Bool.not_false]
    have : movB x n = false := by simp [movB, hin]
    rw [this]
    exact ifB_true ⟨rfl⟩

theorem rofk_q (a : Option Addr) (cp : Nat) (l : List Tt) (k : ByteArray) (hn : l.length ≤ 9223372036854775807) (m : M) (h : Row m a (tts l)) : QSpec Try.prog 40 [.slice a l.length cp, .string k] m (ttv (fndT l k)) := by
  refine QSpec.of_vc Try.func40 (ann := fun n _ => { A := Nat, inv := fun k' => k' ≤ l.length ∧ ∀ x ∈ l.take k', sameT x (zT k) = false, st := fun k' => [(5, .val (I k')), (0, .val (.slice a l.length cp)), (1, .val (.string k)), (4, .own 0 0)], own := fun _ => [(0, ⟨29, encTt tt0⟩)], m := fun _ => { m with sz := n }, μ := fun k' => l.length - k' }) fun n hn' => ?_
  refine vc_by (X :=
      true = true ∧
      (∃ (a_1 : Nat),
      (a_1 ≤ l.length ∧ ∀ (x : Tt), x ∈ List.take a_1 l → sameT x (zT k) = false) ∧
      { π := m.π, sz := n, uf := m.uf : M } = { π := m.π, sz := n, uf := m.uf : M } ∧
      ((SV.val (Value.int IntKind.i64 (0 : Int)) = SV.val (Value.int IntKind.i64 (↑a_1 : Int)) ∧ true = true) ∧
      (SV.val (Value.slice a l.length cp) = SV.val (Value.slice a l.length cp) ∧ true = true) ∧
      (SV.val (Value.string k) = SV.val (Value.string k) ∧ true = true) ∧ (SV.own ((0 : Nat) + (0 : Nat)) (0 : Nat) = SV.own (0 : Nat) (0 : Nat) ∧ true = true) ∧ True) ∧
      (some
      { ty := (29 : Nat), cs := [Value.string { data := #[] : ByteArray }, Value.int IntKind.i64 (0 : Int), Value.int IntKind.i64 (0 : Int), Value.int IntKind.i64 (0 : Int)] : Bx } =
      some
      { ty := (29 : TypeId), cs := [Value.string ByteArray.empty, Value.int IntKind.i64 (0 : Int), Value.int IntKind.i64 (0 : Int), Value.int IntKind.i64 (0 : Int)] : Bx } ∧
      true = true) ∧
      True) ∧
      ∀ (a_1 : Nat),
      (a_1 ≤ l.length ∧ ∀ (x : Tt), x ∈ List.take a_1 l → sameT x (zT k) = false) →
      ifB (decide ((↑a_1 : Int) < (↑l.length : Int)))
      (∃ (b : Nat),
      ∃ (off : Nat),
      a = some { block := b, off := off : Addr } ∧
      ((0 : Int) ≤ (↑a_1 : Int) ∧ (↑a_1 : Int) < (↑l.length : Int)) ∧
      ∃ (s : ByteArray),
      CellsAt { π := m.π, sz := n, uf := m.uf : M } b (off + (↑a_1 : Int).toNat * (4 : Nat) + (0 : Nat)) [Value.string s] ∧
      ifB (s.toList == k.toList)
      (∃ (b : Nat),
      ∃ (off : Nat),
      a = some { block := b, off := off : Addr } ∧
      ((0 : Int) ≤ (↑a_1 : Int) ∧ (↑a_1 : Int) < (↑l.length : Int)) ∧
      ∃ (s : ByteArray),
      ∃ (n_1 : Int),
      ∃ (n_2 : Int),
      ∃ (n_3 : Int),
      CellsAt { π := m.π, sz := n, uf := m.uf : M } b (off + (↑a_1 : Int).toNat * (4 : Nat))
      [Value.string s, Value.int IntKind.i64 n_1, Value.int IntKind.i64 n_2, Value.int IntKind.i64 n_3] ∧
      Done
      (Value.agg #[Value.string s, Value.int IntKind.i64 n_1, Value.int IntKind.i64 n_2, Value.int IntKind.i64 n_3] =
      Value.agg
      #[Value.string (fndT l k).ky, Value.int IntKind.i64 (fndT l k).sp_lo, Value.int IntKind.i64 (fndT l k).sp_hi,
      Value.int IntKind.i64 (fndT l k).va]))
      (∃ (a' : Nat),
      ((a' ≤ l.length ∧ ∀ (x : Tt), x ∈ List.take a' l → sameT x (zT k) = false) ∧
      { π := m.π, sz := n, uf := m.uf : M } = { π := m.π, sz := n, uf := m.uf : M } ∧
      ((SV.val (Value.int IntKind.i64 (IntKind.i64.wrap ((↑a_1 : Int) + (1 : Int)))) = SV.val (Value.int IntKind.i64 (↑a' : Int)) ∧ true = true) ∧
      (SV.val (Value.slice a l.length cp) = SV.val (Value.slice a l.length cp) ∧ true = true) ∧
      (SV.val (Value.string k) = SV.val (Value.string k) ∧ true = true) ∧
      (SV.own (0 : Nat) (0 : Nat) = SV.own (0 : Nat) (0 : Nat) ∧ true = true) ∧ True) ∧
      (some
      { ty := (29 : TypeId), cs := [Value.string ByteArray.empty, Value.int IntKind.i64 (0 : Int), Value.int IntKind.i64 (0 : Int), Value.int IntKind.i64 (0 : Int)] : Bx } =
      some
      { ty := (29 : TypeId), cs := [Value.string ByteArray.empty, Value.int IntKind.i64 (0 : Int), Value.int IntKind.i64 (0 : Int), Value.int IntKind.i64 (0 : Int)] : Bx } ∧
      true = true) ∧
      True) ∧
      l.length - a' < l.length - a_1))
      (Done
      (Value.agg #[Value.string k, Value.int IntKind.i64 (0 : Int), Value.int IntKind.i64 (0 : Int), Value.int IntKind.i64 (0 : Int)] =
      Value.agg #[Value.string (fndT l k).ky, Value.int IntKind.i64 (fndT l k).sp_lo, Value.int IntKind.i64 (fndT l k).sp_hi, Value.int IntKind.i64 (fndT l k).va]))) (by kernel_rfl) ?_
  have h' := h.sz hn'
  refine ⟨rfl, ⟨0, by simp, rfl, by simp, by simp; rfl⟩, fun k' ⟨hk, hq⟩ => ifB_intro (fun hb => ?_) (fun hb => ⟨?_⟩)⟩
  · have hk2 : k' < l.length := by simpa using hb
    obtain ⟨b, o, rfl, hc⟩ := h'.cells (by rw [tt_len]; omega)
    have w1 : IntKind.i64.wrap ((k' : Int) + 1) = ((k' + 1 : Nat) : Int) := by simp [IntKind.wrap_i64]; omega
    have hc0 := CellsAt.field tt_k hc hk2 (p := []) (old := [.string l[k'].ky]) (q := [I l[k'].sp_lo, I l[k'].sp_hi, I l[k'].va]) rfl
    refine ⟨b, o, rfl, by omega, _, by simpa using hc0, ?_⟩
    rw [bytes_beq]
    refine ifB_intro (fun h1 => ⟨b, o, rfl, by omega, _, _, _, _, by simpa using tt_at hc hk2, ⟨?_⟩⟩) (fun h1 => ⟨k' + 1, ⟨⟨hk2, fun x hx => ?_⟩, rfl, by simp [w1], by simp⟩, by omega⟩)
    · have e : ofT l (zT k) = some l[k'] := by
        have e1 : l = l.take k' ++ l[k'] :: l.drop (k' + 1) := by rw [← List.drop_eq_getElem_cons hk2, List.take_append_drop]
        have e2 : (l.take k').find? (fun x => sameT x (zT k)) = none := List.find?_eq_none.2 fun x hx => by simp [hq x hx]
        have e3 : sameT l[k'] (zT k) = true := h1
        unfold ofT
        conv => lhs; rw [e1]
        rw [List.find?_append, e2, List.find?_cons, e3]; rfl
      simp [fndT, e]
    · rw [List.take_succ_eq_append_getElem hk2, List.mem_append] at hx
      rcases hx with hx | hx
      · exact hq x hx
      · have hx : x = l[k'] := by simpa using hx
        subst hx
        exact h1
  · have e : k' = l.length := by simp at hb; omega
    rw [e, List.take_length] at hq
    have : ofT l (zT k) = none := List.find?_eq_none.2 fun x hx => by simp [hq x hx]
    rw [show fndT l k = zT k by simp [fndT, this]]; rfl

def mayR (o : Oq) : Bool := keyB o.ky && decide (1 ≤ o.kd) && decide (o.kd ≤ 6) && (if o.kd = 1 ∨ o.kd = 2 then decide (1 ≤ o.n) else if o.kd = 6 then decide (1 ≤ o.n) && keyB o.ot && !decide (o.ot = o.ky) else true)

theorem ronly_q (o : Oq) (m : M) : QSpec Try.prog 55 [oqv o] m (.bool (mayR o)) := by
  refine QSpec.of_vc Try.func55 (ann := fun _ => noAnn) fun n hn => ?_
  refine vc_by (X :=
      true = true ∧
      ifB (decide (o.kd < (1 : Int))) (Done (Value.bool false = Value.bool (mayR o)))
      (ifB (decide (o.kd > (6 : Int))) (Done (Value.bool false = Value.bool (mayR o)))
      (∃ (b : Bool),
      QSpec Try.prog (31 : Nat) [Value.string o.ky] { π := m.π, sz := n, uf := m.uf : M } (Value.bool b) ∧
      ifB (!b) (Done (Value.bool false = Value.bool (mayR o)))
      (ifB (o.kd == (1 : Int))
      (ifB (decide (o.n < (1 : Int))) (Done (Value.bool false = Value.bool (mayR o)))
      (ifB (o.kd != (6 : Int)) (Done (Value.bool true = Value.bool (mayR o)))
      (∃ (b : Bool),
      QSpec Try.prog (31 : Nat) [Value.string o.ot] { π := m.π, sz := n, uf := m.uf : M } (Value.bool b) ∧
      ifB b (Done ((Value.bool !o.ot.toList == o.ky.toList) = Value.bool (mayR o))) (Done (Value.bool false = Value.bool (mayR o))))))
      (ifB (o.kd == (2 : Int))
      (ifB (decide (o.n < (1 : Int))) (Done (Value.bool false = Value.bool (mayR o)))
      (ifB (o.kd != (6 : Int)) (Done (Value.bool true = Value.bool (mayR o)))
      (∃ (b : Bool),
      QSpec Try.prog (31 : Nat) [Value.string o.ot] { π := m.π, sz := n, uf := m.uf : M } (Value.bool b) ∧
      ifB b (Done ((Value.bool !o.ot.toList == o.ky.toList) = Value.bool (mayR o))) (Done (Value.bool false = Value.bool (mayR o))))))
      (ifB (o.kd == (6 : Int))
      (ifB (decide (o.n < (1 : Int))) (Done (Value.bool false = Value.bool (mayR o)))
      (ifB (o.kd != (6 : Int)) (Done (Value.bool true = Value.bool (mayR o)))
      (∃ (b : Bool),
      QSpec Try.prog (31 : Nat) [Value.string o.ot] { π := m.π, sz := n, uf := m.uf : M } (Value.bool b) ∧
      ifB b (Done ((Value.bool !o.ot.toList == o.ky.toList) = Value.bool (mayR o))) (Done (Value.bool false = Value.bool (mayR o))))))
      (ifB (o.kd != (6 : Int)) (Done (Value.bool true = Value.bool (mayR o)))
      (∃ (b : Bool),
      QSpec Try.prog (31 : Nat) [Value.string o.ot] { π := m.π, sz := n, uf := m.uf : M } (Value.bool b) ∧
      ifB b (Done ((Value.bool !o.ot.toList == o.ky.toList) = Value.bool (mayR o))) (Done (Value.bool false = Value.bool (mayR o))))))))))) (by kernel_rfl) ?_
  refine ⟨rfl, ifB_intro (fun h1 => ⟨?_⟩) (fun h1 => ifB_intro (fun h2 => ⟨?_⟩) (fun h2 => ⟨_, rkey_q _ _, ?_⟩))⟩
  · simp at h1; simp [mayR, show ¬ 1 ≤ o.kd by omega]
  · simp at h2; simp [mayR, show ¬ o.kd ≤ 6 by omega]
  cases hk : keyB o.ky
  · exact ifB_true ⟨by simp [mayR, hk]⟩
  simp at h1 h2
  refine ifB_false (ifB_intro (fun h3 => ifB_intro (fun h4 => ⟨?_⟩) (fun h4 => ifB_intro (fun h5 => ⟨?_⟩) (fun h5 => ?_))) (fun h3 => ifB_intro (fun h6 => ifB_intro (fun h4 => ⟨?_⟩) (fun h4 => ifB_intro (fun h5 => ⟨?_⟩) (fun h5 => ?_))) (fun h6 => ifB_intro (fun h7 => ifB_intro (fun h4 => ⟨?_⟩) (fun h4 => ifB_intro (fun h5 => ?_) (fun h5 => ⟨_, rkey_q _ _, ifB_intro (fun h8 => ⟨?_⟩) (fun h8 => ⟨?_⟩)⟩))) (fun h7 => ifB_intro (fun h5 => ⟨?_⟩) (fun h5 => ?_)))))
  · simp at h3 h4; simp [mayR, h3, show ¬ 1 ≤ o.n by omega]
  · simp at h3 h4; simp [mayR, hk, h3, h4]
  · exfalso; simp at h3 h5; omega
  · simp at h6 h4; simp [mayR, h6, show ¬ 1 ≤ o.n by omega]
  · simp at h6 h4; simp [mayR, hk, h6, h4]
  · exfalso; simp at h6 h5; omega
  · simp at h7 h4; simp [mayR, h7, show ¬ 1 ≤ o.n by omega]
  · exfalso; simp at h7 h5; omega
  · simp at h7 h4; simp [mayR, hk, h7, h4, h8, bytes_beq]
  · simp at h7 h4; simp [mayR, hk, h7, h4, h8]
  · simp at h3 h6 h7; simp [mayR, hk, h3, h6, h7, h1, h2]
  · exfalso; simp at h7 h5; omega

/-- just the fields that its kind names -/
def strO (o : Oq) : Oq := ⟨o.kd, o.ky, if o.kd = 6 then o.ot else .empty, if o.kd = 1 ∨ o.kd = 2 ∨ o.kd = 6 then o.n else 0, if o.kd = 5 then o.lo else 0, if o.kd = 5 then o.hi else 0⟩

theorem rop_q (o : Oq) (m : M) : QSpec Try.prog 39 [oqv o] m (.tuple #[oqv (strO o), .bool (mayO o)]) := by
  refine QSpec.of_vc Try.func39 (ann := fun _ => noAnn) fun n hn => ?_
  refine vc_by (X :=
      true = true ∧
      ifB (o.kd == (1 : Int))
      (true = true ∧
      ∃ (b : Bool),
      QSpec Try.prog (55 : Nat)
      [Value.agg #[Value.int IntKind.i64 o.kd, Value.string o.ky, Value.string o.ot, Value.int IntKind.i64 o.n, Value.int IntKind.i64 o.lo, Value.int IntKind.i64 o.hi]]
      { π := m.π, sz := n, uf := m.uf : M } (Value.bool b) ∧
      Done
      (Value.tuple
      #[Value.agg
      #[Value.int IntKind.i64 o.kd, Value.string o.ky, Value.string { data := #[] : ByteArray }, Value.int IntKind.i64 o.n, Value.int IntKind.i64 (0 : Int),
      Value.int IntKind.i64 (0 : Int)],
      Value.bool b] =
      Value.tuple
      #[Value.agg
      #[Value.int IntKind.i64 o.kd, Value.string o.ky, Value.string (if o.kd = (6 : Int) then o.ot else ByteArray.empty),
      Value.int IntKind.i64 (if o.kd = (1 : Int) ∨ o.kd = (2 : Int) ∨ o.kd = (6 : Int) then o.n else (0 : Int)),
      Value.int IntKind.i64 (if o.kd = (5 : Int) then o.lo else (0 : Int)), Value.int IntKind.i64 (if o.kd = (5 : Int) then o.hi else (0 : Int))],
      Value.bool (mayO o)]))
      (ifB (o.kd == (2 : Int))
      (true = true ∧
      ∃ (b : Bool),
      QSpec Try.prog (55 : Nat)
      [Value.agg #[Value.int IntKind.i64 o.kd, Value.string o.ky, Value.string o.ot, Value.int IntKind.i64 o.n, Value.int IntKind.i64 o.lo, Value.int IntKind.i64 o.hi]]
      { π := m.π, sz := n, uf := m.uf : M } (Value.bool b) ∧
      Done
      (Value.tuple
      #[Value.agg
      #[Value.int IntKind.i64 o.kd, Value.string o.ky, Value.string { data := #[] : ByteArray }, Value.int IntKind.i64 o.n, Value.int IntKind.i64 (0 : Int),
      Value.int IntKind.i64 (0 : Int)],
      Value.bool b] =
      Value.tuple
      #[Value.agg
      #[Value.int IntKind.i64 o.kd, Value.string o.ky, Value.string (if o.kd = (6 : Int) then o.ot else ByteArray.empty),
      Value.int IntKind.i64 (if o.kd = (1 : Int) ∨ o.kd = (2 : Int) ∨ o.kd = (6 : Int) then o.n else (0 : Int)),
      Value.int IntKind.i64 (if o.kd = (5 : Int) then o.lo else (0 : Int)), Value.int IntKind.i64 (if o.kd = (5 : Int) then o.hi else (0 : Int))],
      Value.bool (mayO o)]))
      (ifB (o.kd == (5 : Int))
      (true = true ∧
      true = true ∧
      ∃ (b : Bool),
      QSpec Try.prog (55 : Nat)
      [Value.agg #[Value.int IntKind.i64 o.kd, Value.string o.ky, Value.string o.ot, Value.int IntKind.i64 o.n, Value.int IntKind.i64 o.lo, Value.int IntKind.i64 o.hi]]
      { π := m.π, sz := n, uf := m.uf : M } (Value.bool b) ∧
      Done
      (Value.tuple
      #[Value.agg
      #[Value.int IntKind.i64 o.kd, Value.string o.ky, Value.string { data := #[] : ByteArray }, Value.int IntKind.i64 (0 : Int), Value.int IntKind.i64 o.lo,
      Value.int IntKind.i64 o.hi],
      Value.bool b] =
      Value.tuple
      #[Value.agg
      #[Value.int IntKind.i64 o.kd, Value.string o.ky, Value.string (if o.kd = (6 : Int) then o.ot else ByteArray.empty),
      Value.int IntKind.i64 (if o.kd = (1 : Int) ∨ o.kd = (2 : Int) ∨ o.kd = (6 : Int) then o.n else (0 : Int)),
      Value.int IntKind.i64 (if o.kd = (5 : Int) then o.lo else (0 : Int)), Value.int IntKind.i64 (if o.kd = (5 : Int) then o.hi else (0 : Int))],
      Value.bool (mayO o)]))
      (ifB (o.kd == (6 : Int))
      (true = true ∧
      true = true ∧
      ∃ (b : Bool),
      QSpec Try.prog (55 : Nat)
      [Value.agg
      #[Value.int IntKind.i64 o.kd, Value.string o.ky, Value.string o.ot, Value.int IntKind.i64 o.n, Value.int IntKind.i64 o.lo, Value.int IntKind.i64 o.hi]]
      { π := m.π, sz := n, uf := m.uf : M } (Value.bool b) ∧
      Done
      (Value.tuple
      #[Value.agg
      #[Value.int IntKind.i64 o.kd, Value.string o.ky, Value.string o.ot, Value.int IntKind.i64 o.n, Value.int IntKind.i64 (0 : Int),
      Value.int IntKind.i64 (0 : Int)],
      Value.bool b] =
      Value.tuple
      #[Value.agg
      #[Value.int IntKind.i64 o.kd, Value.string o.ky, Value.string (if o.kd = (6 : Int) then o.ot else ByteArray.empty),
      Value.int IntKind.i64 (if o.kd = (1 : Int) ∨ o.kd = (2 : Int) ∨ o.kd = (6 : Int) then o.n else (0 : Int)),
      Value.int IntKind.i64 (if o.kd = (5 : Int) then o.lo else (0 : Int)), Value.int IntKind.i64 (if o.kd = (5 : Int) then o.hi else (0 : Int))],
      Value.bool (mayO o)]))
      (ifB (o.kd == (7 : Int))
      (true = true ∧
      ∃ (b : Bool),
      QSpec Try.prog (55 : Nat)
      [Value.agg
      #[Value.int IntKind.i64 (4 : Int), Value.string o.ky, Value.string o.ot, Value.int IntKind.i64 o.n, Value.int IntKind.i64 o.lo, Value.int IntKind.i64 o.hi]]
      { π := m.π, sz := n, uf := m.uf : M } (Value.bool b) ∧
      Done
      (Value.tuple
      #[Value.agg
      #[Value.int IntKind.i64 o.kd, Value.string o.ky, Value.string { data := #[] : ByteArray }, Value.int IntKind.i64 (0 : Int),
      Value.int IntKind.i64 (0 : Int), Value.int IntKind.i64 (0 : Int)],
      Value.bool b] =
      Value.tuple
      #[Value.agg
      #[Value.int IntKind.i64 o.kd, Value.string o.ky, Value.string (if o.kd = (6 : Int) then o.ot else ByteArray.empty),
      Value.int IntKind.i64 (if o.kd = (1 : Int) ∨ o.kd = (2 : Int) ∨ o.kd = (6 : Int) then o.n else (0 : Int)),
      Value.int IntKind.i64 (if o.kd = (5 : Int) then o.lo else (0 : Int)), Value.int IntKind.i64 (if o.kd = (5 : Int) then o.hi else (0 : Int))],
      Value.bool (mayO o)]))
      (ifB (o.kd == (8 : Int))
      (true = true ∧
      ∃ (b : Bool),
      QSpec Try.prog (55 : Nat)
      [Value.agg
      #[Value.int IntKind.i64 (4 : Int), Value.string o.ky, Value.string o.ot, Value.int IntKind.i64 o.n, Value.int IntKind.i64 o.lo,
      Value.int IntKind.i64 o.hi]]
      { π := m.π, sz := n, uf := m.uf : M } (Value.bool b) ∧
      Done
      (Value.tuple
      #[Value.agg
      #[Value.int IntKind.i64 o.kd, Value.string o.ky, Value.string { data := #[] : ByteArray }, Value.int IntKind.i64 (0 : Int),
      Value.int IntKind.i64 (0 : Int), Value.int IntKind.i64 (0 : Int)],
      Value.bool b] =
      Value.tuple
      #[Value.agg
      #[Value.int IntKind.i64 o.kd, Value.string o.ky, Value.string (if o.kd = (6 : Int) then o.ot else ByteArray.empty),
      Value.int IntKind.i64 (if o.kd = (1 : Int) ∨ o.kd = (2 : Int) ∨ o.kd = (6 : Int) then o.n else (0 : Int)),
      Value.int IntKind.i64 (if o.kd = (5 : Int) then o.lo else (0 : Int)), Value.int IntKind.i64 (if o.kd = (5 : Int) then o.hi else (0 : Int))],
      Value.bool (mayO o)]))
      (true = true ∧
      ∃ (b : Bool),
      QSpec Try.prog (55 : Nat)
      [Value.agg
      #[Value.int IntKind.i64 o.kd, Value.string o.ky, Value.string o.ot, Value.int IntKind.i64 o.n, Value.int IntKind.i64 o.lo, Value.int IntKind.i64 o.hi]]
      { π := m.π, sz := n, uf := m.uf : M } (Value.bool b) ∧
      Done
      (Value.tuple
      #[Value.agg
      #[Value.int IntKind.i64 o.kd, Value.string o.ky, Value.string { data := #[] : ByteArray }, Value.int IntKind.i64 (0 : Int),
      Value.int IntKind.i64 (0 : Int), Value.int IntKind.i64 (0 : Int)],
      Value.bool b] =
      Value.tuple
      #[Value.agg
      #[Value.int IntKind.i64 o.kd, Value.string o.ky, Value.string (if o.kd = (6 : Int) then o.ot else ByteArray.empty),
      Value.int IntKind.i64 (if o.kd = (1 : Int) ∨ o.kd = (2 : Int) ∨ o.kd = (6 : Int) then o.n else (0 : Int)),
      Value.int IntKind.i64 (if o.kd = (5 : Int) then o.lo else (0 : Int)), Value.int IntKind.i64 (if o.kd = (5 : Int) then o.hi else (0 : Int))],
      Value.bool (mayO o)])))))))) (by kernel_rfl) ?_
  have e6 : o.kd ≤ 6 → mayR o = mayO o := fun h => by simp [mayR, mayO, h, show o.kd ≤ 8 by omega]
  have e7 : o.kd = 7 ∨ o.kd = 8 → mayR { o with kd := 4 } = mayO o := fun h => by
    simp only [mayR, mayO]
    rcases h with h | h <;> simp [h]
  have e9 : ¬ o.kd ≤ 8 → mayR o = mayO o := fun h => by simp [mayR, mayO, h, show ¬ o.kd ≤ 6 by omega]
  refine ⟨rfl, ifB_intro (fun h1 => ⟨rfl, _, ronly_q o _, ⟨?_⟩⟩) (fun h1 => ifB_intro (fun h2 => ⟨rfl, _, ronly_q o _, ⟨?_⟩⟩) (fun h2 => ifB_intro (fun h3 => ⟨rfl, rfl, _, ronly_q o _, ⟨?_⟩⟩) (fun h3 => ifB_intro (fun h4 => ⟨rfl, rfl, _, ronly_q o _, ⟨?_⟩⟩) (fun h4 => ifB_intro (fun h5 => ⟨rfl, _, ronly_q { o with kd := 4 } _, ⟨?_⟩⟩) (fun h5 => ifB_intro (fun h6 => ⟨rfl, _, ronly_q { o with kd := 4 } _, ⟨?_⟩⟩) (fun h6 => ⟨rfl, _, ronly_q o _, ⟨?_⟩⟩))))))⟩
  all_goals simp at *
  · rw [e6 (by omega)]; simp [strO, h1]; rfl
  · rw [e6 (by omega)]; simp [strO, h2]; rfl
  · rw [e6 (by omega)]; simp [strO, h3]; rfl
  · rw [e6 (by omega)]; simp [strO, h4]
  · rw [e7 (by omega)]; simp [strO, h5]; rfl
  · rw [e7 (by omega)]; simp [strO, h6]; rfl
  · rw [show mayR o = mayO o by by_cases h : o.kd ≤ 6; exact e6 h; exact e9 (by omega)]; simp [strO, h1, h2, h3, h4]; rfl

end Go.Proofs.Ytbhlhnkjmncloaa
set_option linter.unusedVariables false
set_option linter.unusedSimpArgs false
namespace Go.Proofs.Ytbhlhnkjmncloaa
open Go.Vc Go.RowKit
set_option maxRecDepth 100000

structure WiX where
  k : Nat
  a1 : Option Addr
  c1 : Nat
  a2 : Option Addr
  c2 : Nat
  m : M

def loT (l : List Tt) (r : Tt) (k : Nat) : List Tt := (l.take k).filter fun x => belT x r

def hiT (l : List Tt) (r : Tt) (k : Nat) : List Tt := (l.take k).filter fun x => belT r x

theorem fil_succ (f : Tt → Bool) (l : List Tt) (k : Nat) (hk : k < l.length) : (l.take (k + 1)).filter f = (l.take k).filter f ++ if f l[k] = true then [l[k]] else [] := by
  rw [List.take_succ_eq_append_getElem hk, List.filter_append]
  congr 1
  by_cases h : f l[k] = true <;> simp [h]

theorem fil_le (f : Tt → Bool) (l : List Tt) (k : Nat) : ((l.take k).filter f).length ≤ l.length :=
  Nat.le_trans (List.length_filter_le _ _) (by rw [List.length_take]; omega)

structure WiI (l : List Tt) (r : Tt) (m : M) (y : WiX) : Prop where
  k : y.k ≤ l.length
  two : Two m.sz y.m 4 y.a1 (loT l r y.k).length y.c1 (tts (loT l r y.k)) 4 y.a2 (hiT l r y.k).length y.c2 (tts (hiT l r y.k))
  ag : Agree m.sz m y.m

theorem fil_sum (r : Tt) : ∀ l : List Tt, (l.filter fun x => belT x r).length + (l.filter fun x => belT r x).length ≤ l.length
  | [] => by simp
  | y :: l => by
    have ih := fil_sum r l
    cases h1 : belT y r with
    | true => simp [List.filter_cons, h1, belT_asym h1]; omega
    | false => cases h2 : belT r y <;> simp [List.filter_cons, h1, h2] <;> omega

set_option maxHeartbeats 1000000 in
theorem rwith_s (a : Option Addr) (cp : Nat) (l : List Tt) (r : Tt) (hn : l.length ≤ 3518437208870) (m : M) (h : Row m a (tts l)) : Vc.Spec Try.prog 42 [.slice a l.length cp, ttv r] m fun v m' => ∃ a' c', v = .slice a' (setT l r).length c' ∧ Row m' a' (tts (setT l r)) := by
  refine Vc.Spec.of_vc Try.func42 (ann := fun _ => { A := WiX, inv := WiI l r m, st := fun y => [(7, .val (I y.k)), (0, .val (.slice a l.length cp)), (3, .own 0 0), (5, .val (.slice y.a1 (loT l r y.k).length y.c1)), (6, .val (.slice y.a2 (hiT l r y.k).length y.c2))], own := fun _ => [(0, ⟨29, encTt r⟩)], m := fun y => y.m, μ := fun y => l.length - y.k }) ?_
  refine vc_by (X :=
      true = true ∧
      (∃ (a_1 : WiX),
      WiI l r m a_1 ∧
      m = a_1.m ∧
      ((SV.val (Value.int IntKind.i64 (0 : Int)) = SV.val (Value.int IntKind.i64 (↑a_1.k : Int)) ∧ true = true) ∧
      (SV.val (Value.slice a l.length cp) = SV.val (Value.slice a l.length cp) ∧ true = true) ∧
      (SV.own ((0 : Nat) + (0 : Nat)) (0 : Nat) = SV.own (0 : Nat) (0 : Nat) ∧ true = true) ∧
      (SV.val (Value.slice none (0 : Nat) (0 : Nat)) = SV.val (Value.slice a_1.a1 (loT l r a_1.k).length a_1.c1) ∧ true = true) ∧
      (SV.val (Value.slice none (0 : Nat) (0 : Nat)) = SV.val (Value.slice a_1.a2 (hiT l r a_1.k).length a_1.c2) ∧ true = true) ∧ True) ∧
      (some { ty := (29 : Nat), cs := [Value.string r.ky, Value.int IntKind.i64 r.sp_lo, Value.int IntKind.i64 r.sp_hi, Value.int IntKind.i64 r.va] : Bx } =
      some { ty := (29 : TypeId), cs := [Value.string r.ky, Value.int IntKind.i64 r.sp_lo, Value.int IntKind.i64 r.sp_hi, Value.int IntKind.i64 r.va] : Bx } ∧
      true = true) ∧
      True) ∧
      ∀ (a_1 : WiX),
      WiI l r m a_1 →
      ifB (decide ((↑a_1.k : Int) < (↑l.length : Int)))
      (true = true ∧
      ∃ (b : Nat),
      ∃ (off : Nat),
      a = some { block := b, off := off : Addr } ∧
      ((0 : Int) ≤ (↑a_1.k : Int) ∧ (↑a_1.k : Int) < (↑l.length : Int)) ∧
      ∃ (s : ByteArray),
      CellsAt a_1.m b (off + (↑a_1.k : Int).toNat * (4 : Nat) + (0 : Nat)) [Value.string s] ∧
      ifB (Op.bytesLess s.toList r.ky.toList)
      (∃ (b : Nat),
      ∃ (off : Nat),
      a = some { block := b, off := off : Addr } ∧
      ((0 : Int) ≤ (↑a_1.k : Int) ∧ (↑a_1.k : Int) < (↑l.length : Int)) ∧
      ∃ (s : ByteArray),
      ∃ (n : Int),
      ∃ (n_1 : Int),
      ∃ (n_2 : Int),
      CellsAt a_1.m b (off + (↑a_1.k : Int).toNat * (4 : Nat))
      [Value.string s, Value.int IntKind.i64 n, Value.int IntKind.i64 n_1, Value.int IntKind.i64 n_2] ∧
      true = true ∧
      ∀ (b : Nat),
      a_1.m.sz ≤ b →
      ∃ (old : List Value),
      ∃ (src : List Value),
      AppPre m.sz (fun (x : Nat) => False)
      (a_1.m.newBlock b [Value.string s, Value.int IntKind.i64 n, Value.int IntKind.i64 n_1, Value.int IntKind.i64 n_2])
      (4 : Nat) (40 : Nat) a_1.a1 (loT l r a_1.k).length a_1.c1 (some { block := b, off := (0 : Nat) : Addr }) (1 : Nat) old
      src ∧
      ∀ (a' : Option Addr) (c' : Nat) (m' : M),
      AppPost Try.prog (29 : Nat)
      (a_1.m.newBlock b [Value.string s, Value.int IntKind.i64 n, Value.int IntKind.i64 n_1, Value.int IntKind.i64 n_2])
      (4 : Nat) a_1.a1 (loT l r a_1.k).length a_1.c1 (1 : Nat) old src a' c' m' →
      true = true ∧
      ∃ (b : Nat),
      ∃ (off : Nat),
      a = some { block := b, off := off : Addr } ∧
      ((0 : Int) ≤ (↑a_1.k : Int) ∧ (↑a_1.k : Int) < (↑l.length : Int)) ∧
      ∃ (s : ByteArray),
      CellsAt m' b (off + (↑a_1.k : Int).toNat * (4 : Nat) + (0 : Nat)) [Value.string s] ∧
      ifB (!(Op.bytesLess s.toList r.ky.toList || s.toList == r.ky.toList))
      (∃ (b : Nat),
      ∃ (off : Nat),
      a = some { block := b, off := off : Addr } ∧
      ((0 : Int) ≤ (↑a_1.k : Int) ∧ (↑a_1.k : Int) < (↑l.length : Int)) ∧
      ∃ (s : ByteArray),
      ∃ (n : Int),
      ∃ (n_3 : Int),
      ∃ (n_4 : Int),
      CellsAt m' b (off + (↑a_1.k : Int).toNat * (4 : Nat))
      [Value.string s, Value.int IntKind.i64 n, Value.int IntKind.i64 n_3,
      Value.int IntKind.i64 n_4] ∧
      true = true ∧
      ∀ (b : Nat),
      m'.sz ≤ b →
      ∃ (old : List Value),
      ∃ (src : List Value),
      AppPre m.sz (fun (x : Nat) => False)
      (m'.newBlock b
      [Value.string s, Value.int IntKind.i64 n, Value.int IntKind.i64 n_3,
      Value.int IntKind.i64 n_4])
      (4 : Nat) (40 : Nat) a_1.a2 (hiT l r a_1.k).length a_1.c2
      (some { block := b, off := (0 : Nat) : Addr }) (1 : Nat) old src ∧
      ∀ (a'_1 : Option Addr) (c'_1 : Nat) (m'_1 : M),
      AppPost Try.prog (29 : Nat)
      (m'.newBlock b
      [Value.string s, Value.int IntKind.i64 n,
      Value.int IntKind.i64 n_3, Value.int IntKind.i64 n_4])
      (4 : Nat) a_1.a2 (hiT l r a_1.k).length a_1.c2 (1 : Nat) old src
      a'_1 c'_1 m'_1 →
      ∃ (a'_2 : WiX),
      (WiI l r m a'_2 ∧
      m'_1 = a'_2.m ∧
      ((SV.val
      (Value.int IntKind.i64
      (IntKind.i64.wrap ((↑a_1.k : Int) + (1 : Int)))) =
      SV.val (Value.int IntKind.i64 (↑a'_2.k : Int)) ∧
      true = true) ∧
      (SV.val (Value.slice a l.length cp) =
      SV.val (Value.slice a l.length cp) ∧
      true = true) ∧
      (SV.own (0 : Nat) (0 : Nat) =
      SV.own (0 : Nat) (0 : Nat) ∧
      true = true) ∧
      (SV.val
      (Value.slice a'
      ((loT l r a_1.k).length + (1 : Nat)) c') =
      SV.val
      (Value.slice a'_2.a1 (loT l r a'_2.k).length
      a'_2.c1) ∧
      true = true) ∧
      (SV.val
      (Value.slice a'_1
      ((hiT l r a_1.k).length + (1 : Nat))
      c'_1) =
      SV.val
      (Value.slice a'_2.a2 (hiT l r a'_2.k).length
      a'_2.c2) ∧
      true = true) ∧
      True) ∧
      (some
      { ty := (29 : TypeId), cs := [Value.string r.ky, Value.int IntKind.i64 r.sp_lo, Value.int IntKind.i64 r.sp_hi, Value.int IntKind.i64 r.va] : Bx } =
      some
      { ty := (29 : TypeId), cs := [Value.string r.ky, Value.int IntKind.i64 r.sp_lo, Value.int IntKind.i64 r.sp_hi, Value.int IntKind.i64 r.va] : Bx } ∧
      true = true) ∧
      True) ∧
      l.length - a'_2.k < l.length - a_1.k)
      (∃ (a'_1 : WiX),
      (WiI l r m a'_1 ∧
      m' = a'_1.m ∧
      ((SV.val (Value.int IntKind.i64 (IntKind.i64.wrap ((↑a_1.k : Int) + (1 : Int)))) =
      SV.val (Value.int IntKind.i64 (↑a'_1.k : Int)) ∧
      true = true) ∧
      (SV.val (Value.slice a l.length cp) = SV.val (Value.slice a l.length cp) ∧ true = true) ∧
      (SV.own (0 : Nat) (0 : Nat) = SV.own (0 : Nat) (0 : Nat) ∧ true = true) ∧
      (SV.val (Value.slice a' ((loT l r a_1.k).length + (1 : Nat)) c') =
      SV.val (Value.slice a'_1.a1 (loT l r a'_1.k).length a'_1.c1) ∧
      true = true) ∧
      (SV.val (Value.slice a_1.a2 (hiT l r a_1.k).length a_1.c2) =
      SV.val (Value.slice a'_1.a2 (hiT l r a'_1.k).length a'_1.c2) ∧
      true = true) ∧
      True) ∧
      (some
      { ty := (29 : TypeId), cs := [Value.string r.ky, Value.int IntKind.i64 r.sp_lo, Value.int IntKind.i64 r.sp_hi, Value.int IntKind.i64 r.va] : Bx } =
      some
      { ty := (29 : TypeId), cs := [Value.string r.ky, Value.int IntKind.i64 r.sp_lo, Value.int IntKind.i64 r.sp_hi, Value.int IntKind.i64 r.va] : Bx } ∧
      true = true) ∧
      True) ∧
      l.length - a'_1.k < l.length - a_1.k))
      (true = true ∧
      ∃ (b : Nat),
      ∃ (off : Nat),
      a = some { block := b, off := off : Addr } ∧
      ((0 : Int) ≤ (↑a_1.k : Int) ∧ (↑a_1.k : Int) < (↑l.length : Int)) ∧
      ∃ (s : ByteArray),
      CellsAt a_1.m b (off + (↑a_1.k : Int).toNat * (4 : Nat) + (0 : Nat)) [Value.string s] ∧
      ifB (!(Op.bytesLess s.toList r.ky.toList || s.toList == r.ky.toList))
      (∃ (b : Nat),
      ∃ (off : Nat),
      a = some { block := b, off := off : Addr } ∧
      ((0 : Int) ≤ (↑a_1.k : Int) ∧ (↑a_1.k : Int) < (↑l.length : Int)) ∧
      ∃ (s : ByteArray),
      ∃ (n : Int),
      ∃ (n_1 : Int),
      ∃ (n_2 : Int),
      CellsAt a_1.m b (off + (↑a_1.k : Int).toNat * (4 : Nat))
      [Value.string s, Value.int IntKind.i64 n, Value.int IntKind.i64 n_1, Value.int IntKind.i64 n_2] ∧
      true = true ∧
      ∀ (b : Nat),
      a_1.m.sz ≤ b →
      ∃ (old : List Value),
      ∃ (src : List Value),
      AppPre m.sz (fun (x : Nat) => False)
      (a_1.m.newBlock b
      [Value.string s, Value.int IntKind.i64 n, Value.int IntKind.i64 n_1, Value.int IntKind.i64 n_2])
      (4 : Nat) (40 : Nat) a_1.a2 (hiT l r a_1.k).length a_1.c2 (some { block := b, off := (0 : Nat) : Addr })
      (1 : Nat) old src ∧
      ∀ (a' : Option Addr) (c' : Nat) (m' : M),
      AppPost Try.prog (29 : Nat)
      (a_1.m.newBlock b
      [Value.string s, Value.int IntKind.i64 n, Value.int IntKind.i64 n_1, Value.int IntKind.i64 n_2])
      (4 : Nat) a_1.a2 (hiT l r a_1.k).length a_1.c2 (1 : Nat) old src a' c' m' →
      ∃ (a'_1 : WiX),
      (WiI l r m a'_1 ∧
      m' = a'_1.m ∧
      ((SV.val (Value.int IntKind.i64 (IntKind.i64.wrap ((↑a_1.k : Int) + (1 : Int)))) =
      SV.val (Value.int IntKind.i64 (↑a'_1.k : Int)) ∧
      true = true) ∧
      (SV.val (Value.slice a l.length cp) = SV.val (Value.slice a l.length cp) ∧ true = true) ∧
      (SV.own (0 : Nat) (0 : Nat) = SV.own (0 : Nat) (0 : Nat) ∧ true = true) ∧
      (SV.val (Value.slice a_1.a1 (loT l r a_1.k).length a_1.c1) =
      SV.val (Value.slice a'_1.a1 (loT l r a'_1.k).length a'_1.c1) ∧
      true = true) ∧
      (SV.val (Value.slice a' ((hiT l r a_1.k).length + (1 : Nat)) c') =
      SV.val (Value.slice a'_1.a2 (hiT l r a'_1.k).length a'_1.c2) ∧
      true = true) ∧
      True) ∧
      (some
      { ty := (29 : TypeId), cs := [Value.string r.ky, Value.int IntKind.i64 r.sp_lo, Value.int IntKind.i64 r.sp_hi, Value.int IntKind.i64 r.va] : Bx } =
      some
      { ty := (29 : TypeId), cs := [Value.string r.ky, Value.int IntKind.i64 r.sp_lo, Value.int IntKind.i64 r.sp_hi, Value.int IntKind.i64 r.va] : Bx } ∧
      true = true) ∧
      True) ∧
      l.length - a'_1.k < l.length - a_1.k)
      (∃ (a' : WiX),
      (WiI l r m a' ∧
      a_1.m = a'.m ∧
      ((SV.val (Value.int IntKind.i64 (IntKind.i64.wrap ((↑a_1.k : Int) + (1 : Int)))) = SV.val (Value.int IntKind.i64 (↑a'.k : Int)) ∧
      true = true) ∧
      (SV.val (Value.slice a l.length cp) = SV.val (Value.slice a l.length cp) ∧ true = true) ∧
      (SV.own (0 : Nat) (0 : Nat) = SV.own (0 : Nat) (0 : Nat) ∧ true = true) ∧
      (SV.val (Value.slice a_1.a1 (loT l r a_1.k).length a_1.c1) = SV.val (Value.slice a'.a1 (loT l r a'.k).length a'.c1) ∧
      true = true) ∧
      (SV.val (Value.slice a_1.a2 (hiT l r a_1.k).length a_1.c2) = SV.val (Value.slice a'.a2 (hiT l r a'.k).length a'.c2) ∧
      true = true) ∧
      True) ∧
      (some
      { ty := (29 : TypeId), cs := [Value.string r.ky, Value.int IntKind.i64 r.sp_lo, Value.int IntKind.i64 r.sp_hi, Value.int IntKind.i64 r.va] : Bx } =
      some
      { ty := (29 : TypeId), cs := [Value.string r.ky, Value.int IntKind.i64 r.sp_lo, Value.int IntKind.i64 r.sp_hi, Value.int IntKind.i64 r.va] : Bx } ∧
      true = true) ∧
      True) ∧
      l.length - a'.k < l.length - a_1.k)))
      (ifB (!(r.ky.toList == r.ky.toList && (r.sp_lo == (0 : Int) && (r.sp_hi == (0 : Int) && true) && (r.va == (0 : Int) && true))))
      (true = true ∧
      ∀ (b : Nat),
      a_1.m.sz ≤ b →
      ∃ (old : List Value),
      ∃ (src : List Value),
      AppPre m.sz (fun (x : Nat) => False)
      (a_1.m.newBlock b [Value.string r.ky, Value.int IntKind.i64 r.sp_lo, Value.int IntKind.i64 r.sp_hi, Value.int IntKind.i64 r.va]) (4 : Nat) (40 : Nat)
      a_1.a1 (loT l r a_1.k).length a_1.c1 (some { block := b, off := (0 : Nat) : Addr }) (1 : Nat) old src ∧
      ∀ (a' : Option Addr) (c' : Nat) (m' : M),
      AppPost Try.prog (29 : Nat)
      (a_1.m.newBlock b [Value.string r.ky, Value.int IntKind.i64 r.sp_lo, Value.int IntKind.i64 r.sp_hi, Value.int IntKind.i64 r.va]) (4 : Nat) a_1.a1
      (loT l r a_1.k).length a_1.c1 (1 : Nat) old src a' c' m' →
      ∃ (old : List Value),
      ∃ (src : List Value),
      AppPre m.sz (fun (x : Nat) => False) m' (4 : Nat) (40 : Nat) a' ((loT l r a_1.k).length + (1 : Nat)) c' a_1.a2 (hiT l r a_1.k).length old src ∧
      ∀ (a'_1 : Option Addr) (c'_1 : Nat) (m'_1 : M),
      AppPost Try.prog (29 : Nat) m' (4 : Nat) a' ((loT l r a_1.k).length + (1 : Nat)) c' (hiT l r a_1.k).length old src a'_1 c'_1 m'_1 →
      Done
      (∃ (a' : Option Addr),
      ∃ (c' : Nat),
      Value.slice a'_1 ((loT l r a_1.k).length + (1 : Nat) + (hiT l r a_1.k).length) c'_1 = Value.slice a' (setT l r).length c' ∧
      Row m'_1 a' (tts (setT l r))))
      (∃ (old : List Value),
      ∃ (src : List Value),
      AppPre m.sz (fun (x : Nat) => False) a_1.m (4 : Nat) (40 : Nat) a_1.a1 (loT l r a_1.k).length a_1.c1 a_1.a2 (hiT l r a_1.k).length old src ∧
      ∀ (a' : Option Addr) (c' : Nat) (m' : M),
      AppPost Try.prog (29 : Nat) a_1.m (4 : Nat) a_1.a1 (loT l r a_1.k).length a_1.c1 (hiT l r a_1.k).length old src a' c' m' →
      Done
      (∃ (a'_1 : Option Addr),
      ∃ (c'_1 : Nat),
      Value.slice a' ((loT l r a_1.k).length + (hiT l r a_1.k).length) c' = Value.slice a'_1 (setT l r).length c'_1 ∧ Row m' a'_1 (tts (setT l r)))))) (by kernel_rfl) ?_
  have ekey : (r.ky.toList == r.ky.toList && (r.sp_lo == 0 && (r.sp_hi == 0 && true) && (r.va == 0 && true))) = plainT r := by simp [plainT, beq_eq_dec]
  refine ⟨rfl, ⟨⟨0, none, 0, none, 0, m⟩, ⟨Nat.zero_le _, .nil, Agree.refl _ _⟩, rfl, by simp [loT, hiT]⟩, fun y Y => ifB_intro (fun h3 => ?_) (fun h3 => ?_)⟩
  · have hk2 : y.k < l.length := by simpa using h3
    obtain ⟨b, o, rfl, hc⟩ := (h.agree Y.ag).cells (by rw [tt_len]; omega)
    have w1 : IntKind.i64.wrap ((y.k : Int) + 1) = ((y.k + 1 : Nat) : Int) := by simp [IntKind.wrap_i64]; omega
    have hle1 := fil_le (fun x => belT x r) l y.k
    have hle2 := fil_le (fun x => belT r x) l y.k
    have e1 := fil_succ (fun x => belT x r) l y.k hk2
    have e2 := fil_succ (fun x => belT r x) l y.k hk2
    have ap : ∀ x y : List Tt, tts (x ++ y) = tts x ++ tts y := fun x y => List.flatMap_append
    have q2e : (!(Op.bytesLess l[y.k].ky.toList r.ky.toList || l[y.k].ky.toList == r.ky.toList)) = belT r l[y.k] := by rw [ltS_nlt, Bool.not_not]; rfl
    have key : ∀ m', CellsAt m' b o (tts l) → CellsAt m' b (o + y.k * 4) [.string l[y.k].ky] := fun m' hc => by
      have := CellsAt.field tt_k hc hk2 (p := []) (old := [.string l[y.k].ky]) (q := [I l[y.k].sp_lo, I l[y.k].sp_hi, I l[y.k].va]) rfl
      simpa using this
    refine ⟨rfl, b, o, rfl, by omega, _, by simpa using key _ hc, ifB_intro (fun q1 => ?_) (fun q1 => ?_)⟩
    · have q1 : belT l[y.k] r = true := q1
      rw [if_pos q1] at e1
      refine ⟨b, o, rfl, by omega, _, _, _, _, by simpa using tt_at hc hk2, rfl, fun b4 hb4 => ?_⟩
      obtain ⟨p1, p2⟩ := Two.push (P := Try.prog) (e := 29) (bytes := 40) (src := encTt l[y.k]) Y.two hb4 Y.ag.2.2 rfl rfl (by have := fil_le (fun x => belT x r) l y.k; unfold loT; omega) tt_zr
      refine ⟨_, _, p1, fun a' c' m' hp => ?_⟩
      obtain ⟨T2, g2⟩ := p2 a' c' m' hp
      have A2 := Y.ag.trans g2
      obtain ⟨b', o', e', hc'⟩ := (h.agree A2).cells (by rw [tt_len]; omega)
      cases e'
      have ee : loT l r (y.k + 1) = loT l r y.k ++ [l[y.k]] := e1
      have T3 : Two m.sz m' 4 a' (loT l r (y.k + 1)).length c' (tts (loT l r (y.k + 1))) 4 y.a2 (hiT l r y.k).length y.c2 (tts (hiT l r y.k)) := by
        rw [ee, ap, List.length_append]; exact T2
      refine ⟨rfl, b, o, rfl, by omega, _, by simpa using key _ hc', ?_⟩
      rw [q2e]
      refine ifB_intro (fun q2 => ?_) (fun q2 => ?_)
      · rw [if_pos q2] at e2
        refine ⟨b, o, rfl, by omega, _, _, _, _, by simpa using tt_at hc' hk2, rfl, fun b5 hb5 => ?_⟩
        obtain ⟨p3, p4⟩ := Two.push (P := Try.prog) (e := 29) (bytes := 40) (src := encTt l[y.k]) T3.symm hb5 A2.2.2 rfl rfl (by have := fil_le (fun x => belT r x) l y.k; unfold hiT; omega) tt_zr
        refine ⟨_, _, p3, fun a3 c3 m3 hp3 => ?_⟩
        obtain ⟨T4, g4⟩ := p4 a3 c3 m3 hp3
        have ee2 : hiT l r (y.k + 1) = hiT l r y.k ++ [l[y.k]] := e2
        refine ⟨⟨y.k + 1, a', c', a3, c3, m3⟩, ⟨⟨hk2, ?_, A2.trans g4⟩, rfl, by simp [w1, ee, ee2]⟩, by simp only; omega⟩
        rw [ee2, ap, List.length_append]; exact T4.symm
      · rw [if_neg (by simp [q2])] at e2
        have ee2 : hiT l r (y.k + 1) = hiT l r y.k := by rw [List.append_nil] at e2; exact e2
        refine ⟨⟨y.k + 1, a', c', y.a2, y.c2, m'⟩, ⟨⟨hk2, ?_, A2⟩, rfl, by simp [w1, ee, ee2]⟩, by simp only; omega⟩
        rw [ee2]; exact T3
    · have q1 : belT l[y.k] r = false := q1
      rw [if_neg (by simp [q1])] at e1
      have ee : loT l r (y.k + 1) = loT l r y.k := by rw [List.append_nil] at e1; exact e1
      refine ⟨rfl, b, o, rfl, by omega, _, by simpa using key _ hc, ?_⟩
      rw [q2e]
      refine ifB_intro (fun q2 => ?_) (fun q2 => ?_)
      · rw [if_pos q2] at e2
        refine ⟨b, o, rfl, by omega, _, _, _, _, by simpa using tt_at hc hk2, rfl, fun b5 hb5 => ?_⟩
        obtain ⟨p3, p4⟩ := Two.push (P := Try.prog) (e := 29) (bytes := 40) (src := encTt l[y.k]) Y.two.symm hb5 Y.ag.2.2 rfl rfl (by have := fil_le (fun x => belT r x) l y.k; unfold hiT; omega) tt_zr
        refine ⟨_, _, p3, fun a3 c3 m3 hp3 => ?_⟩
        obtain ⟨T4, g4⟩ := p4 a3 c3 m3 hp3
        have ee2 : hiT l r (y.k + 1) = hiT l r y.k ++ [l[y.k]] := e2
        refine ⟨⟨y.k + 1, y.a1, y.c1, a3, c3, m3⟩, ⟨⟨hk2, ?_, Y.ag.trans g4⟩, rfl, by simp [w1, ee, ee2]⟩, by simp only; omega⟩
        rw [ee, ee2, ap, List.length_append]; exact T4.symm
      · rw [if_neg (by simp [q2])] at e2
        have ee2 : hiT l r (y.k + 1) = hiT l r y.k := by rw [List.append_nil] at e2; exact e2
        refine ⟨⟨y.k + 1, y.a1, y.c1, y.a2, y.c2, y.m⟩, ⟨⟨hk2, ?_, Y.ag⟩, rfl, by simp [w1, ee, ee2]⟩, by simp only; omega⟩
        rw [ee, ee2]; exact Y.two
  · have hkl : y.k = l.length := by have := Y.k; simp at h3; omega
    have T := Y.two
    have e1 : loT l r y.k = l.filter fun x => belT x r := by simp [loT, hkl]
    have e2 : hiT l r y.k = l.filter fun x => belT r x := by simp [hiT, hkl]
    have f1 := List.length_filter_le (fun x => belT x r) l
    have f3 := fil_sum r l
    have f2 := List.length_filter_le (fun x => belT r x) l
    rw [e1, e2] at T ⊢
    rw [ekey]
    refine ifB_intro (fun hp0 => ⟨rfl, fun b3 hb3 => ?_⟩) (fun hp0 => ?_)
    · have hp0 : plainT r = false := by simpa using hp0
      obtain ⟨p1, p2⟩ := Two.push (P := Try.prog) (e := 29) (bytes := 40) (src := encTt r) T hb3 Y.ag.2.2 rfl rfl (by omega) tt_zr
      refine ⟨_, _, p1, fun a' c' m' hp => ?_⟩
      obtain ⟨T2, g2⟩ := p2 a' c' m' hp
      refine ⟨_, _, T2.o1.appPre T2.o2.row (tt_len _) (tt_one _) (by omega), fun a3 c3 m3 hp3 => ?_⟩
      have T3 := T2.o1.append hp3 (tt_len _) tt_zr (Y.ag.trans g2).2.2
      have e3 : tts (setT l r) = tts (l.filter fun x => belT x r) ++ encTt r ++ tts (l.filter fun x => belT r x) := by simp [setT, hp0]
      refine ⟨a3, c3, by simp [setT, hp0]; omega, ?_⟩
      rw [e3]; exact T3.row
    · have hp0 : plainT r = true := by simpa using hp0
      refine ⟨_, _, T.o1.appPre T.o2.row (tt_len _) (tt_one _) (by omega), fun a3 c3 m3 hp3 => ?_⟩
      have T3 := T.o1.append hp3 (tt_len _) tt_zr Y.ag.2.2
      have e3 : tts (setT l r) = tts (l.filter fun x => belT x r) ++ tts (l.filter fun x => belT r x) := by simp [setT, hp0]
      refine ⟨a3, c3, by simp [setT, hp0], ?_⟩
      rw [e3]; exact T3.row

end Go.Proofs.Ytbhlhnkjmncloaa
