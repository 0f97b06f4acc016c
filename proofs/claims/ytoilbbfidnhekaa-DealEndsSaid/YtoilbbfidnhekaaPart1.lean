/-
  Contracts of functions of this seat: what each hands back, and what it leaves of memory (n18, opn, l_dl, l_en, idx_dl, del_dl, deal1, deal2, deal3, deal4, deal5, deal6, deal7). Nothing here is trusted: Lean checks it.
-/
import Derived.Test.YtoilbbfidnhekaaVcLem
import Derived.Test.YtoilbbfidnhekaaVcOwned
import Derived.Test.YtoilbbfidnhekaaRows
import Derived.Test.YtoilbbfidnhekaaVcOpen
import Derived.Test.YtoilbbfidnhekaaVcOver
set_option linter.unusedVariables false
set_option linter.unusedSimpArgs false
namespace Go.Proofs.Ytoilbbfidnhekaa
open Go.Vc Go.RowKit
set_option maxRecDepth 100000

abbrev I (n : Int) : Value := .int .i64 n

abbrev U (n : Int) : Value := .int .u64 n

abbrev sp (lo hi : Int) : Value := .agg #[.int .i64 lo, .int .i64 hi]

def In64 (n : Int) : Prop := -9223372036854775808 ≤ n ∧ n ≤ 9223372036854775807

instance (n : Int) : Decidable (In64 n) := by unfold In64; infer_instance

def InU (n : Int) : Prop := 0 ≤ n ∧ n ≤ 18446744073709551615

def addV (a b : Int) : Int := if In64 (a + b) then a + b else 0

def addE (a b : Int) : Int := if In64 (a + b) then 0 else 10

def subV (a b : Int) : Int := if In64 (a - b) then a - b else 0

def subE (a b : Int) : Int := if In64 (a - b) then 0 else 10

def hasB (lo hi v : Int) : Bool := decide (lo ≤ v) && decide (v ≤ hi)

def roomD (lo hi v : Int) : Int := if hasB lo hi v then v - lo else 0

def roomU (lo hi v : Int) : Int := if hasB lo hi v then hi - v else 0

def meetOk (a b c d : Int) : Bool := decide (a ≤ b) && (decide (c ≤ d) && decide (max a c ≤ min b d))

def meetLo (a b c d : Int) : Int := if meetOk a b c d then max a c else 0

def meetHi (a b c d : Int) : Int := if meetOk a b c d then min b d else 0

def shiftE (a b k : Int) : Int := if b < a then 1 else if In64 (a + k) ∧ In64 (b + k) then 0 else 10

def shiftLo (a b k : Int) : Int := if b < a then 0 else if In64 (a + k) ∧ In64 (b + k) then a + k else 0

def shiftHi (a b k : Int) : Int := if b < a then 0 else if In64 (a + k) ∧ In64 (b + k) then b + k else 0

def shareV (n p i : Int) : Int := if p < 1 ∨ i < 0 ∨ p ≤ i then 0 else if i < n % p then n / p + 1 else n / p

def fitV (n : Int) : Int := min n 9223372036854775807

theorem add_q (a b : Int) (ha : In64 a) (hb : In64 b) (m : M) : QSpec Try.prog 83 [I a, I b] m (.tuple #[I (addV a b), I (addE a b)]) := by
  refine QSpec.of_vc Try.func83 (ann := fun _ => noAnn) fun n hn => ?_
  refine vc_by (X :=
      true = true ∧
      ifB (decide (a ≥ (0 : Int)))
      (ifB (decide (b ≥ (0 : Int)))
      (ifB (decide (IntKind.i64.wrap (a + b) < (0 : Int)))
      (Done
      (Value.tuple #[Value.int IntKind.i64 (0 : Int), Value.int IntKind.i64 (10 : Int)] = Value.tuple #[Value.int IntKind.i64 (addV a b), Value.int IntKind.i64 (addE a b)]))
      (ifB (decide (a < (0 : Int)))
      (ifB (decide (b < (0 : Int)))
      (ifB (decide (IntKind.i64.wrap (a + b) ≥ (0 : Int)))
      (Done
      (Value.tuple #[Value.int IntKind.i64 (0 : Int), Value.int IntKind.i64 (10 : Int)] =
      Value.tuple #[Value.int IntKind.i64 (addV a b), Value.int IntKind.i64 (addE a b)]))
      (Done
      (Value.tuple #[Value.int IntKind.i64 (IntKind.i64.wrap (a + b)), Value.int IntKind.i64 (0 : Int)] =
      Value.tuple #[Value.int IntKind.i64 (addV a b), Value.int IntKind.i64 (addE a b)])))
      (Done
      (Value.tuple #[Value.int IntKind.i64 (IntKind.i64.wrap (a + b)), Value.int IntKind.i64 (0 : Int)] =
      Value.tuple #[Value.int IntKind.i64 (addV a b), Value.int IntKind.i64 (addE a b)])))
      (Done
      (Value.tuple #[Value.int IntKind.i64 (IntKind.i64.wrap (a + b)), Value.int IntKind.i64 (0 : Int)] =
      Value.tuple #[Value.int IntKind.i64 (addV a b), Value.int IntKind.i64 (addE a b)]))))
      (ifB (decide (a < (0 : Int)))
      (ifB (decide (b < (0 : Int)))
      (ifB (decide (IntKind.i64.wrap (a + b) ≥ (0 : Int)))
      (Done
      (Value.tuple #[Value.int IntKind.i64 (0 : Int), Value.int IntKind.i64 (10 : Int)] =
      Value.tuple #[Value.int IntKind.i64 (addV a b), Value.int IntKind.i64 (addE a b)]))
      (Done
      (Value.tuple #[Value.int IntKind.i64 (IntKind.i64.wrap (a + b)), Value.int IntKind.i64 (0 : Int)] =
      Value.tuple #[Value.int IntKind.i64 (addV a b), Value.int IntKind.i64 (addE a b)])))
      (Done
      (Value.tuple #[Value.int IntKind.i64 (IntKind.i64.wrap (a + b)), Value.int IntKind.i64 (0 : Int)] =
      Value.tuple #[Value.int IntKind.i64 (addV a b), Value.int IntKind.i64 (addE a b)])))
      (Done
      (Value.tuple #[Value.int IntKind.i64 (IntKind.i64.wrap (a + b)), Value.int IntKind.i64 (0 : Int)] =
      Value.tuple #[Value.int IntKind.i64 (addV a b), Value.int IntKind.i64 (addE a b)]))))
      (ifB (decide (a < (0 : Int)))
      (ifB (decide (b < (0 : Int)))
      (ifB (decide (IntKind.i64.wrap (a + b) ≥ (0 : Int)))
      (Done
      (Value.tuple #[Value.int IntKind.i64 (0 : Int), Value.int IntKind.i64 (10 : Int)] = Value.tuple #[Value.int IntKind.i64 (addV a b), Value.int IntKind.i64 (addE a b)]))
      (Done
      (Value.tuple #[Value.int IntKind.i64 (IntKind.i64.wrap (a + b)), Value.int IntKind.i64 (0 : Int)] =
      Value.tuple #[Value.int IntKind.i64 (addV a b), Value.int IntKind.i64 (addE a b)])))
      (Done
      (Value.tuple #[Value.int IntKind.i64 (IntKind.i64.wrap (a + b)), Value.int IntKind.i64 (0 : Int)] =
      Value.tuple #[Value.int IntKind.i64 (addV a b), Value.int IntKind.i64 (addE a b)])))
      (Done
      (Value.tuple #[Value.int IntKind.i64 (IntKind.i64.wrap (a + b)), Value.int IntKind.i64 (0 : Int)] =
      Value.tuple #[Value.int IntKind.i64 (addV a b), Value.int IntKind.i64 (addE a b)])))) (by kernel_rfl) ?_
  refine ⟨rfl, ?_⟩
  repeat' (refine ifB_intro (fun h => ?_) (fun h => ?_))
  all_goals refine ⟨?_⟩
  all_goals (by_cases hin : In64 (a + b) <;> simp [addV, addE, hin] <;> simp [IntKind.wrap_i64, In64] at * <;> omega)

theorem has_q (a b v : Int) (m : M) : QSpec Try.prog 79 [sp a b, I v] m (.bool (hasB a b v)) := by
  refine QSpec.of_vc Try.func79 (ann := fun _ => noAnn) fun n hn => ?_
  refine vc_by (X :=
      true = true ∧ ifB (decide (a ≤ v)) (Done (Value.bool (decide (v ≤ b)) = Value.bool (hasB a b v))) (Done (Value.bool false = Value.bool (hasB a b v)))) (by kernel_rfl) ?_
  refine ⟨rfl, ?_⟩
  repeat' (refine ifB_intro (fun h => ?_) (fun h => ?_))
  all_goals (refine ⟨?_⟩; simp [hasB, h])

theorem add_ok (a b : Int) : addE a b = 0 ↔ In64 (a + b) := by unfold addE; split <;> simp [*]

theorem div_facts (a b : Int) (ha : 0 ≤ a) (hb : 1 ≤ b) : 0 ≤ a / b ∧ a / b ≤ a ∧ 0 ≤ a % b ∧ a % b < b ∧ a / b * b = a - a % b ∧ a / b ≤ a - a % b := by
  have h1 := Int.ediv_nonneg ha (by omega : 0 ≤ b)
  have h2 := Int.emod_nonneg a (by omega : b ≠ 0)
  have h3 := Int.emod_lt_of_pos a (by omega : 0 < b)
  have h4 := Int.mul_ediv_add_emod a b
  have h5 := Int.ediv_le_self b ha
  have h6 : a / b * 1 ≤ a / b * b := Int.mul_le_mul_of_nonneg_left hb h1
  have h7 : a / b * b = a - a % b := by rw [Int.mul_comm]; omega
  exact ⟨h1, h5, h2, h3, h7, by omega⟩

theorem rhas_q (a b v : Int) (m : M) : QSpec Try.prog 60 [sp a b, I v] m (.bool (hasB a b v)) := by
  refine QSpec.of_vc Try.func60 (ann := fun _ => noAnn) fun n hn => ?_
  refine vc_by (X :=
      true = true ∧ ifB (decide (a ≤ v)) (Done (Value.bool (decide (v ≤ b)) = Value.bool (hasB a b v))) (Done (Value.bool false = Value.bool (hasB a b v)))) (by kernel_rfl) ?_
  refine ⟨rfl, ?_⟩
  repeat' (refine ifB_intro (fun h => ?_) (fun h => ?_))
  all_goals (refine ⟨?_⟩; simp [hasB, h])

def wideHi (W : Int) : Int := IntKind.i64.wrap (W / 18446744073709551616)

def wideLo (W : Int) : Int := W % 18446744073709551616

abbrev wide (W : Int) : Value := .agg #[I (wideHi W), U (wideLo W)]

theorem add64 (x y c : Int) (hx : 0 ≤ x ∧ x < 18446744073709551616) (hy : 0 ≤ y ∧ y < 18446744073709551616) (hc : c = 0 ∨ c = 1) : CallV Try.prog 86 [U x, U y, U c] (.tuple #[U ((x + y + c) % 18446744073709551616), U ((x + y + c) / 18446744073709551616)]) := by
  refine ⟨?_⟩
  rcases hc with rfl | rfl
  all_goals
    show (Value.tuple #[.int .u64 (Int.ofNat ((x.toNat + y.toNat + Int.toNat _) % Extern.MathBitsCarry.m64)), .int .u64 (Int.ofNat ((x.toNat + y.toNat + Int.toNat _) / Extern.MathBitsCarry.m64))]) = _
    simp only [Extern.MathBitsCarry.m64, Value.tuple.injEq, Array.mk.injEq, List.cons.injEq, Value.int.injEq, true_and, and_true]
    constructor <;> simp <;> omega

theorem plus_q (W k : Int) (hk : In64 k) (m : M) : QSpec Try.prog 78 [wide W, I k] m (wide (W + k)) := by
  refine QSpec.of_vc Try.func78 (ann := fun _ => noAnn) fun n hn => ?_
  refine vc_by (X :=
      true = true ∧
      ∃ (n : Int),
      ∃ (n_1 : Int),
      CallV Try.prog (86 : Nat) [Value.int IntKind.u64 (wideLo W), Value.int IntKind.u64 (IntKind.u64.wrap k), Value.int IntKind.u64 (0 : Int)]
      (Value.tuple #[Value.int IntKind.u64 n, Value.int IntKind.u64 n_1]) ∧
      ifB (decide (k < (0 : Int)))
      (Done
      (Value.agg #[Value.int IntKind.i64 (IntKind.i64.wrap (IntKind.i64.wrap (wideHi W + IntKind.i64.wrap n_1) - (1 : Int))), Value.int IntKind.u64 n] =
      Value.agg #[Value.int IntKind.i64 (wideHi (W + k)), Value.int IntKind.u64 (wideLo (W + k))]))
      (Done
      (Value.agg #[Value.int IntKind.i64 (IntKind.i64.wrap (wideHi W + IntKind.i64.wrap n_1)), Value.int IntKind.u64 n] =
      Value.agg #[Value.int IntKind.i64 (wideHi (W + k)), Value.int IntKind.u64 (wideLo (W + k))]))) (by kernel_rfl) ?_
  unfold In64 at hk
  refine ⟨rfl, _, _, add64 _ _ _ (by unfold wideLo; omega) (by simp [IntKind.wrap_u64]; omega) (.inl rfl), ifB_intro (fun h => ⟨?_⟩) (fun h => ⟨?_⟩)⟩
  all_goals
    simp at h
    simp [wideHi, wideLo, IntKind.wrap_i64, IntKind.wrap_u64]
    omega

theorem not_int (k : Int) (hk : In64 k) : IntKind.i64.wrap ((BitVec.ofInt IntKind.i64.bits (-1) ^^^ BitVec.ofInt IntKind.i64.bits k).toNat : Int) = -k - 1 := by
  have e1 : BitVec.ofInt IntKind.i64.bits (-1) = BitVec.allOnes 64 := rfl
  have e2 : (BitVec.allOnes 64 ^^^ BitVec.ofInt 64 k) = ~~~ (BitVec.ofInt 64 k) := by rw [BitVec.xor_comm]; exact BitVec.xor_allOnes
  rw [e1]
  show IntKind.i64.wrap ((BitVec.allOnes 64 ^^^ BitVec.ofInt 64 k).toNat : Int) = -k - 1
  rw [e2, BitVec.toNat_not, BitVec.toNat_ofInt]
  unfold In64 at hk
  simp [IntKind.wrap_i64]
  omega

theorem less_q (W k : Int) (hk : In64 k) (m : M) : QSpec Try.prog 63 [wide W, I k] m (wide (W - k)) := by
  refine QSpec.of_vc Try.func63 (ann := fun _ => noAnn) fun n hn => ?_
  refine vc_by (X :=
      true = true ∧
      ∃ (n_1 : Int),
      ∃ (n_2 : Int),
      QSpec Try.prog (78 : Nat)
      [Value.agg #[Value.int IntKind.i64 (wideHi W), Value.int IntKind.u64 (wideLo W)],
      Value.int IntKind.i64 (IntKind.i64.wrap (↑(BitVec.ofInt (64 : Nat) (if true = true then (-1 : Int) else IntKind.i64.max) ^^^ BitVec.ofInt (64 : Nat) k).toNat : Int))]
      { π := m.π, sz := n, uf := m.uf : M } (Value.agg #[Value.int IntKind.i64 n_1, Value.int IntKind.u64 n_2]) ∧
      ∃ (n_3 : Int),
      ∃ (n_4 : Int),
      QSpec Try.prog (78 : Nat) [Value.agg #[Value.int IntKind.i64 n_1, Value.int IntKind.u64 n_2], Value.int IntKind.i64 (1 : Int)] { π := m.π, sz := n, uf := m.uf : M }
      (Value.agg #[Value.int IntKind.i64 n_3, Value.int IntKind.u64 n_4]) ∧
      Done (Value.agg #[Value.int IntKind.i64 n_3, Value.int IntKind.u64 n_4] = Value.agg #[Value.int IntKind.i64 (wideHi (W - k)), Value.int IntKind.u64 (wideLo (W - k))])) (by kernel_rfl) ?_
  have e : IntKind.i64.wrap ((BitVec.ofInt 64 (if true = true then -1 else IntKind.i64.max) ^^^ BitVec.ofInt 64 k).toNat : Int) = -k - 1 := not_int k hk
  rw [e]
  have e2 : W + (-k - 1) + 1 = W - k := by omega
  have hk' : In64 (-k - 1) := by unfold In64 at *; omega
  have h1 := plus_q (W + (-k - 1)) 1 (by decide) { m with sz := n }
  rw [e2] at h1
  exact ⟨rfl, _, _, plus_q W (-k - 1) hk' _, _, _, h1, ⟨rfl⟩⟩

theorem int_q (W : Int) (h1 : -85070591730234615865843651857942052864 ≤ W) (h2 : W ≤ 85070591730234615865843651857942052864) (m : M) :
    QSpec Try.prog 65 [wide W] m (.tuple #[I (IntKind.i64.wrap W), .bool (decide (In64 W))]) := by
  refine QSpec.of_vc Try.func65 (ann := fun _ => noAnn) fun n hn => ?_
  refine vc_by (X :=
      true = true ∧
      true = true ∧
      ifB (wideHi W == (0 : Int))
      (ifB (decide (wideLo W < (9223372036854775808 : Int)))
      (Done
      (Value.tuple #[Value.int IntKind.i64 (IntKind.i64.wrap (wideLo W)), Value.bool true] =
      Value.tuple #[Value.int IntKind.i64 (IntKind.i64.wrap W), Value.bool (decide (In64 W))]))
      (ifB (wideHi W == (-1 : Int))
      (Done
      (Value.tuple #[Value.int IntKind.i64 (IntKind.i64.wrap (wideLo W)), Value.bool (decide (wideLo W ≥ (9223372036854775808 : Int)))] =
      Value.tuple #[Value.int IntKind.i64 (IntKind.i64.wrap W), Value.bool (decide (In64 W))]))
      (Done
      (Value.tuple #[Value.int IntKind.i64 (IntKind.i64.wrap (wideLo W)), Value.bool false] =
      Value.tuple #[Value.int IntKind.i64 (IntKind.i64.wrap W), Value.bool (decide (In64 W))]))))
      (ifB (wideHi W == (-1 : Int))
      (Done
      (Value.tuple #[Value.int IntKind.i64 (IntKind.i64.wrap (wideLo W)), Value.bool (decide (wideLo W ≥ (9223372036854775808 : Int)))] =
      Value.tuple #[Value.int IntKind.i64 (IntKind.i64.wrap W), Value.bool (decide (In64 W))]))
      (Done
      (Value.tuple #[Value.int IntKind.i64 (IntKind.i64.wrap (wideLo W)), Value.bool false] =
      Value.tuple #[Value.int IntKind.i64 (IntKind.i64.wrap W), Value.bool (decide (In64 W))])))) (by kernel_rfl) ?_
  refine ⟨rfl, rfl, ?_⟩
  repeat' (refine ifB_intro (fun h => ?_) (fun h => ?_))
  all_goals refine ⟨?_⟩
  all_goals simp only [Value.tuple.injEq, Array.mk.injEq, List.cons.injEq, Value.bool.injEq, and_true, eq_comm (a := true), eq_comm (a := false), decide_eq_true_eq, decide_eq_false_iff_not, decide_eq_decide, beq_iff_eq, beq_eq_false_iff_ne] at *
  all_goals simp [wideHi, wideLo, IntKind.wrap_i64, In64] at *
  all_goals omega

/-- the sum of many, in order -/
def sumI (l : List Int) : Int := l.foldl (· + ·) 0

theorem foldl_add (l : List Int) (a : Int) : l.foldl (· + ·) a = a + l.foldl (· + ·) 0 := by
  induction l generalizing a with
  | nil => simp
  | cons x r ih => simp only [List.foldl_cons]; rw [ih, ih (0 + x)]; omega

theorem sumI_take (l : List Int) (k : Nat) (h : k < l.length) : sumI (l.take (k + 1)) = sumI (l.take k) + l[k] := by
  unfold sumI
  rw [List.take_succ_eq_append_getElem h, List.foldl_append]
  simp

theorem sumI_bound (l : List Int) (h : ∀ x ∈ l, In64 x) : -9223372036854775808 * (l.length : Int) ≤ sumI l ∧ sumI l ≤ 9223372036854775807 * (l.length : Int) := by
  induction l with
  | nil => simp [sumI]
  | cons x r ih =>
    have := ih (fun y hy => h y (by simp [hy]))
    have hx := h x (by simp)
    unfold In64 at hx
    have e : sumI (x :: r) = x + sumI r := by simp only [sumI, List.foldl_cons]; rw [foldl_add]; simp
    rw [e]
    simp only [List.length_cons, Int.natCast_add]
    omega

abbrev ints (l : List Int) : List Value := l.flatMap fun x => [I x]

theorem ints_len (l : List Int) : (ints l).length = l.length := by
  induction l with
  | nil => rfl
  | cons x r ih => simp only [ints, List.flatMap_cons, List.length_append, List.length_cons, List.length_nil] at *; omega

theorem ints_at {m : M} {b o i : Nat} {l : List Int} (h : CellsAt m b o (ints l)) (hi : i < l.length) : CellsAt m b (o + i) [I l[i]] := by
  have := CellsAt.elem (k := 1) (enc := fun x => [I x]) (fun _ => rfl) l o i hi h
  simpa using this

def ofAnn (a : Option Addr) (c : Nat) (l : List Int) (m : M) : Ann where
  A := Nat
  inv k := k ≤ l.length
  st k := [(4, .val (I k)), (0, .val (.slice a l.length c)), (3, .own 2 0), (2, .own 0 0)]
  own k := [(0, ⟨101, [I 0, U 0]⟩), (2, ⟨101, [I (wideHi (sumI (l.take k))), U (wideLo (sumI (l.take k)))]⟩)]
  m _ := m
  μ k := l.length - k

theorem of_q (a : Option Addr) (c : Nat) (l : List Int) (hl : ∀ x ∈ l, In64 x) (hn : l.length ≤ 140737488355328) (m : M) (h : Row m a (ints l)) :
    QSpec Try.prog 64 [.slice a l.length c] m (wide (sumI l)) := by
  refine QSpec.of_vc Try.func64 (ann := fun n _ => ofAnn a c l { m with sz := n }) fun n hn => ?_
  refine vc_by (X :=
      true = true ∧
      (∃ (a_1 : Nat),
      a_1 ≤ l.length ∧
      { π := m.π, sz := n, uf := m.uf : M } = { π := m.π, sz := n, uf := m.uf : M } ∧
      ((SV.val (Value.int IntKind.i64 (0 : Int)) = SV.val (Value.int IntKind.i64 (↑a_1 : Int)) ∧ true = true) ∧
      (SV.val (Value.slice a l.length c) = SV.val (Value.slice a l.length c) ∧ true = true) ∧
      (SV.own ((0 : Nat) + (1 : Nat) + (1 : Nat)) (0 : Nat) = SV.own (2 : Nat) (0 : Nat) ∧ true = true) ∧
      (SV.own ((0 : Nat) + (0 : Nat)) (0 : Nat) = SV.own (0 : Nat) (0 : Nat) ∧ true = true) ∧ True) ∧
      (some { ty := (101 : Nat), cs := [Value.int IntKind.i64 (0 : Int), Value.int IntKind.u64 (0 : Int)] : Bx } =
      some { ty := (101 : TypeId), cs := [Value.int IntKind.i64 (0 : Int), Value.int IntKind.u64 (0 : Int)] : Bx } ∧
      true = true) ∧
      (some { ty := (101 : Nat), cs := [Value.int IntKind.i64 (0 : Int), Value.int IntKind.u64 (0 : Int)] : Bx } =
      some { ty := (101 : TypeId), cs := [Value.int IntKind.i64 (wideHi (sumI (List.take a_1 l))), Value.int IntKind.u64 (wideLo (sumI (List.take a_1 l)))] : Bx } ∧
      true = true) ∧
      True) ∧
      ∀ (a_1 : Nat),
      a_1 ≤ l.length →
      ifB (decide ((↑a_1 : Int) < (↑l.length : Int)))
      (true = true ∧
      ∃ (b : Nat),
      ∃ (off : Nat),
      a = some { block := b, off := off : Addr } ∧
      ((0 : Int) ≤ (↑a_1 : Int) ∧ (↑a_1 : Int) < (↑l.length : Int)) ∧
      ∃ (n_1 : Int),
      CellsAt { π := m.π, sz := n, uf := m.uf : M } b (off + (↑a_1 : Int).toNat * (1 : Nat)) [Value.int IntKind.i64 n_1] ∧
      ∃ (n_2 : Int),
      ∃ (n_3 : Int),
      QSpec Try.prog (78 : Nat)
      [Value.agg #[Value.int IntKind.i64 (wideHi (sumI (List.take a_1 l))), Value.int IntKind.u64 (wideLo (sumI (List.take a_1 l)))],
      Value.int IntKind.i64 n_1]
      { π := m.π, sz := n, uf := m.uf : M } (Value.agg #[Value.int IntKind.i64 n_2, Value.int IntKind.u64 n_3]) ∧
      ∃ (a' : Nat),
      (a' ≤ l.length ∧
      { π := m.π, sz := n, uf := m.uf : M } = { π := m.π, sz := n, uf := m.uf : M } ∧
      ((SV.val (Value.int IntKind.i64 (IntKind.i64.wrap ((↑a_1 : Int) + (1 : Int)))) = SV.val (Value.int IntKind.i64 (↑a' : Int)) ∧ true = true) ∧
      (SV.val (Value.slice a l.length c) = SV.val (Value.slice a l.length c) ∧ true = true) ∧
      (SV.own (2 : Nat) (0 : Nat) = SV.own (2 : Nat) (0 : Nat) ∧ true = true) ∧
      (SV.own (0 : Nat) (0 : Nat) = SV.own (0 : Nat) (0 : Nat) ∧ true = true) ∧ True) ∧
      (some { ty := (101 : TypeId), cs := [Value.int IntKind.i64 (0 : Int), Value.int IntKind.u64 (0 : Int)] : Bx } =
      some { ty := (101 : TypeId), cs := [Value.int IntKind.i64 (0 : Int), Value.int IntKind.u64 (0 : Int)] : Bx } ∧
      true = true) ∧
      (some { ty := (101 : TypeId), cs := [Value.int IntKind.i64 n_2, Value.int IntKind.u64 n_3] : Bx } =
      some
      { ty := (101 : TypeId), cs := [Value.int IntKind.i64 (wideHi (sumI (List.take a' l))), Value.int IntKind.u64 (wideLo (sumI (List.take a' l)))] : Bx } ∧
      true = true) ∧
      True) ∧
      l.length - a' < l.length - a_1)
      (Done
      (Value.agg #[Value.int IntKind.i64 (wideHi (sumI (List.take a_1 l))), Value.int IntKind.u64 (wideLo (sumI (List.take a_1 l)))] =
      Value.agg #[Value.int IntKind.i64 (wideHi (sumI l)), Value.int IntKind.u64 (wideLo (sumI l))]))) (by kernel_rfl) ?_
  have h' := h.sz hn
  refine ⟨rfl, ⟨0, by simp [sumI, wideHi, wideLo, IntKind.wrap_i64]⟩, fun k hk => ifB_intro (fun hb => ?_) (fun hb => ⟨?_⟩)⟩
  · have hk2 : k < l.length := by simpa using hb
    obtain ⟨b, o, rfl, hc⟩ := h'.cells (by rw [ints_len]; omega)
    refine ⟨rfl, b, o, rfl, by omega, l[k], by simpa using ints_at hc hk2, _, _, plus_q _ _ (hl _ (List.getElem_mem hk2)) _, k + 1, ⟨hk2, rfl, ⟨⟨?_, rfl⟩, by simp⟩, ?_⟩, by omega⟩
    · simp [IntKind.wrap_i64]; omega
    · rw [sumI_take l k hk2]; simp
  · have : k = l.length := by simp at hb; omega
    subst this
    simp

theorem row2 {m : M} {b : Nat} (a c : Int) : Row (m.newBlock b [I a, I c]) (some ⟨b, 0, none⟩) (ints [a, c]) := .at _ _ _ (by simp only [M.newBlock]; omega) cellsAt_new

theorem row1 {m : M} {b : Nat} (a : Int) : Row (m.newBlock b [I a]) (some ⟨b, 0, none⟩) (ints [a]) := .at _ _ _ (by simp only [M.newBlock]; omega) cellsAt_new

theorem ofNat63 (n : Int) : n.fdiv (2 ^ 63) = n / 9223372036854775808 := by rw [Int.fdiv_eq_ediv_of_nonneg _ (by decide)]; rfl

theorem sum_q (a : Option Addr) (c : Nat) (l : List Int) (hl : ∀ x ∈ l, In64 x) (hn : l.length ≤ 140737488355328) (m : M) (h : Row m a (ints l)) :
    QSpec Try.prog 87 [.slice a l.length c] m (.tuple #[I (if In64 (sumI l) then sumI l else 0), I (if In64 (sumI l) then 0 else 10)]) := by
  refine QSpec.of_vc Try.func87 (ann := fun n _ => { A := Nat, inv := fun k => k ≤ l.length, st := fun k => [(12, .val (I k)), (11, .val (I l.length)), (10, .val (.slice a l.length c)), (5, .val (U (wideLo (sumI (l.take k))))), (4, .val (U (IntKind.u64.wrap (sumI (l.take k) / 18446744073709551616))))], own := fun _ => [], m := fun _ => { m with sz := n }, μ := fun k => l.length - k }) fun n hn => ?_
  refine vc_by (X :=
      true = true ∧
      (∃ (a_1 : Nat),
      a_1 ≤ l.length ∧
      { π := m.π, sz := n, uf := m.uf : M } = { π := m.π, sz := n, uf := m.uf : M } ∧
      ((SV.val (Value.int IntKind.i64 (0 : Int)) = SV.val (Value.int IntKind.i64 (↑a_1 : Int)) ∧ true = true) ∧
      (SV.val (Value.int IntKind.i64 (↑l.length : Int)) = SV.val (Value.int IntKind.i64 (↑l.length : Int)) ∧ true = true) ∧
      (SV.val (Value.slice a l.length c) = SV.val (Value.slice a l.length c) ∧ true = true) ∧
      (SV.val (Value.int IntKind.u64 (0 : Int)) = SV.val (Value.int IntKind.u64 (wideLo (sumI (List.take a_1 l)))) ∧ true = true) ∧
      (SV.val (Value.int IntKind.u64 (0 : Int)) = SV.val (Value.int IntKind.u64 (IntKind.u64.wrap (sumI (List.take a_1 l) / (18446744073709551616 : Int)))) ∧
      true = true) ∧
      True) ∧
      True) ∧
      ∀ (a_1 : Nat),
      a_1 ≤ l.length →
      ifB (decide ((↑a_1 : Int) < (↑l.length : Int)))
      (∃ (b : Nat),
      ∃ (off : Nat),
      a = some { block := b, off := off : Addr } ∧
      ((0 : Int) ≤ (↑a_1 : Int) ∧ (↑a_1 : Int) < (↑l.length : Int)) ∧
      ∃ (n_1 : Int),
      CellsAt { π := m.π, sz := n, uf := m.uf : M } b (off + (↑a_1 : Int).toNat * (1 : Nat)) [Value.int IntKind.i64 n_1] ∧
      ∃ (n_2 : Int),
      ∃ (n_3 : Int),
      CallV Try.prog (86 : Nat)
      [Value.int IntKind.u64 (wideLo (sumI (List.take a_1 l))), Value.int IntKind.u64 (IntKind.u64.wrap n_1), Value.int IntKind.u64 (0 : Int)]
      (Value.tuple #[Value.int IntKind.u64 n_2, Value.int IntKind.u64 n_3]) ∧
      ∃ (n_4 : Int),
      ∃ (n_5 : Int),
      CallV Try.prog (86 : Nat)
      [Value.int IntKind.u64 (IntKind.u64.wrap (sumI (List.take a_1 l) / (18446744073709551616 : Int))),
      Value.int IntKind.u64 (IntKind.u64.wrap (n_1.fdiv ((2 : Int) ^ (63 : Nat)))), Value.int IntKind.u64 n_3]
      (Value.tuple #[Value.int IntKind.u64 n_4, Value.int IntKind.u64 n_5]) ∧
      ∃ (a' : Nat),
      (a' ≤ l.length ∧
      { π := m.π, sz := n, uf := m.uf : M } = { π := m.π, sz := n, uf := m.uf : M } ∧
      ((SV.val (Value.int IntKind.i64 (IntKind.i64.wrap ((↑a_1 : Int) + (1 : Int)))) = SV.val (Value.int IntKind.i64 (↑a' : Int)) ∧
      true = true) ∧
      (SV.val (Value.int IntKind.i64 (↑l.length : Int)) = SV.val (Value.int IntKind.i64 (↑l.length : Int)) ∧ true = true) ∧
      (SV.val (Value.slice a l.length c) = SV.val (Value.slice a l.length c) ∧ true = true) ∧
      (SV.val (Value.int IntKind.u64 n_2) = SV.val (Value.int IntKind.u64 (wideLo (sumI (List.take a' l)))) ∧ true = true) ∧
      (SV.val (Value.int IntKind.u64 n_4) =
      SV.val (Value.int IntKind.u64 (IntKind.u64.wrap (sumI (List.take a' l) / (18446744073709551616 : Int)))) ∧
      true = true) ∧
      True) ∧
      True) ∧
      l.length - a' < l.length - a_1)
      (ifB
      (IntKind.u64.wrap (sumI (List.take a_1 l) / (18446744073709551616 : Int)) !=
      IntKind.u64.wrap ((IntKind.i64.wrap (wideLo (sumI (List.take a_1 l)))).fdiv ((2 : Int) ^ (63 : Nat))))
      (Done
      (Value.tuple #[Value.int IntKind.i64 (0 : Int), Value.int IntKind.i64 (10 : Int)] =
      Value.tuple #[Value.int IntKind.i64 (if In64 (sumI l) then sumI l else (0 : Int)), Value.int IntKind.i64 (if In64 (sumI l) then (0 : Int) else (10 : Int))]))
      (Done
      (Value.tuple #[Value.int IntKind.i64 (IntKind.i64.wrap (wideLo (sumI (List.take a_1 l)))), Value.int IntKind.i64 (0 : Int)] =
      Value.tuple #[Value.int IntKind.i64 (if In64 (sumI l) then sumI l else (0 : Int)), Value.int IntKind.i64 (if In64 (sumI l) then (0 : Int) else (10 : Int))])))) (by kernel_rfl) ?_
  have h' := h.sz hn
  refine ⟨rfl, ⟨0, by simp [sumI, wideLo, IntKind.wrap_u64]⟩, fun k hk => ifB_intro (fun hb => ?_) (fun hb => ?_)⟩
  · have hk2 : k < l.length := by simpa using hb
    obtain ⟨b, o, rfl, hc⟩ := h'.cells (by rw [ints_len]; omega)
    have hx := hl _ (List.getElem_mem hk2)
    unfold In64 at hx
    refine ⟨b, o, rfl, by omega, l[k], by simpa using ints_at hc hk2, _, _, add64 _ _ _ (by unfold wideLo; omega) (by simp [IntKind.wrap_u64]; omega) (.inl rfl), _, _, add64 _ _ _ (by simp [IntKind.wrap_u64]; omega) (by simp [IntKind.wrap_u64]; omega) (by unfold wideLo; simp [IntKind.wrap_u64]; omega), k + 1, ⟨hk2, rfl, ⟨⟨?_, rfl⟩, by simp, by simp, ⟨?_, rfl⟩, ⟨?_, rfl⟩, trivial⟩, trivial⟩, by omega⟩
    · simp [IntKind.wrap_i64]; omega
    · rw [sumI_take l k hk2]; simp [wideLo, IntKind.wrap_u64]
    · rw [sumI_take l k hk2, ofNat63]
      have hi : (sumI (l.take k) + l[k]) / 18446744073709551616 = sumI (l.take k) / 18446744073709551616 + l[k] / 9223372036854775808 + (wideLo (sumI (l.take k)) + IntKind.u64.wrap l[k] + 0) / 18446744073709551616 := by simp [wideLo, IntKind.wrap_u64]; omega
      rw [hi]
      generalize sumI (l.take k) / 18446744073709551616 = p
      generalize l[k] / 9223372036854775808 = r
      generalize (wideLo (sumI (l.take k)) + IntKind.u64.wrap l[k] + 0) / 18446744073709551616 = t
      simp [IntKind.wrap_u64]; omega
  · have : k = l.length := by simp at hb; omega
    subst this
    rw [List.take_length, ofNat63]
    have hb := sumI_bound l hl
    by_cases hin : In64 (sumI l)
    · rw [if_pos hin, if_pos hin]
      unfold In64 at hin
      refine ifB_intro (fun h => ?_) (fun h => ⟨?_⟩)
      · simp [wideLo, IntKind.wrap_u64, IntKind.wrap_i64] at h; omega
      · simp [wideLo, IntKind.wrap_i64]; omega
    · rw [if_neg hin, if_neg hin]
      unfold In64 at hin
      refine ifB_intro (fun h => ⟨rfl⟩) (fun h => ?_)
      · simp [wideLo, IntKind.wrap_u64, IntKind.wrap_i64] at h; omega

/-- what the first k parts have together -/
def shareS (a b : Int) (k : Nat) : Int := k * (a / b) + min (k : Int) (a % b)

theorem share_at (a b : Int) (k : Nat) (h1 : 1 ≤ b) (h2 : (k : Int) < b) : shareV a b k = a / b + (if (k : Int) < a % b then 1 else 0) := by
  have : ¬ (b < 1 ∨ (k : Int) < 0 ∨ b ≤ k) := by omega
  unfold shareV
  rw [if_neg this]
  split <;> simp

theorem share_step (a b : Int) (k : Nat) (h1 : 1 ≤ b) (h2 : (k : Int) < b) : shareS a b (k + 1) = shareS a b k + shareV a b k := by
  rw [share_at a b k h1 h2]
  unfold shareS
  push_cast
  rw [Int.add_mul, Int.one_mul]
  split <;> omega

theorem sumI_append (a b : List Int) : sumI (a ++ b) = sumI a + sumI b := by
  unfold sumI
  rw [List.foldl_append, foldl_add]

theorem sumI_reverse (l : List Int) : sumI l.reverse = sumI l := by
  induction l with
  | nil => rfl
  | cons x r ih =>
    rw [List.reverse_cons, sumI_append, ih, show x :: r = [x] ++ r from rfl, sumI_append]
    omega

structure OrdX where
  j : Nat
  a : Option Addr
  c : Nat
  m : M

def ordAnn (a : Option Addr) (c : Nat) (l : List Int) (k : Int) (m : M) : Ann where
  A := OrdX
  inv x := x.j ≤ l.length ∧ OwnB m.sz (fun _ => False) x.m 1 x.a x.j x.c (ints (l.reverse.take x.j)) ∧ Agree m.sz m x.m
  st x := [(6, .val (I ((l.length : Int) - 1 - x.j))), (5, .val (.slice x.a x.j x.c)), (0, .val (.slice a l.length c)), (1, .val (I k))]
  own _ := []
  m x := x.m
  μ x := l.length - x.j

end Go.Proofs.Ytoilbbfidnhekaa
set_option linter.unusedVariables false
set_option linter.unusedSimpArgs false
namespace Go.Proofs.Ytoilbbfidnhekaa
open Go.Vc Go.RowKit Go.ChangeShapes Go.WideShapes Go.ChangeAt
set_option maxRecDepth 100000

theorem bulk_mem {H : Type} {d : DataW H} : ∀ {l : List (DataW H)}, d ∈ l → Rows.uptoBulk d ≤ Rows.uptoBulkAll l
  | x :: r, h => by
    simp only [Rows.uptoBulkAll]
    rcases List.mem_cons.1 h with e | e
    · subst e; omega
    · have := bulk_mem e; omega

theorem bulk_pos {H : Type} (d : DataW H) : 1 ≤ Rows.uptoBulk d := by
  cases d with
  | lit l => cases l <;> simp [Rows.uptoBulk]
  | _ => simp [Rows.uptoBulk]

theorem bulk_len {H : Type} : ∀ (l : List (DataW H)), l.length ≤ Rows.uptoBulkAll l
  | [] => by simp
  | x :: r => by have := bulk_pos x; have := bulk_len r; simp only [Rows.uptoBulkAll, List.length_cons]; omega

theorem bound_upto (H : Type) : Bound (H := H) 1048576 (fun d => Rows.uptoBulk d ≤ 1048576) where
  str l h _ := by simp [Rows.uptoBulk] at h; omega
  sl el sp h := by
    simp only [Rows.uptoBulk] at h
    have h1 := bulk_len el
    have h2 := bulk_len sp
    refine ⟨fun _ => by omega, fun x hx => ?_⟩
    rcases hx with hx | hx
    · have := bulk_mem hx; omega
    · have := bulk_mem hx; omega
  agg ps h x hx := by simp only [Rows.uptoBulk] at h; have := bulk_mem hx; omega

theorem bound_any (H : Type) : Bound (H := H) 9223372036854775807 (fun _ => True) where
  str l _ h := h
  sl el sp _ := ⟨fun h => h, fun _ _ => trivial⟩
  agg ps _ x _ := trivial

variable {H : Type} {enc : TypeId × Value → H} {W : World} {r : Reach} {b0 : Nat} {v : Value} {d : DataW H} {p : List MemPlace} {N : Nat} {Bd : DataW H → Prop}

theorem in64_of {n : Int} (h : IntKind.min .i64 ≤ n ∧ n ≤ IntKind.max .i64) : In64 n := by
  simpa [In64, IntKind.min, IntKind.max, IntKind.signed, IntKind.bits] using h

theorem open_i (hv : Value.okWide Try.prog W r b0 3 v) (h : DataW.Trod enc Try.prog W 0 (fun _ => true) true 3 v d p) : ∃ n : Int, v = I n ∧ In64 n := by
  obtain ⟨n, rfl⟩ := okWide_int Try.underlying3 hv
  obtain ⟨fuel, hf⟩ := h
  obtain ⟨n', hn, -, hw⟩ := DataW.trod_int Try.underlying3 hf
  cases hn
  exact ⟨n, rfl, in64_of (by simpa [Lit.wf] using hw)⟩

theorem open_b (hv : Value.okWide Try.prog W r b0 4 v) : ∃ b : Bool, v = .bool b := okWide_bool Try.underlying4 hv

theorem open_s (B : Bound N Bd) (hv : Value.okWide Try.prog W r b0 9 v) (h : DataW.Trod enc Try.prog W 0 (fun _ => true) true 9 v d p) (hb : Bd d) : ∃ s : ByteArray, v = .string s ∧ s.size ≤ N := by
  obtain ⟨s, rfl⟩ := okWide_string Try.underlying9 hv
  obtain ⟨fuel, hf⟩ := h
  have hr := rd_of_trod B 1 fuel 9 _ _ hf hb
  have e := Try.underlying9
  simp only [Rd, e] at hr
  obtain ⟨s', hs, hl⟩ := hr
  simp [Value.cells] at hs
  subst hs
  exact ⟨s, rfl, hl⟩

/-- a struct's cells -/
theorem open_agg {fs : Array Field} {t : TypeId} {k : Nat} (ht : Try.prog.underlying t = some (.struct fs)) (hk : Try.prog.cellsOf t = k) (hv : Value.okWide Try.prog W r b0 t v) : ∃ cs : List Value, v = .agg cs.toArray ∧ cs.length = k := by
  obtain ⟨cs, rfl, hs⟩ := okWide_struct ht hv
  exact ⟨cs.toList, by simp, by simpa using hs.trans hk⟩

/-- the rows of a list, one by one -/
theorem rows_list {α : Type} {e : α → List Value} {p : α → Prop} : ∀ (rows : List (List Value)), (∀ r ∈ rows, ∃ x : α, r = e x ∧ p x) → ∃ z : List α, z.length = rows.length ∧ rows.flatten = z.flatMap e ∧ ∀ x ∈ z, p x
  | [], _ => ⟨[], rfl, rfl, fun x hx => by simp at hx⟩
  | r :: rs, h => by
    obtain ⟨z, h1, h2, h3⟩ := rows_list rs fun r hr => h r (by simp [hr])
    obtain ⟨n, rfl, hn⟩ := h r (by simp)
    refine ⟨n :: z, by simp [h1], by simp only [List.flatten_cons, h2, List.flatMap_cons], fun x hx => ?_⟩
    rcases List.mem_cons.1 hx with e | e
    · subst e; exact hn
    · exact h3 x e

theorem open_ints (B : Bound N Bd) (hv : Value.okWide Try.prog W r b0 66 v) (h : DataW.Trod enc Try.prog W 0 (fun _ => true) true 66 v d p) (hb : Bd d) :
    ∃ (a : Option Addr) (c : Nat) (z : List Int), v = .slice a z.length c ∧ z.length ≤ N ∧ (∀ x ∈ z, In64 x) ∧ Row (M.all W) a (ints z) := by
  obtain ⟨a, len, cap, rfl⟩ := okWide_slice Try.underlying66 hv
  obtain ⟨fuel, hf⟩ := h
  have hr := rd_of_trod B 2 fuel 66 _ _ hf hb
  simp only [Rd, Try.underlying66, Try.underlying3] at hr
  obtain ⟨a', cap', rows, hcs, h1, h2, h3, h4, h5⟩ := hr
  obtain ⟨z, hz, he, hi⟩ := rows_list (α := Int) (e := fun n => [I n]) (p := In64) rows fun r hr => by
    obtain ⟨-, n, hn, hw⟩ := h4 r hr
    exact ⟨n, hn, in64_of hw⟩
  simp [Value.cells] at hcs
  obtain ⟨rfl, rfl, rfl⟩ := hcs
  rw [he] at h5
  exact ⟨a, cap, z, by rw [hz], by omega, hi, h5⟩

end Go.Proofs.Ytoilbbfidnhekaa
set_option linter.unusedVariables false
set_option linter.unusedSimpArgs false
namespace Go.Proofs.Ytoilbbfidnhekaa
open Go.Vc Go.RowKit Go.ChangeShapes Go.WideShapes Go.ChangeAt
set_option maxRecDepth 100000

structure Dl where
  cl : Int
  sq : Int
  ky : ByteArray
  ot : ByteArray
  n : Int
  mi : Int
  th : Int
  ft : Int

def Dl.wf (x : Dl) : Prop := In64 x.cl ∧ In64 x.sq ∧ x.ky.size ≤ 9223372036854775807 ∧ x.ot.size ≤ 9223372036854775807 ∧ In64 x.n ∧ In64 x.mi ∧ In64 x.th ∧ In64 x.ft

abbrev encDl (x : Dl) : List Value := [I x.cl, I x.sq, .string x.ky, .string x.ot, I x.n, I x.mi, I x.th, I x.ft]

abbrev dlv (x : Dl) : Value := .agg #[I x.cl, I x.sq, .string x.ky, .string x.ot, I x.n, I x.mi, I x.th, I x.ft]

abbrev dls (l : List Dl) : List Value := l.flatMap encDl

theorem dl_k (x : Dl) : (encDl x).length = 8 := rfl

theorem dl_len (l : List Dl) : (dls l).length = l.length * 8 := flat_len dl_k l

theorem dl_at {m : M} {b o i : Nat} {l : List Dl} (h : CellsAt m b o (dls l)) (hi : i < l.length) : CellsAt m b (o + i * 8) (encDl l[i]) := CellsAt.elem dl_k l o i hi h

theorem dl_ext {a b : Dl} : a = b ↔ a.cl = b.cl ∧ a.sq = b.sq ∧ a.ky = b.ky ∧ a.ot = b.ot ∧ a.n = b.n ∧ a.mi = b.mi ∧ a.th = b.th ∧ a.ft = b.ft := by
  cases a; cases b; simp

instance : DecidableEq Dl := fun _ _ => decidable_of_iff' _ dl_ext

theorem dl_one (l : List Dl) : oneCells (dls l) = true := by
  rw [oneCells_iff]; intro v hv
  obtain ⟨w, -, hw⟩ := List.mem_flatMap.1 hv
  exact oneCells_iff.1 (rfl : oneCells (encDl w) = true) v hw

theorem dl_zr (k : Nat) : (zeroRow Try.prog 24 k).length = k * 8 := zrLen (by kernel_rfl) k

theorem dl_cells : Try.prog.cellsOf 24 = 8 := by kernel_rfl

theorem dl_rd {m : M} {N d : Nat} {cs : List Value} (h : Rd Try.prog m N (d + 2) 24 cs) (hN : N ≤ 9223372036854775807) : ∃ x : Dl, cs = encDl x ∧ x.wf := by
  have hc1 := (by kernel_rfl : Try.prog.cellsOf 9 = 1)
  have hc2 := (by kernel_rfl : Try.prog.cellsOf 3 = 1)
  simp only [Rd, Try.underlying24, Try.underlying9, Try.underlying3, fieldsD, dl_cells, hc1, hc2] at h
  obtain ⟨hl, ⟨k1, e1, w1⟩, ⟨k2, e2, w2⟩, ⟨k3, e3, w3⟩, ⟨k4, e4, w4⟩, ⟨k5, e5, w5⟩, ⟨k6, e6, w6⟩, ⟨k7, e7, w7⟩, ⟨k8, e8, w8⟩, -⟩ := h
  obtain ⟨c1, c2, c3, c4, c5, c6, c7, c8, rfl⟩ : ∃ c1 c2 c3 c4 c5 c6 c7 c8, cs = [c1, c2, c3, c4, c5, c6, c7, c8] := by
    match cs, hl with
    | [c1, c2, c3, c4, c5, c6, c7, c8], _ => exact ⟨_, _, _, _, _, _, _, _, rfl⟩
  simp at e1 e2 e3 e4 e5 e6 e7 e8
  subst e1 e2 e3 e4 e5 e6 e7 e8
  exact ⟨⟨k1, k2, k3, k4, k5, k6, k7, k8⟩, rfl, in64_of w1, in64_of w2, Nat.le_trans w3 hN, Nat.le_trans w4 hN, in64_of w5, in64_of w6, in64_of w7, in64_of w8⟩

theorem open_dl {H : Type} {enc : TypeId × Value → H} {W : World} {r : Reach} {b0 : Nat} {v : Value} {d : DataW H} {p : List MemPlace} {N : Nat} {Bd : DataW H → Prop} (B : Bound N Bd) (hN : N ≤ 9223372036854775807) (hv : Value.okWide Try.prog W r b0 24 v) (h : DataW.Trod enc Try.prog W 0 (fun _ => true) true 24 v d p) (hb : Bd d) : ∃ x : Dl, v = dlv x ∧ x.wf := by
  obtain ⟨cs, rfl, hl⟩ := open_agg Try.underlying24 dl_cells hv
  obtain ⟨fuel, hf⟩ := h
  have hr := rd_of_trod B 2 fuel 24 _ _ hf hb
  simp only [Value.cells] at hr
  obtain ⟨x, he, hw⟩ := dl_rd (d := 0) hr hN
  exact ⟨x, by rw [show cs = encDl x from he], hw⟩

theorem open_dls {H : Type} {enc : TypeId × Value → H} {W : World} {r : Reach} {b0 : Nat} {v : Value} {d : DataW H} {p : List MemPlace} {N : Nat} {Bd : DataW H → Prop} (B : Bound N Bd) (hN : N ≤ 9223372036854775807) (hv : Value.okWide Try.prog W r b0 22 v) (h : DataW.Trod enc Try.prog W 0 (fun _ => true) true 22 v d p) (hb : Bd d) :
    ∃ (a : Option Addr) (c : Nat) (z : List Dl), v = .slice a z.length c ∧ z.length ≤ N ∧ (∀ x ∈ z, x.wf) ∧ (a = none → z = []) ∧ Row (M.all W) a (dls z) := by
  obtain ⟨a, len, cap, rfl⟩ := okWide_slice Try.underlying22 hv
  obtain ⟨fuel, hf⟩ := h
  have hr := rd_of_trod B 3 fuel 22 _ _ hf hb
  rw [Rd] at hr
  simp only [Try.underlying22] at hr
  obtain ⟨a', cap', rows, hcs, h1, h2, h3, h4, h5⟩ := hr
  obtain ⟨z, hz, he, hi⟩ := rows_list (α := Dl) (e := encDl) (p := Dl.wf) rows fun r hr => dl_rd (d := 0) (h4 r hr).2 hN
  simp [Value.cells] at hcs
  obtain ⟨rfl, rfl, rfl⟩ := hcs
  rw [he] at h5
  exact ⟨a, cap, z, by rw [hz], by omega, hi, fun e => List.eq_nil_of_length_eq_zero (by have := h3 e; omega), h5⟩

theorem dl_plain (a a2 : Option Addr) (c c2 : Nat) (l l2 : List Dl) (hn1 : l.length ≤ 9223372036854775807) (m : M) (h : Row m a (dls l)) (h2 : Row m a2 (dls l2)) :
    QSpec Try.prog 17 [.slice a l.length c, .slice a2 l2.length c2] m (.bool (decide (l = l2))) := by
  refine QSpec.of_vc Try.func17 (ann := fun n _ => { A := Nat, inv := fun k => k ≤ l.length ∧ l.take k = l2.take k, st := fun k => [(5, .val (I k)), (0, .val (.slice a l.length c)), (1, .val (.slice a2 l2.length c2))], own := fun _ => [], m := fun _ => { m with sz := n }, μ := fun k => (l.length - k) }) fun n hn => ?_
  refine vc_by (X :=
      true = true ∧
      ifB ((↑l.length : Int) != (↑l2.length : Int)) (Done (Value.bool false = Value.bool (decide (l = l2))))
      ((∃ (a_1 : Nat),
      (a_1 ≤ l.length ∧ List.take a_1 l = List.take a_1 l2) ∧
      { π := m.π, sz := n, uf := m.uf : M } = { π := m.π, sz := n, uf := m.uf : M } ∧
      ((SV.val (Value.int IntKind.i64 (0 : Int)) = SV.val (Value.int IntKind.i64 (↑a_1 : Int)) ∧ true = true) ∧
      (SV.val (Value.slice a l.length c) = SV.val (Value.slice a l.length c) ∧ true = true) ∧
      (SV.val (Value.slice a2 l2.length c2) = SV.val (Value.slice a2 l2.length c2) ∧ true = true) ∧ True) ∧
      True) ∧
      ∀ (a_1 : Nat),
      a_1 ≤ l.length ∧ List.take a_1 l = List.take a_1 l2 →
      ifB (decide ((↑a_1 : Int) < (↑l.length : Int)))
      (true = true ∧
      ∃ (b : Nat),
      ∃ (off : Nat),
      a = some { block := b, off := off : Addr } ∧
      ((0 : Int) ≤ (↑a_1 : Int) ∧ (↑a_1 : Int) < (↑l.length : Int)) ∧
      ∃ (n_1 : Int),
      ∃ (n_2 : Int),
      ∃ (s : ByteArray),
      ∃ (s_1 : ByteArray),
      ∃ (n_3 : Int),
      ∃ (n_4 : Int),
      ∃ (n_5 : Int),
      ∃ (n_6 : Int),
      CellsAt { π := m.π, sz := n, uf := m.uf : M } b (off + (↑a_1 : Int).toNat * (8 : Nat))
      [Value.int IntKind.i64 n_1, Value.int IntKind.i64 n_2, Value.string s, Value.string s_1, Value.int IntKind.i64 n_3,
      Value.int IntKind.i64 n_4, Value.int IntKind.i64 n_5, Value.int IntKind.i64 n_6] ∧
      ∃ (b : Nat),
      ∃ (off : Nat),
      a2 = some { block := b, off := off : Addr } ∧
      ((0 : Int) ≤ (↑a_1 : Int) ∧ (↑a_1 : Int) < (↑l2.length : Int)) ∧
      ∃ (n_7 : Int),
      ∃ (n_8 : Int),
      ∃ (s_2 : ByteArray),
      ∃ (s_3 : ByteArray),
      ∃ (n_9 : Int),
      ∃ (n_10 : Int),
      ∃ (n_11 : Int),
      ∃ (n_12 : Int),
      CellsAt { π := m.π, sz := n, uf := m.uf : M } b (off + (↑a_1 : Int).toNat * (8 : Nat))
      [Value.int IntKind.i64 n_7, Value.int IntKind.i64 n_8, Value.string s_2, Value.string s_3,
      Value.int IntKind.i64 n_9, Value.int IntKind.i64 n_10, Value.int IntKind.i64 n_11,
      Value.int IntKind.i64 n_12] ∧
      ifB
      (!(n_1 == n_7 &&
      (n_2 == n_8 &&
      (s.toList == s_2.toList &&
      (s_1.toList == s_3.toList &&
      (n_3 == n_9 && (n_4 == n_10 && (n_5 == n_11 && (n_6 == n_12 && true)))))))))
      (Done (Value.bool false = Value.bool (decide (l = l2))))
      (∃ (a' : Nat),
      ((a' ≤ l.length ∧ List.take a' l = List.take a' l2) ∧
      { π := m.π, sz := n, uf := m.uf : M } = { π := m.π, sz := n, uf := m.uf : M } ∧
      ((SV.val (Value.int IntKind.i64 (IntKind.i64.wrap ((↑a_1 : Int) + (1 : Int)))) =
      SV.val (Value.int IntKind.i64 (↑a' : Int)) ∧
      true = true) ∧
      (SV.val (Value.slice a l.length c) = SV.val (Value.slice a l.length c) ∧ true = true) ∧
      (SV.val (Value.slice a2 l2.length c2) = SV.val (Value.slice a2 l2.length c2) ∧ true = true) ∧
      True) ∧
      True) ∧
      l.length - a' < l.length - a_1))
      (Done (Value.bool true = Value.bool (decide (l = l2)))))) (by kernel_rfl) ?_
  have h' := h.sz hn
  have h2' := h2.sz hn
  refine ⟨rfl, ifB_intro (fun hb => ⟨?_⟩) (fun hb => ⟨⟨0, by simp⟩, fun k hk => ifB_intro (fun hb2 => ?_) (fun hb2 => ⟨?_⟩)⟩)⟩
  · have : l ≠ l2 := fun e => by subst e; simp at hb
    simp [this]
  · have hlen : l.length = l2.length := by simp at hb; omega
    have hk2 : k < l.length := by simpa using hb2
    obtain ⟨b, o, rfl, hc⟩ := h'.cells (by rw [dl_len]; omega)
    obtain ⟨b2, o2, rfl, hc2⟩ := h2'.cells (by rw [dl_len]; omega)
    have w1 : IntKind.i64.wrap ((k : Int) + 1) = ((k + 1 : Nat) : Int) := by simp [IntKind.wrap_i64]; omega
    refine ⟨rfl, b, o, rfl, by omega, _, _, _, _, _, _, _, _, by simpa using dl_at hc hk2, b2, o2, rfl, by omega, _, _, _, _, _, _, _, _, by simpa using dl_at hc2 (by omega : k < l2.length), ifB_intro (fun h3 => ⟨?_⟩) (fun h3 => ⟨k + 1, ⟨⟨hk2, ?_⟩, by simp [w1]⟩, by omega⟩)⟩
    · have : l ≠ l2 := fun e => by subst e; simp at h3
      simp [this]
    · have h3 : l[k] = l2[k] := by rw [dl_ext]; simpa [bytes_beq] using h3
      rw [List.take_succ_eq_append_getElem hk2, List.take_succ_eq_append_getElem (by omega : k < l2.length), hk.2, h3]
  · have hlen : l.length = l2.length := by simp at hb; omega
    have : k = l.length := by simp at hb2; omega
    have e := hk.2
    rw [this, List.take_length, hlen, List.take_length] at e
    simp [e]

theorem dl_clone (l : List Dl) (a : Option Addr) (c : Nat) (hn : l.length ≤ 1759218604410) (h0 : a = none → l = []) (m : M) (h : Row m a (dls l)) : Vc.Spec Try.prog 45 [.slice a l.length c] m (fun v m' => ∃ a' c', v = .slice a' l.length c' ∧ NewR m.sz (fun _ => False) m' 8 a' l.length c' (dls l)) := by
  refine Vc.Spec.of_vc Try.func45 (ann := noAnn) ?_
  refine vc_by (X :=
      true = true ∧
      ifB a.isNone
      (Done
      (∃ (a' : Option Addr),
      ∃ (c' : Nat), Value.slice none (0 : Nat) (0 : Nat) = Value.slice a' l.length c' ∧ NewR m.sz (fun (x : Nat) => False) m (8 : Nat) a' l.length c' (dls l)))
      (true = true ∧
      ∀ (b : Nat),
      m.sz ≤ b →
      ∃ (old : List Value),
      ∃ (src : List Value),
      AppPre m.sz (fun (x : Nat) => False) (m.newBlock b []) (8 : Nat) (80 : Nat) (some { block := b, off := (0 : Nat) : Addr }) (0 : Nat) (0 : Nat) a l.length old src ∧
      ∀ (a' : Option Addr) (c' : Nat) (m' : M),
      AppPost Try.prog (24 : Nat) (m.newBlock b []) (8 : Nat) (some { block := b, off := (0 : Nat) : Addr }) (0 : Nat) (0 : Nat) l.length old src a' c' m' →
      Done
      (∃ (a'_1 : Option Addr),
      ∃ (c'_1 : Nat),
      Value.slice a' ((0 : Nat) + l.length) c' = Value.slice a'_1 l.length c'_1 ∧ NewR m.sz (fun (x : Nat) => False) m' (8 : Nat) a'_1 l.length c'_1 (dls l)))) (by kernel_rfl) ?_
  refine ⟨rfl, ifB_intro (fun h1 => ⟨?_⟩) (fun h1 => ⟨rfl, fun b hb => ?_⟩)⟩
  · have : l = [] := h0 (by simpa using h1)
    subst this
    exact ⟨_, _, rfl, .nil _⟩
  · have ho : OwnB m.sz (fun _ => False) (m.newBlock b []) 8 (some ⟨b, 0, none⟩) 0 0 [] := OwnB.fresh hb rfl
    have hr : Row (m.newBlock b []) a (dls l) := h.newBlock hb
    refine ⟨_, _, ho.appPre hr (dl_len l) (dl_one l) (by omega), fun a' c' m' hp => ⟨a', c', by simp, .own ?_⟩⟩
    have := ho.append hp (dl_len l) dl_zr (by simp only [M.newBlock]; omega)
    simpa using this

theorem dl_own (a : Option Addr) (c : Nat) (l : List Dl) (mk : Dl) (hn : l.length ≤ 1759218604410) (m : M) (h : Row m a (dls l)) :
    Vc.Spec Try.prog 40 [.slice a l.length c, dlv mk] m (Owned m (dls l) (encDl mk ++ encDl mk) l.length (l.length + 2)) := by
  refine Vc.Spec.of_vc Try.func40 (ann := noAnn) ?_
  refine vc_by (X :=
      true = true ∧
      ((0 : Int) ≤ (0 : Int) ∧
      (0 : Int) ≤ IntKind.i64.wrap ((↑l.length : Int) + (2 : Int)) ∧
      (↑(80 : Nat) : Int) * IntKind.i64.wrap ((↑l.length : Int) + (2 : Int)) ≤ (281474976710656 : Int) ∧
      IntKind.i64.wrap ((↑l.length : Int) + (2 : Int)) ≤ (9223372036854775807 : Int)) ∧
      ∀ (b : Nat),
      m.sz ≤ b →
      ∃ (old : List Value),
      ∃ (src : List Value),
      AppPre m.sz (fun (x : Nat) => False)
      (m.newBlock b
      (madeCells
      #[Value.int IntKind.i64 (0 : Int), Value.int IntKind.i64 (0 : Int), Value.string { data := #[] : ByteArray }, Value.string { data := #[] : ByteArray },
      Value.int IntKind.i64 (0 : Int), Value.int IntKind.i64 (0 : Int), Value.int IntKind.i64 (0 : Int), Value.int IntKind.i64 (0 : Int)]
      ((IntKind.i64.wrap ((↑l.length : Int) + (2 : Int))).toNat * (8 : Nat))).toList)
      (8 : Nat) (80 : Nat) (some { block := b, off := (0 : Nat) : Addr }) (0 : Nat) (IntKind.i64.wrap ((↑l.length : Int) + (2 : Int))).toNat a l.length old src ∧
      ∀ (a' : Option Addr) (c' : Nat) (m' : M),
      AppPost Try.prog (24 : Nat)
      (m.newBlock b
      (madeCells
      #[Value.int IntKind.i64 (0 : Int), Value.int IntKind.i64 (0 : Int), Value.string { data := #[] : ByteArray }, Value.string { data := #[] : ByteArray },
      Value.int IntKind.i64 (0 : Int), Value.int IntKind.i64 (0 : Int), Value.int IntKind.i64 (0 : Int), Value.int IntKind.i64 (0 : Int)]
      ((IntKind.i64.wrap ((↑l.length : Int) + (2 : Int))).toNat * (8 : Nat))).toList)
      (8 : Nat) (some { block := b, off := (0 : Nat) : Addr }) (0 : Nat) (IntKind.i64.wrap ((↑l.length : Int) + (2 : Int))).toNat l.length old src a' c' m' →
      true = true ∧
      ∀ (b : Nat),
      m'.sz ≤ b →
      ∃ (old : List Value),
      ∃ (src : List Value),
      AppPre m.sz (fun (x : Nat) => False)
      (m'.newBlock b
      [Value.int IntKind.i64 mk.cl, Value.int IntKind.i64 mk.sq, Value.string mk.ky, Value.string mk.ot, Value.int IntKind.i64 mk.n,
      Value.int IntKind.i64 mk.mi, Value.int IntKind.i64 mk.th, Value.int IntKind.i64 mk.ft, Value.int IntKind.i64 mk.cl, Value.int IntKind.i64 mk.sq,
      Value.string mk.ky, Value.string mk.ot, Value.int IntKind.i64 mk.n, Value.int IntKind.i64 mk.mi, Value.int IntKind.i64 mk.th,
      Value.int IntKind.i64 mk.ft])
      (8 : Nat) (80 : Nat) a' ((0 : Nat) + l.length) c' (some { block := b, off := (0 : Nat) : Addr }) (2 : Nat) old src ∧
      ∀ (a'_1 : Option Addr) (c'_1 : Nat) (m'_1 : M),
      AppPost Try.prog (24 : Nat)
      (m'.newBlock b
      [Value.int IntKind.i64 mk.cl, Value.int IntKind.i64 mk.sq, Value.string mk.ky, Value.string mk.ot, Value.int IntKind.i64 mk.n,
      Value.int IntKind.i64 mk.mi, Value.int IntKind.i64 mk.th, Value.int IntKind.i64 mk.ft, Value.int IntKind.i64 mk.cl,
      Value.int IntKind.i64 mk.sq, Value.string mk.ky, Value.string mk.ot, Value.int IntKind.i64 mk.n, Value.int IntKind.i64 mk.mi,
      Value.int IntKind.i64 mk.th, Value.int IntKind.i64 mk.ft])
      (8 : Nat) a' ((0 : Nat) + l.length) c' (2 : Nat) old src a'_1 c'_1 m'_1 →
      (true = true ∧ (0 : Int) ≤ (0 : Int) ∧ (0 : Int) ≤ (↑l.length : Int) ∧ (↑l.length : Int) ≤ (↑c'_1 : Int) ∧ True) ∧
      Done
      (Owned m (dls l)
      [Value.int IntKind.i64 mk.cl, Value.int IntKind.i64 mk.sq, Value.string mk.ky, Value.string mk.ot, Value.int IntKind.i64 mk.n,
      Value.int IntKind.i64 mk.mi, Value.int IntKind.i64 mk.th, Value.int IntKind.i64 mk.ft, Value.int IntKind.i64 mk.cl,
      Value.int IntKind.i64 mk.sq, Value.string mk.ky, Value.string mk.ot, Value.int IntKind.i64 mk.n, Value.int IntKind.i64 mk.mi,
      Value.int IntKind.i64 mk.th, Value.int IntKind.i64 mk.ft]
      l.length (l.length + (2 : Nat))
      (Value.slice (if (↑c'_1 : Int).toNat = (0 : Nat) then a'_1 else Option.map (fun (x : Addr) => x) a'_1) ((↑l.length : Int).toNat - (0 : Nat))
      ((↑c'_1 : Int).toNat - (0 : Nat)))
      m'_1)) (by kernel_rfl) ?_
  have e : IntKind.i64.wrap ((l.length : Int) + 2) = ((l.length + 2 : Nat) : Int) := by simp [IntKind.wrap_i64]; omega
  rw [e]
  simp only [Int.toNat_natCast]
  refine ⟨trivial, by omega, fun b hb => ?_⟩
  obtain ⟨p1, p2⟩ := owned_calc (P := Try.prog) (e := 24) (size := 8) (bytes := 80) (len := l.length) (m := m) (b := b) (z := (madeCells #[I 0, I 0, .string .empty, .string .empty, I 0, I 0, I 0, I 0] ((l.length + 2) * 8)).toList) (cs := dls l) (marks := encDl mk ++ encDl mk) hb h (dl_len l) (dl_one l) rfl rfl dl_zr (by simp [madeCells]) (by omega)
  refine ⟨[], dls l, p1, fun a' c' m' hp => ⟨trivial, fun b2 hb2 => ?_⟩⟩
  obtain ⟨p3, p4⟩ := p2 a' c' m' hp b2 hb2
  refine ⟨dls l, encDl mk ++ encDl mk, p3, fun a'' c'' m'' hp2 => ?_⟩
  obtain ⟨rfl, rfl, q3, q5, q4⟩ := p4 a'' c'' m'' hp2
  exact ⟨⟨trivial, by omega, by omega, by omega, trivial⟩, ⟨⟨b, by simp, hb, q3, q5, q4⟩⟩⟩

theorem dl_kept (b : Nat) (l : List Dl) (a2 : Option Addr) (c2 : Nat) (mk : Dl) (hn : l.length ≤ 1759218604410) (m : M) (hb : b < m.sz) (h : CellsAt m b 0 (dls l ++ (encDl mk ++ encDl mk))) (h2 : Row m a2 (dls l)) :
    QSpec Try.prog 51 [.slice (some ⟨b, 0, none⟩) l.length (l.length + 2), .slice a2 l.length c2, dlv mk] m (.bool true) := by
  refine QSpec.of_vc Try.func51 (ann := fun _ => noAnn) fun n hn => ?_
  refine vc_by (X :=
      true = true ∧
      ifB ((↑l.length : Int) != (↑l.length : Int)) (Done (Value.bool false = Value.bool true))
      (ifB (decide ((↑(l.length + (2 : Nat)) : Int) < IntKind.i64.wrap ((↑l.length : Int) + (2 : Int)))) (Done (Value.bool false = Value.bool true))
      ((true = true ∧
      (0 : Int) ≤ (0 : Int) ∧
      (0 : Int) ≤ IntKind.i64.wrap ((↑l.length : Int) + (2 : Int)) ∧ IntKind.i64.wrap ((↑l.length : Int) + (2 : Int)) ≤ (↑(l.length + (2 : Nat)) : Int) ∧ True) ∧
      true = true ∧
      ∃ (b_1 : Bool),
      QSpec Try.prog (17 : Nat) [Value.slice (some { block := b, off := (0 : Nat) : Addr }) l.length (l.length + (2 : Nat)), Value.slice a2 l.length c2]
      { π := m.π, sz := n, uf := m.uf : M } (Value.bool b_1) ∧
      ifB b_1
      (∃ (b_2 : Nat),
      ∃ (off : Nat),
      some { block := b, off := (0 : Nat) : Addr } = some { block := b_2, off := off : Addr } ∧
      ((0 : Int) ≤ (↑l.length : Int) ∧ (↑l.length : Int) < (↑((IntKind.i64.wrap ((↑l.length : Int) + (2 : Int))).toNat - (0 : Nat)) : Int)) ∧
      ∃ (n_1 : Int),
      ∃ (n_2 : Int),
      ∃ (s : ByteArray),
      ∃ (s_1 : ByteArray),
      ∃ (n_3 : Int),
      ∃ (n_4 : Int),
      ∃ (n_5 : Int),
      ∃ (n_6 : Int),
      CellsAt { π := m.π, sz := n, uf := m.uf : M } b_2 (off + (↑l.length : Int).toNat * (8 : Nat))
      [Value.int IntKind.i64 n_1, Value.int IntKind.i64 n_2, Value.string s, Value.string s_1, Value.int IntKind.i64 n_3,
      Value.int IntKind.i64 n_4, Value.int IntKind.i64 n_5, Value.int IntKind.i64 n_6] ∧
      ifB
      (n_1 == mk.cl &&
      (n_2 == mk.sq &&
      (s.toList == mk.ky.toList &&
      (s_1.toList == mk.ot.toList && (n_3 == mk.n && (n_4 == mk.mi && (n_5 == mk.th && (n_6 == mk.ft && true))))))))
      (∃ (b_3 : Nat),
      ∃ (off : Nat),
      some { block := b, off := (0 : Nat) : Addr } = some { block := b_3, off := off : Addr } ∧
      ((0 : Int) ≤ IntKind.i64.wrap ((↑l.length : Int) + (1 : Int)) ∧
      IntKind.i64.wrap ((↑l.length : Int) + (1 : Int)) <
      (↑((IntKind.i64.wrap ((↑l.length : Int) + (2 : Int))).toNat - (0 : Nat)) : Int)) ∧
      ∃ (n_7 : Int),
      ∃ (n_8 : Int),
      ∃ (s : ByteArray),
      ∃ (s_2 : ByteArray),
      ∃ (n_9 : Int),
      ∃ (n_10 : Int),
      ∃ (n_11 : Int),
      ∃ (n_12 : Int),
      CellsAt { π := m.π, sz := n, uf := m.uf : M } b_3
      (off + (IntKind.i64.wrap ((↑l.length : Int) + (1 : Int))).toNat * (8 : Nat))
      [Value.int IntKind.i64 n_7, Value.int IntKind.i64 n_8, Value.string s, Value.string s_2,
      Value.int IntKind.i64 n_9, Value.int IntKind.i64 n_10, Value.int IntKind.i64 n_11,
      Value.int IntKind.i64 n_12] ∧
      Done
      (Value.bool
      (n_7 == mk.cl &&
      (n_8 == mk.sq &&
      (s.toList == mk.ky.toList &&
      (s_2.toList == mk.ot.toList &&
      (n_9 == mk.n && (n_10 == mk.mi && (n_11 == mk.th && (n_12 == mk.ft && true)))))))) =
      Value.bool true))
      (Done (Value.bool false = Value.bool true)))
      (Done (Value.bool false = Value.bool true))))) (by kernel_rfl) ?_
  have e : IntKind.i64.wrap ((l.length : Int) + 2) = ((l.length + 2 : Nat) : Int) := by simp [IntKind.wrap_i64]; omega
  have e1 : IntKind.i64.wrap ((l.length : Int) + 1) = ((l.length + 1 : Nat) : Int) := by simp [IntKind.wrap_i64]; omega
  rw [e, e1]
  simp only [Int.toNat_natCast]
  have hk := h.drop
  rw [dl_len] at hk
  have k1 : CellsAt m b (0 + l.length * 8) (encDl mk) := hk.take
  have k2 : CellsAt m b (0 + (l.length + 1) * 8) (encDl mk) := by
    have := hk.drop (cs := encDl mk)
    rw [show 0 + (l.length + 1) * 8 = 0 + l.length * 8 + (encDl mk).length by rw [dl_k]; omega]
    exact this
  have hq := dl_plain (some ⟨b, 0, none⟩) a2 (l.length + 2) c2 l l (by omega) { m with sz := n } (.at _ _ _ (Nat.lt_of_lt_of_le hb hn) ⟨h.take.out⟩) (h2.sz hn)
  refine ⟨trivial, ifB_intro (fun h3 => by simp at h3) (fun h3 => ifB_intro (fun h4 => by simp at h4) (fun h4 => ⟨⟨trivial, by omega, by omega, by omega, trivial⟩, trivial, _, hq, ?_⟩))⟩
  have et : decide (l = l) = true := by simp
  rw [et]
  refine ifB_true ⟨b, 0, rfl, by constructor <;> simp <;> omega, _, _, _, _, _, _, _, _, ⟨k1.out⟩, ifB_intro (fun h5 => ⟨b, 0, rfl, by constructor <;> simp <;> omega, _, _, _, _, _, _, _, _, ⟨k2.out⟩, ⟨by simp⟩⟩) (fun h5 => by simp at h5)⟩

end Go.Proofs.Ytoilbbfidnhekaa
set_option linter.unusedVariables false
set_option linter.unusedSimpArgs false
namespace Go.Proofs.Ytoilbbfidnhekaa
open Go.Vc Go.RowKit Go.ChangeShapes Go.WideShapes Go.ChangeAt
set_option maxRecDepth 100000

structure En where
  cl : Int
  sq : Int

def En.wf (x : En) : Prop := In64 x.cl ∧ In64 x.sq

abbrev encEn (x : En) : List Value := [I x.cl, I x.sq]

abbrev env (x : En) : Value := .agg #[I x.cl, I x.sq]

abbrev ens (l : List En) : List Value := l.flatMap encEn

theorem en_k (x : En) : (encEn x).length = 2 := rfl

theorem en_len (l : List En) : (ens l).length = l.length * 2 := flat_len en_k l

theorem en_at {m : M} {b o i : Nat} {l : List En} (h : CellsAt m b o (ens l)) (hi : i < l.length) : CellsAt m b (o + i * 2) (encEn l[i]) := CellsAt.elem en_k l o i hi h

theorem en_ext {a b : En} : a = b ↔ a.cl = b.cl ∧ a.sq = b.sq := by
  cases a; cases b; simp

instance : DecidableEq En := fun _ _ => decidable_of_iff' _ en_ext

theorem en_one (l : List En) : oneCells (ens l) = true := by
  rw [oneCells_iff]; intro v hv
  obtain ⟨w, -, hw⟩ := List.mem_flatMap.1 hv
  exact oneCells_iff.1 (rfl : oneCells (encEn w) = true) v hw

theorem en_zr (k : Nat) : (zeroRow Try.prog 48 k).length = k * 2 := zrLen (by kernel_rfl) k

theorem en_cells : Try.prog.cellsOf 48 = 2 := by kernel_rfl

theorem en_rd {m : M} {N d : Nat} {cs : List Value} (h : Rd Try.prog m N (d + 2) 48 cs) (hN : N ≤ 9223372036854775807) : ∃ x : En, cs = encEn x ∧ x.wf := by
  have hc1 := (by kernel_rfl : Try.prog.cellsOf 3 = 1)
  simp only [Rd, Try.underlying48, Try.underlying3, fieldsD, en_cells, hc1] at h
  obtain ⟨hl, ⟨k1, e1, w1⟩, ⟨k2, e2, w2⟩, -⟩ := h
  obtain ⟨c1, c2, rfl⟩ : ∃ c1 c2, cs = [c1, c2] := by
    match cs, hl with
    | [c1, c2], _ => exact ⟨_, _, rfl⟩
  simp at e1 e2
  subst e1 e2
  exact ⟨⟨k1, k2⟩, rfl, in64_of w1, in64_of w2⟩

theorem open_en {H : Type} {enc : TypeId × Value → H} {W : World} {r : Reach} {b0 : Nat} {v : Value} {d : DataW H} {p : List MemPlace} {N : Nat} {Bd : DataW H → Prop} (B : Bound N Bd) (hN : N ≤ 9223372036854775807) (hv : Value.okWide Try.prog W r b0 48 v) (h : DataW.Trod enc Try.prog W 0 (fun _ => true) true 48 v d p) (hb : Bd d) : ∃ x : En, v = env x ∧ x.wf := by
  obtain ⟨cs, rfl, hl⟩ := open_agg Try.underlying48 en_cells hv
  obtain ⟨fuel, hf⟩ := h
  have hr := rd_of_trod B 2 fuel 48 _ _ hf hb
  simp only [Value.cells] at hr
  obtain ⟨x, he, hw⟩ := en_rd (d := 0) hr hN
  exact ⟨x, by rw [show cs = encEn x from he], hw⟩

theorem open_ens {H : Type} {enc : TypeId × Value → H} {W : World} {r : Reach} {b0 : Nat} {v : Value} {d : DataW H} {p : List MemPlace} {N : Nat} {Bd : DataW H → Prop} (B : Bound N Bd) (hN : N ≤ 9223372036854775807) (hv : Value.okWide Try.prog W r b0 45 v) (h : DataW.Trod enc Try.prog W 0 (fun _ => true) true 45 v d p) (hb : Bd d) :
    ∃ (a : Option Addr) (c : Nat) (z : List En), v = .slice a z.length c ∧ z.length ≤ N ∧ (∀ x ∈ z, x.wf) ∧ (a = none → z = []) ∧ Row (M.all W) a (ens z) := by
  obtain ⟨a, len, cap, rfl⟩ := okWide_slice Try.underlying45 hv
  obtain ⟨fuel, hf⟩ := h
  have hr := rd_of_trod B 3 fuel 45 _ _ hf hb
  rw [Rd] at hr
  simp only [Try.underlying45] at hr
  obtain ⟨a', cap', rows, hcs, h1, h2, h3, h4, h5⟩ := hr
  obtain ⟨z, hz, he, hi⟩ := rows_list (α := En) (e := encEn) (p := En.wf) rows fun r hr => en_rd (d := 0) (h4 r hr).2 hN
  simp [Value.cells] at hcs
  obtain ⟨rfl, rfl, rfl⟩ := hcs
  rw [he] at h5
  exact ⟨a, cap, z, by rw [hz], by omega, hi, fun e => List.eq_nil_of_length_eq_zero (by have := h3 e; omega), h5⟩

theorem en_plain (a a2 : Option Addr) (c c2 : Nat) (l l2 : List En) (hn1 : l.length ≤ 9223372036854775807) (m : M) (h : Row m a (ens l)) (h2 : Row m a2 (ens l2)) :
    QSpec Try.prog 32 [.slice a l.length c, .slice a2 l2.length c2] m (.bool (decide (l = l2))) := by
  refine QSpec.of_vc Try.func32 (ann := fun n _ => { A := Nat, inv := fun k => k ≤ l.length ∧ l.take k = l2.take k, st := fun k => [(5, .val (I k)), (0, .val (.slice a l.length c)), (1, .val (.slice a2 l2.length c2))], own := fun _ => [], m := fun _ => { m with sz := n }, μ := fun k => (l.length - k) }) fun n hn => ?_
  refine vc_by (X :=
      true = true ∧
      ifB ((↑l.length : Int) != (↑l2.length : Int)) (Done (Value.bool false = Value.bool (decide (l = l2))))
      ((∃ (a_1 : Nat),
      (a_1 ≤ l.length ∧ List.take a_1 l = List.take a_1 l2) ∧
      { π := m.π, sz := n, uf := m.uf : M } = { π := m.π, sz := n, uf := m.uf : M } ∧
      ((SV.val (Value.int IntKind.i64 (0 : Int)) = SV.val (Value.int IntKind.i64 (↑a_1 : Int)) ∧ true = true) ∧
      (SV.val (Value.slice a l.length c) = SV.val (Value.slice a l.length c) ∧ true = true) ∧
      (SV.val (Value.slice a2 l2.length c2) = SV.val (Value.slice a2 l2.length c2) ∧ true = true) ∧ True) ∧
      True) ∧
      ∀ (a_1 : Nat),
      a_1 ≤ l.length ∧ List.take a_1 l = List.take a_1 l2 →
      ifB (decide ((↑a_1 : Int) < (↑l.length : Int)))
      (true = true ∧
      ∃ (b : Nat),
      ∃ (off : Nat),
      a = some { block := b, off := off : Addr } ∧
      ((0 : Int) ≤ (↑a_1 : Int) ∧ (↑a_1 : Int) < (↑l.length : Int)) ∧
      ∃ (n_1 : Int),
      ∃ (n_2 : Int),
      CellsAt { π := m.π, sz := n, uf := m.uf : M } b (off + (↑a_1 : Int).toNat * (2 : Nat)) [Value.int IntKind.i64 n_1, Value.int IntKind.i64 n_2] ∧
      ∃ (b : Nat),
      ∃ (off : Nat),
      a2 = some { block := b, off := off : Addr } ∧
      ((0 : Int) ≤ (↑a_1 : Int) ∧ (↑a_1 : Int) < (↑l2.length : Int)) ∧
      ∃ (n_3 : Int),
      ∃ (n_4 : Int),
      CellsAt { π := m.π, sz := n, uf := m.uf : M } b (off + (↑a_1 : Int).toNat * (2 : Nat))
      [Value.int IntKind.i64 n_3, Value.int IntKind.i64 n_4] ∧
      ifB (!(n_1 == n_3 && (n_2 == n_4 && true))) (Done (Value.bool false = Value.bool (decide (l = l2))))
      (∃ (a' : Nat),
      ((a' ≤ l.length ∧ List.take a' l = List.take a' l2) ∧
      { π := m.π, sz := n, uf := m.uf : M } = { π := m.π, sz := n, uf := m.uf : M } ∧
      ((SV.val (Value.int IntKind.i64 (IntKind.i64.wrap ((↑a_1 : Int) + (1 : Int)))) = SV.val (Value.int IntKind.i64 (↑a' : Int)) ∧
      true = true) ∧
      (SV.val (Value.slice a l.length c) = SV.val (Value.slice a l.length c) ∧ true = true) ∧
      (SV.val (Value.slice a2 l2.length c2) = SV.val (Value.slice a2 l2.length c2) ∧ true = true) ∧ True) ∧
      True) ∧
      l.length - a' < l.length - a_1))
      (Done (Value.bool true = Value.bool (decide (l = l2)))))) (by kernel_rfl) ?_
  have h' := h.sz hn
  have h2' := h2.sz hn
  refine ⟨rfl, ifB_intro (fun hb => ⟨?_⟩) (fun hb => ⟨⟨0, by simp⟩, fun k hk => ifB_intro (fun hb2 => ?_) (fun hb2 => ⟨?_⟩)⟩)⟩
  · have : l ≠ l2 := fun e => by subst e; simp at hb
    simp [this]
  · have hlen : l.length = l2.length := by simp at hb; omega
    have hk2 : k < l.length := by simpa using hb2
    obtain ⟨b, o, rfl, hc⟩ := h'.cells (by rw [en_len]; omega)
    obtain ⟨b2, o2, rfl, hc2⟩ := h2'.cells (by rw [en_len]; omega)
    have w1 : IntKind.i64.wrap ((k : Int) + 1) = ((k + 1 : Nat) : Int) := by simp [IntKind.wrap_i64]; omega
    refine ⟨rfl, b, o, rfl, by omega, _, _, by simpa using en_at hc hk2, b2, o2, rfl, by omega, _, _, by simpa using en_at hc2 (by omega : k < l2.length), ifB_intro (fun h3 => ⟨?_⟩) (fun h3 => ⟨k + 1, ⟨⟨hk2, ?_⟩, by simp [w1]⟩, by omega⟩)⟩
    · have : l ≠ l2 := fun e => by subst e; simp at h3
      simp [this]
    · have h3 : l[k] = l2[k] := by rw [en_ext]; simpa using h3
      rw [List.take_succ_eq_append_getElem hk2, List.take_succ_eq_append_getElem (by omega : k < l2.length), hk.2, h3]
  · have hlen : l.length = l2.length := by simp at hb; omega
    have : k = l.length := by simp at hb2; omega
    have e := hk.2
    rw [this, List.take_length, hlen, List.take_length] at e
    simp [e]

theorem en_clone (l : List En) (a : Option Addr) (c : Nat) (hn : l.length ≤ 8796093022000) (h0 : a = none → l = []) (m : M) (h : Row m a (ens l)) : Vc.Spec Try.prog 54 [.slice a l.length c] m (fun v m' => ∃ a' c', v = .slice a' l.length c' ∧ NewR m.sz (fun _ => False) m' 2 a' l.length c' (ens l)) := by
  refine Vc.Spec.of_vc Try.func54 (ann := noAnn) ?_
  refine vc_by (X :=
      true = true ∧
      ifB a.isNone
      (Done
      (∃ (a' : Option Addr),
      ∃ (c' : Nat), Value.slice none (0 : Nat) (0 : Nat) = Value.slice a' l.length c' ∧ NewR m.sz (fun (x : Nat) => False) m (2 : Nat) a' l.length c' (ens l)))
      (true = true ∧
      ∀ (b : Nat),
      m.sz ≤ b →
      ∃ (old : List Value),
      ∃ (src : List Value),
      AppPre m.sz (fun (x : Nat) => False) (m.newBlock b []) (2 : Nat) (16 : Nat) (some { block := b, off := (0 : Nat) : Addr }) (0 : Nat) (0 : Nat) a l.length old src ∧
      ∀ (a' : Option Addr) (c' : Nat) (m' : M),
      AppPost Try.prog (48 : Nat) (m.newBlock b []) (2 : Nat) (some { block := b, off := (0 : Nat) : Addr }) (0 : Nat) (0 : Nat) l.length old src a' c' m' →
      Done
      (∃ (a'_1 : Option Addr),
      ∃ (c'_1 : Nat),
      Value.slice a' ((0 : Nat) + l.length) c' = Value.slice a'_1 l.length c'_1 ∧ NewR m.sz (fun (x : Nat) => False) m' (2 : Nat) a'_1 l.length c'_1 (ens l)))) (by kernel_rfl) ?_
  refine ⟨rfl, ifB_intro (fun h1 => ⟨?_⟩) (fun h1 => ⟨rfl, fun b hb => ?_⟩)⟩
  · have : l = [] := h0 (by simpa using h1)
    subst this
    exact ⟨_, _, rfl, .nil _⟩
  · have ho : OwnB m.sz (fun _ => False) (m.newBlock b []) 2 (some ⟨b, 0, none⟩) 0 0 [] := OwnB.fresh hb rfl
    have hr : Row (m.newBlock b []) a (ens l) := h.newBlock hb
    refine ⟨_, _, ho.appPre hr (en_len l) (en_one l) (by omega), fun a' c' m' hp => ⟨a', c', by simp, .own ?_⟩⟩
    have := ho.append hp (en_len l) en_zr (by simp only [M.newBlock]; omega)
    simpa using this

theorem en_own (a : Option Addr) (c : Nat) (l : List En) (mk : En) (hn : l.length ≤ 8796093022000) (m : M) (h : Row m a (ens l)) :
    Vc.Spec Try.prog 25 [.slice a l.length c, env mk] m (Owned m (ens l) (encEn mk ++ encEn mk) l.length (l.length + 2)) := by
  refine Vc.Spec.of_vc Try.func25 (ann := noAnn) ?_
  refine vc_by (X :=
      true = true ∧
      ((0 : Int) ≤ (0 : Int) ∧
      (0 : Int) ≤ IntKind.i64.wrap ((↑l.length : Int) + (2 : Int)) ∧
      (↑(16 : Nat) : Int) * IntKind.i64.wrap ((↑l.length : Int) + (2 : Int)) ≤ (281474976710656 : Int) ∧
      IntKind.i64.wrap ((↑l.length : Int) + (2 : Int)) ≤ (9223372036854775807 : Int)) ∧
      ∀ (b : Nat),
      m.sz ≤ b →
      ∃ (old : List Value),
      ∃ (src : List Value),
      AppPre m.sz (fun (x : Nat) => False)
      (m.newBlock b
      (madeCells #[Value.int IntKind.i64 (0 : Int), Value.int IntKind.i64 (0 : Int)] ((IntKind.i64.wrap ((↑l.length : Int) + (2 : Int))).toNat * (2 : Nat))).toList)
      (2 : Nat) (16 : Nat) (some { block := b, off := (0 : Nat) : Addr }) (0 : Nat) (IntKind.i64.wrap ((↑l.length : Int) + (2 : Int))).toNat a l.length old src ∧
      ∀ (a' : Option Addr) (c' : Nat) (m' : M),
      AppPost Try.prog (48 : Nat)
      (m.newBlock b
      (madeCells #[Value.int IntKind.i64 (0 : Int), Value.int IntKind.i64 (0 : Int)] ((IntKind.i64.wrap ((↑l.length : Int) + (2 : Int))).toNat * (2 : Nat))).toList)
      (2 : Nat) (some { block := b, off := (0 : Nat) : Addr }) (0 : Nat) (IntKind.i64.wrap ((↑l.length : Int) + (2 : Int))).toNat l.length old src a' c' m' →
      true = true ∧
      ∀ (b : Nat),
      m'.sz ≤ b →
      ∃ (old : List Value),
      ∃ (src : List Value),
      AppPre m.sz (fun (x : Nat) => False)
      (m'.newBlock b [Value.int IntKind.i64 mk.cl, Value.int IntKind.i64 mk.sq, Value.int IntKind.i64 mk.cl, Value.int IntKind.i64 mk.sq]) (2 : Nat)
      (16 : Nat) a' ((0 : Nat) + l.length) c' (some { block := b, off := (0 : Nat) : Addr }) (2 : Nat) old src ∧
      ∀ (a'_1 : Option Addr) (c'_1 : Nat) (m'_1 : M),
      AppPost Try.prog (48 : Nat)
      (m'.newBlock b [Value.int IntKind.i64 mk.cl, Value.int IntKind.i64 mk.sq, Value.int IntKind.i64 mk.cl, Value.int IntKind.i64 mk.sq]) (2 : Nat)
      a' ((0 : Nat) + l.length) c' (2 : Nat) old src a'_1 c'_1 m'_1 →
      (true = true ∧ (0 : Int) ≤ (0 : Int) ∧ (0 : Int) ≤ (↑l.length : Int) ∧ (↑l.length : Int) ≤ (↑c'_1 : Int) ∧ True) ∧
      Done
      (Owned m (ens l) [Value.int IntKind.i64 mk.cl, Value.int IntKind.i64 mk.sq, Value.int IntKind.i64 mk.cl, Value.int IntKind.i64 mk.sq] l.length
      (l.length + (2 : Nat))
      (Value.slice (if (↑c'_1 : Int).toNat = (0 : Nat) then a'_1 else Option.map (fun (x : Addr) => x) a'_1) ((↑l.length : Int).toNat - (0 : Nat))
      ((↑c'_1 : Int).toNat - (0 : Nat)))
      m'_1)) (by kernel_rfl) ?_
  have e : IntKind.i64.wrap ((l.length : Int) + 2) = ((l.length + 2 : Nat) : Int) := by simp [IntKind.wrap_i64]; omega
  rw [e]
  simp only [Int.toNat_natCast]
  refine ⟨trivial, by omega, fun b hb => ?_⟩
  obtain ⟨p1, p2⟩ := owned_calc (P := Try.prog) (e := 48) (size := 2) (bytes := 16) (len := l.length) (m := m) (b := b) (z := (madeCells #[I 0, I 0] ((l.length + 2) * 2)).toList) (cs := ens l) (marks := encEn mk ++ encEn mk) hb h (en_len l) (en_one l) rfl rfl en_zr (by simp [madeCells]) (by omega)
  refine ⟨[], ens l, p1, fun a' c' m' hp => ⟨trivial, fun b2 hb2 => ?_⟩⟩
  obtain ⟨p3, p4⟩ := p2 a' c' m' hp b2 hb2
  refine ⟨ens l, encEn mk ++ encEn mk, p3, fun a'' c'' m'' hp2 => ?_⟩
  obtain ⟨rfl, rfl, q3, q5, q4⟩ := p4 a'' c'' m'' hp2
  exact ⟨⟨trivial, by omega, by omega, by omega, trivial⟩, ⟨⟨b, by simp, hb, q3, q5, q4⟩⟩⟩

theorem en_kept (b : Nat) (l : List En) (a2 : Option Addr) (c2 : Nat) (mk : En) (hn : l.length ≤ 8796093022000) (m : M) (hb : b < m.sz) (h : CellsAt m b 0 (ens l ++ (encEn mk ++ encEn mk))) (h2 : Row m a2 (ens l)) :
    QSpec Try.prog 35 [.slice (some ⟨b, 0, none⟩) l.length (l.length + 2), .slice a2 l.length c2, env mk] m (.bool true) := by
  refine QSpec.of_vc Try.func35 (ann := fun _ => noAnn) fun n hn => ?_
  refine vc_by (X :=
      true = true ∧
      ifB ((↑l.length : Int) != (↑l.length : Int)) (Done (Value.bool false = Value.bool true))
      (ifB (decide ((↑(l.length + (2 : Nat)) : Int) < IntKind.i64.wrap ((↑l.length : Int) + (2 : Int)))) (Done (Value.bool false = Value.bool true))
      ((true = true ∧
      (0 : Int) ≤ (0 : Int) ∧
      (0 : Int) ≤ IntKind.i64.wrap ((↑l.length : Int) + (2 : Int)) ∧ IntKind.i64.wrap ((↑l.length : Int) + (2 : Int)) ≤ (↑(l.length + (2 : Nat)) : Int) ∧ True) ∧
      true = true ∧
      ∃ (b_1 : Bool),
      QSpec Try.prog (32 : Nat) [Value.slice (some { block := b, off := (0 : Nat) : Addr }) l.length (l.length + (2 : Nat)), Value.slice a2 l.length c2]
      { π := m.π, sz := n, uf := m.uf : M } (Value.bool b_1) ∧
      ifB b_1
      (∃ (b_2 : Nat),
      ∃ (off : Nat),
      some { block := b, off := (0 : Nat) : Addr } = some { block := b_2, off := off : Addr } ∧
      ((0 : Int) ≤ (↑l.length : Int) ∧ (↑l.length : Int) < (↑((IntKind.i64.wrap ((↑l.length : Int) + (2 : Int))).toNat - (0 : Nat)) : Int)) ∧
      ∃ (n_1 : Int),
      ∃ (n_2 : Int),
      CellsAt { π := m.π, sz := n, uf := m.uf : M } b_2 (off + (↑l.length : Int).toNat * (2 : Nat)) [Value.int IntKind.i64 n_1, Value.int IntKind.i64 n_2] ∧
      ifB (n_1 == mk.cl && (n_2 == mk.sq && true))
      (∃ (b_3 : Nat),
      ∃ (off : Nat),
      some { block := b, off := (0 : Nat) : Addr } = some { block := b_3, off := off : Addr } ∧
      ((0 : Int) ≤ IntKind.i64.wrap ((↑l.length : Int) + (1 : Int)) ∧
      IntKind.i64.wrap ((↑l.length : Int) + (1 : Int)) < (↑((IntKind.i64.wrap ((↑l.length : Int) + (2 : Int))).toNat - (0 : Nat)) : Int)) ∧
      ∃ (n_3 : Int),
      ∃ (n_4 : Int),
      CellsAt { π := m.π, sz := n, uf := m.uf : M } b_3 (off + (IntKind.i64.wrap ((↑l.length : Int) + (1 : Int))).toNat * (2 : Nat))
      [Value.int IntKind.i64 n_3, Value.int IntKind.i64 n_4] ∧
      Done (Value.bool (n_3 == mk.cl && (n_4 == mk.sq && true)) = Value.bool true))
      (Done (Value.bool false = Value.bool true)))
      (Done (Value.bool false = Value.bool true))))) (by kernel_rfl) ?_
  have e : IntKind.i64.wrap ((l.length : Int) + 2) = ((l.length + 2 : Nat) : Int) := by simp [IntKind.wrap_i64]; omega
  have e1 : IntKind.i64.wrap ((l.length : Int) + 1) = ((l.length + 1 : Nat) : Int) := by simp [IntKind.wrap_i64]; omega
  rw [e, e1]
  simp only [Int.toNat_natCast]
  have hk := h.drop
  rw [en_len] at hk
  have k1 : CellsAt m b (0 + l.length * 2) (encEn mk) := hk.take
  have k2 : CellsAt m b (0 + (l.length + 1) * 2) (encEn mk) := by
    have := hk.drop (cs := encEn mk)
    rw [show 0 + (l.length + 1) * 2 = 0 + l.length * 2 + (encEn mk).length by rw [en_k]; omega]
    exact this
  have hq := en_plain (some ⟨b, 0, none⟩) a2 (l.length + 2) c2 l l (by omega) { m with sz := n } (.at _ _ _ (Nat.lt_of_lt_of_le hb hn) ⟨h.take.out⟩) (h2.sz hn)
  refine ⟨trivial, ifB_intro (fun h3 => by simp at h3) (fun h3 => ifB_intro (fun h4 => by simp at h4) (fun h4 => ⟨⟨trivial, by omega, by omega, by omega, trivial⟩, trivial, _, hq, ?_⟩))⟩
  have et : decide (l = l) = true := by simp
  rw [et]
  refine ifB_true ⟨b, 0, rfl, by constructor <;> simp <;> omega, _, _, ⟨k1.out⟩, ifB_intro (fun h5 => ⟨b, 0, rfl, by constructor <;> simp <;> omega, _, _, ⟨k2.out⟩, ⟨by simp⟩⟩) (fun h5 => by simp at h5)⟩

end Go.Proofs.Ytoilbbfidnhekaa
set_option linter.unusedVariables false
set_option linter.unusedSimpArgs false
namespace Go.Proofs.Ytoilbbfidnhekaa
open Go.Vc Go.RowKit
set_option maxRecDepth 100000

theorem dl_idx (a : Option Addr) (c : Nat) (l : List Dl) (b1 b2 : Nat) (f : Dl → Bool) (hn : l.length ≤ 9223372036854775807) (m : M) (h : Row m a (l.flatMap encDl))
    (hf : ∀ x ∈ l, ∀ n, m.sz ≤ n → QSpec Try.prog 75 ([.agg (encDl x).toArray] ++ [.pointer (some ⟨b1, 0, none⟩), .pointer (some ⟨b2, 0, none⟩)]) { m with sz := n } (.bool (f x))) :
    QSpec Try.prog 74 [.slice a l.length c, .func (.func 75) #[] ([.pointer (some ⟨b1, 0, none⟩), .pointer (some ⟨b2, 0, none⟩)]).toArray] m (I (idxF f l)) := by
  refine QSpec.of_vc Try.func74 (ann := fun n _ => { A := Nat, inv := fun k => k ≤ l.length ∧ ∀ h ∈ l.take k, f h = false, st := fun k => [(8, .val (I k)), (7, .val (I l.length)), (0, .val (.slice a l.length c)), (1, .val (.func (.func 75) #[] ([.pointer (some ⟨b1, 0, none⟩), .pointer (some ⟨b2, 0, none⟩)]).toArray))], own := fun _ => [], m := fun _ => { m with sz := n }, μ := fun k => l.length - k }) fun n hn' => ?_
  refine vc_by (X :=
      true = true ∧
      (∃ (a_1 : Nat),
      (a_1 ≤ l.length ∧ ∀ (h : Dl), h ∈ List.take a_1 l → f h = false) ∧
      { π := m.π, sz := n, uf := m.uf : M } = { π := m.π, sz := n, uf := m.uf : M } ∧
      ((SV.val (Value.int IntKind.i64 (0 : Int)) = SV.val (Value.int IntKind.i64 (↑a_1 : Int)) ∧ true = true) ∧
      (SV.val (Value.int IntKind.i64 (↑l.length : Int)) = SV.val (Value.int IntKind.i64 (↑l.length : Int)) ∧ true = true) ∧
      (SV.val (Value.slice a l.length c) = SV.val (Value.slice a l.length c) ∧ true = true) ∧
      (SV.val
      (Value.func (Fn.func (75 : FuncId)) #[]
      #[Value.pointer (some { block := b1, off := (0 : Nat) : Addr }), Value.pointer (some { block := b2, off := (0 : Nat) : Addr })]) =
      SV.val
      (Value.func (Fn.func (75 : FuncId)) #[]
      #[Value.pointer (some { block := b1, off := (0 : Nat) : Addr }), Value.pointer (some { block := b2, off := (0 : Nat) : Addr })]) ∧
      true = true) ∧
      True) ∧
      True) ∧
      ∀ (a_1 : Nat),
      (a_1 ≤ l.length ∧ ∀ (h : Dl), h ∈ List.take a_1 l → f h = false) →
      ifB (decide ((↑a_1 : Int) < (↑l.length : Int)))
      (∃ (b : Nat),
      ∃ (off : Nat),
      a = some { block := b, off := off : Addr } ∧
      ((0 : Int) ≤ (↑a_1 : Int) ∧ (↑a_1 : Int) < (↑l.length : Int)) ∧
      ∃ (n_1 : Int),
      ∃ (n_2 : Int),
      ∃ (s : ByteArray),
      ∃ (s_1 : ByteArray),
      ∃ (n_3 : Int),
      ∃ (n_4 : Int),
      ∃ (n_5 : Int),
      ∃ (n_6 : Int),
      CellsAt { π := m.π, sz := n, uf := m.uf : M } b (off + (↑a_1 : Int).toNat * (8 : Nat))
      [Value.int IntKind.i64 n_1, Value.int IntKind.i64 n_2, Value.string s, Value.string s_1, Value.int IntKind.i64 n_3, Value.int IntKind.i64 n_4,
      Value.int IntKind.i64 n_5, Value.int IntKind.i64 n_6] ∧
      ∃ (b : Bool),
      QSpec Try.prog (75 : FuncId)
      [Value.agg
      #[Value.int IntKind.i64 n_1, Value.int IntKind.i64 n_2, Value.string s, Value.string s_1, Value.int IntKind.i64 n_3,
      Value.int IntKind.i64 n_4, Value.int IntKind.i64 n_5, Value.int IntKind.i64 n_6],
      Value.pointer (some { block := b1, off := (0 : Nat) : Addr }), Value.pointer (some { block := b2, off := (0 : Nat) : Addr })]
      { π := m.π, sz := n, uf := m.uf : M } (Value.bool b) ∧
      ifB b (Done (Value.int IntKind.i64 (↑a_1 : Int) = Value.int IntKind.i64 (idxF f l)))
      (∃ (a' : Nat),
      ((a' ≤ l.length ∧ ∀ (h : Dl), h ∈ List.take a' l → f h = false) ∧
      { π := m.π, sz := n, uf := m.uf : M } = { π := m.π, sz := n, uf := m.uf : M } ∧
      ((SV.val (Value.int IntKind.i64 (IntKind.i64.wrap ((↑a_1 : Int) + (1 : Int)))) = SV.val (Value.int IntKind.i64 (↑a' : Int)) ∧
      true = true) ∧
      (SV.val (Value.int IntKind.i64 (↑l.length : Int)) = SV.val (Value.int IntKind.i64 (↑l.length : Int)) ∧ true = true) ∧
      (SV.val (Value.slice a l.length c) = SV.val (Value.slice a l.length c) ∧ true = true) ∧
      (SV.val
      (Value.func (Fn.func (75 : FuncId)) #[]
      #[Value.pointer (some { block := b1, off := (0 : Nat) : Addr }),
      Value.pointer (some { block := b2, off := (0 : Nat) : Addr })]) =
      SV.val
      (Value.func (Fn.func (75 : FuncId)) #[]
      #[Value.pointer (some { block := b1, off := (0 : Nat) : Addr }),
      Value.pointer (some { block := b2, off := (0 : Nat) : Addr })]) ∧
      true = true) ∧
      True) ∧
      True) ∧
      l.length - a' < l.length - a_1))
      (Done (Value.int IntKind.i64 (-1 : Int) = Value.int IntKind.i64 (idxF f l)))) (by kernel_rfl) ?_
  have h' := h.sz hn'
  refine ⟨rfl, ⟨0, by simp⟩, fun k ⟨hk, hq⟩ => ifB_intro (fun hb => ?_) (fun hb => ⟨?_⟩)⟩
  · have hk2 : k < l.length := by simpa using hb
    obtain ⟨b1, o1, rfl, hcell⟩ := h'.cells (by rw [flat_len (k := 8) (fun _ => rfl)]; omega)
    have w1 : IntKind.i64.wrap ((k : Int) + 1) = ((k + 1 : Nat) : Int) := by simp [IntKind.wrap_i64]; omega
    refine ⟨b1, o1, rfl, by omega, _,_,_,_,_,_,_,_, by simpa using CellsAt.elem (k := 8) (enc := encDl) (fun _ => rfl) l o1 k hk2 hcell, _, hf _ (List.getElem_mem hk2) n hn', ifB_intro (fun h1 => ⟨?_⟩) (fun h1 => ⟨k + 1, ⟨⟨hk2, ?_⟩, by simp [w1]⟩, by omega⟩)⟩
    · rw [idxF_found hk2 hq h1]
    · intro h hm
      rw [List.take_succ_eq_append_getElem hk2, List.mem_append] at hm
      rcases hm with hm | hm
      · exact hq h hm
      · have hm : h = l[k] := by simpa using hm
        subst hm
        exact h1
  · have : k = l.length := by simp at hb; omega
    subst this
    rw [idxF_none fun h hm => hq h (by simpa using hm)]

end Go.Proofs.Ytoilbbfidnhekaa
set_option linter.unusedVariables false
set_option linter.unusedSimpArgs false
namespace Go.Proofs.Ytoilbbfidnhekaa
open Go.Vc Go.RowKit
set_option maxRecDepth 100000

theorem dl_delete (a : Option Addr) (c : Nat) (l : List Dl) (i : Nat) (S : Nat → Prop) (hn : l.length ≤ 1759218604410) (hi : i < l.length) (m : M) (h : OwnB m.sz S m 8 a l.length c (l.flatMap encDl)) :
    SpecW Try.prog 50 [.slice a l.length c, I i, I ((i + 1 : Nat) : Int)] m S fun v m' => v = .slice a (l.length - 1) c ∧ OwnB m.sz S m' 8 a (l.length - 1) c ((l.take i ++ l.drop (i + 1)).flatMap encDl) := by
  refine SpecW.of_vc Try.func50 (ann := noAnn) ?_
  refine vc_by (X :=
      true = true ∧
      (true = true ∧ (0 : Int) ≤ (↑i : Int) ∧ (↑i : Int) ≤ (↑(i + (1 : Nat)) : Int) ∧ (↑(i + (1 : Nat)) : Int) ≤ (↑l.length : Int) ∧ (↑l.length : Int) ≤ (↑c : Int)) ∧
      ifB ((↑i : Int) == (↑(i + (1 : Nat)) : Int))
      (Done
      (Value.slice a l.length c = Value.slice a (l.length - (1 : Nat)) c ∧
      OwnB m.sz S m (8 : Nat) a (l.length - (1 : Nat)) c (List.flatMap encDl (List.take i l ++ List.drop (i + (1 : Nat)) l))))
      (true = true ∧
      (true = true ∧ (0 : Int) ≤ (0 : Int) ∧ (0 : Int) ≤ (↑i : Int) ∧ (↑i : Int) ≤ (↑c : Int) ∧ True) ∧
      (true = true ∧ (0 : Int) ≤ (↑(i + (1 : Nat)) : Int) ∧ (↑(i + (1 : Nat)) : Int) ≤ (↑l.length : Int) ∧ True ∧ True) ∧
      (∃ (old : List Value),
      ∃ (src : List Value),
      AppPre m.sz S m (8 : Nat) (80 : Nat) (if (↑c : Int).toNat = (0 : Nat) then a else Option.map (fun (x : Addr) => x) a) ((↑i : Int).toNat - (0 : Nat))
      ((↑c : Int).toNat - (0 : Nat))
      (if (↑c : Int).toNat = (↑(i + (1 : Nat)) : Int).toNat then a
      else Option.map (fun (x : Addr) => { block := x.block, off := x.off + (↑(i + (1 : Nat)) : Int).toNat * (8 : Nat) : Addr }) a)
      ((↑l.length : Int).toNat - (↑(i + (1 : Nat)) : Int).toNat) old src ∧
      ∀ (a' : Option Addr) (c' : Nat) (m' : M),
      AppPost Try.prog (24 : Nat) m (8 : Nat) (if (↑c : Int).toNat = (0 : Nat) then a else Option.map (fun (x : Addr) => x) a) ((↑i : Int).toNat - (0 : Nat))
      ((↑c : Int).toNat - (0 : Nat)) ((↑l.length : Int).toNat - (↑(i + (1 : Nat)) : Int).toNat) old src a' c' m' →
      (true = true ∧
      (0 : Int) ≤ (↑((↑i : Int).toNat - (0 : Nat) + ((↑l.length : Int).toNat - (↑(i + (1 : Nat)) : Int).toNat)) : Int) ∧
      (↑((↑i : Int).toNat - (0 : Nat) + ((↑l.length : Int).toNat - (↑(i + (1 : Nat)) : Int).toNat)) : Int) ≤ (↑l.length : Int) ∧
      (↑l.length : Int) ≤ (↑c' : Int) ∧ True) ∧
      true = true ∧
      ((↑l.length : Int).toNat - (↑((↑i : Int).toNat - (0 : Nat) + ((↑l.length : Int).toNat - (↑(i + (1 : Nat)) : Int).toNat)) : Int).toNat ≠ (0 : Nat) →
      ∃ (b : Nat),
      ∃ (o : Nat),
      (if (↑c' : Int).toNat = (↑((↑i : Int).toNat - (0 : Nat) + ((↑l.length : Int).toNat - (↑(i + (1 : Nat)) : Int).toNat)) : Int).toNat then a'
      else
      Option.map
      (fun (x : Addr) =>
      x.add
      ((↑((↑i : Int).toNat - Int.toNat (0 : Int) + ((↑l.length : Int).toNat - (↑(i + (1 : Nat)) : Int).toNat)) : Int).toNat *
      Try.prog.types[(24 : Nat)].size))
      a') =
      some { block := b, off := o : Addr } ∧
      Wr m.sz S m' b o
      (((↑l.length : Int).toNat - (↑((↑i : Int).toNat - (0 : Nat) + ((↑l.length : Int).toNat - (↑(i + (1 : Nat)) : Int).toNat)) : Int).toNat) *
      (8 : Nat))) ∧
      ∀ (m'_1 : M),
      CopyPost m'
      (if (↑c' : Int).toNat = (↑((↑i : Int).toNat - (0 : Nat) + ((↑l.length : Int).toNat - (↑(i + (1 : Nat)) : Int).toNat)) : Int).toNat then a'
      else
      Option.map
      (fun (x : Addr) =>
      x.add
      ((↑((↑i : Int).toNat - Int.toNat (0 : Int) + ((↑l.length : Int).toNat - (↑(i + (1 : Nat)) : Int).toNat)) : Int).toNat *
      Try.prog.types[(24 : Nat)].size))
      a')
      (zeroRow Try.prog (24 : Nat)
      ((↑l.length : Int).toNat - (↑((↑i : Int).toNat - (0 : Nat) + ((↑l.length : Int).toNat - (↑(i + (1 : Nat)) : Int).toNat)) : Int).toNat))
      m'_1 →
      Done
      (Value.slice a' ((↑i : Int).toNat - (0 : Nat) + ((↑l.length : Int).toNat - (↑(i + (1 : Nat)) : Int).toNat)) c' =
      Value.slice a (l.length - (1 : Nat)) c ∧
      OwnB m.sz S m'_1 (8 : Nat) a (l.length - (1 : Nat)) c (List.flatMap encDl (List.take i l ++ List.drop (i + (1 : Nat)) l)))) ∧
      True)) (by kernel_rfl) ?_
  have hk : ∀ x, (encDl x).length = 8 := fun _ => rfl
  have es : Try.prog.types[24].size = 8 := by kernel_rfl
  have zl : ∀ k, (zeroRow Try.prog 24 k).length = k * 8 := zrLen (by kernel_rfl)
  have e0 : i - Int.toNat 0 + (l.length - (i + 1)) = l.length - 1 := by simp; omega
  have e1 : i + (l.length - (i + 1)) = l.length - 1 := by omega
  have e2 : l.length - (l.length - 1) = 1 := by omega
  simp only [es, Int.toNat_natCast, Nat.sub_zero, Option.map_id_fun', id_eq, ite_self, e0, e1, e2]
  have hcl := h.capLe
  have hTl : ((l.take i).flatMap encDl).length = i * 8 := by rw [flat_len hk, List.length_take]; congr 1; omega
  have hDl : ((l.drop (i + 1)).flatMap encDl).length = (l.length - (i + 1)) * 8 := by rw [flat_len hk, List.length_drop]
  have hD1 : oneCells ((l.drop (i + 1)).flatMap encDl) = true := by
    rw [oneCells_iff]; intro v hv
    obtain ⟨w, -, hw⟩ := List.mem_flatMap.1 hv
    exact oneCells_iff.1 (rfl : oneCells (encDl w) = true) v hw
  obtain ⟨b, o, rfl, hcells⟩ := h.row.cells (by rw [flat_len hk]; omega)
  rw [List.flatMap_append]
  rw [flat_split l i hi] at h hcells
  generalize hT : (l.take i).flatMap encDl = T at *
  generalize hD : (l.drop (i + 1)).flatMap encDl = D at *
  have hEl := hk l[i]
  generalize hE : encDl l[i] = E at *
  have hED : (E ++ D).length = D.length + 8 := by rw [List.length_append, hEl]; omega
  have hX : E ++ D = (E ++ D).take D.length ++ (E ++ D).drop D.length := (List.take_append_drop _ _).symm
  have hXl : ((E ++ D).take D.length).length = D.length := by rw [List.length_take, hED]; omega
  have hZl : ((E ++ D).drop D.length).length = 8 := by rw [List.length_drop, hED]; omega
  have q1 : OwnB m.sz S m 8 (some ⟨b, o, none⟩) l.length c (T ++ ((E ++ D).take D.length ++ (E ++ D).drop D.length)) := by rw [← hX]; exact h
  obtain ⟨g1, q2⟩ := q1.set (new := D) hXl.symm
  rw [hTl] at g1 q2
  have q3 : OwnB m.sz S (m.setCells b (o + i * 8) D) 8 (some ⟨b, o, none⟩) l.length c ((T ++ D) ++ (E ++ D).drop D.length) := by rw [List.append_assoc]; exact q2
  have hTD : (T ++ D).length = (l.length - 1) * 8 := by rw [List.length_append, hTl, hDl]; omega
  obtain ⟨g3, q4⟩ := q3.overTail (i := l.length - 1) (new := zeroRow Try.prog 24 1) hTD (by omega) (by rw [zl, hZl])
  rw [zl] at g3
  have hsub : c ≠ l.length - 1 := by omega
  refine ⟨trivial, ⟨trivial, by omega, by omega, by omega, by omega⟩, ifB_intro (fun hb => ?_) (fun _ => ⟨trivial, ⟨trivial, by omega, by omega, by omega, trivial⟩, ⟨trivial, by omega, by omega, trivial, trivial⟩, ⟨T, D, ⟨?_, hTl, ?_, hDl, hD1, by omega, (fun e => by cases e), fun hn0 _ => ⟨b, o, rfl, ?_⟩⟩, fun a' c' m' hp => ?_⟩, trivial⟩)⟩
  · exfalso; simp at hb; omega
  · exact .inr ⟨b, o, rfl, hcells.take⟩
  · by_cases hci : c = i + 1
    · refine .inl (List.eq_nil_of_length_eq_zero ?_)
      rw [hDl]
      have : l.length - (i + 1) = 0 := by omega
      rw [this, Nat.zero_mul]
    · rw [if_neg hci]
      have hdd := hcells.drop.drop
      rw [hTl, hEl] at hdd
      refine .inr ⟨b, o + (i + 1) * 8, rfl, ?_⟩
      rw [show o + (i + 1) * 8 = o + i * 8 + 8 by omega]
      exact hdd
  · have hne : D.length = (l.length - (i + 1)) * 8 := hDl
    rw [← hne]
    exact g1
  · have hm' : a' = some ⟨b, o, none⟩ ∧ c' = c ∧ m' = m.setCells b (o + i * 8) D := by
      rcases hp with ⟨-, rfl, rfl, ⟨h0, rfl⟩ | ⟨b', o', e, rfl⟩⟩ | ⟨hlt, -⟩
      · have : D = [] := List.eq_nil_of_length_eq_zero (by rw [hDl, h0, Nat.zero_mul])
        rw [this, setCells_nil]
        exact ⟨rfl, rfl, rfl⟩
      · cases e; exact ⟨rfl, rfl, rfl⟩
      · omega
    obtain ⟨rfl, rfl, rfl⟩ := hm'
    refine ⟨⟨trivial, by omega, by omega, by omega, trivial⟩, trivial, fun _ => ⟨b, _, sub_addr hsub, g3⟩, fun m2 hp2 => ⟨⟨rfl, ?_⟩⟩⟩
    rw [hp2.atc (sub_addr hsub)]
    exact q4

end Go.Proofs.Ytoilbbfidnhekaa
set_option linter.unusedVariables false
set_option linter.unusedSimpArgs false
namespace Go.Proofs.Ytoilbbfidnhekaa
open Go.Vc Go.RowKit
set_option maxRecDepth 100000

def whoseB (c s : Int) : Bool := decide (1 ≤ c) && decide (c ≤ 8) && decide (1 ≤ s) && decide (s ≤ 4611686018427387904)

def fateV (a b : Int) : Int := if a = 2 ∨ b = 2 then 2 else if a = 1 ∧ b = 1 then 1 else 0

def keyB (k : ByteArray) : Bool := decide (1 ≤ k.size) && decide (k.size ≤ 16)

def mayB (d : Dl) : Bool := whoseB d.cl d.sq && keyB d.ky && keyB d.ot && !decide (d.ky = d.ot) && decide (1 ≤ d.n) && decide (0 ≤ d.mi) && decide (d.mi ≤ 2) && decide (0 ≤ d.th) && decide (d.th ≤ 2) &&
  (decide (d.ft = fateV d.mi d.th) || (decide (fateV d.mi d.th = 0) && decide (d.ft = 2)))

def isD (c s : Int) (d : Dl) : Bool := decide (d.cl = c) && decide (d.sq = s)

def placeD (l : List Dl) (c s : Int) : Int := idxF (isD c s) l

def okAt (l : List Dl) (j : Nat) : Bool := match l[j]? with | some d => mayB d && decide (placeD l d.cl d.sq = j) | none => true

def okTo (l : List Dl) (k : Nat) : Bool := (List.range k).all (okAt l)

def booksB (l : List Dl) : Bool := decide (l.length ≤ 4) && okTo l l.length

theorem okTo_succ (l : List Dl) (k : Nat) : okTo l (k + 1) = (okTo l k && okAt l k) := by
  simp [okTo, List.range_succ]

theorem okTo_le {l : List Dl} {k n : Nat} (h : okTo l n = true) (hk : k ≤ n) : okTo l k = true := by
  simp only [okTo, List.all_eq_true, List.mem_range] at h ⊢
  intro x hx; exact h x (by omega)

theorem whose_q (c s : Int) (m : M) : QSpec Try.prog 53 [I c, I s] m (.bool (whoseB c s)) := by
  refine QSpec.of_vc Try.func53 (ann := fun _ => noAnn) fun n hn => ?_
  refine vc_by (X :=
      true = true ∧
      ifB (decide (c ≥ (1 : Int)))
      (ifB (decide (c ≤ (8 : Int)))
      (ifB (decide (s ≥ (1 : Int))) (Done (Value.bool (decide (s ≤ (4611686018427387904 : Int))) = Value.bool (whoseB c s))) (Done (Value.bool false = Value.bool (whoseB c s))))
      (Done (Value.bool false = Value.bool (whoseB c s))))
      (Done (Value.bool false = Value.bool (whoseB c s)))) (by kernel_rfl) ?_
  refine ⟨rfl, ?_⟩
  repeat' (refine ifB_intro (fun h => ?_) (fun h => ?_))
  all_goals (refine ⟨?_⟩; simp at *; simp [whoseB]; omega)

theorem fate_q (a b : Int) (m : M) : QSpec Try.prog 48 [I a, I b] m (I (fateV a b)) := by
  refine QSpec.of_vc Try.func48 (ann := fun _ => noAnn) fun n hn => ?_
  refine vc_by (X :=
      true = true ∧
      ifB (a == (2 : Int)) (Done (Value.int IntKind.i64 (2 : Int) = Value.int IntKind.i64 (fateV a b)))
      (ifB (b == (2 : Int)) (Done (Value.int IntKind.i64 (2 : Int) = Value.int IntKind.i64 (fateV a b)))
      (ifB (a == (1 : Int))
      (ifB (b == (1 : Int)) (Done (Value.int IntKind.i64 (1 : Int) = Value.int IntKind.i64 (fateV a b)))
      (Done (Value.int IntKind.i64 (0 : Int) = Value.int IntKind.i64 (fateV a b))))
      (Done (Value.int IntKind.i64 (0 : Int) = Value.int IntKind.i64 (fateV a b)))))) (by kernel_rfl) ?_
  refine ⟨rfl, ?_⟩
  repeat' (refine ifB_intro (fun h => ?_) (fun h => ?_))
  all_goals (refine ⟨?_⟩; simp at *; simp [fateV, *])

theorem may_q (d : Dl) (m : M) : QSpec Try.prog 44 [dlv d] m (.bool (mayB d)) := by
  refine QSpec.of_vc Try.func44 (ann := fun _ => noAnn) fun n hn => ?_
  refine vc_by (X :=
      true = true ∧
      ∃ (b : Bool),
      QSpec Try.prog (53 : Nat) [Value.int IntKind.i64 d.cl, Value.int IntKind.i64 d.sq] { π := m.π, sz := n, uf := m.uf : M } (Value.bool b) ∧
      ifB (!b) (Done (Value.bool false = Value.bool (mayB d)))
      (ifB (decide (d.n < (1 : Int))) (Done (Value.bool false = Value.bool (mayB d)))
      (ifB (d.ky.toList == d.ot.toList) (Done (Value.bool false = Value.bool (mayB d)))
      (ifB (decide (d.mi < (0 : Int))) (Done (Value.bool false = Value.bool (mayB d)))
      (ifB (decide (d.mi > (2 : Int))) (Done (Value.bool false = Value.bool (mayB d)))
      (ifB (decide (d.th < (0 : Int))) (Done (Value.bool false = Value.bool (mayB d)))
      (ifB (decide (d.th > (2 : Int))) (Done (Value.bool false = Value.bool (mayB d)))
      (ifB (decide ((↑d.ky.size : Int) < (1 : Int))) (Done (Value.bool false = Value.bool (mayB d)))
      (ifB (decide ((↑d.ky.size : Int) > (16 : Int))) (Done (Value.bool false = Value.bool (mayB d)))
      (ifB (decide ((↑d.ot.size : Int) < (1 : Int))) (Done (Value.bool false = Value.bool (mayB d)))
      (ifB (decide ((↑d.ot.size : Int) > (16 : Int))) (Done (Value.bool false = Value.bool (mayB d)))
      (∃ (n_1 : Int),
      QSpec Try.prog (48 : Nat) [Value.int IntKind.i64 d.mi, Value.int IntKind.i64 d.th] { π := m.π, sz := n, uf := m.uf : M } (Value.int IntKind.i64 n_1) ∧
      ifB (d.ft == n_1) (Done (Value.bool true = Value.bool (mayB d)))
      (ifB (n_1 == (0 : Int)) (Done (Value.bool (d.ft == (2 : Int)) = Value.bool (mayB d))) (Done (Value.bool false = Value.bool (mayB d)))))))))))))))) (by kernel_rfl) ?_
  refine ⟨rfl, _, whose_q _ _ _, ?_⟩
  rw [bytes_beq]
  refine ifB_intro (fun h1 => ⟨?_⟩) (fun h1 => ifB_intro (fun h2 => ⟨?_⟩) (fun h2 => ifB_intro (fun h3 => ⟨?_⟩) (fun h3 => ifB_intro (fun h4 => ⟨?_⟩) (fun h4 => ifB_intro (fun h5 => ⟨?_⟩) (fun h5 => ifB_intro (fun h6 => ⟨?_⟩) (fun h6 => ifB_intro (fun h7 => ⟨?_⟩) (fun h7 => ifB_intro (fun h8 => ⟨?_⟩) (fun h8 => ifB_intro (fun h9 => ⟨?_⟩) (fun h9 => ifB_intro (fun h10 => ⟨?_⟩) (fun h10 => ifB_intro (fun h11 => ⟨?_⟩) (fun h11 => ⟨_, fate_q _ _ _, ifB_intro (fun h12 => ⟨?_⟩) (fun h12 => ifB_intro (fun h13 => ⟨?_⟩) (fun h13 => ⟨?_⟩))⟩)))))))))))
  · simp at h1; simp [mayB, h1]
  · simp at h2; simp [mayB]; omega
  · simp at h3; simp [mayB, h3]
  · simp at h4; simp [mayB]; omega
  · simp at h5; simp [mayB]; omega
  · simp at h6; simp [mayB]; omega
  · simp at h7; simp [mayB]; omega
  · simp at h8; simp [mayB, keyB]; omega
  · simp at h9; simp [mayB, keyB]; omega
  · simp at h10; simp [mayB, keyB]; omega
  · simp at h11; simp [mayB, keyB]; omega
  all_goals
    have k1 : keyB d.ky = true := by simp at h8 h9; simp [keyB]; omega
    have k2 : keyB d.ot = true := by simp at h10 h11; simp [keyB]; omega
    have h1 : whoseB d.cl d.sq = true := by simpa using h1
    have h2 : 1 ≤ d.n := by simp at h2; omega
    have h3 : ¬ d.ky = d.ot := by simpa using h3
    have h4 : 0 ≤ d.mi := by simp at h4; omega
    have h5 : d.mi ≤ 2 := by simp at h5; omega
    have h6 : 0 ≤ d.th := by simp at h6; omega
    have h7 : d.th ≤ 2 := by simp at h7; omega
  · have h12 : d.ft = fateV d.mi d.th := by simpa using h12
    simp [mayB, k1, k2, h1, h2, h3, h4, h5, h6, h7, h12]
  · have h12 : ¬ d.ft = fateV d.mi d.th := by simpa using h12
    have h13 : fateV d.mi d.th = 0 := by simpa using h13
    rw [h13] at h12
    simp [mayB, k1, k2, h1, h2, h3, h4, h5, h6, h7, h12, h13]
    rfl
  · have h12 : ¬ d.ft = fateV d.mi d.th := by simpa using h12
    have h13 : ¬ fateV d.mi d.th = 0 := by simpa using h13
    simp [mayB, h12, h13]

theorem pl_q (d : Dl) (b1 b2 : Nat) (c s : Int) (m : M) (h1 : CellsAt m b1 0 [I c]) (h2 : CellsAt m b2 0 [I s]) : QSpec Try.prog 75 [dlv d, .pointer (some ⟨b1, 0, none⟩), .pointer (some ⟨b2, 0, none⟩)] m (.bool (isD c s d)) := by
  refine QSpec.of_vc Try.func75 (ann := fun _ => noAnn) fun n hn => ?_
  refine vc_by (X :=
      true = true ∧
      ∃ (n_1 : Int),
      CellsAt { π := m.π, sz := n, uf := m.uf : M } b1 (0 : Nat) [Value.int IntKind.i64 n_1] ∧
      ifB (d.cl == n_1)
      (∃ (n_2 : Int), CellsAt { π := m.π, sz := n, uf := m.uf : M } b2 (0 : Nat) [Value.int IntKind.i64 n_2] ∧ Done (Value.bool (d.sq == n_2) = Value.bool (isD c s d)))
      (Done (Value.bool false = Value.bool (isD c s d)))) (by kernel_rfl) ?_
  refine ⟨rfl, c, ⟨h1.out⟩, ifB_intro (fun h => ⟨s, ⟨h2.out⟩, ⟨?_⟩⟩) (fun h => ⟨?_⟩)⟩
  · simp at h; simp [isD, h, Bool.beq_eq_decide_eq]
  · simp at h; simp [isD, h]

theorem place_q (a : Option Addr) (cp : Nat) (l : List Dl) (c s : Int) (hn : l.length ≤ 9223372036854775807) (m : M) (h : Row m a (dls l)) : QSpec Try.prog 43 [.slice a l.length cp, I c, I s] m (I (placeD l c s)) := by
  refine QSpec.of_vc Try.func43 (ann := fun _ => noAnn) fun n hn' => ?_
  refine vc_by (X :=
      true = true ∧
      ∀ (b : Nat),
      Fresh n { π := m.π, sz := n, uf := m.uf : M } b →
      ∀ (b_1 : Nat),
      Fresh n ({ π := m.π, sz := n, uf := m.uf : M }.newBlock b [Value.int IntKind.i64 c]) b_1 →
      ∃ (n_1 : Int),
      QSpec Try.prog (74 : Nat)
      [Value.slice a l.length cp,
      Value.func (Fn.func (75 : Nat)) #[]
      #[Value.pointer (some { block := b, off := (0 : Nat) : Addr }), Value.pointer (some { block := b_1, off := (0 : Nat) : Addr })]]
      (({ π := m.π, sz := n, uf := m.uf : M }.newBlock b [Value.int IntKind.i64 c]).newBlock b_1 [Value.int IntKind.i64 s]) (Value.int IntKind.i64 n_1) ∧
      Done (Value.int IntKind.i64 n_1 = Value.int IntKind.i64 (placeD l c s))) (by kernel_rfl) ?_
  refine ⟨rfl, fun b1 hf1 b2 hf2 => ?_⟩
  have hne := fresh_ne hf2
  have c2 : CellsAt ((({ m with sz := n } : M).newBlock b1 [I c]).newBlock b2 [I s]) b2 0 [I s] := cellsAt_new
  have c1 : CellsAt ((({ m with sz := n } : M).newBlock b1 [I c]).newBlock b2 [I s]) b1 0 [I c] := cellsAt_new.of (newBlock_other hne)
  exact ⟨_, dl_idx a cp l b1 b2 (isD c s) hn _ (h.fresh2 hn' hf1 hf2) fun x _ n' _ => pl_q x b1 b2 c s _ ⟨c1.out⟩ ⟨c2.out⟩, ⟨rfl⟩⟩

theorem check_q (a : Option Addr) (cp : Nat) (l : List Dl) (hn : l.length ≤ 9223372036854775807) (m : M) (h : Row m a (dls l)) : QSpec Try.prog 16 [.slice a l.length cp] m (I (if booksB l then 0 else 21)) := by
  refine QSpec.of_vc Try.func16 (ann := fun n _ => { A := Nat, inv := fun k => k ≤ l.length ∧ okTo l k = true ∧ l.length ≤ 4, st := fun k => [(10, .val (I k)), (9, .val (I l.length)), (8, .val (.slice a l.length cp)), (0, .val (.slice a l.length cp))], own := fun _ => [], m := fun _ => { m with sz := n }, μ := fun k => l.length - k }) fun n hn' => ?_
  refine vc_by (X :=
      true = true ∧
      ifB (decide ((↑l.length : Int) > (4 : Int))) (Done (Value.int IntKind.i64 (21 : Int) = Value.int IntKind.i64 (if booksB l = true then (0 : Int) else (21 : Int))))
      ((∃ (a_1 : Nat),
      (a_1 ≤ l.length ∧ okTo l a_1 = true ∧ l.length ≤ (4 : Nat)) ∧
      { π := m.π, sz := n, uf := m.uf : M } = { π := m.π, sz := n, uf := m.uf : M } ∧
      ((SV.val (Value.int IntKind.i64 (0 : Int)) = SV.val (Value.int IntKind.i64 (↑a_1 : Int)) ∧ true = true) ∧
      (SV.val (Value.int IntKind.i64 (↑l.length : Int)) = SV.val (Value.int IntKind.i64 (↑l.length : Int)) ∧ true = true) ∧
      (SV.val (Value.slice a l.length cp) = SV.val (Value.slice a l.length cp) ∧ true = true) ∧
      (SV.val (Value.slice a l.length cp) = SV.val (Value.slice a l.length cp) ∧ true = true) ∧ True) ∧
      True) ∧
      ∀ (a_1 : Nat),
      a_1 ≤ l.length ∧ okTo l a_1 = true ∧ l.length ≤ (4 : Nat) →
      ifB (decide ((↑a_1 : Int) < (↑l.length : Int)))
      (∃ (b : Nat),
      ∃ (off : Nat),
      a = some { block := b, off := off : Addr } ∧
      ((0 : Int) ≤ (↑a_1 : Int) ∧ (↑a_1 : Int) < (↑l.length : Int)) ∧
      ∃ (n_1 : Int),
      ∃ (n_2 : Int),
      ∃ (s : ByteArray),
      ∃ (s_1 : ByteArray),
      ∃ (n_3 : Int),
      ∃ (n_4 : Int),
      ∃ (n_5 : Int),
      ∃ (n_6 : Int),
      CellsAt { π := m.π, sz := n, uf := m.uf : M } b (off + (↑a_1 : Int).toNat * (8 : Nat))
      [Value.int IntKind.i64 n_1, Value.int IntKind.i64 n_2, Value.string s, Value.string s_1, Value.int IntKind.i64 n_3,
      Value.int IntKind.i64 n_4, Value.int IntKind.i64 n_5, Value.int IntKind.i64 n_6] ∧
      ∃ (b : Bool),
      QSpec Try.prog (44 : Nat)
      [Value.agg
      #[Value.int IntKind.i64 n_1, Value.int IntKind.i64 n_2, Value.string s, Value.string s_1, Value.int IntKind.i64 n_3,
      Value.int IntKind.i64 n_4, Value.int IntKind.i64 n_5, Value.int IntKind.i64 n_6]]
      { π := m.π, sz := n, uf := m.uf : M } (Value.bool b) ∧
      ifB (!b) (Done (Value.int IntKind.i64 (21 : Int) = Value.int IntKind.i64 (if booksB l = true then (0 : Int) else (21 : Int))))
      (∃ (n_7 : Int),
      QSpec Try.prog (43 : Nat) [Value.slice a l.length cp, Value.int IntKind.i64 n_1, Value.int IntKind.i64 n_2]
      { π := m.π, sz := n, uf := m.uf : M } (Value.int IntKind.i64 n_7) ∧
      ifB (n_7 != (↑a_1 : Int))
      (Done (Value.int IntKind.i64 (21 : Int) = Value.int IntKind.i64 (if booksB l = true then (0 : Int) else (21 : Int))))
      (∃ (a' : Nat),
      ((a' ≤ l.length ∧ okTo l a' = true ∧ l.length ≤ (4 : Nat)) ∧
      { π := m.π, sz := n, uf := m.uf : M } = { π := m.π, sz := n, uf := m.uf : M } ∧
      ((SV.val (Value.int IntKind.i64 (IntKind.i64.wrap ((↑a_1 : Int) + (1 : Int)))) =
      SV.val (Value.int IntKind.i64 (↑a' : Int)) ∧
      true = true) ∧
      (SV.val (Value.int IntKind.i64 (↑l.length : Int)) = SV.val (Value.int IntKind.i64 (↑l.length : Int)) ∧ true = true) ∧
      (SV.val (Value.slice a l.length cp) = SV.val (Value.slice a l.length cp) ∧ true = true) ∧
      (SV.val (Value.slice a l.length cp) = SV.val (Value.slice a l.length cp) ∧ true = true) ∧ True) ∧
      True) ∧
      l.length - a' < l.length - a_1)))
      (Done (Value.int IntKind.i64 (0 : Int) = Value.int IntKind.i64 (if booksB l = true then (0 : Int) else (21 : Int)))))) (by kernel_rfl) ?_
  have h' := h.sz hn'
  refine ⟨rfl, ifB_intro (fun h1 => ⟨?_⟩) (fun h1 => ⟨⟨0, by simp at h1; simp [okTo]; omega⟩, fun k ⟨hk, hq, h4⟩ => ifB_intro (fun hb => ?_) (fun hb => ⟨?_⟩)⟩)⟩
  · have : ¬ l.length ≤ 4 := by simp at h1; omega
    simp [booksB, this]
  · have hk2 : k < l.length := by simpa using hb
    obtain ⟨b, o, rfl, hc⟩ := h'.cells (by rw [dl_len]; omega)
    have w1 : IntKind.i64.wrap ((k : Int) + 1) = ((k + 1 : Nat) : Int) := by simp [IntKind.wrap_i64]; omega
    have hok : okAt l k = (mayB l[k] && decide (placeD l l[k].cl l[k].sq = k)) := by simp [okAt, List.getElem?_eq_getElem hk2]
    have bad : okAt l k = false → Done (I 21 = I (if booksB l = true then 0 else 21)) := fun hh => by
      have : booksB l = false := by
        cases hbk : booksB l with
        | false => rfl
        | true =>
          simp only [booksB, Bool.and_eq_true] at hbk
          have := okTo_le hbk.2 (by omega : k + 1 ≤ l.length)
          rw [okTo_succ, hh] at this
          simp at this
      exact ⟨by simp [this]⟩
    refine ⟨b, o, rfl, by omega, _, _, _, _, _, _, _, _, by simpa using dl_at hc hk2, _, may_q l[k] _, ifB_intro (fun h2 => bad ?_) (fun h2 => ⟨_, place_q _ cp l l[k].cl l[k].sq hn _ h', ifB_intro (fun h3 => bad ?_) (fun h3 => ⟨k + 1, ⟨⟨hk2, ?_, h4⟩, by simp [w1]⟩, by omega⟩)⟩)⟩
    · rw [hok]; simp at h2; simp [h2]
    · rw [hok]; simp at h3; simp [h3]
    · rw [okTo_succ, hq, hok]; simp at h2 h3; simp [h2, h3]
  · have : k = l.length := by simp at hb; omega
    subst this
    simp [booksB, hq, h4]

end Go.Proofs.Ytoilbbfidnhekaa
set_option linter.unusedVariables false
set_option linter.unusedSimpArgs false
namespace Go.Proofs.Ytoilbbfidnhekaa
open Go.Vc Go.RowKit
set_option maxRecDepth 100000

def d0 : Dl := ⟨0, 0, .empty, .empty, 0, 0, 0, 0⟩

def findD (l : List Dl) (c s : Int) : Dl × Bool := if booksB l && decide (0 ≤ placeD l c s) then ((l[(placeD l c s).toNat]?).getD d0, true) else (d0, false)

def newD (d : Dl) : Bool := mayB d && decide (d.mi = 0) && decide (d.th = 0) && decide (d.ft = 0)

def openD (l : List Dl) (d : Dl) : List Dl × Int :=
  if booksB l = false then ([], 21) else if newD d = false then ([], 1) else if 0 ≤ placeD l d.cl d.sq then ([], 171) else if 4 ≤ l.length then ([], 3) else (l ++ [d], 0)

def foundE (l : List Dl) (c s : Int) : Int := if booksB l = false then 21 else if placeD l c s < 0 then 60 else 0

def foundI (l : List Dl) (c s : Int) : Int := if foundE l c s = 0 then placeD l c s else 0

def atD (l : List Dl) (c s : Int) : Dl := (l[(placeD l c s).toNat]?).getD d0

def forgetD (l : List Dl) (c s : Int) : List Dl × Int :=
  if foundE l c s ≠ 0 then ([], foundE l c s) else if (atD l c s).ft = 0 then ([], 60) else (l.take (placeD l c s).toNat ++ l.drop ((placeD l c s).toNat + 1), 0)

def givenD (d : Dl) : Dl := if d.ft = 0 then { d with ft := 2 } else d

def giveD (l : List Dl) (c s : Int) : List Dl × Bool × Int :=
  if foundE l c s ≠ 0 then ([], false, foundE l c s) else (l.set (placeD l c s).toNat (givenD (atD l c s)), decide ((atD l c s).ft = 0), 0)

def wordD (is : Bool) : Int := if is then 1 else 2

def saidD (d : Dl) (mine is : Bool) : Dl :=
  if d.ft ≠ 0 ∨ (if mine then d.mi else d.th) ≠ 0 then d else
  let d := if mine then { d with mi := wordD is } else { d with th := wordD is }
  { d with ft := fateV d.mi d.th }

def sayD (l : List Dl) (c s : Int) (mine is : Bool) : List Dl × Bool × Int :=
  if foundE l c s ≠ 0 then ([], false, foundE l c s) else (l.set (placeD l c s).toNat (saidD (atD l c s) mine is), decide ((atD l c s).ft = 0 ∧ (saidD (atD l c s) mine is).ft ≠ 0), 0)

/-- a list of its own, and an Errno -/
structure LsR (m : M) (y : List Dl × Int) (v : Value) (m' : M) : Prop where
  out : ∃ a' c', v = .tuple #[.slice a' y.1.length c', I y.2] ∧ NewR m.sz (fun _ => False) m' 8 a' y.1.length c' (dls y.1)

structure LbR (m : M) (y : List Dl × Bool × Int) (v : Value) (m' : M) : Prop where
  out : ∃ a' c', v = .tuple #[.slice a' y.1.length c', .bool y.2.1, I y.2.2] ∧ NewR m.sz (fun _ => False) m' 8 a' y.1.length c' (dls y.1)

theorem ls_fail {m m' : M} {y : List Dl × Int} {e : Int} (h : y = ([], e)) : Done (LsR m y (.tuple #[.slice none 0 0, I e]) m') := ⟨by subst h; exact ⟨none, 0, rfl, .nil _⟩⟩

theorem ls_ok {m m' : M} {y : List Dl × Int} {z : List Dl} {a' : Option Addr} {len c' n : Nat} (h : y = (z, 0)) (hl : len = z.length) (hr : NewR n (fun _ => False) m' 8 a' len c' (dls z)) (hn : m.sz ≤ n) : Done (LsR m y (.tuple #[.slice a' len c', I 0]) m') := ⟨by subst h; subst hl; exact ⟨a', c', rfl, hr.lower hn⟩⟩

theorem lb_fail {m m' : M} {y : List Dl × Bool × Int} {e : Int} (h : y = ([], false, e)) : Done (LbR m y (.tuple #[.slice none 0 0, .bool false, I e]) m') := ⟨by subst h; exact ⟨none, 0, rfl, .nil _⟩⟩

theorem lb_ok {m m' : M} {y : List Dl × Bool × Int} {z : List Dl} {b : Bool} {a' : Option Addr} {len c' n : Nat} (h : y = (z, b, 0)) (hl : len = z.length) (hr : NewR n (fun _ => False) m' 8 a' len c' (dls z)) (hn : m.sz ≤ n) : Done (LbR m y (.tuple #[.slice a' len c', .bool b, I 0]) m') := ⟨by subst h; subst hl; exact ⟨a', c', rfl, hr.lower hn⟩⟩

theorem place_cases (l : List Dl) (c s : Int) : (placeD l c s = -1 ∧ ∀ d ∈ l, isD c s d = false) ∨ ∃ k, ∃ hk : k < l.length, placeD l c s = k ∧ isD c s l[k] = true ∧ ∀ d ∈ l.take k, isD c s d = false := idxF_cases _ _

theorem find_q (a : Option Addr) (cp : Nat) (l : List Dl) (c s : Int) (hn : l.length ≤ 9223372036854775807) (m : M) (h : Row m a (dls l)) : QSpec Try.prog 11 [.slice a l.length cp, I c, I s] m (.tuple #[dlv (findD l c s).1, .bool (findD l c s).2]) := by
  refine QSpec.of_vc Try.func11 (ann := fun _ => noAnn) fun n hn' => ?_
  refine vc_by (X :=
      true = true ∧
      ∃ (n_1 : Int),
      QSpec Try.prog (43 : Nat) [Value.slice a l.length cp, Value.int IntKind.i64 c, Value.int IntKind.i64 s] { π := m.π, sz := n, uf := m.uf : M } (Value.int IntKind.i64 n_1) ∧
      ifB (decide (n_1 < (0 : Int)))
      (Done
      (Value.tuple
      #[Value.agg
      #[Value.int IntKind.i64 (0 : Int), Value.int IntKind.i64 (0 : Int), Value.string { data := #[] : ByteArray }, Value.string { data := #[] : ByteArray },
      Value.int IntKind.i64 (0 : Int), Value.int IntKind.i64 (0 : Int), Value.int IntKind.i64 (0 : Int), Value.int IntKind.i64 (0 : Int)],
      Value.bool false] =
      Value.tuple
      #[Value.agg
      #[Value.int IntKind.i64 (findD l c s).fst.cl, Value.int IntKind.i64 (findD l c s).fst.sq, Value.string (findD l c s).fst.ky, Value.string (findD l c s).fst.ot,
      Value.int IntKind.i64 (findD l c s).fst.n, Value.int IntKind.i64 (findD l c s).fst.mi, Value.int IntKind.i64 (findD l c s).fst.th,
      Value.int IntKind.i64 (findD l c s).fst.ft],
      Value.bool (findD l c s).snd]))
      (∃ (n_2 : Int),
      QSpec Try.prog (16 : Nat) [Value.slice a l.length cp] { π := m.π, sz := n, uf := m.uf : M } (Value.int IntKind.i64 n_2) ∧
      ifB (n_2 != (0 : Int))
      (Done
      (Value.tuple
      #[Value.agg
      #[Value.int IntKind.i64 (0 : Int), Value.int IntKind.i64 (0 : Int), Value.string { data := #[] : ByteArray }, Value.string { data := #[] : ByteArray },
      Value.int IntKind.i64 (0 : Int), Value.int IntKind.i64 (0 : Int), Value.int IntKind.i64 (0 : Int), Value.int IntKind.i64 (0 : Int)],
      Value.bool false] =
      Value.tuple
      #[Value.agg
      #[Value.int IntKind.i64 (findD l c s).fst.cl, Value.int IntKind.i64 (findD l c s).fst.sq, Value.string (findD l c s).fst.ky,
      Value.string (findD l c s).fst.ot, Value.int IntKind.i64 (findD l c s).fst.n, Value.int IntKind.i64 (findD l c s).fst.mi,
      Value.int IntKind.i64 (findD l c s).fst.th, Value.int IntKind.i64 (findD l c s).fst.ft],
      Value.bool (findD l c s).snd]))
      (∃ (b : Nat),
      ∃ (off : Nat),
      a = some { block := b, off := off : Addr } ∧
      ((0 : Int) ≤ n_1 ∧ n_1 < (↑l.length : Int)) ∧
      ∃ (n_3 : Int),
      ∃ (n_4 : Int),
      ∃ (s_1 : ByteArray),
      ∃ (s_2 : ByteArray),
      ∃ (n_5 : Int),
      ∃ (n_6 : Int),
      ∃ (n_7 : Int),
      ∃ (n_8 : Int),
      CellsAt { π := m.π, sz := n, uf := m.uf : M } b (off + n_1.toNat * (8 : Nat))
      [Value.int IntKind.i64 n_3, Value.int IntKind.i64 n_4, Value.string s_1, Value.string s_2, Value.int IntKind.i64 n_5,
      Value.int IntKind.i64 n_6, Value.int IntKind.i64 n_7, Value.int IntKind.i64 n_8] ∧
      Done
      (Value.tuple
      #[Value.agg
      #[Value.int IntKind.i64 n_3, Value.int IntKind.i64 n_4, Value.string s_1, Value.string s_2, Value.int IntKind.i64 n_5,
      Value.int IntKind.i64 n_6, Value.int IntKind.i64 n_7, Value.int IntKind.i64 n_8],
      Value.bool true] =
      Value.tuple
      #[Value.agg
      #[Value.int IntKind.i64 (findD l c s).fst.cl, Value.int IntKind.i64 (findD l c s).fst.sq, Value.string (findD l c s).fst.ky,
      Value.string (findD l c s).fst.ot, Value.int IntKind.i64 (findD l c s).fst.n, Value.int IntKind.i64 (findD l c s).fst.mi,
      Value.int IntKind.i64 (findD l c s).fst.th, Value.int IntKind.i64 (findD l c s).fst.ft],
      Value.bool (findD l c s).snd])))) (by kernel_rfl) ?_
  have h' := h.sz hn'
  refine ⟨rfl, _, place_q a cp l c s hn _ h', ?_⟩
  rcases place_cases l c s with ⟨e, -⟩ | ⟨k, hk, e, -, -⟩
  · rw [e]
    exact ifB_true ⟨by simp [findD, e, d0]; rfl⟩
  · rw [e]
    refine ifB_intro (fun hb => by simp at hb; omega) (fun _ => ⟨_, check_q a cp l hn _ h', ?_⟩)
    cases hb : booksB l
    · exact ifB_true ⟨by simp [findD, hb, d0]; rfl⟩
    · obtain ⟨b, o, rfl, hc⟩ := h'.cells (by rw [dl_len]; omega)
      refine ifB_false ⟨b, o, rfl, by omega, _, _, _, _, _, _, _, _, by simpa using dl_at hc hk, ⟨?_⟩⟩
      simp [findD, hb, e, List.getElem?_eq_getElem hk]

theorem found_q (a : Option Addr) (cp : Nat) (l : List Dl) (c s : Int) (hn : l.length ≤ 9223372036854775807) (m : M) (h : Row m a (dls l)) : QSpec Try.prog 46 [.slice a l.length cp, I c, I s] m (.tuple #[I (foundI l c s), I (foundE l c s)]) := by
  refine QSpec.of_vc Try.func46 (ann := fun _ => noAnn) fun n hn' => ?_
  refine vc_by (X :=
      true = true ∧
      ∃ (n_1 : Int),
      QSpec Try.prog (16 : Nat) [Value.slice a l.length cp] { π := m.π, sz := n, uf := m.uf : M } (Value.int IntKind.i64 n_1) ∧
      ifB (n_1 != (0 : Int))
      (Done
      (Value.tuple #[Value.int IntKind.i64 (0 : Int), Value.int IntKind.i64 (21 : Int)] =
      Value.tuple #[Value.int IntKind.i64 (foundI l c s), Value.int IntKind.i64 (foundE l c s)]))
      (∃ (n_2 : Int),
      QSpec Try.prog (43 : Nat) [Value.slice a l.length cp, Value.int IntKind.i64 c, Value.int IntKind.i64 s] { π := m.π, sz := n, uf := m.uf : M }
      (Value.int IntKind.i64 n_2) ∧
      ifB (decide (n_2 < (0 : Int)))
      (Done
      (Value.tuple #[Value.int IntKind.i64 (0 : Int), Value.int IntKind.i64 (60 : Int)] =
      Value.tuple #[Value.int IntKind.i64 (foundI l c s), Value.int IntKind.i64 (foundE l c s)]))
      (Done
      (Value.tuple #[Value.int IntKind.i64 n_2, Value.int IntKind.i64 (0 : Int)] =
      Value.tuple #[Value.int IntKind.i64 (foundI l c s), Value.int IntKind.i64 (foundE l c s)])))) (by kernel_rfl) ?_
  have h' := h.sz hn'
  refine ⟨rfl, _, check_q a cp l hn _ h', ?_⟩
  cases hb : booksB l
  · exact ifB_true ⟨by simp [foundI, foundE, hb]⟩
  refine ifB_false ⟨_, place_q a cp l c s hn _ h', ifB_intro (fun h1 => ⟨?_⟩) (fun h1 => ⟨?_⟩)⟩
  · simp at h1; simp [foundI, foundE, hb, h1]
  · have h1 : ¬ placeD l c s < 0 := by simpa using h1
    simp [foundI, foundE, hb, h1]

theorem found_ok {l : List Dl} {c s : Int} (h : foundE l c s = 0) : booksB l = true ∧ l.length ≤ 4 ∧ ∃ k, ∃ hk : k < l.length, placeD l c s = k ∧ foundI l c s = k ∧ isD c s l[k] = true ∧ atD l c s = l[k] := by
  have hb : booksB l = true := by
    cases hb : booksB l with
    | true => rfl
    | false => simp [foundE, hb] at h
  have h4 : l.length ≤ 4 := by simp [booksB] at hb; exact hb.1
  refine ⟨hb, h4, ?_⟩
  rcases place_cases l c s with ⟨e, -⟩ | ⟨k, hk, e, e2, -⟩
  · simp [foundE, hb, e] at h
  · exact ⟨k, hk, e, by simp [foundI, h, e], e2, by simp [atD, e, List.getElem?_eq_getElem hk]⟩

theorem dopen_s (a : Option Addr) (cp : Nat) (l : List Dl) (d : Dl) (hn : l.length ≤ 9223372036854775807) (h0 : a = none → l = []) (m : M) (h : Row m a (dls l)) : Vc.Spec Try.prog 13 [.slice a l.length cp, dlv d] m (LsR m (openD l d)) := by
  refine Vc.Spec.of_vc Try.func13 (ann := noAnn) ?_
  refine vc_by (X :=
      true = true ∧
      ∃ (n : Int),
      QSpec Try.prog (16 : Nat) [Value.slice a l.length cp] m (Value.int IntKind.i64 n) ∧
      ifB (n != (0 : Int)) (Done (LsR m (openD l d) (Value.tuple #[Value.slice none (0 : Nat) (0 : Nat), Value.int IntKind.i64 (21 : Int)]) m))
      (∃ (b : Bool),
      QSpec Try.prog (44 : Nat)
      [Value.agg
      #[Value.int IntKind.i64 d.cl, Value.int IntKind.i64 d.sq, Value.string d.ky, Value.string d.ot, Value.int IntKind.i64 d.n, Value.int IntKind.i64 d.mi,
      Value.int IntKind.i64 d.th, Value.int IntKind.i64 d.ft]]
      m (Value.bool b) ∧
      ifB (!b) (Done (LsR m (openD l d) (Value.tuple #[Value.slice none (0 : Nat) (0 : Nat), Value.int IntKind.i64 (1 : Int)]) m))
      (ifB (d.mi != (0 : Int)) (Done (LsR m (openD l d) (Value.tuple #[Value.slice none (0 : Nat) (0 : Nat), Value.int IntKind.i64 (1 : Int)]) m))
      (ifB (d.th != (0 : Int)) (Done (LsR m (openD l d) (Value.tuple #[Value.slice none (0 : Nat) (0 : Nat), Value.int IntKind.i64 (1 : Int)]) m))
      (ifB (d.ft != (0 : Int)) (Done (LsR m (openD l d) (Value.tuple #[Value.slice none (0 : Nat) (0 : Nat), Value.int IntKind.i64 (1 : Int)]) m))
      (∃ (n : Int),
      QSpec Try.prog (43 : Nat) [Value.slice a l.length cp, Value.int IntKind.i64 d.cl, Value.int IntKind.i64 d.sq] m (Value.int IntKind.i64 n) ∧
      ifB (decide (n ≥ (0 : Int))) (Done (LsR m (openD l d) (Value.tuple #[Value.slice none (0 : Nat) (0 : Nat), Value.int IntKind.i64 (171 : Int)]) m))
      (ifB (decide ((↑l.length : Int) ≥ (4 : Int)))
      (Done (LsR m (openD l d) (Value.tuple #[Value.slice none (0 : Nat) (0 : Nat), Value.int IntKind.i64 (3 : Int)]) m))
      (true = true ∧
      (∃ (S' : Nat → Prop),
      (∀ (b : Nat), S' b → m.uf b ∧ (m.sz ≤ b ∨ False)) ∧
      ∀ (n : Nat),
      m.sz ≤ n →
      SpecW Try.prog (45 : Nat) [Value.slice a l.length cp] { π := m.π, sz := n, uf := m.uf : M } S' fun (v : Value) (m' : M) =>
      ∃ (a : Option Addr),
      ∃ (n : Nat),
      ∃ (c : Nat),
      v = Value.slice a n c ∧
      MLe m m' ∧
      (true = true ∧
      ∀ (b : Nat),
      m'.sz ≤ b →
      MLe m'
      (m'.newBlock b
      [Value.int IntKind.i64 d.cl, Value.int IntKind.i64 d.sq, Value.string d.ky, Value.string d.ot,
      Value.int IntKind.i64 d.n, Value.int IntKind.i64 d.mi, Value.int IntKind.i64 d.th,
      Value.int IntKind.i64 d.ft]) ∧
      (∃ (old : List Value),
      ∃ (src : List Value),
      AppPre m.sz (fun (x : Nat) => False)
      (m'.newBlock b
      [Value.int IntKind.i64 d.cl, Value.int IntKind.i64 d.sq, Value.string d.ky, Value.string d.ot,
      Value.int IntKind.i64 d.n, Value.int IntKind.i64 d.mi, Value.int IntKind.i64 d.th,
      Value.int IntKind.i64 d.ft])
      (8 : Nat) (80 : Nat) a n c (some { block := b, off := (0 : Nat) : Addr }) (1 : Nat) old src ∧
      ∀ (a' : Option Addr) (c' : Nat) (m'_1 : M),
      AppPost Try.prog (24 : Nat)
      (m'.newBlock b
      [Value.int IntKind.i64 d.cl, Value.int IntKind.i64 d.sq, Value.string d.ky, Value.string d.ot,
      Value.int IntKind.i64 d.n, Value.int IntKind.i64 d.mi, Value.int IntKind.i64 d.th,
      Value.int IntKind.i64 d.ft])
      (8 : Nat) a n c (1 : Nat) old src a' c' m'_1 →
      Done
      (LsR m (openD l d) (Value.tuple #[Value.slice a' (n + (1 : Nat)) c', Value.int IntKind.i64 (0 : Int)])
      m'_1)) ∧
      True) ∧
      True) ∧
      (true = true ∧
      ∀ (b : Nat),
      m.sz ≤ b →
      MLe m
      (m.newBlock b
      [Value.int IntKind.i64 d.cl, Value.int IntKind.i64 d.sq, Value.string d.ky, Value.string d.ot, Value.int IntKind.i64 d.n,
      Value.int IntKind.i64 d.mi, Value.int IntKind.i64 d.th, Value.int IntKind.i64 d.ft]) ∧
      (∃ (S' : Nat → Prop),
      (∀ (b_1 : Nat),
      S' b_1 →
      (m.newBlock b
      [Value.int IntKind.i64 d.cl, Value.int IntKind.i64 d.sq, Value.string d.ky, Value.string d.ot,
      Value.int IntKind.i64 d.n, Value.int IntKind.i64 d.mi, Value.int IntKind.i64 d.th, Value.int IntKind.i64 d.ft]).uf
      b_1 ∧
      (m.sz ≤ b_1 ∨ False)) ∧
      ∀ (n : Nat),
      max m.sz (b + (1 : Nat)) ≤ n →
      SpecW Try.prog (45 : Nat) [Value.slice a l.length cp]
      { π := (m.newBlock b [Value.int IntKind.i64 d.cl, Value.int IntKind.i64 d.sq, Value.string d.ky, Value.string d.ot, Value.int IntKind.i64 d.n, Value.int IntKind.i64 d.mi, Value.int IntKind.i64 d.th, Value.int IntKind.i64 d.ft]).π, sz := n, uf := (m.newBlock b [Value.int IntKind.i64 d.cl, Value.int IntKind.i64 d.sq, Value.string d.ky, Value.string d.ot, Value.int IntKind.i64 d.n, Value.int IntKind.i64 d.mi, Value.int IntKind.i64 d.th, Value.int IntKind.i64 d.ft]).uf : M }
      S' fun (v : Value) (m' : M) =>
      ∃ (a : Option Addr),
      ∃ (n : Nat),
      ∃ (c : Nat),
      v = Value.slice a n c ∧
      MLe
      (m.newBlock b
      [Value.int IntKind.i64 d.cl, Value.int IntKind.i64 d.sq, Value.string d.ky, Value.string d.ot,
      Value.int IntKind.i64 d.n, Value.int IntKind.i64 d.mi, Value.int IntKind.i64 d.th,
      Value.int IntKind.i64 d.ft])
      m' ∧
      (∃ (old : List Value),
      ∃ (src : List Value),
      AppPre m.sz (fun (x : Nat) => False) m' (8 : Nat) (80 : Nat) a n c
      (some { block := b, off := (0 : Nat) : Addr }) (1 : Nat) old src ∧
      ∀ (a' : Option Addr) (c' : Nat) (m'_1 : M),
      AppPost Try.prog (24 : Nat) m' (8 : Nat) a n c (1 : Nat) old src a' c' m'_1 →
      Done
      (LsR m (openD l d) (Value.tuple #[Value.slice a' (n + (1 : Nat)) c', Value.int IntKind.i64 (0 : Int)])
      m'_1)) ∧
      True) ∧
      True) ∧
      True)))))))) (by kernel_rfl) ?_
  refine ⟨rfl, _, check_q a cp l hn _ h, ?_⟩
  cases hb : booksB l
  · exact ifB_true (ls_fail (by simp [openD, hb]))
  have h4 : l.length ≤ 4 := by simp [booksB] at hb; exact hb.1
  refine ifB_false ⟨_, may_q d _, ifB_intro (fun h1 => ls_fail ?_) (fun h1 => ifB_intro (fun h2 => ls_fail ?_) (fun h2 => ifB_intro (fun h3 => ls_fail ?_) (fun h3 => ifB_intro (fun h5 => ls_fail ?_) (fun h5 => ⟨_, place_q a cp l d.cl d.sq hn _ h, ifB_intro (fun h6 => ls_fail ?_) (fun h6 => ifB_intro (fun h7 => ls_fail ?_) (fun h7 => ?_))⟩))))⟩
  · simp at h1; simp [openD, hb, newD, h1]
  · simp at h2; simp [openD, hb, newD, h2]
  · simp at h3; simp [openD, hb, newD, h3]
  · simp at h5; simp [openD, hb, newD, h5]
  all_goals
    have hnw : newD d = true := by simp at h1 h2 h3 h5; simp [newD, h1, h2, h3, h5]
  · simp at h6; simp [openD, hb, hnw, h6]
  · have h6 : ¬ 0 ≤ placeD l d.cl d.sq := by simpa using h6
    have h7 : 4 ≤ l.length := by simp at h7; omega
    simp [openD, hb, hnw, h6, h7]
  have h6 : ¬ 0 ≤ placeD l d.cl d.sq := by simpa using h6
  have h7 : ¬ 4 ≤ l.length := by simp at h7; omega
  have hres : openD l d = (l ++ [d], 0) := by simp [openD, hb, hnw, h6, h7]
  have efl : dls (l ++ [d]) = dls l ++ encDl d := by simp [dls]
  have fin : ∀ (m1 : M) (b : Nat) (a1 : Option Addr) (c1 : Nat), m.sz ≤ m1.sz → CellsAt m1 b 0 (encDl d) → b < m1.sz → NewR m.sz (fun _ => False) m1 8 a1 l.length c1 (dls l) →
      ∃ old src, AppPre m.sz (fun _ => False) m1 8 80 a1 l.length c1 (some ⟨b, 0, none⟩) 1 old src ∧ ∀ a' c' m', AppPost Try.prog 24 m1 8 a1 l.length c1 1 old src a' c' m' → Done (LsR m (openD l d) (.tuple #[.slice a' (l.length + 1) c', I 0]) m') := fun m1 b a1 c1 hm hc hb1 hr => by
    refine ⟨_, _, hr.appPre (.at b 0 _ hb1 hc) rfl rfl (by omega), fun a' c' m' hp => ?_⟩
    have := hr.append hp rfl dl_zr hm
    rw [← efl] at this
    exact ls_ok (n := m.sz) (z := l ++ [d]) hres (by simp) this (Nat.le_refl _)
  refine ⟨rfl, ⟨_, noS, fun N hN => (dl_clone l a cp (by omega) h0 _ (h.sz hN)).monoW fun v m1 hag ⟨a1, c1, hv, hr⟩ => ⟨a1, _, c1, hv, MLe.ofAgree hN hag, ⟨rfl, fun b hb' => ⟨MLe.newBlock hb', fin _ b a1 c1 ?_ cellsAt_new (by simp only [M.newBlock]; omega) ((hr.lower hN).newBlock hb'), trivial⟩⟩, trivial⟩⟩, ⟨rfl, fun b hb' => ⟨MLe.newBlock hb', ⟨_, noS, fun N hN => (dl_clone l a cp (by omega) h0 _ ((h.newBlock hb').sz hN)).monoW fun v m1 hag ⟨a1, c1, hv, hr⟩ => ⟨a1, _, c1, hv, MLe.ofAgree hN hag, fin m1 b a1 c1 ?_ ?_ ?_ (hr.lower ?_), trivial⟩⟩, trivial⟩⟩, trivial⟩
  · have := hag.2.2; simp only [M.newBlock] at this ⊢; omega
  · have := hag.2.2; simp only [M.newBlock] at this hN ⊢; omega
  · refine (cellsAt_new (m := m) (b := b) (cs := encDl d)).of ?_
    exact hag.1 b (by simp only [M.newBlock] at hN ⊢; omega)
  · have := hag.2.2; simp only [M.newBlock] at this hN ⊢; omega
  · simp only [M.newBlock] at hN ⊢; omega

theorem forget_s (a : Option Addr) (cp : Nat) (l : List Dl) (c s : Int) (hn : l.length ≤ 9223372036854775807) (h0 : a = none → l = []) (m : M) (h : Row m a (dls l)) : Vc.Spec Try.prog 22 [.slice a l.length cp, I c, I s] m (LsR m (forgetD l c s)) := by
  refine Vc.Spec.of_vc Try.func22 (ann := noAnn) ?_
  refine vc_by (X :=
      true = true ∧
      ∃ (n : Int),
      ∃ (n_1 : Int),
      QSpec Try.prog (46 : Nat) [Value.slice a l.length cp, Value.int IntKind.i64 c, Value.int IntKind.i64 s] m
      (Value.tuple #[Value.int IntKind.i64 n, Value.int IntKind.i64 n_1]) ∧
      ifB (n_1 != (0 : Int)) (Done (LsR m (forgetD l c s) (Value.tuple #[Value.slice none (0 : Nat) (0 : Nat), Value.int IntKind.i64 n_1]) m))
      (∃ (b : Nat),
      ∃ (off : Nat),
      a = some { block := b, off := off : Addr } ∧
      ((0 : Int) ≤ n ∧ n < (↑l.length : Int)) ∧
      ∃ (n_2 : Int),
      CellsAt m b (off + n.toNat * (8 : Nat) + (7 : Nat)) [Value.int IntKind.i64 n_2] ∧
      ifB (n_2 == (0 : Int)) (Done (LsR m (forgetD l c s) (Value.tuple #[Value.slice none (0 : Nat) (0 : Nat), Value.int IntKind.i64 (60 : Int)]) m))
      (∃ (S' : Nat → Prop),
      (∀ (b : Nat), S' b → m.uf b ∧ (m.sz ≤ b ∨ False)) ∧
      ∀ (n_3 : Nat),
      m.sz ≤ n_3 →
      SpecW Try.prog (45 : Nat) [Value.slice a l.length cp] { π := m.π, sz := n_3, uf := m.uf : M } S' fun (v : Value) (m' : M) =>
      ∃ (a : Option Addr),
      ∃ (n_4 : Nat),
      ∃ (c_1 : Nat),
      v = Value.slice a n_4 c_1 ∧
      ∃ (S' : Nat → Prop),
      (∀ (b : Nat), S' b → m'.uf b ∧ (m.sz ≤ b ∨ False)) ∧
      ∀ (n_5 : Nat),
      m'.sz ≤ n_5 →
      SpecW Try.prog (50 : Nat)
      [Value.slice a n_4 c_1, Value.int IntKind.i64 n, Value.int IntKind.i64 (IntKind.i64.wrap (n + (1 : Int)))]
      { π := m'.π, sz := n_5, uf := m'.uf : M } S' fun (v : Value) (m' : M) =>
      ∃ (a : Option Addr),
      ∃ (n : Nat),
      ∃ (c_2 : Nat),
      v = Value.slice a n c_2 ∧
      Done (LsR m (forgetD l c s) (Value.tuple #[Value.slice a n c_2, Value.int IntKind.i64 (0 : Int)]) m')))) (by kernel_rfl) ?_
  refine ⟨rfl, _, _, found_q a cp l c s hn _ h, ifB_intro (fun h1 => ls_fail ?_) (fun h1 => ?_)⟩
  · simp at h1; simp [forgetD, h1]
  have h1 : foundE l c s = 0 := by simpa using h1
  obtain ⟨hb, h4, k, hk, e1, e2, -, e3⟩ := found_ok h1
  have hf : forgetD l c s = if l[k].ft = 0 then ([], 60) else (l.take k ++ l.drop (k + 1), 0) := by simp [forgetD, h1, e3, e1]
  rw [e2]
  simp only [Int.toNat_natCast]
  obtain ⟨b, o, rfl, hc⟩ := h.cells (by rw [dl_len]; omega)
  have w1 : IntKind.i64.wrap ((k : Int) + 1) = ((k + 1 : Nat) : Int) := by simp [IntKind.wrap_i64]; omega
  refine ⟨b, o, rfl, by omega, l[k].ft, CellsAt.field dl_k hc hk (p := [I l[k].cl, I l[k].sq, .string l[k].ky, .string l[k].ot, I l[k].n, I l[k].mi, I l[k].th]) (q := []) rfl, ifB_intro (fun h2 => ls_fail ?_) (fun h2 => ⟨_, noS, fun N hN => (dl_clone l _ cp (by omega) h0 _ (h.sz hN)).monoW fun v m1 hag ⟨a1, c1, hv, hr⟩ => ⟨a1, _, c1, hv, ?_⟩⟩)⟩
  · rw [hf]; simp at h2; simp [h2]
  have h2 : l[k].ft ≠ 0 := by simpa using h2
  have ho := hr.toOwn (by omega)
  have hlo : ∀ b' o', a1 = some ⟨b', o', none⟩ → m.sz ≤ b' := fun b' o' e => by
    rcases ho.lo e with h | h
    · simp only at h; omega
    · exact h.elim
  rw [w1]
  refine ⟨fun b' => ∃ o', a1 = some ⟨b', o', none⟩, fun b' ⟨o', e⟩ => ⟨ho.uf e, .inl (hlo b' o' e)⟩, fun N2 hN2 => (dl_delete a1 c1 l k _ (by omega) hk _ ((ho.sz hN2).re fun b' o' e => .inr ⟨o', e⟩)).mono fun v2 m2 hag2 ⟨hv2, ho2⟩ => ⟨_, _, _, hv2, ?_⟩⟩
  refine ls_ok (n := m.sz) (z := l.take k ++ l.drop (k + 1)) (by rw [hf, if_neg h2]) (by simp; omega) (.own (ho2.re fun b' o' e => .inl (hlo b' o' e))) (Nat.le_refl _)

theorem give_s (a : Option Addr) (cp : Nat) (l : List Dl) (c s : Int) (hn : l.length ≤ 9223372036854775807) (h0 : a = none → l = []) (m : M) (h : Row m a (dls l)) : Vc.Spec Try.prog 20 [.slice a l.length cp, I c, I s] m (LbR m (giveD l c s)) := by
  refine Vc.Spec.of_vc Try.func20 (ann := noAnn) ?_
  refine vc_by (X :=
      true = true ∧
      ∃ (n : Int),
      ∃ (n_1 : Int),
      QSpec Try.prog (46 : Nat) [Value.slice a l.length cp, Value.int IntKind.i64 c, Value.int IntKind.i64 s] m
      (Value.tuple #[Value.int IntKind.i64 n, Value.int IntKind.i64 n_1]) ∧
      ifB (n_1 != (0 : Int)) (Done (LbR m (giveD l c s) (Value.tuple #[Value.slice none (0 : Nat) (0 : Nat), Value.bool false, Value.int IntKind.i64 n_1]) m))
      (∃ (S' : Nat → Prop),
      (∀ (b : Nat), S' b → m.uf b ∧ (m.sz ≤ b ∨ False)) ∧
      ∀ (n_2 : Nat),
      m.sz ≤ n_2 →
      SpecW Try.prog (45 : Nat) [Value.slice a l.length cp] { π := m.π, sz := n_2, uf := m.uf : M } S' fun (v : Value) (m' : M) =>
      ∃ (a : Option Addr),
      ∃ (n_3 : Nat),
      ∃ (c_1 : Nat),
      v = Value.slice a n_3 c_1 ∧
      ∃ (b : Nat),
      ∃ (off : Nat),
      a = some { block := b, off := off : Addr } ∧
      ((0 : Int) ≤ n ∧ n < (↑n_3 : Int)) ∧
      ∃ (n_4 : Int),
      CellsAt m' b (off + n.toNat * (8 : Nat) + (7 : Nat)) [Value.int IntKind.i64 n_4] ∧
      ifB (n_4 == (0 : Int))
      (∃ (b : Nat),
      ∃ (off : Nat),
      a = some { block := b, off := off : Addr } ∧
      ((0 : Int) ≤ n ∧ n < (↑n_3 : Int)) ∧
      Wr m.sz (fun (x : Nat) => False) m' b (off + n.toNat * (8 : Nat) + (7 : Nat)) (1 : Nat) ∧
      Done
      (LbR m (giveD l c s) (Value.tuple #[Value.slice a n_3 c_1, Value.bool (n_4 == (0 : Int)), Value.int IntKind.i64 (0 : Int)])
      (m'.setCells b (off + n.toNat * (8 : Nat) + (7 : Nat)) [Value.int IntKind.i64 (2 : Int)])))
      (Done (LbR m (giveD l c s) (Value.tuple #[Value.slice a n_3 c_1, Value.bool (n_4 == (0 : Int)), Value.int IntKind.i64 (0 : Int)]) m')))) (by kernel_rfl) ?_
  refine ⟨rfl, _, _, found_q a cp l c s hn _ h, ifB_intro (fun h1 => lb_fail ?_) (fun h1 => ?_)⟩
  · simp at h1; simp [giveD, h1]
  have h1 : foundE l c s = 0 := by simpa using h1
  obtain ⟨hb, h4, k, hk, e1, e2, -, e3⟩ := found_ok h1
  have hf : giveD l c s = (l.set k (givenD l[k]), decide (l[k].ft = 0), 0) := by simp [giveD, h1, e3, e1]
  rw [e2]
  refine ⟨_, noS, fun N hN => (dl_clone l _ cp (by omega) h0 _ (h.sz hN)).monoW fun v m1 hag ⟨a1, c1, hv, hr⟩ => ⟨a1, _, c1, hv, ?_⟩⟩
  simp only [Int.toNat_natCast]
  have ho := (hr.toOwn (by omega)).lower hN
  obtain ⟨b, o, rfl, hc⟩ := ho.row.cells (by rw [dl_len]; omega)
  refine ⟨b, o, rfl, by omega, l[k].ft, CellsAt.field dl_k hc hk (p := [I l[k].cl, I l[k].sq, .string l[k].ky, .string l[k].ot, I l[k].n, I l[k].mi, I l[k].th]) (q := []) rfl, ifB_intro (fun h2 => ?_) (fun h2 => ?_)⟩
  · have h2 : l[k].ft = 0 := by simpa using h2
    obtain ⟨g1, g2⟩ := OwnB.setField dl_k ho hk { l[k] with ft := 2 } (p := [I l[k].cl, I l[k].sq, .string l[k].ky, .string l[k].ot, I l[k].n, I l[k].mi, I l[k].th]) (old := [I l[k].ft]) (new := [I 2]) (q := []) rfl rfl rfl
    refine ⟨b, o, rfl, by omega, g1, lb_ok (n := m.sz) (z := l.set k (givenD l[k])) ?_ (by simp) (.own ?_) (Nat.le_refl _)⟩
    · rw [hf]; simp [h2]
    · rw [show givenD l[k] = { l[k] with ft := 2 } by simp [givenD, h2]]
      exact g2
  · have h2 : l[k].ft ≠ 0 := by simpa using h2
    have hg : l.set k (givenD l[k]) = l := by rw [show givenD l[k] = l[k] by simp [givenD, h2]]; exact List.set_getElem_self hk
    refine lb_ok (n := m.sz) (z := l.set k (givenD l[k])) ?_ (by simp) (.own ?_) (Nat.le_refl _)
    · rw [hf]; simp [h2]
    · rw [hg]; exact ho

theorem say_s (b o : Nat) (w : Int) (is : Bool) (S : Nat → Prop) (m : M) (hS : S b) (hu : m.uf b) (hc : CellsAt m b o [I w]) : SpecW Try.prog 47 [.pointer (some ⟨b, o, none⟩), .bool is] m S fun v m' => v = .bool (decide (w = 0)) ∧ m' = if w = 0 then m.setCells b o [I (wordD is)] else m := by
  refine SpecW.of_vc Try.func47 (ann := noAnn) ?_
  refine vc_by (X :=
      true = true ∧
      ∃ (n : Int),
      CellsAt m b o [Value.int IntKind.i64 n] ∧
      ifB (n != (0 : Int)) (Done (Value.bool false = Value.bool (decide (w = (0 : Int))) ∧ m = if w = (0 : Int) then m.setCells b o [Value.int IntKind.i64 (wordD is)] else m))
      (Wr m.sz S m b o (1 : Nat) ∧
      ifB is
      (Wr m.sz S (m.setCells b o [Value.int IntKind.i64 (2 : Int)]) b o (1 : Nat) ∧
      Done
      (Value.bool true = Value.bool (decide (w = (0 : Int))) ∧
      (m.setCells b o [Value.int IntKind.i64 (2 : Int)]).setCells b o [Value.int IntKind.i64 (1 : Int)] =
      if w = (0 : Int) then m.setCells b o [Value.int IntKind.i64 (wordD is)] else m))
      (Done
      (Value.bool true = Value.bool (decide (w = (0 : Int))) ∧
      m.setCells b o [Value.int IntKind.i64 (2 : Int)] = if w = (0 : Int) then m.setCells b o [Value.int IntKind.i64 (wordD is)] else m)))) (by kernel_rfl) ?_
  have hw : Wr m.sz S m b o 1 := ⟨.inr hS, hu, fun j hj => by
    have e : j = 0 := by omega
    subst e
    exact ⟨I w, by have := hc.out 0 (by simp); simpa using this⟩⟩
  have hw2 : Wr m.sz S (m.setCells b o [I 2]) b o 1 := ⟨.inr hS, hu, fun j hj => by
    have e : j = 0 := by omega
    subst e
    exact ⟨I 2, by have := (setCells_in (m := m) (b := b) (o := o) (cs := [I 2])).out 0 (by simp); simpa using this⟩⟩
  refine ⟨rfl, w, hc, ifB_intro (fun h1 => ⟨?_⟩) (fun h1 => ⟨hw, ifB_intro (fun h2 => ⟨hw2, ⟨?_⟩⟩) (fun h2 => ⟨?_⟩)⟩)⟩
  · have h1 : w ≠ 0 := by simpa using h1
    simp [h1]
  · have h1 : w = 0 := by simpa using h1
    subst h2
    simp [h1, setCells_twice, wordD]
  · have h1 : w = 0 := by simpa using h1
    subst h2
    simp [h1, wordD]

theorem saying_s (a : Option Addr) (cp : Nat) (l : List Dl) (c s : Int) (mine is : Bool) (hn : l.length ≤ 9223372036854775807) (h0 : a = none → l = []) (m : M) (h : Row m a (dls l)) : Vc.Spec Try.prog 18 [.slice a l.length cp, I c, I s, .bool mine, .bool is] m (LbR m (sayD l c s mine is)) := by
  refine Vc.Spec.of_vc Try.func18 (ann := noAnn) ?_
  refine vc_by (X :=
      true = true ∧
      ∃ (n : Int),
      ∃ (n_1 : Int),
      QSpec Try.prog (46 : Nat) [Value.slice a l.length cp, Value.int IntKind.i64 c, Value.int IntKind.i64 s] m
      (Value.tuple #[Value.int IntKind.i64 n, Value.int IntKind.i64 n_1]) ∧
      ifB (n_1 != (0 : Int)) (Done (LbR m (sayD l c s mine is) (Value.tuple #[Value.slice none (0 : Nat) (0 : Nat), Value.bool false, Value.int IntKind.i64 n_1]) m))
      (∃ (S' : Nat → Prop),
      (∀ (b : Nat), S' b → m.uf b ∧ (m.sz ≤ b ∨ False)) ∧
      ∀ (n_2 : Nat),
      m.sz ≤ n_2 →
      SpecW Try.prog (45 : Nat) [Value.slice a l.length cp] { π := m.π, sz := n_2, uf := m.uf : M } S' fun (v : Value) (m' : M) =>
      ∃ (a : Option Addr),
      ∃ (n_3 : Nat),
      ∃ (c_1 : Nat),
      v = Value.slice a n_3 c_1 ∧
      ∃ (b : Nat),
      ∃ (off : Nat),
      a = some { block := b, off := off : Addr } ∧
      ((0 : Int) ≤ n ∧ n < (↑n_3 : Int)) ∧
      ifB mine
      (∃ (n_4 : Int),
      CellsAt m' b (off + n.toNat * (8 : Nat) + (7 : Nat)) [Value.int IntKind.i64 n_4] ∧
      ifB (n_4 != (0 : Int))
      (Done (LbR m (sayD l c s mine is) (Value.tuple #[Value.slice a n_3 c_1, Value.bool false, Value.int IntKind.i64 (0 : Int)]) m'))
      (∃ (S' : Nat → Prop),
      (∀ (b : Nat), S' b → m'.uf b ∧ (m.sz ≤ b ∨ False)) ∧
      ∀ (n_5 : Nat),
      m'.sz ≤ n_5 →
      SpecW Try.prog (47 : Nat)
      [Value.pointer (some { block := b, off := off + n.toNat * (8 : Nat) + (5 : Nat) : Addr }), Value.bool is]
      { π := m'.π, sz := n_5, uf := m'.uf : M } S' fun (v : Value) (m' : M) =>
      ∃ (b_1 : Bool),
      v = Value.bool b_1 ∧
      ifB (!b_1)
      (Done
      (LbR m (sayD l c s mine is) (Value.tuple #[Value.slice a n_3 c_1, Value.bool false, Value.int IntKind.i64 (0 : Int)])
      m'))
      (true = true ∧
      ∃ (n_6 : Int),
      CellsAt m' b (off + n.toNat * (8 : Nat) + (5 : Nat)) [Value.int IntKind.i64 n_6] ∧
      ∃ (n_7 : Int),
      CellsAt m' b (off + n.toNat * (8 : Nat) + (6 : Nat)) [Value.int IntKind.i64 n_7] ∧
      ∃ (n_8 : Int),
      QSpec Try.prog (48 : Nat) [Value.int IntKind.i64 n_6, Value.int IntKind.i64 n_7] m'
      (Value.int IntKind.i64 n_8) ∧
      (Wr m.sz (fun (x : Nat) => False) m' b (off + n.toNat * (8 : Nat) + (7 : Nat))
      #[Value.int IntKind.i64 n_8].size ∧
      true = true ∧
      ∃ (n_9 : Int),
      CellsAt (m'.setCells b (off + n.toNat * (8 : Nat) + (7 : Nat)) [Value.int IntKind.i64 n_8]) b
      (off + n.toNat * (8 : Nat) + (7 : Nat)) [Value.int IntKind.i64 n_9] ∧
      Done
      (LbR m (sayD l c s mine is)
      (Value.tuple
      #[Value.slice a n_3 c_1, Value.bool (n_9 != (0 : Int)), Value.int IntKind.i64 (0 : Int)])
      (m'.setCells b (off + n.toNat * (8 : Nat) + (7 : Nat)) [Value.int IntKind.i64 n_8]))) ∧
      True)))
      (∃ (n_4 : Int),
      CellsAt m' b (off + n.toNat * (8 : Nat) + (7 : Nat)) [Value.int IntKind.i64 n_4] ∧
      ifB (n_4 != (0 : Int))
      (Done (LbR m (sayD l c s mine is) (Value.tuple #[Value.slice a n_3 c_1, Value.bool false, Value.int IntKind.i64 (0 : Int)]) m'))
      (∃ (S' : Nat → Prop),
      (∀ (b : Nat), S' b → m'.uf b ∧ (m.sz ≤ b ∨ False)) ∧
      ∀ (n_5 : Nat),
      m'.sz ≤ n_5 →
      SpecW Try.prog (47 : Nat)
      [Value.pointer (some { block := b, off := off + n.toNat * (8 : Nat) + (6 : Nat) : Addr }), Value.bool is]
      { π := m'.π, sz := n_5, uf := m'.uf : M } S' fun (v : Value) (m' : M) =>
      ∃ (b_1 : Bool),
      v = Value.bool b_1 ∧
      ifB (!b_1)
      (Done
      (LbR m (sayD l c s mine is) (Value.tuple #[Value.slice a n_3 c_1, Value.bool false, Value.int IntKind.i64 (0 : Int)])
      m'))
      (true = true ∧
      ∃ (n_6 : Int),
      CellsAt m' b (off + n.toNat * (8 : Nat) + (5 : Nat)) [Value.int IntKind.i64 n_6] ∧
      ∃ (n_7 : Int),
      CellsAt m' b (off + n.toNat * (8 : Nat) + (6 : Nat)) [Value.int IntKind.i64 n_7] ∧
      ∃ (n_8 : Int),
      QSpec Try.prog (48 : Nat) [Value.int IntKind.i64 n_6, Value.int IntKind.i64 n_7] m'
      (Value.int IntKind.i64 n_8) ∧
      (Wr m.sz (fun (x : Nat) => False) m' b (off + n.toNat * (8 : Nat) + (7 : Nat))
      #[Value.int IntKind.i64 n_8].size ∧
      true = true ∧
      ∃ (n_9 : Int),
      CellsAt (m'.setCells b (off + n.toNat * (8 : Nat) + (7 : Nat)) [Value.int IntKind.i64 n_8]) b
      (off + n.toNat * (8 : Nat) + (7 : Nat)) [Value.int IntKind.i64 n_9] ∧
      Done
      (LbR m (sayD l c s mine is)
      (Value.tuple
      #[Value.slice a n_3 c_1, Value.bool (n_9 != (0 : Int)), Value.int IntKind.i64 (0 : Int)])
      (m'.setCells b (off + n.toNat * (8 : Nat) + (7 : Nat)) [Value.int IntKind.i64 n_8]))) ∧
      True))))) (by kernel_rfl) ?_
  refine ⟨rfl, _, _, found_q a cp l c s hn _ h, ifB_intro (fun h1 => lb_fail ?_) (fun h1 => ?_)⟩
  · simp at h1; simp [sayD, h1]
  have h1 : foundE l c s = 0 := by simpa using h1
  obtain ⟨hb, h4, k, hk, e1, e2, -, e3⟩ := found_ok h1
  have hf : sayD l c s mine is = (l.set k (saidD l[k] mine is), decide (l[k].ft = 0 ∧ (saidD l[k] mine is).ft ≠ 0), 0) := by simp [sayD, h1, e3, e1]
  rw [e2]
  refine ⟨_, noS, fun N hN => (dl_clone l _ cp (by omega) h0 _ (h.sz hN)).monoW fun v m1 hag ⟨a1, c1, hv, hr⟩ => ⟨a1, _, c1, hv, ?_⟩⟩
  simp only [Int.toNat_natCast]
  have ho := (hr.toOwn (by omega)).lower hN
  obtain ⟨b, o, rfl, hc⟩ := ho.row.cells (by rw [dl_len]; omega)
  refine ⟨b, o, rfl, by omega, ?_⟩
  cases mine
  · refine ifB_false ?_
    have c7 := CellsAt.field dl_k hc hk (p := [I l[k].cl, I l[k].sq, .string l[k].ky, .string l[k].ot, I l[k].n, I l[k].mi, I l[k].th]) (old := [I l[k].ft]) (q := []) rfl
    have cw := CellsAt.field dl_k hc hk (p := [I l[k].cl, I l[k].sq, .string l[k].ky, .string l[k].ot, I l[k].n, I l[k].mi]) (old := [I l[k].th]) (q := [I l[k].ft]) rfl
    refine ⟨l[k].ft, c7, ifB_intro (fun h2 => ?_) (fun h2 => ?_)⟩
    · have h2 : l[k].ft ≠ 0 := by simpa using h2
      have hs : saidD l[k] false is = l[k] := by simp [saidD, h2]
      refine lb_ok (n := m.sz) (z := l.set k (saidD l[k] false is)) (by rw [hf]; simp [h2]) (by simp) (.own ?_) (Nat.le_refl _)
      rw [hs, List.set_getElem_self hk]; exact ho
    have h2 : l[k].ft = 0 := by simpa using h2
    refine ⟨fun b' => b' = b, fun b' e => by subst e; exact ⟨ho.uf rfl, .inl (by rcases ho.lo rfl with h | h; exact h; exact h.elim)⟩, fun N2 hN2 => (say_s b (o + k * 8 + 6) l[k].th is (fun b' => b' = b) { m1 with sz := N2 } rfl (ho.uf rfl) ⟨cw.out⟩).mono fun v2 m2 hag2 ⟨hv2, hm2⟩ => ⟨_, hv2, ?_⟩⟩
    by_cases hw : l[k].th = 0
    rotate_left
    · rw [if_neg hw] at hm2
      subst hm2
      have hs : saidD l[k] false is = l[k] := by simp [saidD, hw]
      rw [show (decide (l[k].th = 0)) = false by simpa using hw]
      refine ifB_true (lb_ok (n := m.sz) (z := l.set k (saidD l[k] false is)) (by rw [hf, hs]; simp) (by simp) (.own ?_) (Nat.le_refl _))
      rw [hs, List.set_getElem_self hk]; exact ho.sz hN2
    rw [if_pos hw] at hm2
    subst hm2
    rw [show (decide (l[k].th = 0)) = true by simpa using hw]
    obtain ⟨g1, g2⟩ := OwnB.setField dl_k (ho.sz hN2) hk { l[k] with th := wordD is } (p := [I l[k].cl, I l[k].sq, .string l[k].ky, .string l[k].ot, I l[k].n, I l[k].mi]) (old := [I l[k].th]) (new := [I (wordD is)]) (q := [I l[k].ft]) rfl rfl rfl
    have hk2 : k < (l.set k { l[k] with th := wordD is }).length := by simpa using hk
    have hel : (l.set k { l[k] with th := wordD is })[k] = { l[k] with th := wordD is } := List.getElem_set_self _
    obtain ⟨b3, o3, e3', hc3⟩ := g2.row.cells (by rw [flat_len dl_k]; simp; omega)
    cases e3'
    have c5 := CellsAt.field dl_k hc3 hk2 (p := [I l[k].cl, I l[k].sq, .string l[k].ky, .string l[k].ot, I l[k].n]) (old := [I l[k].mi]) (q := [I (wordD is), I l[k].ft]) (by rw [hel]; rfl)
    have c6 := CellsAt.field dl_k hc3 hk2 (p := [I l[k].cl, I l[k].sq, .string l[k].ky, .string l[k].ot, I l[k].n, I l[k].mi]) (old := [I (wordD is)]) (q := [I l[k].ft]) (by rw [hel]; rfl)
    obtain ⟨g3, g4⟩ := OwnB.setField dl_k g2 hk2 { l[k] with th := wordD is, ft := fateV l[k].mi (wordD is) } (p := [I l[k].cl, I l[k].sq, .string l[k].ky, .string l[k].ot, I l[k].n, I l[k].mi, I (wordD is)]) (old := [I l[k].ft]) (new := [I (fateV l[k].mi (wordD is))]) (q := []) (by rw [hel]; rfl) rfl rfl
    have hs : saidD l[k] false is = { l[k] with th := wordD is, ft := fateV l[k].mi (wordD is) } := by simp [saidD, h2, hw]
    refine ifB_false ⟨trivial, _, c5, _, c6, _, fate_q _ _ _, ⟨g3, trivial, _, setCells_in, lb_ok (n := m.sz) (z := l.set k (saidD l[k] false is)) ?_ (by simp) (.own ?_) (Nat.le_refl _)⟩, trivial⟩
    · rw [hf, hs]; simp [h2, bne, Bool.beq_eq_decide_eq]
    · rw [hs]
      rw [List.set_set] at g4
      exact g4
  · refine ifB_true ?_
    have c7 := CellsAt.field dl_k hc hk (p := [I l[k].cl, I l[k].sq, .string l[k].ky, .string l[k].ot, I l[k].n, I l[k].mi, I l[k].th]) (old := [I l[k].ft]) (q := []) rfl
    have cw := CellsAt.field dl_k hc hk (p := [I l[k].cl, I l[k].sq, .string l[k].ky, .string l[k].ot, I l[k].n]) (old := [I l[k].mi]) (q := [I l[k].th, I l[k].ft]) rfl
    refine ⟨l[k].ft, c7, ifB_intro (fun h2 => ?_) (fun h2 => ?_)⟩
    · have h2 : l[k].ft ≠ 0 := by simpa using h2
      have hs : saidD l[k] true is = l[k] := by simp [saidD, h2]
      refine lb_ok (n := m.sz) (z := l.set k (saidD l[k] true is)) (by rw [hf]; simp [h2]) (by simp) (.own ?_) (Nat.le_refl _)
      rw [hs, List.set_getElem_self hk]; exact ho
    have h2 : l[k].ft = 0 := by simpa using h2
    refine ⟨fun b' => b' = b, fun b' e => by subst e; exact ⟨ho.uf rfl, .inl (by rcases ho.lo rfl with h | h; exact h; exact h.elim)⟩, fun N2 hN2 => (say_s b (o + k * 8 + 5) l[k].mi is (fun b' => b' = b) { m1 with sz := N2 } rfl (ho.uf rfl) ⟨cw.out⟩).mono fun v2 m2 hag2 ⟨hv2, hm2⟩ => ⟨_, hv2, ?_⟩⟩
    by_cases hw : l[k].mi = 0
    rotate_left
    · rw [if_neg hw] at hm2
      subst hm2
      have hs : saidD l[k] true is = l[k] := by simp [saidD, hw]
      rw [show (decide (l[k].mi = 0)) = false by simpa using hw]
      refine ifB_true (lb_ok (n := m.sz) (z := l.set k (saidD l[k] true is)) (by rw [hf, hs]; simp) (by simp) (.own ?_) (Nat.le_refl _))
      rw [hs, List.set_getElem_self hk]; exact ho.sz hN2
    rw [if_pos hw] at hm2
    subst hm2
    rw [show (decide (l[k].mi = 0)) = true by simpa using hw]
    obtain ⟨g1, g2⟩ := OwnB.setField dl_k (ho.sz hN2) hk { l[k] with mi := wordD is } (p := [I l[k].cl, I l[k].sq, .string l[k].ky, .string l[k].ot, I l[k].n]) (old := [I l[k].mi]) (new := [I (wordD is)]) (q := [I l[k].th, I l[k].ft]) rfl rfl rfl
    have hk2 : k < (l.set k { l[k] with mi := wordD is }).length := by simpa using hk
    have hel : (l.set k { l[k] with mi := wordD is })[k] = { l[k] with mi := wordD is } := List.getElem_set_self _
    obtain ⟨b3, o3, e3', hc3⟩ := g2.row.cells (by rw [flat_len dl_k]; simp; omega)
    cases e3'
    have c5 := CellsAt.field dl_k hc3 hk2 (p := [I l[k].cl, I l[k].sq, .string l[k].ky, .string l[k].ot, I l[k].n]) (old := [I (wordD is)]) (q := [I l[k].th, I l[k].ft]) (by rw [hel]; rfl)
    have c6 := CellsAt.field dl_k hc3 hk2 (p := [I l[k].cl, I l[k].sq, .string l[k].ky, .string l[k].ot, I l[k].n, I (wordD is)]) (old := [I l[k].th]) (q := [I l[k].ft]) (by rw [hel]; rfl)
    obtain ⟨g3, g4⟩ := OwnB.setField dl_k g2 hk2 { l[k] with mi := wordD is, ft := fateV (wordD is) l[k].th } (p := [I l[k].cl, I l[k].sq, .string l[k].ky, .string l[k].ot, I l[k].n, I (wordD is), I l[k].th]) (old := [I l[k].ft]) (new := [I (fateV (wordD is) l[k].th)]) (q := []) (by rw [hel]; rfl) rfl rfl
    have hs : saidD l[k] true is = { l[k] with mi := wordD is, ft := fateV (wordD is) l[k].th } := by simp [saidD, h2, hw]
    refine ifB_false ⟨trivial, _, c5, _, c6, _, fate_q _ _ _, ⟨g3, trivial, _, setCells_in, lb_ok (n := m.sz) (z := l.set k (saidD l[k] true is)) ?_ (by simp) (.own ?_) (Nat.le_refl _)⟩, trivial⟩
    · rw [hf, hs]; simp [h2, bne, Bool.beq_eq_decide_eq]
    · rw [hs]
      rw [List.set_set] at g4
      exact g4

end Go.Proofs.Ytoilbbfidnhekaa
set_option linter.unusedVariables false
set_option linter.unusedSimpArgs false
namespace Go.Proofs.Ytoilbbfidnhekaa
open Go.Vc Go.RowKit
set_option maxRecDepth 100000

theorem rclient_q (n' : Int) (m : M) : QSpec Try.prog 57 [I n'] m (.bool (decide (1 ≤ n') && decide (n' ≤ 8))) := by
  refine QSpec.of_vc Try.func57 (ann := fun _ => noAnn) fun n hn => ?_
  refine vc_by (X :=
      true = true ∧
      ifB (decide (n' ≥ (1 : Int))) (Done (Value.bool (decide (n' ≤ (8 : Int))) = Value.bool (decide ((1 : Int) ≤ n') && decide (n' ≤ (8 : Int)))))
      (Done (Value.bool false = Value.bool (decide ((1 : Int) ≤ n') && decide (n' ≤ (8 : Int)))))) (by kernel_rfl) ?_
  refine ⟨rfl, ifB_intro (fun h => ⟨?_⟩) (fun h => ⟨?_⟩)⟩
  · have h : 1 ≤ n' := by simpa using h
    simp [h]
  · simp at h
    have h : ¬ 1 ≤ n' := by omega
    simp [h]

theorem rseq_q (n' : Int) (m : M) : QSpec Try.prog 52 [I n'] m (.bool (decide (1 ≤ n') && decide (n' ≤ 4611686018427387904))) := by
  refine QSpec.of_vc Try.func52 (ann := fun _ => noAnn) fun n hn => ?_
  refine vc_by (X :=
      true = true ∧
      ifB (decide (n' ≥ (1 : Int))) (Done (Value.bool (decide (n' ≤ (4611686018427387904 : Int))) = Value.bool (decide ((1 : Int) ≤ n') && decide (n' ≤ (4611686018427387904 : Int)))))
      (Done (Value.bool false = Value.bool (decide ((1 : Int) ≤ n') && decide (n' ≤ (4611686018427387904 : Int)))))) (by kernel_rfl) ?_
  refine ⟨rfl, ifB_intro (fun h => ⟨?_⟩) (fun h => ⟨?_⟩)⟩
  · have h : 1 ≤ n' := by simpa using h
    simp [h]
  · simp at h
    have h : ¬ 1 ≤ n' := by omega
    simp [h]

theorem rkey_q (k : ByteArray) (m : M) : QSpec Try.prog 59 [.string k] m (.bool (keyB k)) := by
  refine QSpec.of_vc Try.func59 (ann := fun _ => noAnn) fun n hn => ?_
  refine vc_by (X :=
      true = true ∧
      ifB (decide ((↑k.size : Int) ≥ (1 : Int))) (Done (Value.bool (decide ((↑k.size : Int) ≤ (16 : Int))) = Value.bool (keyB k))) (Done (Value.bool false = Value.bool (keyB k)))) (by kernel_rfl) ?_
  refine ⟨rfl, ifB_intro (fun h => ⟨?_⟩) (fun h => ⟨?_⟩)⟩
  · have h1 : 1 ≤ k.size := by simp at h; omega
    simp [keyB, h1]; omega
  · simp at h; simp [keyB]; omega

theorem rfate_q (a b : Int) (m : M) : QSpec Try.prog 73 [I a, I b] m (I (fateV a b)) := by
  refine QSpec.of_vc Try.func73 (ann := fun _ => noAnn) fun n hn => ?_
  refine vc_by (X :=
      true = true ∧
      ifB (a == (1 : Int))
      (ifB (b == (1 : Int)) (Done (Value.int IntKind.i64 (1 : Int) = Value.int IntKind.i64 (fateV a b)))
      (ifB (a == (2 : Int)) (Done (Value.int IntKind.i64 (2 : Int) = Value.int IntKind.i64 (fateV a b)))
      (ifB (b == (2 : Int)) (Done (Value.int IntKind.i64 (2 : Int) = Value.int IntKind.i64 (fateV a b)))
      (Done (Value.int IntKind.i64 (0 : Int) = Value.int IntKind.i64 (fateV a b))))))
      (ifB (a == (2 : Int)) (Done (Value.int IntKind.i64 (2 : Int) = Value.int IntKind.i64 (fateV a b)))
      (ifB (b == (2 : Int)) (Done (Value.int IntKind.i64 (2 : Int) = Value.int IntKind.i64 (fateV a b)))
      (Done (Value.int IntKind.i64 (0 : Int) = Value.int IntKind.i64 (fateV a b)))))) (by kernel_rfl) ?_
  refine ⟨rfl, ?_⟩
  repeat' (refine ifB_intro (fun h => ?_) (fun h => ?_))
  all_goals (refine ⟨?_⟩; simp only [beq_iff_eq, Bool.not_eq_true, beq_eq_false_iff_ne, ne_eq] at *; simp [fateV, *])
  all_goals omega

theorem rmay_q (d : Dl) (m : M) : QSpec Try.prog 41 [dlv d] m (.bool (mayB d)) := by
  refine QSpec.of_vc Try.func41 (ann := fun _ => noAnn) fun n hn => ?_
  refine vc_by (X :=
      true = true ∧
      ∃ (b : Bool),
      QSpec Try.prog (57 : Nat) [Value.int IntKind.i64 d.cl] { π := m.π, sz := n, uf := m.uf : M } (Value.bool b) ∧
      ifB (!b) (Done (Value.bool false = Value.bool (mayB d)))
      (∃ (b : Bool),
      QSpec Try.prog (52 : Nat) [Value.int IntKind.i64 d.sq] { π := m.π, sz := n, uf := m.uf : M } (Value.bool b) ∧
      ifB (!b) (Done (Value.bool false = Value.bool (mayB d)))
      (∃ (b : Bool),
      QSpec Try.prog (59 : Nat) [Value.string d.ky] { π := m.π, sz := n, uf := m.uf : M } (Value.bool b) ∧
      ifB (!b) (Done (Value.bool false = Value.bool (mayB d)))
      (∃ (b : Bool),
      QSpec Try.prog (59 : Nat) [Value.string d.ot] { π := m.π, sz := n, uf := m.uf : M } (Value.bool b) ∧
      ifB (!b) (Done (Value.bool false = Value.bool (mayB d)))
      (ifB (d.ky.toList == d.ot.toList) (Done (Value.bool false = Value.bool (mayB d)))
      (ifB (decide (d.n < (1 : Int))) (Done (Value.bool false = Value.bool (mayB d)))
      (ifB (decide (d.mi < (0 : Int))) (Done (Value.bool false = Value.bool (mayB d)))
      (ifB (decide (d.mi > (2 : Int))) (Done (Value.bool false = Value.bool (mayB d)))
      (ifB (decide (d.th < (0 : Int))) (Done (Value.bool false = Value.bool (mayB d)))
      (ifB (decide (d.th > (2 : Int))) (Done (Value.bool false = Value.bool (mayB d)))
      (∃ (n_1 : Int),
      QSpec Try.prog (73 : Nat) [Value.int IntKind.i64 d.mi, Value.int IntKind.i64 d.th] { π := m.π, sz := n, uf := m.uf : M }
      (Value.int IntKind.i64 n_1) ∧
      ifB (d.ft == n_1) (Done (Value.bool true = Value.bool (mayB d)))
      (ifB (n_1 == (0 : Int)) (Done (Value.bool (d.ft == (2 : Int)) = Value.bool (mayB d)))
      (Done (Value.bool false = Value.bool (mayB d))))))))))))))) (by kernel_rfl) ?_
  refine ⟨rfl, _, rclient_q _ _, ifB_intro (fun h1 => ⟨?_⟩) (fun h1 => ⟨_, rseq_q _ _, ifB_intro (fun h2 => ⟨?_⟩) (fun h2 => ⟨_, rkey_q _ _, ifB_intro (fun h3 => ⟨?_⟩) (fun h3 => ⟨_, rkey_q _ _, ifB_intro (fun h4 => ⟨?_⟩) (fun h4 => ?_)⟩)⟩)⟩)⟩
  · simp at h1; simp [mayB, whoseB]; omega
  · simp at h2; simp [mayB, whoseB]; omega
  · simp at h3; simp [mayB, h3]
  · simp at h4; simp [mayB, h4]
  have k1 : whoseB d.cl d.sq = true := by simp at h1 h2; simp [whoseB]; omega
  have k2 : keyB d.ky = true := by simpa using h3
  have k3 : keyB d.ot = true := by simpa using h4
  rw [bytes_beq]
  refine ifB_intro (fun h5 => ⟨?_⟩) (fun h5 => ifB_intro (fun h6 => ⟨?_⟩) (fun h6 => ifB_intro (fun h7 => ⟨?_⟩) (fun h7 => ifB_intro (fun h8 => ⟨?_⟩) (fun h8 => ifB_intro (fun h9 => ⟨?_⟩) (fun h9 => ifB_intro (fun h10 => ⟨?_⟩) (fun h10 => ⟨_, rfate_q _ _ _, ifB_intro (fun h12 => ⟨?_⟩) (fun h12 => ifB_intro (fun h13 => ⟨?_⟩) (fun h13 => ⟨?_⟩))⟩))))))
  · simp at h5; simp [mayB, h5]
  · simp at h6; simp [mayB]; omega
  · simp at h7; simp [mayB]; omega
  · simp at h8; simp [mayB]; omega
  · simp at h9; simp [mayB]; omega
  · simp at h10; simp [mayB]; omega
  all_goals
    have h5 : ¬ d.ky = d.ot := by simpa using h5
    have h6 : 1 ≤ d.n := by simp at h6; omega
    have h7 : 0 ≤ d.mi := by simp at h7; omega
    have h8 : d.mi ≤ 2 := by simp at h8; omega
    have h9 : 0 ≤ d.th := by simp at h9; omega
    have h10 : d.th ≤ 2 := by simp at h10; omega
  · have h12 : d.ft = fateV d.mi d.th := by simpa using h12
    simp [mayB, k1, k2, k3, h5, h6, h7, h8, h9, h10, h12]
  · have h12 : ¬ d.ft = fateV d.mi d.th := by simpa using h12
    have h13 : fateV d.mi d.th = 0 := by simpa using h13
    rw [h13] at h12
    simp [mayB, k1, k2, k3, h5, h6, h7, h8, h9, h10, h12, h13]
    rfl
  · have h12 : ¬ d.ft = fateV d.mi d.th := by simpa using h12
    have h13 : ¬ fateV d.mi d.th = 0 := by simpa using h13
    simp [mayB, h12, h13]

theorem rplace_q (a : Option Addr) (cp : Nat) (l : List Dl) (c s : Int) (hn : l.length ≤ 9223372036854775807) (m : M) (h : Row m a (dls l)) : QSpec Try.prog 42 [.slice a l.length cp, I c, I s] m (I (placeD l c s)) := by
  refine QSpec.of_vc Try.func42 (ann := fun n _ => { A := Nat, inv := fun k => k ≤ l.length ∧ ∀ h ∈ l.take k, isD c s h = false, st := fun k => [(7, .val (I k)), (0, .val (.slice a l.length cp)), (1, .val (I c)), (2, .val (I s))], own := fun _ => [], m := fun _ => { m with sz := n }, μ := fun k => l.length - k }) fun n hn' => ?_
  refine vc_by (X :=
      true = true ∧
      (∃ (a_1 : Nat),
      (a_1 ≤ l.length ∧ ∀ (h : Dl), h ∈ List.take a_1 l → isD c s h = false) ∧
      { π := m.π, sz := n, uf := m.uf : M } = { π := m.π, sz := n, uf := m.uf : M } ∧
      ((SV.val (Value.int IntKind.i64 (0 : Int)) = SV.val (Value.int IntKind.i64 (↑a_1 : Int)) ∧ true = true) ∧
      (SV.val (Value.slice a l.length cp) = SV.val (Value.slice a l.length cp) ∧ true = true) ∧
      (SV.val (Value.int IntKind.i64 c) = SV.val (Value.int IntKind.i64 c) ∧ true = true) ∧
      (SV.val (Value.int IntKind.i64 s) = SV.val (Value.int IntKind.i64 s) ∧ true = true) ∧ True) ∧
      True) ∧
      ∀ (a_1 : Nat),
      (a_1 ≤ l.length ∧ ∀ (h : Dl), h ∈ List.take a_1 l → isD c s h = false) →
      ifB (decide ((↑a_1 : Int) < (↑l.length : Int)))
      (∃ (b : Nat),
      ∃ (off : Nat),
      a = some { block := b, off := off : Addr } ∧
      ((0 : Int) ≤ (↑a_1 : Int) ∧ (↑a_1 : Int) < (↑l.length : Int)) ∧
      ∃ (n_1 : Int),
      CellsAt { π := m.π, sz := n, uf := m.uf : M } b (off + (↑a_1 : Int).toNat * (8 : Nat) + (0 : Nat)) [Value.int IntKind.i64 n_1] ∧
      ifB (n_1 == c)
      (∃ (b : Nat),
      ∃ (off : Nat),
      a = some { block := b, off := off : Addr } ∧
      ((0 : Int) ≤ (↑a_1 : Int) ∧ (↑a_1 : Int) < (↑l.length : Int)) ∧
      ∃ (n_2 : Int),
      CellsAt { π := m.π, sz := n, uf := m.uf : M } b (off + (↑a_1 : Int).toNat * (8 : Nat) + (1 : Nat)) [Value.int IntKind.i64 n_2] ∧
      ifB (n_2 == s) (Done (Value.int IntKind.i64 (↑a_1 : Int) = Value.int IntKind.i64 (placeD l c s)))
      (∃ (a' : Nat),
      ((a' ≤ l.length ∧ ∀ (h : Dl), h ∈ List.take a' l → isD c s h = false) ∧
      { π := m.π, sz := n, uf := m.uf : M } = { π := m.π, sz := n, uf := m.uf : M } ∧
      ((SV.val (Value.int IntKind.i64 (IntKind.i64.wrap ((↑a_1 : Int) + (1 : Int)))) = SV.val (Value.int IntKind.i64 (↑a' : Int)) ∧
      true = true) ∧
      (SV.val (Value.slice a l.length cp) = SV.val (Value.slice a l.length cp) ∧ true = true) ∧
      (SV.val (Value.int IntKind.i64 c) = SV.val (Value.int IntKind.i64 c) ∧ true = true) ∧
      (SV.val (Value.int IntKind.i64 s) = SV.val (Value.int IntKind.i64 s) ∧ true = true) ∧ True) ∧
      True) ∧
      l.length - a' < l.length - a_1))
      (∃ (a' : Nat),
      ((a' ≤ l.length ∧ ∀ (h : Dl), h ∈ List.take a' l → isD c s h = false) ∧
      { π := m.π, sz := n, uf := m.uf : M } = { π := m.π, sz := n, uf := m.uf : M } ∧
      ((SV.val (Value.int IntKind.i64 (IntKind.i64.wrap ((↑a_1 : Int) + (1 : Int)))) = SV.val (Value.int IntKind.i64 (↑a' : Int)) ∧ true = true) ∧
      (SV.val (Value.slice a l.length cp) = SV.val (Value.slice a l.length cp) ∧ true = true) ∧
      (SV.val (Value.int IntKind.i64 c) = SV.val (Value.int IntKind.i64 c) ∧ true = true) ∧
      (SV.val (Value.int IntKind.i64 s) = SV.val (Value.int IntKind.i64 s) ∧ true = true) ∧ True) ∧
      True) ∧
      l.length - a' < l.length - a_1))
      (Done (Value.int IntKind.i64 (-1 : Int) = Value.int IntKind.i64 (placeD l c s)))) (by kernel_rfl) ?_
  have h' := h.sz hn'
  refine ⟨rfl, ⟨0, by simp⟩, fun k ⟨hk, hq⟩ => ifB_intro (fun hb => ?_) (fun hb => ⟨?_⟩)⟩
  · have hk2 : k < l.length := by simpa using hb
    obtain ⟨b, o, rfl, hc⟩ := h'.cells (by rw [dl_len]; omega)
    have w1 : IntKind.i64.wrap ((k : Int) + 1) = ((k + 1 : Nat) : Int) := by simp [IntKind.wrap_i64]; omega
    have c0 := CellsAt.field dl_k hc hk2 (p := []) (old := [I l[k].cl]) (q := [I l[k].sq, .string l[k].ky, .string l[k].ot, I l[k].n, I l[k].mi, I l[k].th, I l[k].ft]) rfl
    have c1 := CellsAt.field dl_k hc hk2 (p := [I l[k].cl]) (old := [I l[k].sq]) (q := [.string l[k].ky, .string l[k].ot, I l[k].n, I l[k].mi, I l[k].th, I l[k].ft]) rfl
    have nx : isD c s l[k] = false → (∃ a' : Nat, (a' ≤ l.length ∧ ∀ h ∈ l.take a', isD c s h = false) ∧ a' = k + 1) := fun hf => ⟨k + 1, ⟨hk2, fun h hm => by
      rw [List.take_succ_eq_append_getElem hk2, List.mem_append] at hm
      rcases hm with hm | hm
      · exact hq h hm
      · have hm : h = l[k] := by simpa using hm
        subst hm; exact hf⟩, rfl⟩
    refine ⟨b, o, rfl, by omega, _, by simpa using c0, ifB_intro (fun h1 => ⟨b, o, rfl, by omega, _, by simpa using c1, ifB_intro (fun h2 => ⟨?_⟩) (fun h2 => ?_)⟩) (fun h1 => ?_)⟩
    · have hf : isD c s l[k] = true := by simp at h1 h2; simp [isD, h1, h2]
      rw [placeD, idxF_found hk2 hq hf]
    · obtain ⟨a', h3, rfl⟩ := nx (by simp at h1 h2; simp [isD, h2])
      exact ⟨k + 1, ⟨h3, by simp [w1]⟩, by omega⟩
    · obtain ⟨a', h3, rfl⟩ := nx (by simp at h1; simp [isD, h1])
      exact ⟨k + 1, ⟨h3, by simp [w1]⟩, by omega⟩
  · have : k = l.length := by simp at hb; omega
    subst this
    rw [placeD, idxF_none fun h hm => hq h (by simpa using hm)]

theorem rright_q (a : Option Addr) (cp : Nat) (l : List Dl) (hn : l.length ≤ 9223372036854775807) (m : M) (h : Row m a (dls l)) : QSpec Try.prog 10 [.slice a l.length cp] m (.bool (booksB l)) := by
  refine QSpec.of_vc Try.func10 (ann := fun n _ => { A := Nat, inv := fun k => k ≤ l.length ∧ okTo l k = true, st := fun k => [(3, .val (I k)), (0, .val (.slice a l.length cp))], own := fun _ => [], m := fun _ => { m with sz := n }, μ := fun k => l.length - k }) fun n hn' => ?_
  refine vc_by (X :=
      true = true ∧
      (∃ (a_1 : Nat),
      (a_1 ≤ l.length ∧ okTo l a_1 = true) ∧
      { π := m.π, sz := n, uf := m.uf : M } = { π := m.π, sz := n, uf := m.uf : M } ∧
      ((SV.val (Value.int IntKind.i64 (0 : Int)) = SV.val (Value.int IntKind.i64 (↑a_1 : Int)) ∧ true = true) ∧
      (SV.val (Value.slice a l.length cp) = SV.val (Value.slice a l.length cp) ∧ true = true) ∧ True) ∧
      True) ∧
      ∀ (a_1 : Nat),
      a_1 ≤ l.length ∧ okTo l a_1 = true →
      ifB (decide ((↑a_1 : Int) < (↑l.length : Int)))
      (true = true ∧
      ∃ (b : Nat),
      ∃ (off : Nat),
      a = some { block := b, off := off : Addr } ∧
      ((0 : Int) ≤ (↑a_1 : Int) ∧ (↑a_1 : Int) < (↑l.length : Int)) ∧
      ∃ (n_1 : Int),
      ∃ (n_2 : Int),
      ∃ (s : ByteArray),
      ∃ (s_1 : ByteArray),
      ∃ (n_3 : Int),
      ∃ (n_4 : Int),
      ∃ (n_5 : Int),
      ∃ (n_6 : Int),
      CellsAt { π := m.π, sz := n, uf := m.uf : M } b (off + (↑a_1 : Int).toNat * (8 : Nat))
      [Value.int IntKind.i64 n_1, Value.int IntKind.i64 n_2, Value.string s, Value.string s_1, Value.int IntKind.i64 n_3,
      Value.int IntKind.i64 n_4, Value.int IntKind.i64 n_5, Value.int IntKind.i64 n_6] ∧
      ∃ (b : Bool),
      QSpec Try.prog (41 : Nat)
      [Value.agg
      #[Value.int IntKind.i64 n_1, Value.int IntKind.i64 n_2, Value.string s, Value.string s_1, Value.int IntKind.i64 n_3,
      Value.int IntKind.i64 n_4, Value.int IntKind.i64 n_5, Value.int IntKind.i64 n_6]]
      { π := m.π, sz := n, uf := m.uf : M } (Value.bool b) ∧
      ifB (!b) (Done (Value.bool false = Value.bool (booksB l)))
      (∃ (b : Nat),
      ∃ (off : Nat),
      a = some { block := b, off := off : Addr } ∧
      ((0 : Int) ≤ (↑a_1 : Int) ∧ (↑a_1 : Int) < (↑l.length : Int)) ∧
      ∃ (n_7 : Int),
      CellsAt { π := m.π, sz := n, uf := m.uf : M } b (off + (↑a_1 : Int).toNat * (8 : Nat) + (0 : Nat))
      [Value.int IntKind.i64 n_7] ∧
      ∃ (b : Nat),
      ∃ (off : Nat),
      a = some { block := b, off := off : Addr } ∧
      ((0 : Int) ≤ (↑a_1 : Int) ∧ (↑a_1 : Int) < (↑l.length : Int)) ∧
      ∃ (n_8 : Int),
      CellsAt { π := m.π, sz := n, uf := m.uf : M } b (off + (↑a_1 : Int).toNat * (8 : Nat) + (1 : Nat))
      [Value.int IntKind.i64 n_8] ∧
      ∃ (n_9 : Int),
      QSpec Try.prog (42 : Nat) [Value.slice a l.length cp, Value.int IntKind.i64 n_7, Value.int IntKind.i64 n_8]
      { π := m.π, sz := n, uf := m.uf : M } (Value.int IntKind.i64 n_9) ∧
      ifB (n_9 != (↑a_1 : Int)) (Done (Value.bool false = Value.bool (booksB l)))
      (∃ (a' : Nat),
      ((a' ≤ l.length ∧ okTo l a' = true) ∧
      { π := m.π, sz := n, uf := m.uf : M } = { π := m.π, sz := n, uf := m.uf : M } ∧
      ((SV.val (Value.int IntKind.i64 (IntKind.i64.wrap ((↑a_1 : Int) + (1 : Int)))) =
      SV.val (Value.int IntKind.i64 (↑a' : Int)) ∧
      true = true) ∧
      (SV.val (Value.slice a l.length cp) = SV.val (Value.slice a l.length cp) ∧ true = true) ∧
      True) ∧
      True) ∧
      l.length - a' < l.length - a_1)))
      (Done (Value.bool (decide ((↑l.length : Int) ≤ (4 : Int))) = Value.bool (booksB l)))) (by kernel_rfl) ?_
  have h' := h.sz hn'
  refine ⟨rfl, ⟨0, by simp [okTo]⟩, fun k ⟨hk, hq⟩ => ifB_intro (fun hb => ?_) (fun hb => ⟨?_⟩)⟩
  · have hk2 : k < l.length := by simpa using hb
    obtain ⟨b, o, rfl, hc⟩ := h'.cells (by rw [dl_len]; omega)
    have w1 : IntKind.i64.wrap ((k : Int) + 1) = ((k + 1 : Nat) : Int) := by simp [IntKind.wrap_i64]; omega
    have hok : okAt l k = (mayB l[k] && decide (placeD l l[k].cl l[k].sq = k)) := by simp [okAt, List.getElem?_eq_getElem hk2]
    have c0 := CellsAt.field dl_k hc hk2 (p := []) (old := [I l[k].cl]) (q := [I l[k].sq, .string l[k].ky, .string l[k].ot, I l[k].n, I l[k].mi, I l[k].th, I l[k].ft]) rfl
    have c1 := CellsAt.field dl_k hc hk2 (p := [I l[k].cl]) (old := [I l[k].sq]) (q := [.string l[k].ky, .string l[k].ot, I l[k].n, I l[k].mi, I l[k].th, I l[k].ft]) rfl
    have bad : okAt l k = false → Done (Value.bool false = Value.bool (booksB l)) := fun hh => by
      have : booksB l = false := by
        cases hbk : booksB l with
        | false => rfl
        | true =>
          simp only [booksB, Bool.and_eq_true] at hbk
          have := okTo_le hbk.2 (by omega : k + 1 ≤ l.length)
          rw [okTo_succ, hh] at this
          simp at this
      exact ⟨by simp [this]⟩
    refine ⟨rfl, b, o, rfl, by omega, _, _, _, _, _, _, _, _, by simpa using dl_at hc hk2, _, rmay_q l[k] _, ifB_intro (fun h2 => bad ?_) (fun h2 => ⟨b, o, rfl, by omega, _, by simpa using c0, b, o, rfl, by omega, _, by simpa using c1, _, rplace_q _ cp l l[k].cl l[k].sq hn _ h', ifB_intro (fun h3 => bad ?_) (fun h3 => ⟨k + 1, ⟨⟨hk2, ?_⟩, by simp [w1]⟩, by omega⟩)⟩)⟩
    · rw [hok]; simp at h2; simp [h2]
    · rw [hok]; simp at h3; simp [h3]
    · rw [okTo_succ, hq, hok]; simp at h2 h3; simp [h2, h3]
  · have : k = l.length := by simp at hb; omega
    subst this
    simp [booksB, hq]; omega

end Go.Proofs.Ytoilbbfidnhekaa
set_option linter.unusedVariables false
set_option linter.unusedSimpArgs false
namespace Go.Proofs.Ytoilbbfidnhekaa
open Go.Vc Go.RowKit
set_option maxRecDepth 100000

def endsB : Int → List En → Bool
  | _, [] => true
  | last, x :: xs => decide (last < x.cl) && whoseB x.cl x.sq && endsB x.cl xs

/-- where a client's end stands, or would stand -/
def endP : List En → Int → Nat
  | [], _ => 0
  | x :: xs, c => if c ≤ x.cl then 0 else endP xs c + 1

def endIs (l : List En) (c : Int) : Bool := match l[endP l c]? with | some x => decide (x.cl = c) | none => false

theorem endP_le (c : Int) : ∀ l : List En, endP l c ≤ l.length
  | [] => Nat.le_refl _
  | x :: xs => by have := endP_le c xs; simp only [endP, List.length_cons]; split <;> omega

theorem endP_drop {c : Int} : ∀ {l : List En} {k : Nat}, k ≤ l.length → (∀ x ∈ l.take k, x.cl < c) → endP l c = k + endP (l.drop k) c
  | l, 0, _, _ => by simp
  | [], k + 1, h, _ => by simp at h
  | x :: xs, k + 1, h, hl => by
    have hx := hl x (by simp)
    have ih := endP_drop (l := xs) (k := k) (by simpa using h) fun y hy => hl y (by simp [hy])
    simp only [endP, List.drop_succ_cons, if_neg (show ¬ c ≤ x.cl by omega), ih]; omega

theorem checkends_q (a : Option Addr) (cp : Nat) (l : List En) (hn : l.length ≤ 9223372036854775807) (m : M) (h : Row m a (ens l)) : QSpec Try.prog 31 [.slice a l.length cp] m (I (if endsB 0 l then 0 else 21)) := by
  refine QSpec.of_vc Try.func31 (ann := fun n _ => { A := Nat × Int, inv := fun y => y.1 ≤ l.length ∧ endsB 0 l = endsB y.2 (l.drop y.1), st := fun y => [(8, .val (I y.1)), (7, .val (I l.length)), (6, .val (.slice a l.length cp)), (3, .val (I y.2))], own := fun _ => [], m := fun _ => { m with sz := n }, μ := fun y => l.length - y.1 }) fun n hn' => ?_
  refine vc_by (X :=
      true = true ∧
      (∃ (a_1 : Nat × Int),
      (a_1.fst ≤ l.length ∧ endsB (0 : Int) l = endsB a_1.snd (List.drop a_1.fst l)) ∧
      { π := m.π, sz := n, uf := m.uf : M } = { π := m.π, sz := n, uf := m.uf : M } ∧
      ((SV.val (Value.int IntKind.i64 (0 : Int)) = SV.val (Value.int IntKind.i64 (↑a_1.fst : Int)) ∧ true = true) ∧
      (SV.val (Value.int IntKind.i64 (↑l.length : Int)) = SV.val (Value.int IntKind.i64 (↑l.length : Int)) ∧ true = true) ∧
      (SV.val (Value.slice a l.length cp) = SV.val (Value.slice a l.length cp) ∧ true = true) ∧
      (SV.val (Value.int IntKind.i64 (0 : Int)) = SV.val (Value.int IntKind.i64 a_1.snd) ∧ true = true) ∧ True) ∧
      True) ∧
      ∀ (a_1 : Nat × Int),
      a_1.fst ≤ l.length ∧ endsB (0 : Int) l = endsB a_1.snd (List.drop a_1.fst l) →
      ifB (decide ((↑a_1.fst : Int) < (↑l.length : Int)))
      (∃ (b : Nat),
      ∃ (off : Nat),
      a = some { block := b, off := off : Addr } ∧
      ((0 : Int) ≤ (↑a_1.fst : Int) ∧ (↑a_1.fst : Int) < (↑l.length : Int)) ∧
      ∃ (n_1 : Int),
      ∃ (n_2 : Int),
      CellsAt { π := m.π, sz := n, uf := m.uf : M } b (off + (↑a_1.fst : Int).toNat * (2 : Nat)) [Value.int IntKind.i64 n_1, Value.int IntKind.i64 n_2] ∧
      ifB (decide (n_1 ≤ a_1.snd)) (Done (Value.int IntKind.i64 (21 : Int) = Value.int IntKind.i64 (if endsB (0 : Int) l = true then (0 : Int) else (21 : Int))))
      (∃ (b : Bool),
      QSpec Try.prog (53 : Nat) [Value.int IntKind.i64 n_1, Value.int IntKind.i64 n_2] { π := m.π, sz := n, uf := m.uf : M } (Value.bool b) ∧
      ifB (!b) (Done (Value.int IntKind.i64 (21 : Int) = Value.int IntKind.i64 (if endsB (0 : Int) l = true then (0 : Int) else (21 : Int))))
      (∃ (a' : Nat × Int),
      ((a'.fst ≤ l.length ∧ endsB (0 : Int) l = endsB a'.snd (List.drop a'.fst l)) ∧
      { π := m.π, sz := n, uf := m.uf : M } = { π := m.π, sz := n, uf := m.uf : M } ∧
      ((SV.val (Value.int IntKind.i64 (IntKind.i64.wrap ((↑a_1.fst : Int) + (1 : Int)))) = SV.val (Value.int IntKind.i64 (↑a'.fst : Int)) ∧
      true = true) ∧
      (SV.val (Value.int IntKind.i64 (↑l.length : Int)) = SV.val (Value.int IntKind.i64 (↑l.length : Int)) ∧ true = true) ∧
      (SV.val (Value.slice a l.length cp) = SV.val (Value.slice a l.length cp) ∧ true = true) ∧
      (SV.val (Value.int IntKind.i64 n_1) = SV.val (Value.int IntKind.i64 a'.snd) ∧ true = true) ∧ True) ∧
      True) ∧
      l.length - a'.fst < l.length - a_1.fst)))
      (Done (Value.int IntKind.i64 (0 : Int) = Value.int IntKind.i64 (if endsB (0 : Int) l = true then (0 : Int) else (21 : Int))))) (by kernel_rfl) ?_
  have h' := h.sz hn'
  refine ⟨rfl, ⟨⟨0, 0⟩, by simp⟩, fun y ⟨hk, hq⟩ => ifB_intro (fun hb => ?_) (fun hb => ⟨?_⟩)⟩
  · have hk2 : y.1 < l.length := by simpa using hb
    obtain ⟨b, o, rfl, hc⟩ := h'.cells (by rw [en_len]; omega)
    have w1 : IntKind.i64.wrap ((y.1 : Int) + 1) = ((y.1 + 1 : Nat) : Int) := by simp [IntKind.wrap_i64]; omega
    rw [List.drop_eq_getElem_cons hk2, endsB] at hq
    refine ⟨b, o, rfl, by omega, _, _, by simpa using en_at hc hk2, ifB_intro (fun h1 => ⟨?_⟩) (fun h1 => ⟨_, whose_q _ _ _, ifB_intro (fun h2 => ⟨?_⟩) (fun h2 => ⟨⟨y.1 + 1, l[y.1].cl⟩, ⟨⟨hk2, ?_⟩, by simp [w1]⟩, by simp only; omega⟩)⟩)⟩
    · rw [hq]; have h1 : ¬ y.2 < l[y.1].cl := by simp at h1; omega
      simp [h1]
    · rw [hq]; simp at h2; simp [h2]
    · rw [hq]; have h1 : y.2 < l[y.1].cl := by simp at h1; omega
      simp at h2; simp [h1, h2]
  · have : y.1 = l.length := by simp at hb; omega
    rw [this] at hq
    simp [hq, endsB]

theorem end_q (a : Option Addr) (cp : Nat) (l : List En) (c : Int) (hn : l.length ≤ 9223372036854775807) (m : M) (h : Row m a (ens l)) : QSpec Try.prog 55 [.slice a l.length cp, I c] m (.tuple #[I (endP l c), .bool (endIs l c)]) := by
  refine QSpec.of_vc Try.func55 (ann := fun n _ => { A := Nat, inv := fun k => k ≤ l.length ∧ ∀ x ∈ l.take k, x.cl < c, st := fun k => [(10, .val (I k)), (9, .val (I l.length)), (8, .val (.slice a l.length cp)), (1, .val (I c)), (0, .val (.slice a l.length cp))], own := fun _ => [], m := fun _ => { m with sz := n }, μ := fun k => l.length - k }) fun n hn' => ?_
  refine vc_by (X :=
      true = true ∧
      (∃ (a_1 : Nat),
      (a_1 ≤ l.length ∧ ∀ (x : En), x ∈ List.take a_1 l → x.cl < c) ∧
      { π := m.π, sz := n, uf := m.uf : M } = { π := m.π, sz := n, uf := m.uf : M } ∧
      ((SV.val (Value.int IntKind.i64 (0 : Int)) = SV.val (Value.int IntKind.i64 (↑a_1 : Int)) ∧ true = true) ∧
      (SV.val (Value.int IntKind.i64 (↑l.length : Int)) = SV.val (Value.int IntKind.i64 (↑l.length : Int)) ∧ true = true) ∧
      (SV.val (Value.slice a l.length cp) = SV.val (Value.slice a l.length cp) ∧ true = true) ∧
      (SV.val (Value.int IntKind.i64 c) = SV.val (Value.int IntKind.i64 c) ∧ true = true) ∧
      (SV.val (Value.slice a l.length cp) = SV.val (Value.slice a l.length cp) ∧ true = true) ∧ True) ∧
      True) ∧
      ∀ (a_1 : Nat),
      (a_1 ≤ l.length ∧ ∀ (x : En), x ∈ List.take a_1 l → x.cl < c) →
      ifB (decide ((↑a_1 : Int) < (↑l.length : Int)))
      (∃ (b : Nat),
      ∃ (off : Nat),
      a = some { block := b, off := off : Addr } ∧
      ((0 : Int) ≤ (↑a_1 : Int) ∧ (↑a_1 : Int) < (↑l.length : Int)) ∧
      ∃ (n_1 : Int),
      ∃ (n_2 : Int),
      CellsAt { π := m.π, sz := n, uf := m.uf : M } b (off + (↑a_1 : Int).toNat * (2 : Nat)) [Value.int IntKind.i64 n_1, Value.int IntKind.i64 n_2] ∧
      ifB (decide (n_1 ≥ c))
      (true = true ∧
      Done
      (Value.tuple #[Value.int IntKind.i64 (↑a_1 : Int), Value.bool (n_1 == c)] =
      Value.tuple #[Value.int IntKind.i64 (↑(endP l c) : Int), Value.bool (endIs l c)]))
      (∃ (a' : Nat),
      ((a' ≤ l.length ∧ ∀ (x : En), x ∈ List.take a' l → x.cl < c) ∧
      { π := m.π, sz := n, uf := m.uf : M } = { π := m.π, sz := n, uf := m.uf : M } ∧
      ((SV.val (Value.int IntKind.i64 (IntKind.i64.wrap ((↑a_1 : Int) + (1 : Int)))) = SV.val (Value.int IntKind.i64 (↑a' : Int)) ∧ true = true) ∧
      (SV.val (Value.int IntKind.i64 (↑l.length : Int)) = SV.val (Value.int IntKind.i64 (↑l.length : Int)) ∧ true = true) ∧
      (SV.val (Value.slice a l.length cp) = SV.val (Value.slice a l.length cp) ∧ true = true) ∧
      (SV.val (Value.int IntKind.i64 c) = SV.val (Value.int IntKind.i64 c) ∧ true = true) ∧
      (SV.val (Value.slice a l.length cp) = SV.val (Value.slice a l.length cp) ∧ true = true) ∧ True) ∧
      True) ∧
      l.length - a' < l.length - a_1))
      (Done (Value.tuple #[Value.int IntKind.i64 (↑l.length : Int), Value.bool false] = Value.tuple #[Value.int IntKind.i64 (↑(endP l c) : Int), Value.bool (endIs l c)]))) (by kernel_rfl) ?_
  have h' := h.sz hn'
  refine ⟨rfl, ⟨0, by simp⟩, fun k ⟨hk, hq⟩ => ifB_intro (fun hb => ?_) (fun hb => ⟨?_⟩)⟩
  · have hk2 : k < l.length := by simpa using hb
    obtain ⟨b, o, rfl, hc⟩ := h'.cells (by rw [en_len]; omega)
    have w1 : IntKind.i64.wrap ((k : Int) + 1) = ((k + 1 : Nat) : Int) := by simp [IntKind.wrap_i64]; omega
    have hd := endP_drop hk hq
    rw [List.drop_eq_getElem_cons hk2, endP] at hd
    refine ⟨b, o, rfl, by omega, _, _, by simpa using en_at hc hk2, ifB_intro (fun h1 => ?_) (fun h1 => ⟨k + 1, ⟨⟨hk2, fun x hx => ?_⟩, by simp [w1]⟩, by omega⟩)⟩
    · have h1 : c ≤ l[k].cl := by simpa using h1
      rw [if_pos h1] at hd
      refine ⟨rfl, ⟨?_⟩⟩
      simp [endIs, hd, List.getElem?_eq_getElem hk2, Bool.beq_eq_decide_eq]
    · rw [List.take_succ_eq_append_getElem hk2, List.mem_append] at hx
      rcases hx with hx | hx
      · exact hq x hx
      · have hx : x = l[k] := by simpa using hx
        subst hx
        have h1 : ¬ c ≤ l[k].cl := by simpa using h1
        omega
  · have : k = l.length := by simp at hb; omega
    subst this
    have hd := endP_drop hk hq
    simp [endP] at hd
    simp [endIs, hd]

def pastB (l : List En) (c s : Int) : Bool := match l[endP l c]? with | some x => decide (x.cl = c) && decide (s ≤ x.sq) && endsB 0 l | none => false

theorem past_q (a : Option Addr) (cp : Nat) (l : List En) (c s : Int) (hn : l.length ≤ 9223372036854775807) (m : M) (h : Row m a (ens l)) : QSpec Try.prog 33 [.slice a l.length cp, I c, I s] m (.bool (pastB l c s)) := by
  refine QSpec.of_vc Try.func33 (ann := fun _ => noAnn) fun n hn' => ?_
  refine vc_by (X :=
      true = true ∧
      ∃ (n_1 : Int),
      ∃ (b : Bool),
      QSpec Try.prog (55 : Nat) [Value.slice a l.length cp, Value.int IntKind.i64 c] { π := m.π, sz := n, uf := m.uf : M }
      (Value.tuple #[Value.int IntKind.i64 n_1, Value.bool b]) ∧
      ifB b
      (∃ (b : Nat),
      ∃ (off : Nat),
      a = some { block := b, off := off : Addr } ∧
      ((0 : Int) ≤ n_1 ∧ n_1 < (↑l.length : Int)) ∧
      ∃ (n_2 : Int),
      CellsAt { π := m.π, sz := n, uf := m.uf : M } b (off + n_1.toNat * (2 : Nat) + (1 : Nat)) [Value.int IntKind.i64 n_2] ∧
      ifB (decide (n_2 ≥ s))
      (∃ (n_3 : Int),
      QSpec Try.prog (31 : Nat) [Value.slice a l.length cp] { π := m.π, sz := n, uf := m.uf : M } (Value.int IntKind.i64 n_3) ∧
      Done (Value.bool (n_3 == (0 : Int)) = Value.bool (pastB l c s)))
      (Done (Value.bool false = Value.bool (pastB l c s))))
      (Done (Value.bool false = Value.bool (pastB l c s)))) (by kernel_rfl) ?_
  have h' := h.sz hn'
  refine ⟨rfl, _, _, end_q a cp l c hn _ h', ?_⟩
  by_cases hk : endP l c < l.length
  · obtain ⟨b, o, rfl, hc⟩ := h'.cells (by rw [en_len]; omega)
    have c1 := CellsAt.field en_k hc hk (p := [I l[endP l c].cl]) (old := [I l[endP l c].sq]) (q := []) rfl
    have e : endIs l c = decide (l[endP l c].cl = c) := by simp [endIs, List.getElem?_eq_getElem hk]
    have e2 : pastB l c s = (decide (l[endP l c].cl = c) && decide (s ≤ l[endP l c].sq) && endsB 0 l) := by simp [pastB, List.getElem?_eq_getElem hk]
    rw [e, e2]
    refine ifB_intro (fun h1 => ⟨b, o, rfl, by omega, _, by simpa using c1, ifB_intro (fun h2 => ⟨_, checkends_q _ cp l hn _ h', ⟨?_⟩⟩) (fun h2 => ⟨?_⟩)⟩) (fun h1 => ⟨?_⟩)
    · simp at h1 h2; simp [h1, h2]; cases endsB 0 l <;> rfl
    · simp at h2; simp; omega
    · simp at h1; simp [h1]
  · have e : endIs l c = false := by simp [endIs, List.getElem?_eq_none (by omega : l.length ≤ endP l c)]
    have e2 : pastB l c s = false := by simp [pastB, List.getElem?_eq_none (by omega : l.length ≤ endP l c)]
    rw [e, e2]
    exact ifB_false ⟨rfl⟩

def dAw : Dl := ⟨1, 1, ⟨#[97]⟩, ⟨#[98]⟩, 1, 0, 0, 0⟩

theorem awake_open : openD [] dAw = ([dAw], 0) := by
  have h : ¬ (⟨#[97]⟩ : ByteArray) = ⟨#[98]⟩ := by decide
  simp [openD, booksB, okTo, newD, mayB, whoseB, keyB, fateV, dAw, placeD, idxF, h, ByteArray.size]

theorem awake_q (m : M) : QSpec Try.prog 15 [] m (.bool true) := by
  refine QSpec.of_vc Try.func15 (ann := fun _ => noAnn) fun n hn => ?_
  refine vc_by (X :=
      true = true ∧
      ∃ (S' : Nat → Prop),
      (∀ (b : Nat), S' b → m.uf b ∧ (n ≤ b ∨ False)) ∧
      ∀ (n_1 : Nat),
      n ≤ n_1 →
      SpecW Try.prog (13 : Nat)
      [Value.slice none (0 : Nat) (0 : Nat),
      Value.agg
      #[Value.int IntKind.i64 (1 : Int), Value.int IntKind.i64 (1 : Int), Value.string { data := #[(97 : UInt8)] : ByteArray },
      Value.string { data := #[(98 : UInt8)] : ByteArray }, Value.int IntKind.i64 (1 : Int), Value.int IntKind.i64 (0 : Int), Value.int IntKind.i64 (0 : Int),
      Value.int IntKind.i64 (0 : Int)]]
      { π := m.π, sz := n_1, uf := m.uf : M } S' fun (v : Value) (m' : M) =>
      ∃ (a : Option Addr),
      ∃ (n : Nat),
      ∃ (c : Nat),
      ∃ (n_2 : Int),
      v = Value.tuple #[Value.slice a n c, Value.int IntKind.i64 n_2] ∧
      ifB (n_2 == (0 : Int))
      (ifB ((↑n : Int) == (1 : Int))
      (true = true ∧
      ∀ (b : Nat),
      m'.sz ≤ b →
      ∃ (b_1 : Bool),
      QSpec Try.prog (33 : Nat)
      [Value.slice (some { block := b, off := (0 : Nat) : Addr }) (1 : Nat) (1 : Nat), Value.int IntKind.i64 (1 : Int),
      Value.int IntKind.i64 (2 : Int)]
      (m'.newBlock b [Value.int IntKind.i64 (1 : Int), Value.int IntKind.i64 (2 : Int)]) (Value.bool b_1) ∧
      Done (Value.bool b_1 = Value.bool true))
      (Done (Value.bool false = Value.bool true)))
      (Done (Value.bool false = Value.bool true))) (by kernel_rfl) ?_
  refine ⟨rfl, _, noS, fun N hN => (dopen_s none 0 [] dAw (by simp) (fun _ => rfl) _ (.nil _)).monoW fun v m1 hag ⟨a1, c1, hv, hr⟩ => ⟨a1, _, c1, _, hv, ?_⟩⟩
  rw [awake_open]
  refine ifB_true (ifB_true ⟨rfl, fun b hb => ⟨_, past_q (some ⟨b, 0, none⟩) 1 [⟨1, 2⟩] 1 2 (by simp) _ (.at _ _ _ (by simp only [M.newBlock]; omega) cellsAt_new), ⟨?_⟩⟩⟩)
  rfl

def mk71 : Dl := ⟨71, 0, .empty, .empty, 0, 0, 0, 0⟩

theorem own_s (a : Option Addr) (c : Nat) (l : List Dl) (hn : l.length ≤ 1759218604410) (m : M) (h : Row m a (dls l)) :
    Vc.Spec Try.prog 9 [.slice a l.length c] m (Owned m (dls l) (encDl mk71 ++ encDl mk71) l.length (l.length + 2)) := by
  refine Vc.Spec.of_vc Try.func9 (ann := noAnn) ?_
  refine vc_by (X :=
      true = true ∧
      ∃ (S' : Nat → Prop),
      (∀ (b : Nat), S' b → m.uf b ∧ (m.sz ≤ b ∨ False)) ∧
      ∀ (n : Nat),
      m.sz ≤ n →
      SpecW Try.prog (40 : Nat)
      [Value.slice a l.length c,
      Value.agg
      #[Value.int IntKind.i64 (71 : Int), Value.int IntKind.i64 (0 : Int), Value.string { data := #[] : ByteArray }, Value.string { data := #[] : ByteArray },
      Value.int IntKind.i64 (0 : Int), Value.int IntKind.i64 (0 : Int), Value.int IntKind.i64 (0 : Int), Value.int IntKind.i64 (0 : Int)]]
      { π := m.π, sz := n, uf := m.uf : M } S' fun (v : Value) (m' : M) =>
      ∃ (a : Option Addr),
      ∃ (n : Nat),
      ∃ (c : Nat),
      v = Value.slice a n c ∧
      Done
      (Owned m (dls l)
      [Value.int IntKind.i64 (71 : Int), Value.int IntKind.i64 (0 : Int), Value.string ByteArray.empty, Value.string ByteArray.empty,
      Value.int IntKind.i64 (0 : Int), Value.int IntKind.i64 (0 : Int), Value.int IntKind.i64 (0 : Int), Value.int IntKind.i64 (0 : Int),
      Value.int IntKind.i64 (71 : Int), Value.int IntKind.i64 (0 : Int), Value.string ByteArray.empty, Value.string ByteArray.empty,
      Value.int IntKind.i64 (0 : Int), Value.int IntKind.i64 (0 : Int), Value.int IntKind.i64 (0 : Int), Value.int IntKind.i64 (0 : Int)]
      l.length (l.length + (2 : Nat)) (Value.slice a n c) m')) (by kernel_rfl) ?_
  exact ⟨rfl, _, noS, fun N hN => (dl_own a c l mk71 hn _ (h.sz hN)).monoW fun v m1 hag ⟨b, e, hb, h1, h2, h3⟩ => ⟨_, _, _, e, ⟨⟨b, rfl, Nat.le_trans hN hb, h1, h2, h3⟩⟩⟩⟩

theorem kept_q (b : Nat) (l : List Dl) (a2 : Option Addr) (c2 : Nat) (hn : l.length ≤ 1759218604410) (m : M) (hb : b < m.sz) (h : CellsAt m b 0 (dls l ++ (encDl mk71 ++ encDl mk71))) (h2 : Row m a2 (dls l)) :
    QSpec Try.prog 24 [.slice (some ⟨b, 0, none⟩) l.length (l.length + 2), .slice a2 l.length c2] m (.bool true) := by
  refine QSpec.of_vc Try.func24 (ann := fun _ => noAnn) fun n hn' => ?_
  refine vc_by (X :=
      true = true ∧
      ∃ (b_1 : Bool),
      QSpec Try.prog (51 : Nat)
      [Value.slice (some { block := b, off := (0 : Nat) : Addr }) l.length (l.length + (2 : Nat)), Value.slice a2 l.length c2,
      Value.agg
      #[Value.int IntKind.i64 (71 : Int), Value.int IntKind.i64 (0 : Int), Value.string { data := #[] : ByteArray }, Value.string { data := #[] : ByteArray },
      Value.int IntKind.i64 (0 : Int), Value.int IntKind.i64 (0 : Int), Value.int IntKind.i64 (0 : Int), Value.int IntKind.i64 (0 : Int)]]
      { π := m.π, sz := n, uf := m.uf : M } (Value.bool b_1) ∧
      Done (Value.bool b_1 = Value.bool true)) (by kernel_rfl) ?_
  exact ⟨rfl, _, dl_kept b l a2 c2 mk71 hn _ (Nat.lt_of_lt_of_le hb hn') ⟨h.out⟩ (h2.sz hn'), ⟨rfl⟩⟩

end Go.Proofs.Ytoilbbfidnhekaa
set_option linter.unusedVariables false
set_option linter.unusedSimpArgs false
namespace Go.Proofs.Ytoilbbfidnhekaa
open Go.Vc Go.RowKit
set_option maxRecDepth 100000

abbrev keyD (d : Dl) : Int × Int := (d.cl, d.sq)

theorem isD_iff {c s : Int} {d : Dl} : isD c s d = true ↔ keyD d = (c, s) := by simp [isD]

def resD : Option Dl → Dl × Bool
  | some d => (d, true)
  | none => (d0, false)

theorem place_find (l : List Dl) (c s : Int) : (placeD l c s = -1 ∧ l.find? (isD c s) = none) ∨ ∃ k, ∃ hk : k < l.length, placeD l c s = k ∧ l.find? (isD c s) = some l[k] ∧ keyD l[k] = (c, s) := by
  rcases place_cases l c s with ⟨e, h⟩ | ⟨k, hk, e, h1, h2⟩
  · exact .inl ⟨e, by rw [List.find?_eq_none]; intro x hx; simp [h x hx]⟩
  · refine .inr ⟨k, hk, e, ?_, isD_iff.1 h1⟩
    rw [List.find?_eq_some_iff_getElem]
    refine ⟨h1, k, hk, rfl, fun j hj => ?_⟩
    simp [h2 l[j] (by rw [List.mem_take_iff_getElem]; exact ⟨j, by omega, rfl⟩)]

theorem findD_eq (l : List Dl) (c s : Int) : findD l c s = if booksB l = true then resD (l.find? (isD c s)) else (d0, false) := by
  unfold findD
  cases booksB l
  · simp
  rcases place_find l c s with ⟨e, h⟩ | ⟨k, hk, e, h, -⟩
  · simp [e, h, resD]
  · simp [e, h, resD, List.getElem?_eq_getElem hk]

theorem books_iff (l : List Dl) : booksB l = true ↔ l.length ≤ 4 ∧ (∀ d ∈ l, mayB d = true) ∧ (l.map keyD).Nodup := by
  simp only [booksB, Bool.and_eq_true, decide_eq_true_eq, okTo, List.all_eq_true, List.mem_range]
  constructor
  · rintro ⟨h4, h⟩
    have h' : ∀ j (hj : j < l.length), mayB l[j] = true ∧ placeD l l[j].cl l[j].sq = j := fun j hj => by
      have := h j hj
      simpa [okAt, List.getElem?_eq_getElem hj] using this
    refine ⟨h4, fun d hd => ?_, ?_⟩
    · obtain ⟨j, hj, rfl⟩ := List.mem_iff_getElem.1 hd
      exact (h' j hj).1
    · rw [List.nodup_iff_pairwise_ne, List.pairwise_iff_getElem]
      intro i j hi hj hij
      simp only [List.length_map] at hi hj
      simp only [List.getElem_map]
      intro e
      have hp := (h' j hj).2
      rcases place_cases l l[j].cl l[j].sq with ⟨e2, -⟩ | ⟨k, hk, e2, -, h2⟩
      · omega
      · have hkj : k = j := by omega
        subst hkj
        have := h2 l[i] (by rw [List.mem_take_iff_getElem]; exact ⟨i, by omega, rfl⟩)
        rw [isD_iff.2 e] at this
        simp at this
  · rintro ⟨h4, hm, hn⟩
    refine ⟨h4, fun j hj => ?_⟩
    simp only [okAt, List.getElem?_eq_getElem hj, hm _ (List.getElem_mem hj), Bool.true_and, decide_eq_true_eq]
    rcases place_cases l l[j].cl l[j].sq with ⟨-, h2⟩ | ⟨k, hk, e2, h1, -⟩
    · have := h2 l[j] (List.getElem_mem hj)
      rw [isD_iff.2 rfl] at this
      simp at this
    · rw [e2]
      have h1 := isD_iff.1 h1
      have := (List.getElem_inj (xs := l.map keyD) (h₀ := by simpa using hk) (h₁ := by simpa using hj) hn).1 (by simpa using h1)
      omega

theorem find_set {p : Dl → Bool} {d : Dl} : ∀ {l : List Dl} {k : Nat} (hk : k < l.length), p l[k] = false → p d = false → (l.set k d).find? p = l.find? p
  | x :: xs, 0, _, h1, h2 => by simp at h1; simp [h1, h2]
  | x :: xs, k + 1, hk, h1, h2 => by
    have ih := find_set (p := p) (d := d) (l := xs) (k := k) (by simpa using hk) (by simpa using h1) h2
    simp only [List.set_cons_succ, List.find?_cons, ih]

theorem find_erase {p : Dl → Bool} : ∀ {l : List Dl} {k : Nat} (hk : k < l.length), p l[k] = false → (l.take k ++ l.drop (k + 1)).find? p = l.find? p
  | x :: xs, 0, _, h1 => by simp at h1; simp [h1]
  | x :: xs, k + 1, hk, h1 => by
    have ih := find_erase (p := p) (l := xs) (k := k) (by simpa using hk) (by simpa using h1)
    simp only [List.take_succ_cons, List.drop_succ_cons, List.cons_append, List.find?_cons, ih]

theorem find_key {l : List Dl} (hn : (l.map keyD).Nodup) {k : Nat} (hk : k < l.length) : l.find? (isD l[k].cl l[k].sq) = some l[k] := by
  rcases place_find l l[k].cl l[k].sq with ⟨-, h⟩ | ⟨j, hj, -, h, e⟩
  · rw [List.find?_eq_none] at h
    exact absurd (isD_iff.2 rfl) (h _ (List.getElem_mem hk))
  · have := (List.getElem_inj (xs := l.map keyD) (h₀ := by simpa using hj) (h₁ := by simpa using hk) hn).1 (by simpa using e)
    subst this
    exact h

theorem books_set {l : List Dl} (h : booksB l = true) {k : Nat} (hk : k < l.length) {d : Dl} (hd : mayB d = true) (hkey : keyD d = keyD l[k]) : booksB (l.set k d) = true := by
  rw [books_iff] at h ⊢
  obtain ⟨h1, h2, h3⟩ := h
  refine ⟨by simpa using h1, fun x hx => ?_, ?_⟩
  · rcases List.mem_or_eq_of_mem_set hx with hx | rfl
    · exact h2 x hx
    · exact hd
  · rw [List.map_set, hkey]
    have : (l.map keyD).set k (keyD l[k]) = l.map keyD := by
      have hk' : k < (l.map keyD).length := by simpa using hk
      have := List.set_getElem_self hk'
      simpa using this
    rw [this]; exact h3

theorem books_erase {l : List Dl} (h : booksB l = true) (k : Nat) : booksB (l.take k ++ l.drop (k + 1)) = true := by
  rw [← List.eraseIdx_eq_take_drop_succ]
  rw [books_iff] at h ⊢
  obtain ⟨h1, h2, h3⟩ := h
  have hs := List.eraseIdx_sublist (l := l) k
  exact ⟨Nat.le_trans hs.length_le h1, fun x hx => h2 x (hs.subset hx), (hs.map keyD).nodup h3⟩

theorem may_given {d : Dl} (h : mayB d = true) : mayB (givenD d) = true := by
  unfold givenD
  split
  · rename_i h0
    simp only [mayB, Bool.and_eq_true, Bool.or_eq_true, decide_eq_true_eq, h0] at h ⊢
    refine ⟨h.1, .inr ⟨?_, trivial⟩⟩
    rcases h.2 with h | h
    · exact h.symm
    · exact h.1
  · exact h

theorem said_cases (d : Dl) (mine is : Bool) : saidD d mine is = d ∨ d.ft = 0 ∧ (mine = true ∧ d.mi = 0 ∧ saidD d mine is = { d with mi := wordD is, ft := fateV (wordD is) d.th } ∨ mine = false ∧ d.th = 0 ∧ saidD d mine is = { d with th := wordD is, ft := fateV d.mi (wordD is) }) := by
  cases mine
  · by_cases h1 : d.ft = 0
    · by_cases h2 : d.th = 0
      · exact .inr ⟨h1, .inr ⟨rfl, h2, by simp [saidD, h1, h2]⟩⟩
      · exact .inl (by simp [saidD, h2])
    · exact .inl (by simp [saidD, h1])
  · by_cases h1 : d.ft = 0
    · by_cases h2 : d.mi = 0
      · exact .inr ⟨h1, .inl ⟨rfl, h2, by simp [saidD, h1, h2]⟩⟩
      · exact .inl (by simp [saidD, h2])
    · exact .inl (by simp [saidD, h1])

theorem may_said {d : Dl} (h : mayB d = true) (mine is : Bool) : mayB (saidD d mine is) = true := by
  have hw : wordD is = 1 ∨ wordD is = 2 := by cases is <;> simp [wordD]
  rcases said_cases d mine is with e | ⟨-, ⟨-, -, e⟩ | ⟨-, -, e⟩⟩
  · rw [e]; exact h
  all_goals
    rw [e]
    simp only [mayB, Bool.and_eq_true, Bool.or_eq_true, decide_eq_true_eq] at h ⊢
    obtain ⟨⟨⟨⟨⟨h1, h2⟩, h3⟩, h4⟩, h5⟩, -⟩ := h
  · exact ⟨⟨⟨⟨⟨h1, by omega⟩, by omega⟩, h4⟩, h5⟩, .inl trivial⟩
  · exact ⟨⟨⟨⟨⟨h1, h2⟩, h3⟩, by omega⟩, by omega⟩, .inl trivial⟩

theorem key_said (d : Dl) (mine is : Bool) : keyD (saidD d mine is) = keyD d := by
  rcases said_cases d mine is with e | ⟨-, ⟨-, -, e⟩ | ⟨-, -, e⟩⟩ <;> rw [e]

theorem key_given (d : Dl) : keyD (givenD d) = keyD d := by
  unfold givenD
  split <;> rfl

/-- what a call that finds the deal makes of what is told of another -/
theorem others_set {l : List Dl} {c s oc os : Int} (h : booksB l = true) {k : Nat} (hk : k < l.length) {d : Dl} (hd : mayB d = true) (hkey : keyD d = keyD l[k]) (hc : keyD l[k] = (c, s)) (hne : ¬ (c = oc ∧ s = os)) : findD (l.set k d) oc os = findD l oc os := by
  have ne : ∀ x : Dl, keyD x = (c, s) → isD oc os x = false := fun x hx => by
    cases hh : isD oc os x with
    | false => rfl
    | true =>
      have := isD_iff.1 hh
      rw [hx] at this
      simp at this
      exact absurd this hne
  rw [findD_eq, findD_eq, if_pos h, if_pos (books_set h hk hd hkey), find_set hk (ne _ hc) (ne _ (hkey.trans hc))]

theorem others_erase {l : List Dl} {c s oc os : Int} (h : booksB l = true) {k : Nat} (hk : k < l.length) (hc : keyD l[k] = (c, s)) (hne : ¬ (c = oc ∧ s = os)) : findD (l.take k ++ l.drop (k + 1)) oc os = findD l oc os := by
  have ne : isD oc os l[k] = false := by
    cases hh : isD oc os l[k] with
    | false => rfl
    | true =>
      have := isD_iff.1 hh
      rw [hc] at this
      simp at this
      exact absurd this hne
  rw [findD_eq, findD_eq, if_pos h, if_pos (books_erase h k), find_erase hk ne]

theorem say_len (l : List Dl) (c s : Int) (mine is : Bool) : (sayD l c s mine is).1.length ≤ l.length := by
  unfold sayD; split <;> simp

theorem give_len (l : List Dl) (c s : Int) : (giveD l c s).1.length ≤ l.length := by
  unfold giveD; split <;> simp

theorem forget_len (l : List Dl) (c s : Int) : (forgetD l c s).1.length ≤ l.length := by
  unfold forgetD; split
  · simp
  · split
    · simp
    · simp; omega

theorem others_law (l : List Dl) (c s oc os : Int) (mine is : Bool) (hne : ¬ (c = oc ∧ s = os)) :
    (sayD l c s mine is).2.2 = foundE l c s ∧ (giveD l c s).2.2 = foundE l c s ∧
    (foundE l c s = 0 → findD (sayD l c s mine is).1 oc os = findD l oc os ∧ findD (giveD l c s).1 oc os = findD l oc os) ∧
    ((forgetD l c s).2 = 0 → findD (forgetD l c s).1 oc os = findD l oc os) ∧
    ((forgetD l c s).2 = 0 ∨ (forgetD l c s).2 = foundE l c s ∨ (forgetD l c s).2 = 60) := by
  by_cases he : foundE l c s = 0
  rotate_left
  · simp [sayD, giveD, forgetD, he]
  obtain ⟨hb, h4, k, hk, e1, e2, hd, e3⟩ := found_ok he
  have hm : mayB l[k] = true := ((books_iff l).1 hb).2.1 _ (List.getElem_mem hk)
  have hc := isD_iff.1 hd
  refine ⟨by simp [sayD, he], by simp [giveD, he], fun _ => ⟨?_, ?_⟩, ?_, ?_⟩
  · simp only [sayD, he, ne_eq, not_true_eq_false, if_false, e1, e3, Int.toNat_natCast]
    exact others_set hb hk (may_said hm _ _) (key_said _ _ _) hc hne
  · simp only [giveD, he, ne_eq, not_true_eq_false, if_false, e1, e3, Int.toNat_natCast]
    exact others_set hb hk (may_given hm) (key_given _) hc hne
  · simp only [forgetD, he, ne_eq, not_true_eq_false, if_false, e1, e3, Int.toNat_natCast]
    split
    · simp
    · intro _
      exact others_erase hb hk hc hne
  · simp only [forgetD, he, ne_eq, not_true_eq_false, if_false]
    split <;> simp

end Go.Proofs.Ytoilbbfidnhekaa
set_option linter.unusedVariables false
set_option linter.unusedSimpArgs false
namespace Go.Proofs.Ytoilbbfidnhekaa
open Go.Vc Go.RowKit
set_option maxRecDepth 100000

theorem own_r (a : Option Addr) (c : Nat) (l : List Dl) (hn : l.length ≤ 1759218604410) (m : M) (h : Row m a (dls l)) :
    Vc.Spec Try.prog 9 [.slice a l.length c] m fun v m' => ∃ (b c' : Nat), v = .slice (some ⟨b, 0, none⟩) l.length c' ∧ Row m' (some ⟨b, 0, none⟩) (dls l) :=
  (own_s a c l hn m h).mono fun v m1 _ ⟨b, e, _, h1, _, h3⟩ => ⟨b, _, e, .at _ _ _ h1 h3.take⟩

theorem dealothers (a : Option Addr) (cp : Nat) (l : List Dl) (c s oc os : Int) (mine is : Bool) (hn : l.length ≤ 1759218604410) (m : M) (h : Row m a (dls l)) :
    QSpec Try.prog 5 [.slice a l.length cp, I c, I s, I oc, I os, .bool mine, .bool is] m (.bool true) := by
  refine QSpec.of_vc Try.func5 (ann := fun _ => noAnn) fun N hN => ?_
  refine vc_by (X :=
      true = true ∧
      ∃ (b : Bool),
      QSpec Try.prog (15 : Nat) [] { π := m.π, sz := N, uf := m.uf : M } (Value.bool b) ∧
      ifB (!b) (∃ (b : Bool), QSpec Try.prog (15 : Nat) [] { π := m.π, sz := N, uf := m.uf : M } (Value.bool b) ∧ Done (Value.bool b = Value.bool true))
      (ifB (c == oc)
      (ifB (s == os) (∃ (b : Bool), QSpec Try.prog (15 : Nat) [] { π := m.π, sz := N, uf := m.uf : M } (Value.bool b) ∧ Done (Value.bool b = Value.bool true))
      (∃ (S' : Nat → Prop),
      (∀ (b : Nat), S' b → m.uf b ∧ (N ≤ b ∨ False)) ∧
      ∀ (n : Nat),
      N ≤ n →
      SpecW Try.prog (9 : Nat) [Value.slice a l.length cp] { π := m.π, sz := n, uf := m.uf : M } S' fun (v : Value) (m' : M) =>
      ∃ (a_2 : Option Addr),
      ∃ (n : Nat),
      ∃ (c_1 : Nat),
      v = Value.slice a_2 n c_1 ∧
      ∃ (n_1 : Int),
      ∃ (n_2 : Int),
      ∃ (s_1 : ByteArray),
      ∃ (s_2 : ByteArray),
      ∃ (n_3 : Int),
      ∃ (n_4 : Int),
      ∃ (n_5 : Int),
      ∃ (n_6 : Int),
      ∃ (b : Bool),
      QSpec Try.prog (11 : Nat) [Value.slice a_2 n c_1, Value.int IntKind.i64 oc, Value.int IntKind.i64 os] m'
      (Value.tuple
      #[Value.agg
      #[Value.int IntKind.i64 n_1, Value.int IntKind.i64 n_2, Value.string s_1, Value.string s_2, Value.int IntKind.i64 n_3,
      Value.int IntKind.i64 n_4, Value.int IntKind.i64 n_5, Value.int IntKind.i64 n_6],
      Value.bool b]) ∧
      ∃ (S' : Nat → Prop),
      (∀ (b : Nat), S' b → m'.uf b ∧ (N ≤ b ∨ False)) ∧
      ∀ (n : Nat),
      m'.sz ≤ n →
      SpecW Try.prog (9 : Nat) [Value.slice a l.length cp] { π := m'.π, sz := n, uf := m'.uf : M } S'
      fun (v : Value) (m' : M) =>
      ∃ (a_4 : Option Addr),
      ∃ (n : Nat),
      ∃ (c_2 : Nat),
      v = Value.slice a_4 n c_2 ∧
      ∃ (S' : Nat → Prop),
      (∀ (b : Nat), S' b → m'.uf b ∧ (N ≤ b ∨ False)) ∧
      ∀ (n_7 : Nat),
      m'.sz ≤ n_7 →
      SpecW Try.prog (18 : Nat)
      [Value.slice a_4 n c_2, Value.int IntKind.i64 c, Value.int IntKind.i64 s, Value.bool mine,
      Value.bool is]
      { π := m'.π, sz := n_7, uf := m'.uf : M } S' fun (v : Value) (m' : M) =>
      ∃ (a_6 : Option Addr),
      ∃ (n : Nat),
      ∃ (c_3 : Nat),
      ∃ (b_1 : Bool),
      ∃ (n_8 : Int),
      v = Value.tuple #[Value.slice a_6 n c_3, Value.bool b_1, Value.int IntKind.i64 n_8] ∧
      ∃ (S' : Nat → Prop),
      (∀ (b : Nat), S' b → m'.uf b ∧ (N ≤ b ∨ False)) ∧
      ∀ (n_9 : Nat),
      m'.sz ≤ n_9 →
      SpecW Try.prog (9 : Nat) [Value.slice a l.length cp]
      { π := m'.π, sz := n_9, uf := m'.uf : M } S' fun (v : Value) (m' : M) =>
      ∃ (a_8 : Option Addr),
      ∃ (n_10 : Nat),
      ∃ (c_4 : Nat),
      v = Value.slice a_8 n_10 c_4 ∧
      ∃ (S' : Nat → Prop),
      (∀ (b : Nat), S' b → m'.uf b ∧ (N ≤ b ∨ False)) ∧
      ∀ (n_11 : Nat),
      m'.sz ≤ n_11 →
      SpecW Try.prog (20 : Nat)
      [Value.slice a_8 n_10 c_4, Value.int IntKind.i64 c,
      Value.int IntKind.i64 s]
      { π := m'.π, sz := n_11, uf := m'.uf : M } S'
      fun (v : Value) (m' : M) =>
      ∃ (a_10 : Option Addr),
      ∃ (n_12 : Nat),
      ∃ (c_5 : Nat),
      ∃ (b_2 : Bool),
      ∃ (n_13 : Int),
      v =
      Value.tuple
      #[Value.slice a_10 n_12 c_5, Value.bool b_2,
      Value.int IntKind.i64 n_13] ∧
      ∃ (S' : Nat → Prop),
      (∀ (b : Nat),
      S' b → m'.uf b ∧ (N ≤ b ∨ False)) ∧
      ∀ (n_14 : Nat),
      m'.sz ≤ n_14 →
      SpecW Try.prog (9 : Nat)
      [Value.slice a l.length cp]
      { π := m'.π, sz := n_14, uf := m'.uf : M }
      S' fun (v : Value) (m' : M) =>
      ∃ (a : Option Addr),
      ∃ (n_15 : Nat),
      ∃ (c_6 : Nat),
      v = Value.slice a n_15 c_6 ∧
      ∃ (S' : Nat → Prop),
      (∀ (b : Nat),
      S' b →
      m'.uf b ∧
      (N ≤ b ∨ False)) ∧
      ∀ (n_16 : Nat),
      m'.sz ≤ n_16 →
      SpecW Try.prog
      (22 : Nat)
      [Value.slice a n_15
      c_6,
      Value.int
      IntKind.i64 c,
      Value.int
      IntKind.i64 s]
      { π := m'.π, sz := n_16, uf := m'.uf : M }
      S'
      fun (v : Value)
      (m' : M) =>
      ∃ (a : Option Addr),
      ∃ (n_17 : Nat),
      ∃ (c : Nat),
      ∃ (n_18 : Int),
      v =
      Value.tuple
      #[Value.slice
      a
      n_17
      c,
      Value.int
      IntKind.i64
      n_18] ∧
      ∃ (n_19 :
      Int),
      ∃ (n_20 :
      Int),
      ∃ (s :
      ByteArray),
      ∃ (s_3
      :
      ByteArray),
      ∃
      (n_21
      :
      Int),
      ∃
      (n_22
      :
      Int),
      ∃
      (n_23
      :
      Int),
      ∃
      (n_24
      :
      Int),
      ∃
      (b_3
      :
      Bool),
      QSpec
      Try.prog
      (11 :
      Nat)
      [Value.slice
      a_6
      n
      c_3,
      Value.int
      IntKind.i64
      oc,
      Value.int
      IntKind.i64
      os]
      m'
      (Value.tuple
      #[Value.agg
      #[Value.int
      IntKind.i64
      n_19,
      Value.int
      IntKind.i64
      n_20,
      Value.string
      s,
      Value.string
      s_3,
      Value.int
      IntKind.i64
      n_21,
      Value.int
      IntKind.i64
      n_22,
      Value.int
      IntKind.i64
      n_23,
      Value.int
      IntKind.i64
      n_24],
      Value.bool
      b_3]) ∧
      ∃
      (n
      :
      Int),
      ∃
      (n_25
      :
      Int),
      ∃
      (s_4
      :
      ByteArray),
      ∃
      (s_5
      :
      ByteArray),
      ∃
      (n_26
      :
      Int),
      ∃
      (n_27
      :
      Int),
      ∃
      (n_28
      :
      Int),
      ∃
      (n_29
      :
      Int),
      ∃
      (b_4
      :
      Bool),
      QSpec
      Try.prog
      (11 :
      Nat)
      [Value.slice
      a_10
      n_12
      c_5,
      Value.int
      IntKind.i64
      oc,
      Value.int
      IntKind.i64
      os]
      m'
      (Value.tuple
      #[Value.agg
      #[Value.int
      IntKind.i64
      n,
      Value.int
      IntKind.i64
      n_25,
      Value.string
      s_4,
      Value.string
      s_5,
      Value.int
      IntKind.i64
      n_26,
      Value.int
      IntKind.i64
      n_27,
      Value.int
      IntKind.i64
      n_28,
      Value.int
      IntKind.i64
      n_29],
      Value.bool
      b_4]) ∧
      ∃
      (n_30
      :
      Int),
      ∃
      (n_31
      :
      Int),
      ∃
      (s_6
      :
      ByteArray),
      ∃
      (s_7
      :
      ByteArray),
      ∃
      (n_32
      :
      Int),
      ∃
      (n_33
      :
      Int),
      ∃
      (n_34
      :
      Int),
      ∃
      (n_35
      :
      Int),
      ∃
      (b_5
      :
      Bool),
      QSpec
      Try.prog
      (11 :
      Nat)
      [Value.slice
      a
      n_17
      c,
      Value.int
      IntKind.i64
      oc,
      Value.int
      IntKind.i64
      os]
      m'
      (Value.tuple
      #[Value.agg
      #[Value.int
      IntKind.i64
      n_30,
      Value.int
      IntKind.i64
      n_31,
      Value.string
      s_6,
      Value.string
      s_7,
      Value.int
      IntKind.i64
      n_32,
      Value.int
      IntKind.i64
      n_33,
      Value.int
      IntKind.i64
      n_34,
      Value.int
      IntKind.i64
      n_35],
      Value.bool
      b_5]) ∧
      ifB
      (n_8 ==
      (0 :
      Int))
      (ifB
      (!(n_19 ==
      n_1 &&
      (n_20 ==
      n_2 &&
      (s.toList ==
      s_1.toList &&
      (s_3.toList ==
      s_2.toList &&
      (n_21 ==
      n_3 &&
      (n_22 ==
      n_4 &&
      (n_23 ==
      n_5 &&
      (n_24 ==
      n_6 &&
      true)))))))))
      (Done
      (Value.bool
      false =
      Value.bool
      true))
      (ifB
      (!b_3 ==
      b)
      (Done
      (Value.bool
      false =
      Value.bool
      true))
      (ifB
      (n_13 ==
      (0 :
      Int))
      (ifB
      (!(n ==
      n_1 &&
      (n_25 ==
      n_2 &&
      (s_4.toList ==
      s_1.toList &&
      (s_5.toList ==
      s_2.toList &&
      (n_26 ==
      n_3 &&
      (n_27 ==
      n_4 &&
      (n_28 ==
      n_5 &&
      (n_29 ==
      n_6 &&
      true)))))))))
      (Done
      (Value.bool
      false =
      Value.bool
      true))
      (ifB
      (!b_4 ==
      b)
      (Done
      (Value.bool
      false =
      Value.bool
      true))
      (ifB
      (n_18 ==
      (0 :
      Int))
      (ifB
      (!(n_30 ==
      n_1 &&
      (n_31 ==
      n_2 &&
      (s_6.toList ==
      s_1.toList &&
      (s_7.toList ==
      s_2.toList &&
      (n_32 ==
      n_3 &&
      (n_33 ==
      n_4 &&
      (n_34 ==
      n_5 &&
      (n_35 ==
      n_6 &&
      true)))))))))
      (Done
      (Value.bool
      false =
      Value.bool
      true))
      (ifB
      (!b_5 ==
      b)
      (Done
      (Value.bool
      false =
      Value.bool
      true))
      (ifB
      (n_8 ==
      n_13)
      (ifB
      (n_18 ==
      (0 :
      Int))
      (Done
      (Value.bool
      true =
      Value.bool
      true))
      (ifB
      (n_18 ==
      n_8)
      (Done
      (Value.bool
      true =
      Value.bool
      true))
      (Done
      (Value.bool
      (n_18 ==
      (60 :
      Int)) =
      Value.bool
      true))))
      (Done
      (Value.bool
      false =
      Value.bool
      true)))))
      (ifB
      (n_8 ==
      n_13)
      (ifB
      (n_18 ==
      (0 :
      Int))
      (Done
      (Value.bool
      true =
      Value.bool
      true))
      (ifB
      (n_18 ==
      n_8)
      (Done
      (Value.bool
      true =
      Value.bool
      true))
      (Done
      (Value.bool
      (n_18 ==
      (60 :
      Int)) =
      Value.bool
      true))))
      (Done
      (Value.bool
      false =
      Value.bool
      true))))))
      (ifB
      (n_18 ==
      (0 :
      Int))
      (ifB
      (!(n_30 ==
      n_1 &&
      (n_31 ==
      n_2 &&
      (s_6.toList ==
      s_1.toList &&
      (s_7.toList ==
      s_2.toList &&
      (n_32 ==
      n_3 &&
      (n_33 ==
      n_4 &&
      (n_34 ==
      n_5 &&
      (n_35 ==
      n_6 &&
      true)))))))))
      (Done
      (Value.bool
      false =
      Value.bool
      true))
      (ifB
      (!b_5 ==
      b)
      (Done
      (Value.bool
      false =
      Value.bool
      true))
      (ifB
      (n_8 ==
      n_13)
      (ifB
      (n_18 ==
      (0 :
      Int))
      (Done
      (Value.bool
      true =
      Value.bool
      true))
      (ifB
      (n_18 ==
      n_8)
      (Done
      (Value.bool
      true =
      Value.bool
      true))
      (Done
      (Value.bool
      (n_18 ==
      (60 :
      Int)) =
      Value.bool
      true))))
      (Done
      (Value.bool
      false =
      Value.bool
      true)))))
      (ifB
      (n_8 ==
      n_13)
      (ifB
      (n_18 ==
      (0 :
      Int))
      (Done
      (Value.bool
      true =
      Value.bool
      true))
      (ifB
      (n_18 ==
      n_8)
      (Done
      (Value.bool
      true =
      Value.bool
      true))
      (Done
      (Value.bool
      (n_18 ==
      (60 :
      Int)) =
      Value.bool
      true))))
      (Done
      (Value.bool
      false =
      Value.bool
      true)))))))
      (ifB
      (n_13 ==
      (0 :
      Int))
      (ifB
      (!(n ==
      n_1 &&
      (n_25 ==
      n_2 &&
      (s_4.toList ==
      s_1.toList &&
      (s_5.toList ==
      s_2.toList &&
      (n_26 ==
      n_3 &&
      (n_27 ==
      n_4 &&
      (n_28 ==
      n_5 &&
      (n_29 ==
      n_6 &&
      true)))))))))
      (Done
      (Value.bool
      false =
      Value.bool
      true))
      (ifB
      (!b_4 ==
      b)
      (Done
      (Value.bool
      false =
      Value.bool
      true))
      (ifB
      (n_18 ==
      (0 :
      Int))
      (ifB
      (!(n_30 ==
      n_1 &&
      (n_31 ==
      n_2 &&
      (s_6.toList ==
      s_1.toList &&
      (s_7.toList ==
      s_2.toList &&
      (n_32 ==
      n_3 &&
      (n_33 ==
      n_4 &&
      (n_34 ==
      n_5 &&
      (n_35 ==
      n_6 &&
      true)))))))))
      (Done
      (Value.bool
      false =
      Value.bool
      true))
      (ifB
      (!b_5 ==
      b)
      (Done
      (Value.bool
      false =
      Value.bool
      true))
      (ifB
      (n_8 ==
      n_13)
      (ifB
      (n_18 ==
      (0 :
      Int))
      (Done
      (Value.bool
      true =
      Value.bool
      true))
      (ifB
      (n_18 ==
      n_8)
      (Done
      (Value.bool
      true =
      Value.bool
      true))
      (Done
      (Value.bool
      (n_18 ==
      (60 :
      Int)) =
      Value.bool
      true))))
      (Done
      (Value.bool
      false =
      Value.bool
      true)))))
      (ifB
      (n_8 ==
      n_13)
      (ifB
      (n_18 ==
      (0 :
      Int))
      (Done
      (Value.bool
      true =
      Value.bool
      true))
      (ifB
      (n_18 ==
      n_8)
      (Done
      (Value.bool
      true =
      Value.bool
      true))
      (Done
      (Value.bool
      (n_18 ==
      (60 :
      Int)) =
      Value.bool
      true))))
      (Done
      (Value.bool
      false =
      Value.bool
      true))))))
      (ifB
      (n_18 ==
      (0 :
      Int))
      (ifB
      (!(n_30 ==
      n_1 &&
      (n_31 ==
      n_2 &&
      (s_6.toList ==
      s_1.toList &&
      (s_7.toList ==
      s_2.toList &&
      (n_32 ==
      n_3 &&
      (n_33 ==
      n_4 &&
      (n_34 ==
      n_5 &&
      (n_35 ==
      n_6 &&
      true)))))))))
      (Done
      (Value.bool
      false =
      Value.bool
      true))
      (ifB
      (!b_5 ==
      b)
      (Done
      (Value.bool
      false =
      Value.bool
      true))
      (ifB
      (n_8 ==
      n_13)
      (ifB
      (n_18 ==
      (0 :
      Int))
      (Done
      (Value.bool
      true =
      Value.bool
      true))
      (ifB
      (n_18 ==
      n_8)
      (Done
      (Value.bool
      true =
      Value.bool
      true))
      (Done
      (Value.bool
      (n_18 ==
      (60 :
      Int)) =
      Value.bool
      true))))
      (Done
      (Value.bool
      false =
      Value.bool
      true)))))
      (ifB
      (n_8 ==
      n_13)
      (ifB
      (n_18 ==
      (0 :
      Int))
      (Done
      (Value.bool
      true =
      Value.bool
      true))
      (ifB
      (n_18 ==
      n_8)
      (Done
      (Value.bool
      true =
      Value.bool
      true))
      (Done
      (Value.bool
      (n_18 ==
      (60 :
      Int)) =
      Value.bool
      true))))
      (Done
      (Value.bool
      false =
      Value.bool
      true)))))))
      (∃ (S' : Nat → Prop),
      (∀ (b : Nat), S' b → m.uf b ∧ (N ≤ b ∨ False)) ∧
      ∀ (n : Nat),
      N ≤ n →
      SpecW Try.prog (9 : Nat) [Value.slice a l.length cp] { π := m.π, sz := n, uf := m.uf : M } S' fun (v : Value) (m' : M) =>
      ∃ (a_2 : Option Addr),
      ∃ (n : Nat),
      ∃ (c_1 : Nat),
      v = Value.slice a_2 n c_1 ∧
      ∃ (n_1 : Int),
      ∃ (n_2 : Int),
      ∃ (s_1 : ByteArray),
      ∃ (s_2 : ByteArray),
      ∃ (n_3 : Int),
      ∃ (n_4 : Int),
      ∃ (n_5 : Int),
      ∃ (n_6 : Int),
      ∃ (b : Bool),
      QSpec Try.prog (11 : Nat) [Value.slice a_2 n c_1, Value.int IntKind.i64 oc, Value.int IntKind.i64 os] m'
      (Value.tuple
      #[Value.agg
      #[Value.int IntKind.i64 n_1, Value.int IntKind.i64 n_2, Value.string s_1, Value.string s_2, Value.int IntKind.i64 n_3,
      Value.int IntKind.i64 n_4, Value.int IntKind.i64 n_5, Value.int IntKind.i64 n_6],
      Value.bool b]) ∧
      ∃ (S' : Nat → Prop),
      (∀ (b : Nat), S' b → m'.uf b ∧ (N ≤ b ∨ False)) ∧
      ∀ (n : Nat),
      m'.sz ≤ n →
      SpecW Try.prog (9 : Nat) [Value.slice a l.length cp] { π := m'.π, sz := n, uf := m'.uf : M } S' fun (v : Value) (m' : M) =>
      ∃ (a_4 : Option Addr),
      ∃ (n : Nat),
      ∃ (c_2 : Nat),
      v = Value.slice a_4 n c_2 ∧
      ∃ (S' : Nat → Prop),
      (∀ (b : Nat), S' b → m'.uf b ∧ (N ≤ b ∨ False)) ∧
      ∀ (n_7 : Nat),
      m'.sz ≤ n_7 →
      SpecW Try.prog (18 : Nat)
      [Value.slice a_4 n c_2, Value.int IntKind.i64 c, Value.int IntKind.i64 s, Value.bool mine,
      Value.bool is]
      { π := m'.π, sz := n_7, uf := m'.uf : M } S' fun (v : Value) (m' : M) =>
      ∃ (a_6 : Option Addr),
      ∃ (n : Nat),
      ∃ (c_3 : Nat),
      ∃ (b_1 : Bool),
      ∃ (n_8 : Int),
      v = Value.tuple #[Value.slice a_6 n c_3, Value.bool b_1, Value.int IntKind.i64 n_8] ∧
      ∃ (S' : Nat → Prop),
      (∀ (b : Nat), S' b → m'.uf b ∧ (N ≤ b ∨ False)) ∧
      ∀ (n_9 : Nat),
      m'.sz ≤ n_9 →
      SpecW Try.prog (9 : Nat) [Value.slice a l.length cp]
      { π := m'.π, sz := n_9, uf := m'.uf : M } S' fun (v : Value) (m' : M) =>
      ∃ (a_8 : Option Addr),
      ∃ (n_10 : Nat),
      ∃ (c_4 : Nat),
      v = Value.slice a_8 n_10 c_4 ∧
      ∃ (S' : Nat → Prop),
      (∀ (b : Nat), S' b → m'.uf b ∧ (N ≤ b ∨ False)) ∧
      ∀ (n_11 : Nat),
      m'.sz ≤ n_11 →
      SpecW Try.prog (20 : Nat)
      [Value.slice a_8 n_10 c_4, Value.int IntKind.i64 c,
      Value.int IntKind.i64 s]
      { π := m'.π, sz := n_11, uf := m'.uf : M } S'
      fun (v : Value) (m' : M) =>
      ∃ (a_10 : Option Addr),
      ∃ (n_12 : Nat),
      ∃ (c_5 : Nat),
      ∃ (b_2 : Bool),
      ∃ (n_13 : Int),
      v =
      Value.tuple
      #[Value.slice a_10 n_12 c_5, Value.bool b_2,
      Value.int IntKind.i64 n_13] ∧
      ∃ (S' : Nat → Prop),
      (∀ (b : Nat), S' b → m'.uf b ∧ (N ≤ b ∨ False)) ∧
      ∀ (n_14 : Nat),
      m'.sz ≤ n_14 →
      SpecW Try.prog (9 : Nat)
      [Value.slice a l.length cp]
      { π := m'.π, sz := n_14, uf := m'.uf : M }
      S' fun (v : Value) (m' : M) =>
      ∃ (a : Option Addr),
      ∃ (n_15 : Nat),
      ∃ (c_6 : Nat),
      v = Value.slice a n_15 c_6 ∧
      ∃ (S' : Nat → Prop),
      (∀ (b : Nat),
      S' b →
      m'.uf b ∧
      (N ≤ b ∨ False)) ∧
      ∀ (n_16 : Nat),
      m'.sz ≤ n_16 →
      SpecW Try.prog (22 : Nat)
      [Value.slice a n_15 c_6,
      Value.int IntKind.i64
      c,
      Value.int IntKind.i64
      s]
      { π := m'.π, sz := n_16, uf := m'.uf : M }
      S'
      fun (v : Value)
      (m' : M) =>
      ∃ (a : Option Addr),
      ∃ (n_17 : Nat),
      ∃ (c : Nat),
      ∃ (n_18 : Int),
      v =
      Value.tuple
      #[Value.slice
      a n_17
      c,
      Value.int
      IntKind.i64
      n_18] ∧
      ∃ (n_19 :
      Int),
      ∃ (n_20 :
      Int),
      ∃ (s :
      ByteArray),
      ∃ (s_3 :
      ByteArray),
      ∃
      (n_21
      :
      Int),
      ∃
      (n_22
      :
      Int),
      ∃
      (n_23
      :
      Int),
      ∃
      (n_24
      :
      Int),
      ∃
      (b_3
      :
      Bool),
      QSpec
      Try.prog
      (11 :
      Nat)
      [Value.slice
      a_6
      n
      c_3,
      Value.int
      IntKind.i64
      oc,
      Value.int
      IntKind.i64
      os]
      m'
      (Value.tuple
      #[Value.agg
      #[Value.int
      IntKind.i64
      n_19,
      Value.int
      IntKind.i64
      n_20,
      Value.string
      s,
      Value.string
      s_3,
      Value.int
      IntKind.i64
      n_21,
      Value.int
      IntKind.i64
      n_22,
      Value.int
      IntKind.i64
      n_23,
      Value.int
      IntKind.i64
      n_24],
      Value.bool
      b_3]) ∧
      ∃
      (n
      :
      Int),
      ∃
      (n_25
      :
      Int),
      ∃
      (s_4
      :
      ByteArray),
      ∃
      (s_5
      :
      ByteArray),
      ∃
      (n_26
      :
      Int),
      ∃
      (n_27
      :
      Int),
      ∃
      (n_28
      :
      Int),
      ∃
      (n_29
      :
      Int),
      ∃
      (b_4
      :
      Bool),
      QSpec
      Try.prog
      (11 :
      Nat)
      [Value.slice
      a_10
      n_12
      c_5,
      Value.int
      IntKind.i64
      oc,
      Value.int
      IntKind.i64
      os]
      m'
      (Value.tuple
      #[Value.agg
      #[Value.int
      IntKind.i64
      n,
      Value.int
      IntKind.i64
      n_25,
      Value.string
      s_4,
      Value.string
      s_5,
      Value.int
      IntKind.i64
      n_26,
      Value.int
      IntKind.i64
      n_27,
      Value.int
      IntKind.i64
      n_28,
      Value.int
      IntKind.i64
      n_29],
      Value.bool
      b_4]) ∧
      ∃
      (n_30
      :
      Int),
      ∃
      (n_31
      :
      Int),
      ∃
      (s_6
      :
      ByteArray),
      ∃
      (s_7
      :
      ByteArray),
      ∃
      (n_32
      :
      Int),
      ∃
      (n_33
      :
      Int),
      ∃
      (n_34
      :
      Int),
      ∃
      (n_35
      :
      Int),
      ∃
      (b_5
      :
      Bool),
      QSpec
      Try.prog
      (11 :
      Nat)
      [Value.slice
      a
      n_17
      c,
      Value.int
      IntKind.i64
      oc,
      Value.int
      IntKind.i64
      os]
      m'
      (Value.tuple
      #[Value.agg
      #[Value.int
      IntKind.i64
      n_30,
      Value.int
      IntKind.i64
      n_31,
      Value.string
      s_6,
      Value.string
      s_7,
      Value.int
      IntKind.i64
      n_32,
      Value.int
      IntKind.i64
      n_33,
      Value.int
      IntKind.i64
      n_34,
      Value.int
      IntKind.i64
      n_35],
      Value.bool
      b_5]) ∧
      ifB
      (n_8 ==
      (0 :
      Int))
      (ifB
      (!(n_19 ==
      n_1 &&
      (n_20 ==
      n_2 &&
      (s.toList ==
      s_1.toList &&
      (s_3.toList ==
      s_2.toList &&
      (n_21 ==
      n_3 &&
      (n_22 ==
      n_4 &&
      (n_23 ==
      n_5 &&
      (n_24 ==
      n_6 &&
      true)))))))))
      (Done
      (Value.bool
      false =
      Value.bool
      true))
      (ifB
      (!b_3 ==
      b)
      (Done
      (Value.bool
      false =
      Value.bool
      true))
      (ifB
      (n_13 ==
      (0 :
      Int))
      (ifB
      (!(n ==
      n_1 &&
      (n_25 ==
      n_2 &&
      (s_4.toList ==
      s_1.toList &&
      (s_5.toList ==
      s_2.toList &&
      (n_26 ==
      n_3 &&
      (n_27 ==
      n_4 &&
      (n_28 ==
      n_5 &&
      (n_29 ==
      n_6 &&
      true)))))))))
      (Done
      (Value.bool
      false =
      Value.bool
      true))
      (ifB
      (!b_4 ==
      b)
      (Done
      (Value.bool
      false =
      Value.bool
      true))
      (ifB
      (n_18 ==
      (0 :
      Int))
      (ifB
      (!(n_30 ==
      n_1 &&
      (n_31 ==
      n_2 &&
      (s_6.toList ==
      s_1.toList &&
      (s_7.toList ==
      s_2.toList &&
      (n_32 ==
      n_3 &&
      (n_33 ==
      n_4 &&
      (n_34 ==
      n_5 &&
      (n_35 ==
      n_6 &&
      true)))))))))
      (Done
      (Value.bool
      false =
      Value.bool
      true))
      (ifB
      (!b_5 ==
      b)
      (Done
      (Value.bool
      false =
      Value.bool
      true))
      (ifB
      (n_8 ==
      n_13)
      (ifB
      (n_18 ==
      (0 :
      Int))
      (Done
      (Value.bool
      true =
      Value.bool
      true))
      (ifB
      (n_18 ==
      n_8)
      (Done
      (Value.bool
      true =
      Value.bool
      true))
      (Done
      (Value.bool
      (n_18 ==
      (60 :
      Int)) =
      Value.bool
      true))))
      (Done
      (Value.bool
      false =
      Value.bool
      true)))))
      (ifB
      (n_8 ==
      n_13)
      (ifB
      (n_18 ==
      (0 :
      Int))
      (Done
      (Value.bool
      true =
      Value.bool
      true))
      (ifB
      (n_18 ==
      n_8)
      (Done
      (Value.bool
      true =
      Value.bool
      true))
      (Done
      (Value.bool
      (n_18 ==
      (60 :
      Int)) =
      Value.bool
      true))))
      (Done
      (Value.bool
      false =
      Value.bool
      true))))))
      (ifB
      (n_18 ==
      (0 :
      Int))
      (ifB
      (!(n_30 ==
      n_1 &&
      (n_31 ==
      n_2 &&
      (s_6.toList ==
      s_1.toList &&
      (s_7.toList ==
      s_2.toList &&
      (n_32 ==
      n_3 &&
      (n_33 ==
      n_4 &&
      (n_34 ==
      n_5 &&
      (n_35 ==
      n_6 &&
      true)))))))))
      (Done
      (Value.bool
      false =
      Value.bool
      true))
      (ifB
      (!b_5 ==
      b)
      (Done
      (Value.bool
      false =
      Value.bool
      true))
      (ifB
      (n_8 ==
      n_13)
      (ifB
      (n_18 ==
      (0 :
      Int))
      (Done
      (Value.bool
      true =
      Value.bool
      true))
      (ifB
      (n_18 ==
      n_8)
      (Done
      (Value.bool
      true =
      Value.bool
      true))
      (Done
      (Value.bool
      (n_18 ==
      (60 :
      Int)) =
      Value.bool
      true))))
      (Done
      (Value.bool
      false =
      Value.bool
      true)))))
      (ifB
      (n_8 ==
      n_13)
      (ifB
      (n_18 ==
      (0 :
      Int))
      (Done
      (Value.bool
      true =
      Value.bool
      true))
      (ifB
      (n_18 ==
      n_8)
      (Done
      (Value.bool
      true =
      Value.bool
      true))
      (Done
      (Value.bool
      (n_18 ==
      (60 :
      Int)) =
      Value.bool
      true))))
      (Done
      (Value.bool
      false =
      Value.bool
      true)))))))
      (ifB
      (n_13 ==
      (0 :
      Int))
      (ifB
      (!(n ==
      n_1 &&
      (n_25 ==
      n_2 &&
      (s_4.toList ==
      s_1.toList &&
      (s_5.toList ==
      s_2.toList &&
      (n_26 ==
      n_3 &&
      (n_27 ==
      n_4 &&
      (n_28 ==
      n_5 &&
      (n_29 ==
      n_6 &&
      true)))))))))
      (Done
      (Value.bool
      false =
      Value.bool
      true))
      (ifB
      (!b_4 ==
      b)
      (Done
      (Value.bool
      false =
      Value.bool
      true))
      (ifB
      (n_18 ==
      (0 :
      Int))
      (ifB
      (!(n_30 ==
      n_1 &&
      (n_31 ==
      n_2 &&
      (s_6.toList ==
      s_1.toList &&
      (s_7.toList ==
      s_2.toList &&
      (n_32 ==
      n_3 &&
      (n_33 ==
      n_4 &&
      (n_34 ==
      n_5 &&
      (n_35 ==
      n_6 &&
      true)))))))))
      (Done
      (Value.bool
      false =
      Value.bool
      true))
      (ifB
      (!b_5 ==
      b)
      (Done
      (Value.bool
      false =
      Value.bool
      true))
      (ifB
      (n_8 ==
      n_13)
      (ifB
      (n_18 ==
      (0 :
      Int))
      (Done
      (Value.bool
      true =
      Value.bool
      true))
      (ifB
      (n_18 ==
      n_8)
      (Done
      (Value.bool
      true =
      Value.bool
      true))
      (Done
      (Value.bool
      (n_18 ==
      (60 :
      Int)) =
      Value.bool
      true))))
      (Done
      (Value.bool
      false =
      Value.bool
      true)))))
      (ifB
      (n_8 ==
      n_13)
      (ifB
      (n_18 ==
      (0 :
      Int))
      (Done
      (Value.bool
      true =
      Value.bool
      true))
      (ifB
      (n_18 ==
      n_8)
      (Done
      (Value.bool
      true =
      Value.bool
      true))
      (Done
      (Value.bool
      (n_18 ==
      (60 :
      Int)) =
      Value.bool
      true))))
      (Done
      (Value.bool
      false =
      Value.bool
      true))))))
      (ifB
      (n_18 ==
      (0 :
      Int))
      (ifB
      (!(n_30 ==
      n_1 &&
      (n_31 ==
      n_2 &&
      (s_6.toList ==
      s_1.toList &&
      (s_7.toList ==
      s_2.toList &&
      (n_32 ==
      n_3 &&
      (n_33 ==
      n_4 &&
      (n_34 ==
      n_5 &&
      (n_35 ==
      n_6 &&
      true)))))))))
      (Done
      (Value.bool
      false =
      Value.bool
      true))
      (ifB
      (!b_5 ==
      b)
      (Done
      (Value.bool
      false =
      Value.bool
      true))
      (ifB
      (n_8 ==
      n_13)
      (ifB
      (n_18 ==
      (0 :
      Int))
      (Done
      (Value.bool
      true =
      Value.bool
      true))
      (ifB
      (n_18 ==
      n_8)
      (Done
      (Value.bool
      true =
      Value.bool
      true))
      (Done
      (Value.bool
      (n_18 ==
      (60 :
      Int)) =
      Value.bool
      true))))
      (Done
      (Value.bool
      false =
      Value.bool
      true)))))
      (ifB
      (n_8 ==
      n_13)
      (ifB
      (n_18 ==
      (0 :
      Int))
      (Done
      (Value.bool
      true =
      Value.bool
      true))
      (ifB
      (n_18 ==
      n_8)
      (Done
      (Value.bool
      true =
      Value.bool
      true))
      (Done
      (Value.bool
      (n_18 ==
      (60 :
      Int)) =
      Value.bool
      true))))
      (Done
      (Value.bool
      false =
      Value.bool
      true)))))))) (by kernel_rfl) ?_
  have hh : l.length ≤ 9223372036854775807 := by omega
  have hl1 := say_len l c s mine is
  have hl2 := give_len l c s
  have hl3 := forget_len l c s
  refine ⟨rfl, _, awake_q _, ifB_false (ifB_intro (fun k1 => ifB_intro (fun k2 => ⟨_, awake_q _, ⟨rfl⟩⟩) (fun k2 => ?_)) (fun k1 => ?_))⟩
  all_goals
    have hne : ¬ (c = oc ∧ s = os) := fun e => by first | (simp [e.2] at k2) | (simp [e.1] at k1)
    obtain ⟨q1, q2, q3, q4, q5⟩ := others_law l c s oc os mine is hne
    refine ⟨_, noS, fun N1 hN1 => (own_r a cp l hn _ (h.sz (by omega))).monoW fun v1 m1 ag1 ⟨b1, c1, e1, r1⟩ => ⟨_, _, _, e1, _, _, _, _, _, _, _, _, _, find_q _ _ l oc os hh _ r1, ?_⟩⟩
    have i1 := (h.sz (n := N1) (by omega)).agree ag1
    refine ⟨_, noS, fun N2 hN2 => (own_r a cp l hn _ (i1.sz hN2)).monoW fun v2 m2 ag2 ⟨b2, c2, e2, r2⟩ => ⟨_, _, _, e2, ?_⟩⟩
    have i2 := (i1.sz hN2).agree ag2
    refine ⟨_, noS, fun N3 hN3 => (saying_s _ _ l c s mine is hh (fun e => by simp at e) _ (r2.sz hN3)).monoW fun v3 m3 ag3 ⟨a3, c3, e3, r3⟩ => ⟨_, _, _, _, _, e3, ?_⟩⟩
    have i3 := (i2.sz hN3).agree ag3
    have s3 := r3.row
    refine ⟨_, noS, fun N4 hN4 => (own_r a cp l hn _ (i3.sz hN4)).monoW fun v4 m4 ag4 ⟨b4, c4, e4, r4⟩ => ⟨_, _, _, e4, ?_⟩⟩
    have i4 := (i3.sz hN4).agree ag4
    have s4 := (s3.sz hN4).agree ag4
    refine ⟨_, noS, fun N5 hN5 => (give_s _ _ l c s hh (fun e => by simp at e) _ (r4.sz hN5)).monoW fun v5 m5 ag5 ⟨a5, c5, e5, r5⟩ => ⟨_, _, _, _, _, e5, ?_⟩⟩
    have i5 := (i4.sz hN5).agree ag5
    have s5 := (s4.sz hN5).agree ag5
    have t5 := r5.row
    refine ⟨_, noS, fun N6 hN6 => (own_r a cp l hn _ (i5.sz hN6)).monoW fun v6 m6 ag6 ⟨b6, c6, e6, r6⟩ => ⟨_, _, _, e6, ?_⟩⟩
    have s6 := (s5.sz hN6).agree ag6
    have t6 := (t5.sz hN6).agree ag6
    refine ⟨_, noS, fun N7 hN7 => (forget_s _ _ l c s hh (fun e => by simp at e) _ (r6.sz hN7)).monoW fun v7 m7 ag7 ⟨a7, c7, e7, r7⟩ => ⟨_, _, _, _, e7, ?_⟩⟩
    have s7 := (s6.sz hN7).agree ag7
    have t7 := (t6.sz hN7).agree ag7
    refine ⟨_, _, _, _, _, _, _, _, _, find_q _ _ _ oc os (by omega) _ s7, _, _, _, _, _, _, _, _, _, find_q _ _ _ oc os (by omega) _ t7, _, _, _, _, _, _, _, _, _, find_q _ _ _ oc os (by omega) _ r7.row, ?_⟩
    rw [q1, q2]
    by_cases he : foundE l c s = 0
    · obtain ⟨q6, q7⟩ := q3 he
      rw [q6, q7, he]
      simp only [beq_self_eq_true, Bool.and_self, Bool.not_true]
      refine ifB_true (ifB_false (ifB_false (ifB_true (ifB_false (ifB_false ?_)))))
      by_cases hz : (forgetD l c s).2 = 0
      · rw [q4 hz, hz]
        simp only [beq_self_eq_true, Bool.and_self, Bool.not_true]
        exact ifB_true (ifB_false (ifB_false (ifB_true (ifB_true ⟨trivial⟩))))
      · have hz2 : (forgetD l c s).2 = 60 := by omega
        rw [hz2]
        exact ifB_false (ifB_true (ifB_false (ifB_false ⟨rfl⟩)))
    · have e0 : (foundE l c s == 0) = false := by simpa using he
      have hz : (forgetD l c s).2 = foundE l c s := by simp [forgetD, he]
      rw [hz]
      simp only [e0, beq_self_eq_true]
      exact ifB_false (ifB_false (ifB_false (ifB_true (ifB_false (ifB_true ⟨trivial⟩)))))

end Go.Proofs.Ytoilbbfidnhekaa
set_option linter.unusedVariables false
set_option linter.unusedSimpArgs false
namespace Go.Proofs.Ytoilbbfidnhekaa
open Go.Vc Go.RowKit Go.ChangeShapes Go.WideShapes Go.ChangeAt
set_option maxRecDepth 100000

structure Wd where
  gv : Bool
  mi : Bool
  is : Bool

abbrev encW (w : Wd) : List Value := [.bool w.gv, .bool w.mi, .bool w.is]

abbrev wds (l : List Wd) : List Value := l.flatMap encW

theorem wd_k (w : Wd) : (encW w).length = 3 := rfl

theorem wd_len (l : List Wd) : (wds l).length = l.length * 3 := flat_len wd_k l

theorem wd_at {m : M} {b o i : Nat} {l : List Wd} (h : CellsAt m b o (wds l)) (hi : i < l.length) : CellsAt m b (o + i * 3) (encW l[i]) := CellsAt.elem wd_k l o i hi h

/-- the deal with other words and another fate -/
def dW (d : Dl) (mi th ft : Int) : Dl := { d with mi := mi, th := th, ft := ft }

def decV (ft : Int) : Int := if ft = 0 then 0 else 1

structure OnX where
  k : Nat
  mi : Int
  th : Int
  ft : Int
  dec : Int
  yes : Bool
  wd : Wd
  B : List Dl
  a : Option Addr
  c : Nat
  m : M

def OnX.mi2 (y : OnX) : Int := if y.ft = 0 ∧ y.wd.mi = true ∧ y.mi = 0 then wordD y.wd.is else y.mi

def OnX.th2 (y : OnX) : Int := if y.ft = 0 ∧ y.wd.mi = false ∧ y.th = 0 then wordD y.wd.is else y.th

def OnX.ft2 (y : OnX) : Int := if y.ft ≠ 0 then y.ft else fateV y.mi2 y.th2

structure OnB (d : Dl) (n : Nat) (m : M) (y : OnX) (mi th ft : Int) : Prop where
  right : booksB y.B = true
  len : y.B.length = n + 1
  fnd : y.B.find? (isD d.cl d.sq) = some (dW d mi th ft)
  row : Row y.m y.a (dls y.B)
  ag : Agree m.sz m y.m

def onceAnn (d : Dl) (l : List Dl) (a : Option Addr) (cp : Nat) (aw : Option Addr) (cw : Nat) (ws : List Wd) (m : M) : Nat → Ann
  | 21 => {
    A := OnX
    inv := fun y => y.k < ws.length ∧ y.dec = decV y.ft ∧ y.yes = decide (y.ft = 0 ∧ y.ft2 ≠ 0) ∧ OnB d l.length m y y.mi2 y.th2 y.ft2
    st := fun y => [(13, .val (I y.k)), (2, .val (.slice aw ws.length cw)), (7, .val (.slice y.a y.B.length y.c)), (4, .own 0 0), (0, .val (.slice a l.length cp)), (9, .val (I y.mi)), (10, .val (I y.th)), (11, .val (I y.ft)), (12, .val (I y.dec)), (15, .val (.bool y.yes)), (16, .val (I 0)), (14, .own 28 0), (17, .val (I (wordD y.wd.is)))]
    own := fun y => [(0, ⟨24, encDl d⟩), (28, ⟨42, encW y.wd⟩)]
    m := fun y => y.m
    μ := fun _ => 0
    cut := true
    link := some fun y ctx => ctx = [ws.length - y.k] }
  | 23 => {
    A := OnX
    inv := fun y => y.k < ws.length ∧ y.dec = decV y.ft ∧ y.yes = decide (y.ft = 0 ∧ y.ft2 ≠ 0) ∧ OnB d l.length m y y.mi2 y.th2 y.ft2
    st := fun y => [(13, .val (I y.k)), (2, .val (.slice aw ws.length cw)), (7, .val (.slice y.a y.B.length y.c)), (4, .own 0 0), (0, .val (.slice a l.length cp)), (9, .val (I y.mi2)), (10, .val (I y.th)), (11, .val (I y.ft)), (12, .val (I y.dec)), (15, .val (.bool y.yes)), (16, .val (I 0)), (14, .own 28 0), (17, .val (I (wordD y.wd.is)))]
    own := fun y => [(0, ⟨24, encDl d⟩), (28, ⟨42, encW y.wd⟩)]
    m := fun y => y.m
    μ := fun _ => 0
    cut := true
    link := some fun y ctx => ctx = [ws.length - y.k] }
  | 25 => {
    A := OnX
    inv := fun y => y.k < ws.length ∧ y.dec = decV y.ft ∧ y.yes = decide (y.ft = 0 ∧ y.ft2 ≠ 0) ∧ OnB d l.length m y y.mi2 y.th2 y.ft2
    st := fun y => [(13, .val (I y.k)), (2, .val (.slice aw ws.length cw)), (7, .val (.slice y.a y.B.length y.c)), (4, .own 0 0), (0, .val (.slice a l.length cp)), (9, .val (I y.mi2)), (10, .val (I y.th2)), (11, .val (I y.ft)), (12, .val (I y.dec)), (15, .val (.bool y.yes)), (16, .val (I 0))]
    own := fun y => [(0, ⟨24, encDl d⟩)]
    m := fun y => y.m
    μ := fun _ => 0
    cut := true
    link := some fun y ctx => ctx = [ws.length - y.k] }
  | 30 => {
    A := OnX
    inv := fun y => y.k < ws.length ∧ y.dec + (if y.yes then 1 else 0) = decV y.ft ∧ 0 ≤ y.dec ∧ OnB d l.length m y y.mi y.th y.ft
    st := fun y => [(13, .val (I y.k)), (2, .val (.slice aw ws.length cw)), (7, .val (.slice y.a y.B.length y.c)), (4, .own 0 0), (0, .val (.slice a l.length cp)), (9, .val (I y.mi)), (10, .val (I y.th)), (11, .val (I y.ft)), (12, .val (I y.dec)), (15, .val (.bool y.yes)), (16, .val (I 0))]
    own := fun y => [(0, ⟨24, encDl d⟩)]
    m := fun y => y.m
    μ := fun _ => 0
    cut := true
    link := some fun y ctx => ctx = [ws.length - y.k] }
  | 8 => {
    A := OnX
    inv := fun y => y.k ≤ ws.length ∧ OnB d l.length m y y.mi y.th y.ft
    st := fun y => [(13, .val (I y.k)), (2, .val (.slice aw ws.length cw)), (7, .val (.slice y.a y.B.length y.c)), (4, .own 0 0), (0, .val (.slice a l.length cp)), (9, .val (I y.mi)), (10, .val (I y.th)), (11, .val (I y.ft)), (12, .val (I (decV y.ft)))]
    own := fun y => [(0, ⟨24, encDl d⟩)]
    m := fun y => y.m
    μ := fun y => ws.length - y.k }
  | _ => noAnn 0

theorem call_law {B : List Dl} {c s : Int} {x : Dl} (hb : booksB B = true) (hf : B.find? (isD c s) = some x) : foundE B c s = 0 ∧ mayB x = true ∧ keyD x = (c, s) ∧ ∃ k, ∃ hk : k < B.length, placeD B c s = k ∧ B[k] = x ∧ atD B c s = x := by
  rcases place_find B c s with ⟨-, h⟩ | ⟨k, hk, e, h, e2⟩
  · rw [h] at hf; simp at hf
  · rw [h] at hf
    have hx : B[k] = x := by simpa using hf
    subst hx
    exact ⟨by simp [foundE, hb, e], ((books_iff B).1 hb).2.1 _ (List.getElem_mem hk), e2, k, hk, e, rfl, by simp [atD, e, List.getElem?_eq_getElem hk]⟩

theorem set_find {B : List Dl} (hb : booksB B = true) {k : Nat} (hk : k < B.length) {x : Dl} (hx : mayB x = true) (hkey : keyD x = keyD B[k]) {c s : Int} (hc : keyD B[k] = (c, s)) : (B.set k x).find? (isD c s) = some x := by
  have h1 := books_set hb hk hx hkey
  have hk2 : k < (B.set k x).length := by simpa using hk
  have := find_key ((books_iff _).1 h1).2.2 hk2
  have e : (B.set k x)[k] = x := List.getElem_set_self _
  rw [e] at this
  have e3 := hkey.trans hc
  simp only [keyD, Prod.mk.injEq] at e3
  rw [e3.1, e3.2] at this
  exact this

theorem give_law {B : List Dl} {c s : Int} {x : Dl} (hb : booksB B = true) (hf : B.find? (isD c s) = some x) :
    booksB (giveD B c s).1 = true ∧ (giveD B c s).1.length = B.length ∧ (giveD B c s).1.find? (isD c s) = some (givenD x) ∧ (giveD B c s).2 = (decide (x.ft = 0), 0) := by
  obtain ⟨h1, h2, h3, k, hk, h4, h5, h6⟩ := call_law hb hf
  have e : giveD B c s = (B.set k (givenD x), decide (x.ft = 0), 0) := by simp [giveD, h1, h6, h4]
  rw [e]
  have hg := may_given h2
  have hkey : keyD (givenD x) = keyD B[k] := by rw [key_given, h5]
  exact ⟨books_set hb hk hg hkey, by simp, set_find hb hk hg hkey (by rw [h5]; exact h3), rfl⟩

theorem say_law {B : List Dl} {c s : Int} {x : Dl} (hb : booksB B = true) (hf : B.find? (isD c s) = some x) (mine is : Bool) :
    booksB (sayD B c s mine is).1 = true ∧ (sayD B c s mine is).1.length = B.length ∧ (sayD B c s mine is).1.find? (isD c s) = some (saidD x mine is) ∧ (sayD B c s mine is).2 = (decide (x.ft = 0 ∧ (saidD x mine is).ft ≠ 0), 0) := by
  obtain ⟨h1, h2, h3, k, hk, h4, h5, h6⟩ := call_law hb hf
  have e : sayD B c s mine is = (B.set k (saidD x mine is), decide (x.ft = 0 ∧ (saidD x mine is).ft ≠ 0), 0) := by simp [sayD, h1, h6, h4]
  rw [e]
  have hg := may_said h2 mine is
  have hkey : keyD (saidD x mine is) = keyD B[k] := by rw [key_said, h5]
  exact ⟨books_set hb hk hg hkey, by simp, set_find hb hk hg hkey (by rw [h5]; exact h3), rfl⟩

theorem given_dW (d : Dl) (mi th ft : Int) : givenD (dW d mi th ft) = dW d mi th (if ft = 0 then 2 else ft) := by
  unfold givenD dW
  by_cases h : ft = 0 <;> simp [h]

theorem said_dW (d : Dl) (y : OnX) (h : mayB (dW d y.mi y.th y.ft) = true) : saidD (dW d y.mi y.th y.ft) y.wd.mi y.wd.is = dW d y.mi2 y.th2 y.ft2 := by
  by_cases h0 : y.ft = 0
  rotate_left
  · simp [saidD, dW, OnX.mi2, OnX.th2, OnX.ft2, h0]
  have hf : fateV y.mi y.th = 0 := by
    simp only [mayB, dW, Bool.and_eq_true, Bool.or_eq_true, decide_eq_true_eq, h0] at h
    rcases h.2 with h | h
    · exact h.symm
    · exact h.1
  cases hm : y.wd.mi
  · by_cases h1 : y.th = 0 <;> simp [saidD, dW, OnX.mi2, OnX.th2, OnX.ft2, h0, hm, h1, hf]
  · by_cases h1 : y.mi = 0 <;> simp [saidD, dW, OnX.mi2, OnX.th2, OnX.ft2, h0, hm, h1, hf]

theorem find_on {B : List Dl} {c s : Int} {x : Dl} (hb : booksB B = true) (hf : B.find? (isD c s) = some x) : findD B c s = (x, true) := by
  rw [findD_eq, if_pos hb, hf]; rfl

theorem open_on {l : List Dl} {d : Dl} (h : (openD l d).2 = 0) : openD l d = (l ++ [d], 0) ∧ booksB (l ++ [d]) = true ∧ (l ++ [d]).find? (isD d.cl d.sq) = some (dW d 0 0 0) := by
  unfold openD at h ⊢
  split at h
  · simp at h
  split at h
  · simp at h
  split at h
  · simp at h
  split at h
  · simp at h
  rename_i h1 h2 h3 h4
  rw [if_neg h1, if_neg h2, if_neg h3, if_neg h4]
  have hb : booksB l = true := by simpa using h1
  have hn : newD d = true := by simpa using h2
  simp only [newD, Bool.and_eq_true, decide_eq_true_eq] at hn
  have hp : l.find? (isD d.cl d.sq) = none := by
    rcases place_find l d.cl d.sq with ⟨-, h⟩ | ⟨k, hk, e, -, -⟩
    · exact h
    · omega
  have e : dW d 0 0 0 = d := by
    obtain ⟨⟨⟨-, g1⟩, g2⟩, g3⟩ := hn
    cases d; simp only [dW] at *; simp [g1, g2, g3]
  rw [e]
  obtain ⟨b1, b2, b3⟩ := (books_iff l).1 hb
  refine ⟨rfl, ?_, by simp [List.find?_append, hp, isD]⟩
  rw [books_iff]
  refine ⟨by simp; omega, fun x hx => ?_, ?_⟩
  · rcases List.mem_append.1 hx with hx | hx
    · exact b2 x hx
    · have : x = d := by simpa using hx
      subst this; exact hn.1.1.1
  · rw [List.map_append, List.nodup_append]
    refine ⟨b3, by simp, fun x hx z hz => ?_⟩
    rw [List.find?_eq_none] at hp
    obtain ⟨w, hw, rfl⟩ := List.mem_map.1 hx
    have hz : z = keyD d := by simpa using hz
    subst hz
    intro e
    exact hp w hw (isD_iff.2 e)

theorem open_off {l : List Dl} {d : Dl} (h : (openD l d).2 ≠ 0) : (openD l d).1 = [] := by
  unfold openD at h ⊢
  repeat' split
  all_goals simp_all

end Go.Proofs.Ytoilbbfidnhekaa
