/-
  Contracts of functions of this seat: what each hands back, and what it leaves of memory (acc5). Nothing here is trusted: Lean checks it.
-/
import Derived.Test.YtfkielfnceeedaaAcc4
set_option linter.unusedVariables false
set_option linter.unusedSimpArgs false
namespace Go.Proofs.Ytfkielfnceeedaa
open Go.Vc Go.RowKit

theorem above_q (W k : Int) (hW : -85070591730234615865843651857942052864 ≤ W ∧ W ≤ 85070591730234615865843651857942052864) (hk : In64 k) (m : M) : QSpec Try.prog 70 [wide W, I k] m (.bool (decide (W > k))) := by
  refine QSpec.of_vc Try.func70 (ann := fun _ => noAnn) fun n hn => ?_
  refine vc_by (X :=
      true = true ∧
      ∃ (n_1 : Int),
      ∃ (n_2 : Int),
      QSpec Try.prog (62 : Nat) [Value.agg #[Value.int IntKind.i64 (wideHi W), Value.int IntKind.u64 (wideLo W)], Value.int IntKind.i64 k] { π := m.π, sz := n, uf := m.uf : M }
      (Value.agg #[Value.int IntKind.i64 n_1, Value.int IntKind.u64 n_2]) ∧
      ifB (decide (n_1 > (0 : Int))) (Done (Value.bool true = Value.bool (decide (W > k))))
      (ifB (n_1 == (0 : Int)) (Done (Value.bool (decide (n_2 > (0 : Int))) = Value.bool (decide (W > k)))) (Done (Value.bool false = Value.bool (decide (W > k)))))) (by kernel_rfl) ?_
  refine ⟨rfl, _, _, less_q W k hk _, ?_⟩
  unfold In64 at hk
  refine ifB_intro (fun h => ⟨?_⟩) (fun h => ifB_intro (fun h2 => ⟨?_⟩) (fun h2 => ⟨?_⟩))
  all_goals simp only [Value.bool.injEq, eq_comm (a := true), eq_comm (a := false), decide_eq_true_eq, decide_eq_false_iff_not, decide_eq_decide, beq_iff_eq, beq_eq_false_iff_ne] at *
  all_goals simp [wideHi, wideLo, IntKind.wrap_i64] at *
  all_goals omega

theorem rkey_q (k : ByteArray) (m : M) : QSpec Try.prog 67 [.string k] m (.bool (keyB k)) := by
  refine QSpec.of_vc Try.func67 (ann := fun _ => noAnn) fun n hn => ?_
  refine vc_by (X :=
      true = true ∧
      ifB (decide ((↑k.size : Int) ≥ (1 : Int))) (Done (Value.bool (decide ((↑k.size : Int) ≤ (16 : Int))) = Value.bool (keyB k))) (Done (Value.bool false = Value.bool (keyB k)))) (by kernel_rfl) ?_
  refine ⟨rfl, ifB_intro (fun h => ⟨?_⟩) (fun h => ⟨?_⟩)⟩
  · have h1 : 1 ≤ k.size := by simp at h; omega
    simp [keyB, h1]; omega
  · simp at h; simp [keyB]; omega

theorem rlocked_q (k : Lk) (m : M) : QSpec Try.prog 71 [.agg #[I k.cl, I k.sq, I k.hm, I k.n]] m (.bool (keeperB k)) := by
  refine QSpec.of_vc Try.func71 (ann := fun _ => noAnn) fun n hn => ?_
  refine vc_by (X :=
      true = true ∧
      ifB (decide (k.cl ≥ (1 : Int)))
      (ifB (decide (k.sq ≥ (1 : Int)))
      (ifB (decide (k.hm ≥ (1 : Int))) (Done (Value.bool (decide (k.hm < (8 : Int))) = Value.bool (keeperB k))) (Done (Value.bool false = Value.bool (keeperB k))))
      (Done (Value.bool false = Value.bool (keeperB k))))
      (Done (Value.bool false = Value.bool (keeperB k)))) (by kernel_rfl) ?_
  refine ⟨rfl, ?_⟩
  repeat' (refine ifB_intro (fun h => ?_) (fun h => ?_))
  all_goals (refine ⟨?_⟩; simp at *; simp [keeperB]; omega)

structure EndsX where
  k : Nat
  m : M

def endsAnn (x : Ac) (a : Option Addr) (c : Nat) (m : M) : Nat → Ann
  | 2 => {
    A := M
    inv y := Agree m.sz m y
    st y := [(1, .own 0 0), (2, .own 1 0), (3, .own 2 0), (4, .own 11 0), (5, .own 12 0)]
    own _ := [(0, ⟨46, acc x a c⟩), (1, ⟨108, [I 0, U 0]⟩), (2, ⟨108, [I 0, U 0]⟩), (11, ⟨108, [I (wideHi x.base), U (wideLo x.base)]⟩), (12, ⟨108, [I (wideHi x.base), U (wideLo x.base)]⟩)]
    m y := y
    μ y := 0
    cut := true }
  | _ => {
    A := EndsX
    inv y := y.k ≤ x.hs.length ∧ Agree m.sz m y.m
    st y := [(6, .val (I y.k)), (1, .own 0 0), (2, .own 1 0), (3, .own 2 0), (4, .own 11 0), (5, .own 12 0)]
    own y := [(0, ⟨46, acc x a c⟩), (1, ⟨108, [I 0, U 0]⟩), (2, ⟨108, [I 0, U 0]⟩), (11, ⟨108, [I (wideHi (sumI ((dnsL x).take (y.k + 1)))), U (wideLo (sumI ((dnsL x).take (y.k + 1))))]⟩), (12, ⟨108, [I (wideHi (sumI ((upsL x).take (y.k + 1)))), U (wideLo (sumI ((upsL x).take (y.k + 1))))]⟩)]
    m y := y.m
    μ y := x.hs.length - y.k }

theorem ends_q (x : Ac) (a : Option Addr) (c : Nat) (hx : x.wf) (m : M) (h : Row m a (hds x.hs)) : QSpec Try.prog 69 [acv x a c] m (.tuple #[wide (sumI (dnsL x)), wide (sumI (upsL x))]) := by
  refine QSpec.of_vc Try.func69 (ann := fun n => endsAnn x a c { m with sz := n }) fun n hn => ?_
  refine vc_by (X :=
      true = true ∧
      (true = true ∧
      (true = true ∧
      ∀ (b : Nat),
      n ≤ b →
      MLe { π := m.π, sz := n, uf := m.uf : M } ({ π := m.π, sz := n, uf := m.uf : M }.newBlock b [Value.int IntKind.i64 x.base]) ∧
      ∃ (n_1 : Int),
      ∃ (n_2 : Int),
      QSpec Try.prog (60 : Nat) [Value.slice (some { block := b, off := (0 : Nat) : Addr }) (1 : Nat) (1 : Nat)]
      ({ π := m.π, sz := n, uf := m.uf : M }.newBlock b [Value.int IntKind.i64 x.base]) (Value.agg #[Value.int IntKind.i64 n_1, Value.int IntKind.u64 n_2]) ∧
      (true = true ∧
      ∀ (b_1 : Nat),
      max n (b + (1 : Nat)) ≤ b_1 →
      MLe ({ π := m.π, sz := n, uf := m.uf : M }.newBlock b [Value.int IntKind.i64 x.base])
      (({ π := m.π, sz := n, uf := m.uf : M }.newBlock b [Value.int IntKind.i64 x.base]).newBlock b_1 [Value.int IntKind.i64 x.base]) ∧
      ∃ (n_3 : Int),
      ∃ (n_4 : Int),
      QSpec Try.prog (60 : Nat) [Value.slice (some { block := b_1, off := (0 : Nat) : Addr }) (1 : Nat) (1 : Nat)]
      (({ π := m.π, sz := n, uf := m.uf : M }.newBlock b [Value.int IntKind.i64 x.base]).newBlock b_1 [Value.int IntKind.i64 x.base])
      (Value.agg #[Value.int IntKind.i64 n_3, Value.int IntKind.u64 n_4]) ∧
      ∃ (x_1 : M),
      Agree n { π := m.π, sz := n, uf := m.uf : M } x_1 ∧
      ({ π := m.π, sz := n, uf := m.uf : M }.newBlock b [Value.int IntKind.i64 x.base]).newBlock b_1 [Value.int IntKind.i64 x.base] = x_1 ∧
      ((SV.own ((0 : Nat) + (0 : Nat)) (0 : Nat) = SV.own (0 : Nat) (0 : Nat) ∧ true = true) ∧
      (SV.own ((0 : Nat) + (1 : Nat)) (0 : Nat) = SV.own (1 : Nat) (0 : Nat) ∧ true = true) ∧
      (SV.own ((0 : Nat) + (2 : Nat)) (0 : Nat) = SV.own (2 : Nat) (0 : Nat) ∧ true = true) ∧
      (SV.own ((0 : Nat) + (3 : Nat) + (8 : Nat)) (0 : Nat) = SV.own (11 : Nat) (0 : Nat) ∧ true = true) ∧
      (SV.own ((0 : Nat) + (3 : Nat) + (9 : Nat)) (0 : Nat) = SV.own (12 : Nat) (0 : Nat) ∧ true = true) ∧ True) ∧
      (some
      { ty := (46 : Nat), cs := [Value.string x.key, Value.int IntKind.i64 x.lo, Value.int IntKind.i64 x.hi, Value.int IntKind.i64 x.base, Value.int IntKind.i64 x.round, Value.slice a x.hs.length c, Value.int IntKind.i64 x.lk.cl, Value.int IntKind.i64 x.lk.sq, Value.int IntKind.i64 x.lk.hm, Value.int IntKind.i64 x.lk.n] : Bx } =
      some
      { ty := (46 : TypeId), cs := [Value.string x.key, Value.int IntKind.i64 x.lo, Value.int IntKind.i64 x.hi, Value.int IntKind.i64 x.base, Value.int IntKind.i64 x.round, Value.slice a x.hs.length c, Value.int IntKind.i64 x.lk.cl, Value.int IntKind.i64 x.lk.sq, Value.int IntKind.i64 x.lk.hm, Value.int IntKind.i64 x.lk.n] : Bx } ∧
      true = true) ∧
      (some { ty := (108 : Nat), cs := [Value.int IntKind.i64 (0 : Int), Value.int IntKind.u64 (0 : Int)] : Bx } =
      some { ty := (108 : TypeId), cs := [Value.int IntKind.i64 (0 : Int), Value.int IntKind.u64 (0 : Int)] : Bx } ∧
      true = true) ∧
      (some { ty := (108 : Nat), cs := [Value.int IntKind.i64 (0 : Int), Value.int IntKind.u64 (0 : Int)] : Bx } =
      some { ty := (108 : TypeId), cs := [Value.int IntKind.i64 (0 : Int), Value.int IntKind.u64 (0 : Int)] : Bx } ∧
      true = true) ∧
      (some { ty := (108 : Nat), cs := [Value.int IntKind.i64 n_1, Value.int IntKind.u64 n_2] : Bx } =
      some { ty := (108 : TypeId), cs := [Value.int IntKind.i64 (wideHi x.base), Value.int IntKind.u64 (wideLo x.base)] : Bx } ∧
      true = true) ∧
      (some { ty := (108 : Nat), cs := [Value.int IntKind.i64 n_3, Value.int IntKind.u64 n_4] : Bx } =
      some
      { ty := (108 : TypeId), cs := [Value.int IntKind.i64 (wideHi x.base), Value.int IntKind.u64 (wideLo x.base)] : Bx } ∧
      true = true) ∧
      True) ∧
      True) ∧
      (true = true ∧
      ∀ (b : Nat),
      n ≤ b →
      MLe { π := m.π, sz := n, uf := m.uf : M } ({ π := m.π, sz := n, uf := m.uf : M }.newBlock b [Value.int IntKind.i64 x.base]) ∧
      (true = true ∧
      ∀ (b_1 : Nat),
      max n (b + (1 : Nat)) ≤ b_1 →
      MLe ({ π := m.π, sz := n, uf := m.uf : M }.newBlock b [Value.int IntKind.i64 x.base])
      (({ π := m.π, sz := n, uf := m.uf : M }.newBlock b [Value.int IntKind.i64 x.base]).newBlock b_1 [Value.int IntKind.i64 x.base]) ∧
      ∃ (n_1 : Int),
      ∃ (n_2 : Int),
      QSpec Try.prog (60 : Nat) [Value.slice (some { block := b_1, off := (0 : Nat) : Addr }) (1 : Nat) (1 : Nat)]
      (({ π := m.π, sz := n, uf := m.uf : M }.newBlock b [Value.int IntKind.i64 x.base]).newBlock b_1 [Value.int IntKind.i64 x.base])
      (Value.agg #[Value.int IntKind.i64 n_1, Value.int IntKind.u64 n_2]) ∧
      ∃ (n_3 : Int),
      ∃ (n_4 : Int),
      QSpec Try.prog (60 : Nat) [Value.slice (some { block := b, off := (0 : Nat) : Addr }) (1 : Nat) (1 : Nat)]
      (({ π := m.π, sz := n, uf := m.uf : M }.newBlock b [Value.int IntKind.i64 x.base]).newBlock b_1 [Value.int IntKind.i64 x.base])
      (Value.agg #[Value.int IntKind.i64 n_3, Value.int IntKind.u64 n_4]) ∧
      ∃ (x_1 : M),
      Agree n { π := m.π, sz := n, uf := m.uf : M } x_1 ∧
      ({ π := m.π, sz := n, uf := m.uf : M }.newBlock b [Value.int IntKind.i64 x.base]).newBlock b_1 [Value.int IntKind.i64 x.base] = x_1 ∧
      ((SV.own ((0 : Nat) + (0 : Nat)) (0 : Nat) = SV.own (0 : Nat) (0 : Nat) ∧ true = true) ∧
      (SV.own ((0 : Nat) + (1 : Nat)) (0 : Nat) = SV.own (1 : Nat) (0 : Nat) ∧ true = true) ∧
      (SV.own ((0 : Nat) + (2 : Nat)) (0 : Nat) = SV.own (2 : Nat) (0 : Nat) ∧ true = true) ∧
      (SV.own ((0 : Nat) + (3 : Nat) + (8 : Nat)) (0 : Nat) = SV.own (11 : Nat) (0 : Nat) ∧ true = true) ∧
      (SV.own ((0 : Nat) + (3 : Nat) + (9 : Nat)) (0 : Nat) = SV.own (12 : Nat) (0 : Nat) ∧ true = true) ∧ True) ∧
      (some
      { ty := (46 : Nat), cs := [Value.string x.key, Value.int IntKind.i64 x.lo, Value.int IntKind.i64 x.hi, Value.int IntKind.i64 x.base, Value.int IntKind.i64 x.round, Value.slice a x.hs.length c, Value.int IntKind.i64 x.lk.cl, Value.int IntKind.i64 x.lk.sq, Value.int IntKind.i64 x.lk.hm, Value.int IntKind.i64 x.lk.n] : Bx } =
      some
      { ty := (46 : TypeId), cs := [Value.string x.key, Value.int IntKind.i64 x.lo, Value.int IntKind.i64 x.hi, Value.int IntKind.i64 x.base, Value.int IntKind.i64 x.round, Value.slice a x.hs.length c, Value.int IntKind.i64 x.lk.cl, Value.int IntKind.i64 x.lk.sq, Value.int IntKind.i64 x.lk.hm, Value.int IntKind.i64 x.lk.n] : Bx } ∧
      true = true) ∧
      (some { ty := (108 : Nat), cs := [Value.int IntKind.i64 (0 : Int), Value.int IntKind.u64 (0 : Int)] : Bx } =
      some { ty := (108 : TypeId), cs := [Value.int IntKind.i64 (0 : Int), Value.int IntKind.u64 (0 : Int)] : Bx } ∧
      true = true) ∧
      (some { ty := (108 : Nat), cs := [Value.int IntKind.i64 (0 : Int), Value.int IntKind.u64 (0 : Int)] : Bx } =
      some { ty := (108 : TypeId), cs := [Value.int IntKind.i64 (0 : Int), Value.int IntKind.u64 (0 : Int)] : Bx } ∧
      true = true) ∧
      (some { ty := (108 : Nat), cs := [Value.int IntKind.i64 n_1, Value.int IntKind.u64 n_2] : Bx } =
      some
      { ty := (108 : TypeId), cs := [Value.int IntKind.i64 (wideHi x.base), Value.int IntKind.u64 (wideLo x.base)] : Bx } ∧
      true = true) ∧
      (some { ty := (108 : Nat), cs := [Value.int IntKind.i64 n_3, Value.int IntKind.u64 n_4] : Bx } =
      some
      { ty := (108 : TypeId), cs := [Value.int IntKind.i64 (wideHi x.base), Value.int IntKind.u64 (wideLo x.base)] : Bx } ∧
      true = true) ∧
      True) ∧
      True) ∧
      True) ∧
      ∀ (x_1 : M),
      Agree n { π := m.π, sz := n, uf := m.uf : M } x_1 →
      (∃ (a_2 : EndsX),
      (a_2.k ≤ x.hs.length ∧ Agree n { π := m.π, sz := n, uf := m.uf : M } a_2.m) ∧
      x_1 = a_2.m ∧
      ((SV.val (Value.int IntKind.i64 (0 : Int)) = SV.val (Value.int IntKind.i64 (↑a_2.k : Int)) ∧ true = true) ∧
      (SV.own (0 : Nat) (0 : Nat) = SV.own (0 : Nat) (0 : Nat) ∧ true = true) ∧
      (SV.own (1 : Nat) (0 : Nat) = SV.own (1 : Nat) (0 : Nat) ∧ true = true) ∧
      (SV.own (2 : Nat) (0 : Nat) = SV.own (2 : Nat) (0 : Nat) ∧ true = true) ∧
      (SV.own (11 : Nat) (0 : Nat) = SV.own (11 : Nat) (0 : Nat) ∧ true = true) ∧
      (SV.own (12 : Nat) (0 : Nat) = SV.own (12 : Nat) (0 : Nat) ∧ true = true) ∧ True) ∧
      (some
      { ty := (46 : TypeId), cs := [Value.string x.key, Value.int IntKind.i64 x.lo, Value.int IntKind.i64 x.hi, Value.int IntKind.i64 x.base, Value.int IntKind.i64 x.round, Value.slice a x.hs.length c, Value.int IntKind.i64 x.lk.cl, Value.int IntKind.i64 x.lk.sq, Value.int IntKind.i64 x.lk.hm, Value.int IntKind.i64 x.lk.n] : Bx } =
      some
      { ty := (46 : TypeId), cs := [Value.string x.key, Value.int IntKind.i64 x.lo, Value.int IntKind.i64 x.hi, Value.int IntKind.i64 x.base, Value.int IntKind.i64 x.round, Value.slice a x.hs.length c, Value.int IntKind.i64 x.lk.cl, Value.int IntKind.i64 x.lk.sq, Value.int IntKind.i64 x.lk.hm, Value.int IntKind.i64 x.lk.n] : Bx } ∧
      true = true) ∧
      (some { ty := (108 : TypeId), cs := [Value.int IntKind.i64 (0 : Int), Value.int IntKind.u64 (0 : Int)] : Bx } =
      some { ty := (108 : TypeId), cs := [Value.int IntKind.i64 (0 : Int), Value.int IntKind.u64 (0 : Int)] : Bx } ∧
      true = true) ∧
      (some { ty := (108 : TypeId), cs := [Value.int IntKind.i64 (0 : Int), Value.int IntKind.u64 (0 : Int)] : Bx } =
      some { ty := (108 : TypeId), cs := [Value.int IntKind.i64 (0 : Int), Value.int IntKind.u64 (0 : Int)] : Bx } ∧
      true = true) ∧
      (some { ty := (108 : TypeId), cs := [Value.int IntKind.i64 (wideHi x.base), Value.int IntKind.u64 (wideLo x.base)] : Bx } =
      some
      { ty := (108 : TypeId), cs := [Value.int IntKind.i64 (wideHi (sumI (List.take (a_2.k + (1 : Nat)) (dnsL x)))), Value.int IntKind.u64 (wideLo (sumI (List.take (a_2.k + (1 : Nat)) (dnsL x))))] : Bx } ∧
      true = true) ∧
      (some { ty := (108 : TypeId), cs := [Value.int IntKind.i64 (wideHi x.base), Value.int IntKind.u64 (wideLo x.base)] : Bx } =
      some
      { ty := (108 : TypeId), cs := [Value.int IntKind.i64 (wideHi (sumI (List.take (a_2.k + (1 : Nat)) (upsL x)))), Value.int IntKind.u64 (wideLo (sumI (List.take (a_2.k + (1 : Nat)) (upsL x))))] : Bx } ∧
      true = true) ∧
      True) ∧
      ∀ (a_2 : EndsX),
      a_2.k ≤ x.hs.length ∧ Agree n { π := m.π, sz := n, uf := m.uf : M } a_2.m →
      ifB (decide ((↑a_2.k : Int) < (↑x.hs.length : Int)))
      (true = true ∧
      ∃ (b : Nat),
      ∃ (off : Nat),
      a = some { block := b, off := off : Addr } ∧
      ((0 : Int) ≤ (↑a_2.k : Int) ∧ (↑a_2.k : Int) < (↑x.hs.length : Int)) ∧
      ∃ (n_1 : Int),
      CellsAt a_2.m b (off + (↑a_2.k : Int).toNat * (4 : Nat) + (3 : Nat)) [Value.int IntKind.i64 n_1] ∧
      ∃ (n_2 : Int),
      ∃ (n_3 : Int),
      QSpec Try.prog (62 : Nat)
      [Value.agg
      #[Value.int IntKind.i64 (wideHi (sumI (List.take (a_2.k + (1 : Nat)) (dnsL x)))),
      Value.int IntKind.u64 (wideLo (sumI (List.take (a_2.k + (1 : Nat)) (dnsL x))))],
      Value.int IntKind.i64 n_1]
      a_2.m (Value.agg #[Value.int IntKind.i64 n_2, Value.int IntKind.u64 n_3]) ∧
      ∃ (b : Nat),
      ∃ (off : Nat),
      a = some { block := b, off := off : Addr } ∧
      ((0 : Int) ≤ (↑a_2.k : Int) ∧ (↑a_2.k : Int) < (↑x.hs.length : Int)) ∧
      ∃ (n_4 : Int),
      CellsAt a_2.m b (off + (↑a_2.k : Int).toNat * (4 : Nat) + (2 : Nat)) [Value.int IntKind.i64 n_4] ∧
      ∃ (n_5 : Int),
      ∃ (n_6 : Int),
      QSpec Try.prog (83 : Nat)
      [Value.agg
      #[Value.int IntKind.i64 (wideHi (sumI (List.take (a_2.k + (1 : Nat)) (upsL x)))),
      Value.int IntKind.u64 (wideLo (sumI (List.take (a_2.k + (1 : Nat)) (upsL x))))],
      Value.int IntKind.i64 n_4]
      a_2.m (Value.agg #[Value.int IntKind.i64 n_5, Value.int IntKind.u64 n_6]) ∧
      ∃ (a' : EndsX),
      ((a'.k ≤ x.hs.length ∧ Agree n { π := m.π, sz := n, uf := m.uf : M } a'.m) ∧
      a_2.m = a'.m ∧
      ((SV.val (Value.int IntKind.i64 (IntKind.i64.wrap ((↑a_2.k : Int) + (1 : Int)))) =
      SV.val (Value.int IntKind.i64 (↑a'.k : Int)) ∧
      true = true) ∧
      (SV.own (0 : Nat) (0 : Nat) = SV.own (0 : Nat) (0 : Nat) ∧ true = true) ∧
      (SV.own (1 : Nat) (0 : Nat) = SV.own (1 : Nat) (0 : Nat) ∧ true = true) ∧
      (SV.own (2 : Nat) (0 : Nat) = SV.own (2 : Nat) (0 : Nat) ∧ true = true) ∧
      (SV.own (11 : Nat) (0 : Nat) = SV.own (11 : Nat) (0 : Nat) ∧ true = true) ∧
      (SV.own (12 : Nat) (0 : Nat) = SV.own (12 : Nat) (0 : Nat) ∧ true = true) ∧ True) ∧
      (some
      { ty := (46 : TypeId), cs := [Value.string x.key, Value.int IntKind.i64 x.lo, Value.int IntKind.i64 x.hi, Value.int IntKind.i64 x.base, Value.int IntKind.i64 x.round, Value.slice a x.hs.length c, Value.int IntKind.i64 x.lk.cl, Value.int IntKind.i64 x.lk.sq, Value.int IntKind.i64 x.lk.hm, Value.int IntKind.i64 x.lk.n] : Bx } =
      some
      { ty := (46 : TypeId), cs := [Value.string x.key, Value.int IntKind.i64 x.lo, Value.int IntKind.i64 x.hi, Value.int IntKind.i64 x.base, Value.int IntKind.i64 x.round, Value.slice a x.hs.length c, Value.int IntKind.i64 x.lk.cl, Value.int IntKind.i64 x.lk.sq, Value.int IntKind.i64 x.lk.hm, Value.int IntKind.i64 x.lk.n] : Bx } ∧
      true = true) ∧
      (some { ty := (108 : TypeId), cs := [Value.int IntKind.i64 (0 : Int), Value.int IntKind.u64 (0 : Int)] : Bx } =
      some
      { ty := (108 : TypeId), cs := [Value.int IntKind.i64 (0 : Int), Value.int IntKind.u64 (0 : Int)] : Bx } ∧
      true = true) ∧
      (some { ty := (108 : TypeId), cs := [Value.int IntKind.i64 (0 : Int), Value.int IntKind.u64 (0 : Int)] : Bx } =
      some
      { ty := (108 : TypeId), cs := [Value.int IntKind.i64 (0 : Int), Value.int IntKind.u64 (0 : Int)] : Bx } ∧
      true = true) ∧
      (some { ty := (108 : TypeId), cs := [Value.int IntKind.i64 n_2, Value.int IntKind.u64 n_3] : Bx } =
      some
      { ty := (108 : TypeId), cs := [Value.int IntKind.i64 (wideHi (sumI (List.take (a'.k + (1 : Nat)) (dnsL x)))), Value.int IntKind.u64 (wideLo (sumI (List.take (a'.k + (1 : Nat)) (dnsL x))))] : Bx } ∧
      true = true) ∧
      (some { ty := (108 : TypeId), cs := [Value.int IntKind.i64 n_5, Value.int IntKind.u64 n_6] : Bx } =
      some
      { ty := (108 : TypeId), cs := [Value.int IntKind.i64 (wideHi (sumI (List.take (a'.k + (1 : Nat)) (upsL x)))), Value.int IntKind.u64 (wideLo (sumI (List.take (a'.k + (1 : Nat)) (upsL x))))] : Bx } ∧
      true = true) ∧
      True) ∧
      x.hs.length - a'.k < x.hs.length - a_2.k)
      (true = true ∧
      Done
      (Value.tuple
      #[Value.agg
      #[Value.int IntKind.i64 (wideHi (sumI (List.take (a_2.k + (1 : Nat)) (dnsL x)))),
      Value.int IntKind.u64 (wideLo (sumI (List.take (a_2.k + (1 : Nat)) (dnsL x))))],
      Value.agg
      #[Value.int IntKind.i64 (wideHi (sumI (List.take (a_2.k + (1 : Nat)) (upsL x)))),
      Value.int IntKind.u64 (wideLo (sumI (List.take (a_2.k + (1 : Nat)) (upsL x))))]] =
      Value.tuple
      #[Value.agg #[Value.int IntKind.i64 (wideHi (sumI (dnsL x))), Value.int IntKind.u64 (wideLo (sumI (dnsL x)))],
      Value.agg #[Value.int IntKind.i64 (wideHi (sumI (upsL x))), Value.int IntKind.u64 (wideLo (sumI (upsL x)))]]))) (by kernel_rfl) ?_
  have h' := h.sz hn
  have s1 : sumI [x.base] = x.base := by simp [sumI]
  have r1 : ∀ (m1 : M) b, b < m1.sz → CellsAt m1 b 0 [I x.base] → QSpec Try.prog 60 [.slice (some ⟨b, 0, none⟩) 1 1] m1 (wide x.base) := fun m1 b hb hc => by
    have := of_q (some ⟨b, 0, none⟩) 1 [x.base] (by simpa using hx.base) (by simp) m1 (.at _ _ _ hb hc)
    rw [s1] at this
    exact this
  have c1 : ∀ (m1 : M) b cs, b < (m1.newBlock b cs).sz := fun m1 b cs => by simp only [M.newBlock]; omega
  refine ⟨rfl, ⟨rfl, ⟨rfl, fun b hb => ⟨MLe.newBlock hb, _, _, r1 _ b (c1 _ _ _) cellsAt_new, ⟨rfl, fun b2 hb2 => ⟨MLe.newBlock hb2, _, _, r1 _ b2 (c1 _ _ _) cellsAt_new, _, (newBlock_agreeB hb).trans (newBlock_agreeB (by show n ≤ b2; omega)), rfl, by simp⟩⟩, trivial⟩⟩,
    ⟨rfl, fun b hb => ⟨MLe.newBlock hb, ⟨rfl, fun b2 hb2 => ⟨MLe.newBlock hb2, _, _, r1 _ b2 (c1 _ _ _) cellsAt_new, _, _, r1 _ b (by simp only [M.newBlock]; omega) (cellsAt_new.of (newBlock_other (by omega))), _, (newBlock_agreeB hb).trans (newBlock_agreeB (by show n ≤ b2; omega)), rfl, by simp⟩⟩, trivial⟩⟩, trivial⟩,
    fun y hy => ⟨⟨⟨0, y⟩, ⟨Nat.zero_le _, hy⟩, by simp [s1]⟩, fun y ⟨hk, hag⟩ => ifB_intro (fun hb => ?_) (fun hb => ?_)⟩⟩
  · have hk2 : y.k < x.hs.length := by simpa using hb
    obtain ⟨b, o, rfl, hc⟩ := (h'.agree hag).cells (by rw [hds_len]; omega)
    have hlen := hx.len
    have w1 : IntKind.i64.wrap ((y.k : Int) + 1) = ((y.k + 1 : Nat) : Int) := by simp [IntKind.wrap_i64]; omega
    have hw := hx.hs _ (List.getElem_mem hk2)
    have hcell := hd_at hc hk2
    have hc3 : CellsAt y.m b (o + y.k * 4 + 3) [I x.hs[y.k].dn] := CellsAt.drop (cs := [I x.hs[y.k].nd, I x.hs[y.k].le, I x.hs[y.k].up]) hcell
    have hc2 : CellsAt y.m b (o + y.k * 4 + 2) [I x.hs[y.k].up] := (CellsAt.drop (cs := [I x.hs[y.k].nd, I x.hs[y.k].le]) (ds := [I x.hs[y.k].up, I x.hs[y.k].dn]) hcell).take (ds := [I x.hs[y.k].dn])
    have e1 : sumI ((upsL x).take (y.k + 1 + 1)) = sumI ((upsL x).take (y.k + 1)) + x.hs[y.k].up := by
      rw [sumI_take (upsL x) (y.k + 1) (by simpa using hk2)]; simp
    have e2 : sumI ((dnsL x).take (y.k + 1 + 1)) = sumI ((dnsL x).take (y.k + 1)) - x.hs[y.k].dn := by
      rw [sumI_take (dnsL x) (y.k + 1) (by simpa using hk2)]; simp; omega
    refine ⟨rfl, b, o, rfl, by omega, _, by simpa using hc3, _, _, less_q _ _ hw.2.2.2 _, b, o, rfl, by omega, _, by simpa using hc2, _, _, plus_q _ _ hw.2.2.1 _, ⟨y.k + 1, y.m⟩, ⟨⟨hk2, hag⟩, by simp only [e1, e2]; simp [w1]⟩, by simp only; omega⟩
  · have hk2 : y.k = x.hs.length := by simp at hb; omega
    rw [List.take_of_length_le (l := dnsL x) (by simp [hk2]), List.take_of_length_le (l := upsL x) (by simp [hk2])]
    exact ⟨rfl, ⟨rfl⟩⟩

theorem dn_len {x : Ac} : (dnsL x).length = x.hs.length + 1 := by simp

theorem up_len {x : Ac} : (upsL x).length = x.hs.length + 1 := by simp

theorem ups64 {x : Ac} (hx : x.wf) : ∀ v ∈ upsL x, In64 v := fun v hv => by
  rcases List.mem_cons.1 hv with rfl | hv
  · exact hx.base
  · obtain ⟨h, hh, rfl⟩ := List.mem_map.1 hv
    exact (hx.hs h hh).2.2.1

theorem ups_bound {x : Ac} (hx : x.wf) (h : holdB 0 x.hs = true) : -85070591730234615865843651857942052864 ≤ sumI (upsL x) ∧ sumI (upsL x) ≤ 85070591730234615865843651857942052864 := by
  have h1 := sumI_bound _ (ups64 hx)
  have h2 := hold_len h
  rw [up_len] at h1
  have h3 : ((x.hs.length + 1 : Nat) : Int) ≤ 6 := by omega
  omega

theorem dns_bound {x : Ac} (hx : x.wf) (h : holdB 0 x.hs = true) : -85070591730234615865843651857942052864 ≤ sumI (dnsL x) ∧ sumI (dnsL x) ≤ x.base := by
  have hm := hold_mem _ _ h
  have h4 : ∀ v ∈ dnsL x, In64 v := fun v hv => by
    rcases List.mem_cons.1 hv with rfl | hv
    · exact hx.base
    · obtain ⟨h, hh, rfl⟩ := List.mem_map.1 hv
      have h1 := (hx.hs h hh).2.2.2
      have h2 := (hm h hh).2.2.2.2
      unfold In64 at *; omega
  have h1 := sumI_bound _ h4
  have h2 := hold_len h
  rw [dn_len] at h1
  have h3 : ((x.hs.length + 1 : Nat) : Int) ≤ 6 := by omega
  have := (up_ge h).2
  omega

theorem rright_q (x : Ac) (a : Option Addr) (c : Nat) (hx : x.wf) (m : M) (h : Row m a (hds x.hs)) : QSpec Try.prog 32 [acv x a c] m (.bool (rightB x)) := by
  refine QSpec.of_vc Try.func32 (ann := fun n _ => { A := Nat, inv := fun k => k ≤ x.hs.length ∧ holdB 0 x.hs = holdB (lastNd x.hs k) (x.hs.drop k), st := fun k => [(1, .own 0 0), (3, .val (I (lastNd x.hs k))), (4, .val (I k))], own := fun _ => [(0, ⟨46, acc x a c⟩)], m := fun _ => { m with sz := n }, μ := fun k => x.hs.length - k }) fun n hn => ?_
  refine vc_by (X :=
      true = true ∧
      ∃ (b : Bool),
      QSpec Try.prog (67 : Nat) [Value.string x.key] { π := m.π, sz := n, uf := m.uf : M } (Value.bool b) ∧
      ifB (!b) (Done (Value.bool false = Value.bool (rightB x)))
      (∃ (b : Bool),
      QSpec Try.prog (68 : Nat) [Value.agg #[Value.int IntKind.i64 x.lo, Value.int IntKind.i64 x.hi], Value.int IntKind.i64 x.base] { π := m.π, sz := n, uf := m.uf : M }
      (Value.bool b) ∧
      ifB (!b) (Done (Value.bool false = Value.bool (rightB x)))
      (ifB (decide (x.round < (0 : Int))) (Done (Value.bool false = Value.bool (rightB x)))
      ((∃ (a_1 : Nat),
      (a_1 ≤ x.hs.length ∧ holdB (0 : Int) x.hs = holdB (lastNd x.hs a_1) (List.drop a_1 x.hs)) ∧
      { π := m.π, sz := n, uf := m.uf : M } = { π := m.π, sz := n, uf := m.uf : M } ∧
      ((SV.own ((0 : Nat) + (0 : Nat)) (0 : Nat) = SV.own (0 : Nat) (0 : Nat) ∧ true = true) ∧
      (SV.val (Value.int IntKind.i64 (0 : Int)) = SV.val (Value.int IntKind.i64 (lastNd x.hs a_1)) ∧ true = true) ∧
      (SV.val (Value.int IntKind.i64 (0 : Int)) = SV.val (Value.int IntKind.i64 (↑a_1 : Int)) ∧ true = true) ∧ True) ∧
      (some
      { ty := (46 : Nat), cs := [Value.string x.key, Value.int IntKind.i64 x.lo, Value.int IntKind.i64 x.hi, Value.int IntKind.i64 x.base, Value.int IntKind.i64 x.round, Value.slice a x.hs.length c, Value.int IntKind.i64 x.lk.cl, Value.int IntKind.i64 x.lk.sq, Value.int IntKind.i64 x.lk.hm, Value.int IntKind.i64 x.lk.n] : Bx } =
      some
      { ty := (46 : TypeId), cs := [Value.string x.key, Value.int IntKind.i64 x.lo, Value.int IntKind.i64 x.hi, Value.int IntKind.i64 x.base, Value.int IntKind.i64 x.round, Value.slice a x.hs.length c, Value.int IntKind.i64 x.lk.cl, Value.int IntKind.i64 x.lk.sq, Value.int IntKind.i64 x.lk.hm, Value.int IntKind.i64 x.lk.n] : Bx } ∧
      true = true) ∧
      True) ∧
      ∀ (a_1 : Nat),
      a_1 ≤ x.hs.length ∧ holdB (0 : Int) x.hs = holdB (lastNd x.hs a_1) (List.drop a_1 x.hs) →
      ifB (decide ((↑a_1 : Int) < (↑x.hs.length : Int)))
      (∃ (b : Nat),
      ∃ (off : Nat),
      a = some { block := b, off := off : Addr } ∧
      ((0 : Int) ≤ (↑a_1 : Int) ∧ (↑a_1 : Int) < (↑x.hs.length : Int)) ∧
      ∃ (n_1 : Int),
      ∃ (n_2 : Int),
      ∃ (n_3 : Int),
      ∃ (n_4 : Int),
      CellsAt { π := m.π, sz := n, uf := m.uf : M } b (off + (↑a_1 : Int).toNat * (4 : Nat))
      [Value.int IntKind.i64 n_1, Value.int IntKind.i64 n_2, Value.int IntKind.i64 n_3, Value.int IntKind.i64 n_4] ∧
      ifB (decide (n_1 ≤ lastNd x.hs a_1)) (Done (Value.bool false = Value.bool (rightB x)))
      (ifB (decide (n_1 > (5 : Int))) (Done (Value.bool false = Value.bool (rightB x)))
      (ifB (decide (n_2 < (1 : Int))) (Done (Value.bool false = Value.bool (rightB x)))
      (ifB (decide (n_3 < (0 : Int))) (Done (Value.bool false = Value.bool (rightB x)))
      (ifB (decide (n_4 < (0 : Int))) (Done (Value.bool false = Value.bool (rightB x)))
      (∃ (a' : Nat),
      ((a' ≤ x.hs.length ∧ holdB (0 : Int) x.hs = holdB (lastNd x.hs a') (List.drop a' x.hs)) ∧
      { π := m.π, sz := n, uf := m.uf : M } = { π := m.π, sz := n, uf := m.uf : M } ∧
      ((SV.own (0 : Nat) (0 : Nat) = SV.own (0 : Nat) (0 : Nat) ∧ true = true) ∧
      (SV.val (Value.int IntKind.i64 n_1) = SV.val (Value.int IntKind.i64 (lastNd x.hs a')) ∧ true = true) ∧
      (SV.val (Value.int IntKind.i64 (IntKind.i64.wrap ((↑a_1 : Int) + (1 : Int)))) =
      SV.val (Value.int IntKind.i64 (↑a' : Int)) ∧
      true = true) ∧
      True) ∧
      (some
      { ty := (46 : TypeId), cs := [Value.string x.key, Value.int IntKind.i64 x.lo, Value.int IntKind.i64 x.hi, Value.int IntKind.i64 x.base, Value.int IntKind.i64 x.round, Value.slice a x.hs.length c, Value.int IntKind.i64 x.lk.cl, Value.int IntKind.i64 x.lk.sq, Value.int IntKind.i64 x.lk.hm, Value.int IntKind.i64 x.lk.n] : Bx } =
      some
      { ty := (46 : TypeId), cs := [Value.string x.key, Value.int IntKind.i64 x.lo, Value.int IntKind.i64 x.hi, Value.int IntKind.i64 x.base, Value.int IntKind.i64 x.round, Value.slice a x.hs.length c, Value.int IntKind.i64 x.lk.cl, Value.int IntKind.i64 x.lk.sq, Value.int IntKind.i64 x.lk.hm, Value.int IntKind.i64 x.lk.n] : Bx } ∧
      true = true) ∧
      True) ∧
      x.hs.length - a' < x.hs.length - a_1))))))
      (∃ (n_1 : Int),
      ∃ (n_2 : Int),
      ∃ (n_3 : Int),
      ∃ (n_4 : Int),
      QSpec Try.prog (69 : Nat)
      [Value.agg
      #[Value.string x.key, Value.int IntKind.i64 x.lo, Value.int IntKind.i64 x.hi, Value.int IntKind.i64 x.base, Value.int IntKind.i64 x.round,
      Value.slice a x.hs.length c, Value.int IntKind.i64 x.lk.cl, Value.int IntKind.i64 x.lk.sq, Value.int IntKind.i64 x.lk.hm,
      Value.int IntKind.i64 x.lk.n]]
      { π := m.π, sz := n, uf := m.uf : M }
      (Value.tuple
      #[Value.agg #[Value.int IntKind.i64 n_1, Value.int IntKind.u64 n_2], Value.agg #[Value.int IntKind.i64 n_3, Value.int IntKind.u64 n_4]]) ∧
      ∃ (b : Bool),
      QSpec Try.prog (70 : Nat) [Value.agg #[Value.int IntKind.i64 n_3, Value.int IntKind.u64 n_4], Value.int IntKind.i64 x.hi]
      { π := m.π, sz := n, uf := m.uf : M } (Value.bool b) ∧
      ifB b (Done (Value.bool false = Value.bool (rightB x)))
      (∃ (n_5 : Int),
      ∃ (n_6 : Int),
      QSpec Try.prog (62 : Nat) [Value.agg #[Value.int IntKind.i64 n_1, Value.int IntKind.u64 n_2], Value.int IntKind.i64 x.lo]
      { π := m.π, sz := n, uf := m.uf : M } (Value.agg #[Value.int IntKind.i64 n_5, Value.int IntKind.u64 n_6]) ∧
      ifB (decide (n_5 < (0 : Int))) (Done (Value.bool false = Value.bool (rightB x)))
      (ifB (x.lk.cl == (0 : Int))
      (Done
      (Value.bool (x.lk.cl == (0 : Int) && (x.lk.sq == (0 : Int) && (x.lk.hm == (0 : Int) && (x.lk.n == (0 : Int) && true)))) =
      Value.bool (rightB x)))
      (true = true ∧
      ∀ (b : Nat),
      n ≤ b →
      ∃ (n_7 : Int),
      ∃ (n_8 : Int),
      QSpec Try.prog (60 : Nat) [Value.slice (some { block := b, off := (0 : Nat) : Addr }) (2 : Nat) (2 : Nat)]
      ({ π := m.π, sz := n, uf := m.uf : M }.newBlock b [Value.int IntKind.i64 x.base, Value.int IntKind.i64 x.lk.n])
      (Value.agg #[Value.int IntKind.i64 n_7, Value.int IntKind.u64 n_8]) ∧
      ∃ (n_9 : Int),
      ∃ (b_1 : Bool),
      QSpec Try.prog (61 : Nat) [Value.agg #[Value.int IntKind.i64 n_7, Value.int IntKind.u64 n_8]]
      ({ π := m.π, sz := n, uf := m.uf : M }.newBlock b
      [Value.int IntKind.i64 x.base, Value.int IntKind.i64 x.lk.n])
      (Value.tuple #[Value.int IntKind.i64 n_9, Value.bool b_1]) ∧
      ∃ (b_2 : Bool),
      QSpec Try.prog (71 : Nat)
      [Value.agg
      #[Value.int IntKind.i64 x.lk.cl, Value.int IntKind.i64 x.lk.sq, Value.int IntKind.i64 x.lk.hm,
      Value.int IntKind.i64 x.lk.n]]
      ({ π := m.π, sz := n, uf := m.uf : M }.newBlock b
      [Value.int IntKind.i64 x.base, Value.int IntKind.i64 x.lk.n])
      (Value.bool b_2) ∧
      ifB b_2
      (ifB ((↑x.hs.length : Int) == (0 : Int))
      (ifB b_1
      (∃ (b_3 : Bool),
      QSpec Try.prog (68 : Nat)
      [Value.agg #[Value.int IntKind.i64 x.lo, Value.int IntKind.i64 x.hi], Value.int IntKind.i64 n_9]
      ({ π := m.π, sz := n, uf := m.uf : M }.newBlock b
      [Value.int IntKind.i64 x.base, Value.int IntKind.i64 x.lk.n])
      (Value.bool b_3) ∧
      Done (Value.bool b_3 = Value.bool (rightB x)))
      (Done (Value.bool false = Value.bool (rightB x))))
      (Done (Value.bool false = Value.bool (rightB x))))
      (Done (Value.bool false = Value.bool (rightB x))))))))))) (by kernel_rfl) ?_
  have h' := h.sz hn
  refine ⟨rfl, _, rkey_q _ _, ifB_intro (fun h1 => ⟨?_⟩) (fun h1 => ⟨_, rhas_q _ _ _ _, ifB_intro (fun h2 => ⟨?_⟩) (fun h2 => ifB_intro (fun h3 => ⟨?_⟩) (fun h3 => ⟨⟨0, by simp [lastNd]⟩, fun k ⟨hk, hq⟩ => ifB_intro (fun hb => ?_) (fun hb => ?_)⟩))⟩)⟩
  · simp at h1; simp [rightB, h1]
  · simp at h2; simp [rightB, h2]
  · simp at h3; simp [rightB]; omega
  · have hk2 : k < x.hs.length := by simpa using hb
    obtain ⟨b, o, rfl, hc⟩ := h'.cells (by rw [hds_len]; omega)
    have hlen := hx.len
    have w1 : IntKind.i64.wrap ((k : Int) + 1) = ((k + 1 : Nat) : Int) := by simp [IntKind.wrap_i64]; omega
    rw [holdB_drop hk2] at hq
    refine ⟨b, o, rfl, by omega, _, _, _, _, by simpa using hd_at hc hk2, ?_⟩
    have bad : hdB (lastNd x.hs k) x.hs[k] = false → Done (Value.bool false = Value.bool (rightB x)) := fun hh => by
      rw [hh] at hq
      exact ⟨by simp [rightB, hq]⟩
    refine ifB_intro (fun h1 => bad ?_) (fun h1 => ifB_intro (fun h2 => bad ?_) (fun h2 => ifB_intro (fun h3 => bad ?_) (fun h3 => ifB_intro (fun h4 => bad ?_) (fun h4 => ifB_intro (fun h5 => bad ?_) (fun h5 => ⟨k + 1, ⟨⟨hk2, ?_⟩, by simp [w1, lastNd_succ hk2]⟩, by omega⟩)))))
    · simp at h1; simp [hdB]; omega
    · simp at h2; simp [hdB]; omega
    · simp at h3; simp [hdB]; omega
    · simp at h4; simp [hdB]; omega
    · simp at h5; simp [hdB]; omega
    · rw [hq, lastNd_succ hk2]; simp [hdB] at *; omega
  · have hkl : k = x.hs.length := by simp at hb; omega
    have h5 : holdB 0 x.hs = true := by rw [hq, hkl]; simp [holdB]
    have hh : hasB x.lo x.hi x.base = true := by simpa using h2
    have hkey : keyB x.key = true := by simpa using h1
    have hr : 0 ≤ x.round := by simpa using h3
    have hR : rightB x = (decide (sumI (upsL x) ≤ x.hi) && decide (x.lo ≤ sumI (dnsL x)) && lockB x) := by simp [rightB, hkey, hh, hr, h5]
    have hub := ups_bound hx h5
    have hdb := dns_bound hx h5
    have hlo := hx.lo
    have hhi := hx.hi
    have hba := hx.base
    have e1 : wideHi (sumI (dnsL x) - x.lo) < 0 ↔ sumI (dnsL x) < x.lo := by
      unfold In64 at *; simp [wideHi, IntKind.wrap_i64]; omega
    rw [hR]
    refine ⟨_, _, _, _, ends_q x a c hx _ h', _, above_q _ _ hub hx.hi _, ifB_intro (fun h6 => ⟨?_⟩) (fun h6 => ⟨_, _, less_q _ _ hx.lo _, ifB_intro (fun h7 => ⟨?_⟩) (fun h7 => ?_)⟩)⟩
    · simp at h6; simp; omega
    · have h7 := e1.1 (by simpa using h7)
      simp; omega
    · have h6 : sumI (upsL x) ≤ x.hi := by simp at h6; omega
      have h7 : x.lo ≤ sumI (dnsL x) := by
        have : ¬ sumI (dnsL x) < x.lo := fun hh => by simp at h7; have := e1.2 hh; omega
        omega
      simp only [h6, h7, decide_true, Bool.true_and]
      refine ifB_intro (fun h8 => ⟨?_⟩) (fun h8 => ⟨trivial, fun b hb => ?_⟩)
      · simp at h8; simp [lockB, h8, lkZ, Bool.beq_eq_decide_eq, Bool.and_assoc]
      · have s2 : sumI [x.base, x.lk.n] = x.base + x.lk.n := by simp [sumI]
        have hln := hx.lk.2.2.2
        have q1 := of_q (some ⟨b, 0, none⟩) 2 [x.base, x.lk.n] (by intro y hy; simp at hy; rcases hy with rfl | rfl; exact hx.base; exact hln) (by simp) (({ m with sz := n } : M).newBlock b [I x.base, I x.lk.n]) (.at _ _ _ (by simp only [M.newBlock]; omega) cellsAt_new)
        rw [s2] at q1
        unfold In64 at hba hln
        have h8 : x.lk.cl ≠ 0 := by simpa using h8
        have hL : lockB x = (keeperB x.lk && x.hs.isEmpty && fitsB x x.lk) := by simp [lockB, h8]
        rw [hL]
        refine ⟨_, _, q1, _, _, int_q _ (by omega) (by omega) _, _, rlocked_q _ _, ?_⟩
        refine ifB_intro (fun h9 => ifB_intro (fun h10 => ifB_intro (fun h11 => ⟨_, rhas_q _ _ _ _, ⟨?_⟩⟩) (fun h11 => ⟨?_⟩)) (fun h10 => ⟨?_⟩)) (fun h9 => ⟨?_⟩)
        · have h11 : In64 (x.base + x.lk.n) := by simpa using h11
          unfold In64 at h11
          have hw : IntKind.i64.wrap (x.base + x.lk.n) = x.base + x.lk.n := by simp [IntKind.wrap_i64]; omega
          simp at h10
          rw [hw]; simp [h9, h10, fitsB]
        · have h11 : ¬ In64 (x.base + x.lk.n) := by simpa using h11
          unfold In64 at h11 hlo hhi
          have : fitsB x x.lk = false := by simp [fitsB, hasB]; omega
          simp [this]
        · simp at h10; simp [h10]
        · simp [h9]

end Go.Proofs.Ytfkielfnceeedaa
