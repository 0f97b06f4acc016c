/-
  Contracts of functions of this seat: what each hands back, and what it leaves of memory (acc17). Nothing here is trusted: Lean checks it.
-/
import Derived.Test.YtlifpjllhibdpaaAcc16
namespace Go.Proofs.Ytlifpjllhibdpaa
open Go.Vc Go.RowKit
set_option maxRecDepth 100000

structure GrX where
  o : Nat
  a : Option Addr
  c : Nat
  m : M

structure GrI (x y : Ac) (m : M) (z : GrX) : Prop where
  lo : 1 ≤ z.o
  hi : z.o ≤ 6
  own : NewR m.sz (fun _ => False) z.m 4 z.a y.hs.length z.c (hds y.hs)
  ag : Agree m.sz m z.m

def grAnn (x y : Ac) (a : Option Addr) (c : Nat) (nd : Int) (m : M) : Ann := {
    A := GrX
    inv := GrI x y m
    st := fun z => [(19, .val (I z.o)), (9, .own 12 0), (4, .own 0 0), (1, .val (I nd))]
    own := fun z => [(0, ⟨28, acc x a c⟩), (12, ⟨28, acc y z.a z.c⟩)]
    m := fun z => z.m
    μ := fun z => 6 - z.o }

theorem accountgrants (x : Ac) (a : Option Addr) (c : Nat) (nd le ns : Int) (hx : x.wf) (hle : In64 le) (h0 : a = none → x.hs = []) (m : M) (h : Row m a (hds x.hs)) :
    QSpec Try.prog 6 [acv x a c, I nd, I le, I ns] m (.bool true) := by
  refine QSpec.of_vc Try.func6 (ann := fun n _ => grAnn x (grantA x nd le ns) a c nd { m with sz := n }) fun N hN => ?_
  refine vc_by (X :=
      true = true ∧
      ∃ (b : Bool),
      QSpec Try.prog (21 : Nat) [] { π := m.π, sz := N, uf := m.uf : M } (Value.bool b) ∧
      ifB (!b) (Done (Value.bool false = Value.bool true))
      (∀ (n : Nat),
      N ≤ n →
      Vc.Spec Try.prog (33 : Nat)
      [Value.agg
      #[Value.string x.key, Value.int IntKind.i64 x.lo, Value.int IntKind.i64 x.hi, Value.int IntKind.i64 x.base, Value.int IntKind.i64 x.round,
      Value.slice a x.hs.length c, Value.int IntKind.i64 x.lk.cl, Value.int IntKind.i64 x.lk.sq, Value.int IntKind.i64 x.lk.hm, Value.int IntKind.i64 x.lk.n],
      Value.int IntKind.i64 nd, Value.int IntKind.i64 le, Value.int IntKind.i64 ns]
      { π := m.π, sz := n, uf := m.uf : M } fun (v : Value) (m' : M) =>
      ∃ (s : ByteArray),
      ∃ (n : Int),
      ∃ (n_1 : Int),
      ∃ (n_2 : Int),
      ∃ (n_3 : Int),
      ∃ (a_2 : Option Addr),
      ∃ (n_4 : Nat),
      ∃ (c_1 : Nat),
      ∃ (n_5 : Int),
      ∃ (n_6 : Int),
      ∃ (n_7 : Int),
      ∃ (n_8 : Int),
      ∃ (n_9 : Int),
      v =
      Value.tuple
      #[Value.agg
      #[Value.string s, Value.int IntKind.i64 n, Value.int IntKind.i64 n_1, Value.int IntKind.i64 n_2, Value.int IntKind.i64 n_3,
      Value.slice a_2 n_4 c_1, Value.int IntKind.i64 n_5, Value.int IntKind.i64 n_6, Value.int IntKind.i64 n_7,
      Value.int IntKind.i64 n_8],
      Value.int IntKind.i64 n_9] ∧
      ifB (n_9 != (0 : Int))
      (∃ (b : Bool),
      QSpec Try.prog (23 : Nat)
      [Value.agg
      #[Value.string s, Value.int IntKind.i64 n, Value.int IntKind.i64 n_1, Value.int IntKind.i64 n_2, Value.int IntKind.i64 n_3,
      Value.slice a_2 n_4 c_1, Value.int IntKind.i64 n_5, Value.int IntKind.i64 n_6, Value.int IntKind.i64 n_7,
      Value.int IntKind.i64 n_8],
      Value.agg
      #[Value.string { data := #[] : ByteArray }, Value.int IntKind.i64 (0 : Int), Value.int IntKind.i64 (0 : Int),
      Value.int IntKind.i64 (0 : Int), Value.int IntKind.i64 (0 : Int), Value.slice none (0 : Nat) (0 : Nat),
      Value.int IntKind.i64 (0 : Int), Value.int IntKind.i64 (0 : Int), Value.int IntKind.i64 (0 : Int),
      Value.int IntKind.i64 (0 : Int)]]
      m' (Value.bool b) ∧
      Done (Value.bool b = Value.bool true))
      (∃ (n_10 : Int),
      ∃ (n_11 : Int),
      ∃ (n_12 : Int),
      ∃ (n_13 : Int),
      ∃ (b : Bool),
      QSpec Try.prog (19 : Nat)
      [Value.agg
      #[Value.string s, Value.int IntKind.i64 n, Value.int IntKind.i64 n_1, Value.int IntKind.i64 n_2,
      Value.int IntKind.i64 n_3, Value.slice a_2 n_4 c_1, Value.int IntKind.i64 n_5, Value.int IntKind.i64 n_6,
      Value.int IntKind.i64 n_7, Value.int IntKind.i64 n_8],
      Value.int IntKind.i64 nd]
      m'
      (Value.tuple
      #[Value.agg
      #[Value.int IntKind.i64 n_10, Value.int IntKind.i64 n_11, Value.int IntKind.i64 n_12, Value.int IntKind.i64 n_13],
      Value.bool b]) ∧
      ∃ (n_14 : Int),
      ∃ (n_15 : Int),
      ∃ (n_16 : Int),
      ∃ (n_17 : Int),
      ∃ (b_1 : Bool),
      QSpec Try.prog (19 : Nat)
      [Value.agg
      #[Value.string x.key, Value.int IntKind.i64 x.lo, Value.int IntKind.i64 x.hi,
      Value.int IntKind.i64 x.base, Value.int IntKind.i64 x.round, Value.slice a x.hs.length c,
      Value.int IntKind.i64 x.lk.cl, Value.int IntKind.i64 x.lk.sq, Value.int IntKind.i64 x.lk.hm,
      Value.int IntKind.i64 x.lk.n],
      Value.int IntKind.i64 nd]
      m'
      (Value.tuple
      #[Value.agg
      #[Value.int IntKind.i64 n_14, Value.int IntKind.i64 n_15, Value.int IntKind.i64 n_16,
      Value.int IntKind.i64 n_17],
      Value.bool b_1]) ∧
      ∃ (n_18 : Int),
      ∃ (n_19 : Int),
      QSpec Try.prog (15 : Nat)
      [Value.agg
      #[Value.string x.key, Value.int IntKind.i64 x.lo, Value.int IntKind.i64 x.hi,
      Value.int IntKind.i64 x.base, Value.int IntKind.i64 x.round, Value.slice a x.hs.length c,
      Value.int IntKind.i64 x.lk.cl, Value.int IntKind.i64 x.lk.sq, Value.int IntKind.i64 x.lk.hm,
      Value.int IntKind.i64 x.lk.n]]
      m' (Value.tuple #[Value.int IntKind.u64 n_18, Value.int IntKind.u64 n_19]) ∧
      ∃ (n_20 : Int),
      ∃ (n_21 : Int),
      QSpec Try.prog (15 : Nat)
      [Value.agg
      #[Value.string s, Value.int IntKind.i64 n, Value.int IntKind.i64 n_1,
      Value.int IntKind.i64 n_2, Value.int IntKind.i64 n_3, Value.slice a_2 n_4 c_1,
      Value.int IntKind.i64 n_5, Value.int IntKind.i64 n_6, Value.int IntKind.i64 n_7,
      Value.int IntKind.i64 n_8]]
      m' (Value.tuple #[Value.int IntKind.u64 n_20, Value.int IntKind.u64 n_21]) ∧
      ifB (!b) (Done (Value.bool false = Value.bool true))
      (ifB (decide (n_12 < n_16)) (Done (Value.bool false = Value.bool true))
      (ifB (decide (n_13 < n_17)) (Done (Value.bool false = Value.bool true))
      (ifB (IntKind.u64.wrap (n_18 - n_20) != IntKind.u64.wrap (IntKind.i64.wrap (n_13 - n_17)))
      (Done (Value.bool false = Value.bool true))
      (ifB (IntKind.u64.wrap (n_19 - n_21) != IntKind.u64.wrap (IntKind.i64.wrap (n_12 - n_16)))
      (Done (Value.bool false = Value.bool true))
      (ifB (n_2 != x.base) (Done (Value.bool false = Value.bool true))
      (ifB (!(n == x.lo && (n_1 == x.hi && true))) (Done (Value.bool false = Value.bool true))
      (ifB (n_11 != le)
      (ifB (!b_1) (Done (Value.bool false = Value.bool true))
      (ifB b_1
      (ifB (n_11 != n_15) (Done (Value.bool false = Value.bool true))
      ((∃ (a_3 : GrX),
      GrI x (grantA x nd le ns) { π := m.π, sz := N, uf := m.uf : M } a_3 ∧
      m' = a_3.m ∧
      ((SV.val (Value.int IntKind.i64 (1 : Int)) =
      SV.val (Value.int IntKind.i64 (↑a_3.o : Int)) ∧
      true = true) ∧
      (SV.own ((0 : Nat) + (2 : Nat) + (2 : Nat) + (8 : Nat))
      (0 : Nat) =
      SV.own (12 : Nat) (0 : Nat) ∧
      true = true) ∧
      (SV.own ((0 : Nat) + (0 : Nat)) (0 : Nat) =
      SV.own (0 : Nat) (0 : Nat) ∧
      true = true) ∧
      (SV.val (Value.int IntKind.i64 nd) =
      SV.val (Value.int IntKind.i64 nd) ∧
      true = true) ∧
      True) ∧
      (some
      { ty := (28 : Nat), cs := [Value.string x.key, Value.int IntKind.i64 x.lo, Value.int IntKind.i64 x.hi, Value.int IntKind.i64 x.base, Value.int IntKind.i64 x.round, Value.slice a x.hs.length c, Value.int IntKind.i64 x.lk.cl, Value.int IntKind.i64 x.lk.sq, Value.int IntKind.i64 x.lk.hm, Value.int IntKind.i64 x.lk.n] : Bx } =
      some
      { ty := (28 : TypeId), cs := [Value.string x.key, Value.int IntKind.i64 x.lo, Value.int IntKind.i64 x.hi, Value.int IntKind.i64 x.base, Value.int IntKind.i64 x.round, Value.slice a x.hs.length c, Value.int IntKind.i64 x.lk.cl, Value.int IntKind.i64 x.lk.sq, Value.int IntKind.i64 x.lk.hm, Value.int IntKind.i64 x.lk.n] : Bx } ∧
      true = true) ∧
      (some
      { ty := (28 : Nat), cs := [Value.string s, Value.int IntKind.i64 n, Value.int IntKind.i64 n_1, Value.int IntKind.i64 n_2, Value.int IntKind.i64 n_3, Value.slice a_2 n_4 c_1, Value.int IntKind.i64 n_5, Value.int IntKind.i64 n_6, Value.int IntKind.i64 n_7, Value.int IntKind.i64 n_8] : Bx } =
      some
      { ty := (28 : TypeId), cs := [Value.string x.key, Value.int IntKind.i64 x.lo, Value.int IntKind.i64 x.hi, Value.int IntKind.i64 x.base, Value.int IntKind.i64 x.round, Value.slice a_3.a (putH x.hs (grantH x nd le ns)).length a_3.c, Value.int IntKind.i64 x.lk.cl, Value.int IntKind.i64 x.lk.sq, Value.int IntKind.i64 x.lk.hm, Value.int IntKind.i64 x.lk.n] : Bx } ∧
      true = true) ∧
      True) ∧
      ∀ (a_3 : GrX),
      GrI x (grantA x nd le ns) { π := m.π, sz := N, uf := m.uf : M } a_3 →
      ifB (decide ((↑a_3.o : Int) ≤ (5 : Int)))
      (∃ (n : Int),
      ∃ (n_22 : Int),
      ∃ (n_23 : Int),
      ∃ (n_24 : Int),
      ∃ (b : Bool),
      QSpec Try.prog (19 : Nat)
      [Value.agg
      #[Value.string x.key, Value.int IntKind.i64 x.lo,
      Value.int IntKind.i64 x.hi,
      Value.int IntKind.i64 x.base,
      Value.int IntKind.i64 x.round,
      Value.slice a_3.a
      (putH x.hs (grantH x nd le ns)).length a_3.c,
      Value.int IntKind.i64 x.lk.cl,
      Value.int IntKind.i64 x.lk.sq,
      Value.int IntKind.i64 x.lk.hm,
      Value.int IntKind.i64 x.lk.n],
      Value.int IntKind.i64 (↑a_3.o : Int)]
      a_3.m
      (Value.tuple
      #[Value.agg
      #[Value.int IntKind.i64 n,
      Value.int IntKind.i64 n_22,
      Value.int IntKind.i64 n_23,
      Value.int IntKind.i64 n_24],
      Value.bool b]) ∧
      ∃ (n_25 : Int),
      ∃ (n_26 : Int),
      ∃ (n_27 : Int),
      ∃ (n_28 : Int),
      ∃ (b_2 : Bool),
      QSpec Try.prog (19 : Nat)
      [Value.agg
      #[Value.string x.key,
      Value.int IntKind.i64 x.lo,
      Value.int IntKind.i64 x.hi,
      Value.int IntKind.i64 x.base,
      Value.int IntKind.i64 x.round,
      Value.slice a x.hs.length c,
      Value.int IntKind.i64 x.lk.cl,
      Value.int IntKind.i64 x.lk.sq,
      Value.int IntKind.i64 x.lk.hm,
      Value.int IntKind.i64 x.lk.n],
      Value.int IntKind.i64 (↑a_3.o : Int)]
      a_3.m
      (Value.tuple
      #[Value.agg
      #[Value.int IntKind.i64 n_25,
      Value.int IntKind.i64 n_26,
      Value.int IntKind.i64 n_27,
      Value.int IntKind.i64 n_28],
      Value.bool b_2]) ∧
      ifB ((↑a_3.o : Int) != nd)
      (ifB (!b == b_2)
      (Done
      (Value.bool false = Value.bool true))
      (ifB
      (!(n == n_25 &&
      (n_22 == n_26 &&
      (n_23 == n_27 &&
      (n_24 == n_28 && true)))))
      (Done
      (Value.bool false = Value.bool true))
      (∃ (a' : GrX),
      (GrI x (grantA x nd le ns)
      { π := m.π, sz := N, uf := m.uf : M }
      a' ∧
      a_3.m = a'.m ∧
      ((SV.val
      (Value.int IntKind.i64
      (IntKind.i64.wrap
      ((↑a_3.o : Int) +
      (1 : Int)))) =
      SV.val
      (Value.int IntKind.i64
      (↑a'.o : Int)) ∧
      true = true) ∧
      (SV.own (12 : Nat)
      (0 : Nat) =
      SV.own (12 : Nat)
      (0 : Nat) ∧
      true = true) ∧
      (SV.own (0 : Nat)
      (0 : Nat) =
      SV.own (0 : Nat)
      (0 : Nat) ∧
      true = true) ∧
      (SV.val
      (Value.int
      IntKind.i64
      nd) =
      SV.val
      (Value.int
      IntKind.i64
      nd) ∧
      true = true) ∧
      True) ∧
      (some
      { ty := (28 : TypeId), cs := [Value.string x.key, Value.int IntKind.i64 x.lo, Value.int IntKind.i64 x.hi, Value.int IntKind.i64 x.base, Value.int IntKind.i64 x.round, Value.slice a x.hs.length c, Value.int IntKind.i64 x.lk.cl, Value.int IntKind.i64 x.lk.sq, Value.int IntKind.i64 x.lk.hm, Value.int IntKind.i64 x.lk.n] : Bx } =
      some
      { ty := (28 : TypeId), cs := [Value.string x.key, Value.int IntKind.i64 x.lo, Value.int IntKind.i64 x.hi, Value.int IntKind.i64 x.base, Value.int IntKind.i64 x.round, Value.slice a x.hs.length c, Value.int IntKind.i64 x.lk.cl, Value.int IntKind.i64 x.lk.sq, Value.int IntKind.i64 x.lk.hm, Value.int IntKind.i64 x.lk.n] : Bx } ∧
      true = true) ∧
      (some
      { ty := (28 : TypeId), cs := [Value.string x.key, Value.int IntKind.i64 x.lo, Value.int IntKind.i64 x.hi, Value.int IntKind.i64 x.base, Value.int IntKind.i64 x.round, Value.slice a_3.a (putH x.hs (grantH x nd le ns)).length a_3.c, Value.int IntKind.i64 x.lk.cl, Value.int IntKind.i64 x.lk.sq, Value.int IntKind.i64 x.lk.hm, Value.int IntKind.i64 x.lk.n] : Bx } =
      some
      { ty := (28 : TypeId), cs := [Value.string x.key, Value.int IntKind.i64 x.lo, Value.int IntKind.i64 x.hi, Value.int IntKind.i64 x.base, Value.int IntKind.i64 x.round, Value.slice a'.a (putH x.hs (grantH x nd le ns)).length a'.c, Value.int IntKind.i64 x.lk.cl, Value.int IntKind.i64 x.lk.sq, Value.int IntKind.i64 x.lk.hm, Value.int IntKind.i64 x.lk.n] : Bx } ∧
      true = true) ∧
      True) ∧
      (6 : Nat) - a'.o <
      (6 : Nat) - a_3.o)))
      (∃ (a' : GrX),
      (GrI x (grantA x nd le ns)
      { π := m.π, sz := N, uf := m.uf : M }
      a' ∧
      a_3.m = a'.m ∧
      ((SV.val
      (Value.int IntKind.i64
      (IntKind.i64.wrap
      ((↑a_3.o : Int) +
      (1 : Int)))) =
      SV.val
      (Value.int IntKind.i64
      (↑a'.o : Int)) ∧
      true = true) ∧
      (SV.own (12 : Nat) (0 : Nat) =
      SV.own (12 : Nat)
      (0 : Nat) ∧
      true = true) ∧
      (SV.own (0 : Nat) (0 : Nat) =
      SV.own (0 : Nat)
      (0 : Nat) ∧
      true = true) ∧
      (SV.val
      (Value.int
      IntKind.i64 nd) =
      SV.val
      (Value.int
      IntKind.i64 nd) ∧
      true = true) ∧
      True) ∧
      (some
      { ty := (28 : TypeId), cs := [Value.string x.key, Value.int IntKind.i64 x.lo, Value.int IntKind.i64 x.hi, Value.int IntKind.i64 x.base, Value.int IntKind.i64 x.round, Value.slice a x.hs.length c, Value.int IntKind.i64 x.lk.cl, Value.int IntKind.i64 x.lk.sq, Value.int IntKind.i64 x.lk.hm, Value.int IntKind.i64 x.lk.n] : Bx } =
      some
      { ty := (28 : TypeId), cs := [Value.string x.key, Value.int IntKind.i64 x.lo, Value.int IntKind.i64 x.hi, Value.int IntKind.i64 x.base, Value.int IntKind.i64 x.round, Value.slice a x.hs.length c, Value.int IntKind.i64 x.lk.cl, Value.int IntKind.i64 x.lk.sq, Value.int IntKind.i64 x.lk.hm, Value.int IntKind.i64 x.lk.n] : Bx } ∧
      true = true) ∧
      (some
      { ty := (28 : TypeId), cs := [Value.string x.key, Value.int IntKind.i64 x.lo, Value.int IntKind.i64 x.hi, Value.int IntKind.i64 x.base, Value.int IntKind.i64 x.round, Value.slice a_3.a (putH x.hs (grantH x nd le ns)).length a_3.c, Value.int IntKind.i64 x.lk.cl, Value.int IntKind.i64 x.lk.sq, Value.int IntKind.i64 x.lk.hm, Value.int IntKind.i64 x.lk.n] : Bx } =
      some
      { ty := (28 : TypeId), cs := [Value.string x.key, Value.int IntKind.i64 x.lo, Value.int IntKind.i64 x.hi, Value.int IntKind.i64 x.base, Value.int IntKind.i64 x.round, Value.slice a'.a (putH x.hs (grantH x nd le ns)).length a'.c, Value.int IntKind.i64 x.lk.cl, Value.int IntKind.i64 x.lk.sq, Value.int IntKind.i64 x.lk.hm, Value.int IntKind.i64 x.lk.n] : Bx } ∧
      true = true) ∧
      True) ∧
      (6 : Nat) - a'.o < (6 : Nat) - a_3.o))
      (Done (Value.bool true = Value.bool true))))
      ((∃ (a_3 : GrX),
      GrI x (grantA x nd le ns) { π := m.π, sz := N, uf := m.uf : M } a_3 ∧
      m' = a_3.m ∧
      ((SV.val (Value.int IntKind.i64 (1 : Int)) =
      SV.val (Value.int IntKind.i64 (↑a_3.o : Int)) ∧
      true = true) ∧
      (SV.own ((0 : Nat) + (2 : Nat) + (2 : Nat) + (8 : Nat)) (0 : Nat) =
      SV.own (12 : Nat) (0 : Nat) ∧
      true = true) ∧
      (SV.own ((0 : Nat) + (0 : Nat)) (0 : Nat) =
      SV.own (0 : Nat) (0 : Nat) ∧
      true = true) ∧
      (SV.val (Value.int IntKind.i64 nd) =
      SV.val (Value.int IntKind.i64 nd) ∧
      true = true) ∧
      True) ∧
      (some
      { ty := (28 : Nat), cs := [Value.string x.key, Value.int IntKind.i64 x.lo, Value.int IntKind.i64 x.hi, Value.int IntKind.i64 x.base, Value.int IntKind.i64 x.round, Value.slice a x.hs.length c, Value.int IntKind.i64 x.lk.cl, Value.int IntKind.i64 x.lk.sq, Value.int IntKind.i64 x.lk.hm, Value.int IntKind.i64 x.lk.n] : Bx } =
      some
      { ty := (28 : TypeId), cs := [Value.string x.key, Value.int IntKind.i64 x.lo, Value.int IntKind.i64 x.hi, Value.int IntKind.i64 x.base, Value.int IntKind.i64 x.round, Value.slice a x.hs.length c, Value.int IntKind.i64 x.lk.cl, Value.int IntKind.i64 x.lk.sq, Value.int IntKind.i64 x.lk.hm, Value.int IntKind.i64 x.lk.n] : Bx } ∧
      true = true) ∧
      (some
      { ty := (28 : Nat), cs := [Value.string s, Value.int IntKind.i64 n, Value.int IntKind.i64 n_1, Value.int IntKind.i64 n_2, Value.int IntKind.i64 n_3, Value.slice a_2 n_4 c_1, Value.int IntKind.i64 n_5, Value.int IntKind.i64 n_6, Value.int IntKind.i64 n_7, Value.int IntKind.i64 n_8] : Bx } =
      some
      { ty := (28 : TypeId), cs := [Value.string x.key, Value.int IntKind.i64 x.lo, Value.int IntKind.i64 x.hi, Value.int IntKind.i64 x.base, Value.int IntKind.i64 x.round, Value.slice a_3.a (putH x.hs (grantH x nd le ns)).length a_3.c, Value.int IntKind.i64 x.lk.cl, Value.int IntKind.i64 x.lk.sq, Value.int IntKind.i64 x.lk.hm, Value.int IntKind.i64 x.lk.n] : Bx } ∧
      true = true) ∧
      True) ∧
      ∀ (a_3 : GrX),
      GrI x (grantA x nd le ns) { π := m.π, sz := N, uf := m.uf : M } a_3 →
      ifB (decide ((↑a_3.o : Int) ≤ (5 : Int)))
      (∃ (n : Int),
      ∃ (n_22 : Int),
      ∃ (n_23 : Int),
      ∃ (n_24 : Int),
      ∃ (b : Bool),
      QSpec Try.prog (19 : Nat)
      [Value.agg
      #[Value.string x.key, Value.int IntKind.i64 x.lo,
      Value.int IntKind.i64 x.hi,
      Value.int IntKind.i64 x.base,
      Value.int IntKind.i64 x.round,
      Value.slice a_3.a
      (putH x.hs (grantH x nd le ns)).length a_3.c,
      Value.int IntKind.i64 x.lk.cl,
      Value.int IntKind.i64 x.lk.sq,
      Value.int IntKind.i64 x.lk.hm,
      Value.int IntKind.i64 x.lk.n],
      Value.int IntKind.i64 (↑a_3.o : Int)]
      a_3.m
      (Value.tuple
      #[Value.agg
      #[Value.int IntKind.i64 n,
      Value.int IntKind.i64 n_22,
      Value.int IntKind.i64 n_23,
      Value.int IntKind.i64 n_24],
      Value.bool b]) ∧
      ∃ (n_25 : Int),
      ∃ (n_26 : Int),
      ∃ (n_27 : Int),
      ∃ (n_28 : Int),
      ∃ (b_2 : Bool),
      QSpec Try.prog (19 : Nat)
      [Value.agg
      #[Value.string x.key,
      Value.int IntKind.i64 x.lo,
      Value.int IntKind.i64 x.hi,
      Value.int IntKind.i64 x.base,
      Value.int IntKind.i64 x.round,
      Value.slice a x.hs.length c,
      Value.int IntKind.i64 x.lk.cl,
      Value.int IntKind.i64 x.lk.sq,
      Value.int IntKind.i64 x.lk.hm,
      Value.int IntKind.i64 x.lk.n],
      Value.int IntKind.i64 (↑a_3.o : Int)]
      a_3.m
      (Value.tuple
      #[Value.agg
      #[Value.int IntKind.i64 n_25,
      Value.int IntKind.i64 n_26,
      Value.int IntKind.i64 n_27,
      Value.int IntKind.i64 n_28],
      Value.bool b_2]) ∧
      ifB ((↑a_3.o : Int) != nd)
      (ifB (!b == b_2)
      (Done (Value.bool false = Value.bool true))
      (ifB
      (!(n == n_25 &&
      (n_22 == n_26 &&
      (n_23 == n_27 &&
      (n_24 == n_28 && true)))))
      (Done
      (Value.bool false = Value.bool true))
      (∃ (a' : GrX),
      (GrI x (grantA x nd le ns)
      { π := m.π, sz := N, uf := m.uf : M }
      a' ∧
      a_3.m = a'.m ∧
      ((SV.val
      (Value.int IntKind.i64
      (IntKind.i64.wrap
      ((↑a_3.o : Int) +
      (1 : Int)))) =
      SV.val
      (Value.int IntKind.i64
      (↑a'.o : Int)) ∧
      true = true) ∧
      (SV.own (12 : Nat) (0 : Nat) =
      SV.own (12 : Nat)
      (0 : Nat) ∧
      true = true) ∧
      (SV.own (0 : Nat)
      (0 : Nat) =
      SV.own (0 : Nat)
      (0 : Nat) ∧
      true = true) ∧
      (SV.val
      (Value.int
      IntKind.i64
      nd) =
      SV.val
      (Value.int
      IntKind.i64
      nd) ∧
      true = true) ∧
      True) ∧
      (some
      { ty := (28 : TypeId), cs := [Value.string x.key, Value.int IntKind.i64 x.lo, Value.int IntKind.i64 x.hi, Value.int IntKind.i64 x.base, Value.int IntKind.i64 x.round, Value.slice a x.hs.length c, Value.int IntKind.i64 x.lk.cl, Value.int IntKind.i64 x.lk.sq, Value.int IntKind.i64 x.lk.hm, Value.int IntKind.i64 x.lk.n] : Bx } =
      some
      { ty := (28 : TypeId), cs := [Value.string x.key, Value.int IntKind.i64 x.lo, Value.int IntKind.i64 x.hi, Value.int IntKind.i64 x.base, Value.int IntKind.i64 x.round, Value.slice a x.hs.length c, Value.int IntKind.i64 x.lk.cl, Value.int IntKind.i64 x.lk.sq, Value.int IntKind.i64 x.lk.hm, Value.int IntKind.i64 x.lk.n] : Bx } ∧
      true = true) ∧
      (some
      { ty := (28 : TypeId), cs := [Value.string x.key, Value.int IntKind.i64 x.lo, Value.int IntKind.i64 x.hi, Value.int IntKind.i64 x.base, Value.int IntKind.i64 x.round, Value.slice a_3.a (putH x.hs (grantH x nd le ns)).length a_3.c, Value.int IntKind.i64 x.lk.cl, Value.int IntKind.i64 x.lk.sq, Value.int IntKind.i64 x.lk.hm, Value.int IntKind.i64 x.lk.n] : Bx } =
      some
      { ty := (28 : TypeId), cs := [Value.string x.key, Value.int IntKind.i64 x.lo, Value.int IntKind.i64 x.hi, Value.int IntKind.i64 x.base, Value.int IntKind.i64 x.round, Value.slice a'.a (putH x.hs (grantH x nd le ns)).length a'.c, Value.int IntKind.i64 x.lk.cl, Value.int IntKind.i64 x.lk.sq, Value.int IntKind.i64 x.lk.hm, Value.int IntKind.i64 x.lk.n] : Bx } ∧
      true = true) ∧
      True) ∧
      (6 : Nat) - a'.o <
      (6 : Nat) - a_3.o)))
      (∃ (a' : GrX),
      (GrI x (grantA x nd le ns)
      { π := m.π, sz := N, uf := m.uf : M }
      a' ∧
      a_3.m = a'.m ∧
      ((SV.val
      (Value.int IntKind.i64
      (IntKind.i64.wrap
      ((↑a_3.o : Int) +
      (1 : Int)))) =
      SV.val
      (Value.int IntKind.i64
      (↑a'.o : Int)) ∧
      true = true) ∧
      (SV.own (12 : Nat) (0 : Nat) =
      SV.own (12 : Nat)
      (0 : Nat) ∧
      true = true) ∧
      (SV.own (0 : Nat) (0 : Nat) =
      SV.own (0 : Nat)
      (0 : Nat) ∧
      true = true) ∧
      (SV.val
      (Value.int IntKind.i64
      nd) =
      SV.val
      (Value.int IntKind.i64
      nd) ∧
      true = true) ∧
      True) ∧
      (some
      { ty := (28 : TypeId), cs := [Value.string x.key, Value.int IntKind.i64 x.lo, Value.int IntKind.i64 x.hi, Value.int IntKind.i64 x.base, Value.int IntKind.i64 x.round, Value.slice a x.hs.length c, Value.int IntKind.i64 x.lk.cl, Value.int IntKind.i64 x.lk.sq, Value.int IntKind.i64 x.lk.hm, Value.int IntKind.i64 x.lk.n] : Bx } =
      some
      { ty := (28 : TypeId), cs := [Value.string x.key, Value.int IntKind.i64 x.lo, Value.int IntKind.i64 x.hi, Value.int IntKind.i64 x.base, Value.int IntKind.i64 x.round, Value.slice a x.hs.length c, Value.int IntKind.i64 x.lk.cl, Value.int IntKind.i64 x.lk.sq, Value.int IntKind.i64 x.lk.hm, Value.int IntKind.i64 x.lk.n] : Bx } ∧
      true = true) ∧
      (some
      { ty := (28 : TypeId), cs := [Value.string x.key, Value.int IntKind.i64 x.lo, Value.int IntKind.i64 x.hi, Value.int IntKind.i64 x.base, Value.int IntKind.i64 x.round, Value.slice a_3.a (putH x.hs (grantH x nd le ns)).length a_3.c, Value.int IntKind.i64 x.lk.cl, Value.int IntKind.i64 x.lk.sq, Value.int IntKind.i64 x.lk.hm, Value.int IntKind.i64 x.lk.n] : Bx } =
      some
      { ty := (28 : TypeId), cs := [Value.string x.key, Value.int IntKind.i64 x.lo, Value.int IntKind.i64 x.hi, Value.int IntKind.i64 x.base, Value.int IntKind.i64 x.round, Value.slice a'.a (putH x.hs (grantH x nd le ns)).length a'.c, Value.int IntKind.i64 x.lk.cl, Value.int IntKind.i64 x.lk.sq, Value.int IntKind.i64 x.lk.hm, Value.int IntKind.i64 x.lk.n] : Bx } ∧
      true = true) ∧
      True) ∧
      (6 : Nat) - a'.o < (6 : Nat) - a_3.o))
      (Done (Value.bool true = Value.bool true)))))
      (ifB b_1
      (ifB (n_11 != n_15) (Done (Value.bool false = Value.bool true))
      ((∃ (a_3 : GrX),
      GrI x (grantA x nd le ns) { π := m.π, sz := N, uf := m.uf : M } a_3 ∧
      m' = a_3.m ∧
      ((SV.val (Value.int IntKind.i64 (1 : Int)) =
      SV.val (Value.int IntKind.i64 (↑a_3.o : Int)) ∧
      true = true) ∧
      (SV.own ((0 : Nat) + (2 : Nat) + (2 : Nat) + (8 : Nat)) (0 : Nat) =
      SV.own (12 : Nat) (0 : Nat) ∧
      true = true) ∧
      (SV.own ((0 : Nat) + (0 : Nat)) (0 : Nat) =
      SV.own (0 : Nat) (0 : Nat) ∧
      true = true) ∧
      (SV.val (Value.int IntKind.i64 nd) =
      SV.val (Value.int IntKind.i64 nd) ∧
      true = true) ∧
      True) ∧
      (some
      { ty := (28 : Nat), cs := [Value.string x.key, Value.int IntKind.i64 x.lo, Value.int IntKind.i64 x.hi, Value.int IntKind.i64 x.base, Value.int IntKind.i64 x.round, Value.slice a x.hs.length c, Value.int IntKind.i64 x.lk.cl, Value.int IntKind.i64 x.lk.sq, Value.int IntKind.i64 x.lk.hm, Value.int IntKind.i64 x.lk.n] : Bx } =
      some
      { ty := (28 : TypeId), cs := [Value.string x.key, Value.int IntKind.i64 x.lo, Value.int IntKind.i64 x.hi, Value.int IntKind.i64 x.base, Value.int IntKind.i64 x.round, Value.slice a x.hs.length c, Value.int IntKind.i64 x.lk.cl, Value.int IntKind.i64 x.lk.sq, Value.int IntKind.i64 x.lk.hm, Value.int IntKind.i64 x.lk.n] : Bx } ∧
      true = true) ∧
      (some
      { ty := (28 : Nat), cs := [Value.string s, Value.int IntKind.i64 n, Value.int IntKind.i64 n_1, Value.int IntKind.i64 n_2, Value.int IntKind.i64 n_3, Value.slice a_2 n_4 c_1, Value.int IntKind.i64 n_5, Value.int IntKind.i64 n_6, Value.int IntKind.i64 n_7, Value.int IntKind.i64 n_8] : Bx } =
      some
      { ty := (28 : TypeId), cs := [Value.string x.key, Value.int IntKind.i64 x.lo, Value.int IntKind.i64 x.hi, Value.int IntKind.i64 x.base, Value.int IntKind.i64 x.round, Value.slice a_3.a (putH x.hs (grantH x nd le ns)).length a_3.c, Value.int IntKind.i64 x.lk.cl, Value.int IntKind.i64 x.lk.sq, Value.int IntKind.i64 x.lk.hm, Value.int IntKind.i64 x.lk.n] : Bx } ∧
      true = true) ∧
      True) ∧
      ∀ (a_3 : GrX),
      GrI x (grantA x nd le ns) { π := m.π, sz := N, uf := m.uf : M } a_3 →
      ifB (decide ((↑a_3.o : Int) ≤ (5 : Int)))
      (∃ (n : Int),
      ∃ (n_22 : Int),
      ∃ (n_23 : Int),
      ∃ (n_24 : Int),
      ∃ (b : Bool),
      QSpec Try.prog (19 : Nat)
      [Value.agg
      #[Value.string x.key, Value.int IntKind.i64 x.lo,
      Value.int IntKind.i64 x.hi,
      Value.int IntKind.i64 x.base,
      Value.int IntKind.i64 x.round,
      Value.slice a_3.a
      (putH x.hs (grantH x nd le ns)).length a_3.c,
      Value.int IntKind.i64 x.lk.cl,
      Value.int IntKind.i64 x.lk.sq,
      Value.int IntKind.i64 x.lk.hm,
      Value.int IntKind.i64 x.lk.n],
      Value.int IntKind.i64 (↑a_3.o : Int)]
      a_3.m
      (Value.tuple
      #[Value.agg
      #[Value.int IntKind.i64 n,
      Value.int IntKind.i64 n_22,
      Value.int IntKind.i64 n_23,
      Value.int IntKind.i64 n_24],
      Value.bool b]) ∧
      ∃ (n_25 : Int),
      ∃ (n_26 : Int),
      ∃ (n_27 : Int),
      ∃ (n_28 : Int),
      ∃ (b_2 : Bool),
      QSpec Try.prog (19 : Nat)
      [Value.agg
      #[Value.string x.key,
      Value.int IntKind.i64 x.lo,
      Value.int IntKind.i64 x.hi,
      Value.int IntKind.i64 x.base,
      Value.int IntKind.i64 x.round,
      Value.slice a x.hs.length c,
      Value.int IntKind.i64 x.lk.cl,
      Value.int IntKind.i64 x.lk.sq,
      Value.int IntKind.i64 x.lk.hm,
      Value.int IntKind.i64 x.lk.n],
      Value.int IntKind.i64 (↑a_3.o : Int)]
      a_3.m
      (Value.tuple
      #[Value.agg
      #[Value.int IntKind.i64 n_25,
      Value.int IntKind.i64 n_26,
      Value.int IntKind.i64 n_27,
      Value.int IntKind.i64 n_28],
      Value.bool b_2]) ∧
      ifB ((↑a_3.o : Int) != nd)
      (ifB (!b == b_2)
      (Done (Value.bool false = Value.bool true))
      (ifB
      (!(n == n_25 &&
      (n_22 == n_26 &&
      (n_23 == n_27 &&
      (n_24 == n_28 && true)))))
      (Done
      (Value.bool false = Value.bool true))
      (∃ (a' : GrX),
      (GrI x (grantA x nd le ns)
      { π := m.π, sz := N, uf := m.uf : M }
      a' ∧
      a_3.m = a'.m ∧
      ((SV.val
      (Value.int IntKind.i64
      (IntKind.i64.wrap
      ((↑a_3.o : Int) +
      (1 : Int)))) =
      SV.val
      (Value.int IntKind.i64
      (↑a'.o : Int)) ∧
      true = true) ∧
      (SV.own (12 : Nat) (0 : Nat) =
      SV.own (12 : Nat)
      (0 : Nat) ∧
      true = true) ∧
      (SV.own (0 : Nat)
      (0 : Nat) =
      SV.own (0 : Nat)
      (0 : Nat) ∧
      true = true) ∧
      (SV.val
      (Value.int
      IntKind.i64
      nd) =
      SV.val
      (Value.int
      IntKind.i64
      nd) ∧
      true = true) ∧
      True) ∧
      (some
      { ty := (28 : TypeId), cs := [Value.string x.key, Value.int IntKind.i64 x.lo, Value.int IntKind.i64 x.hi, Value.int IntKind.i64 x.base, Value.int IntKind.i64 x.round, Value.slice a x.hs.length c, Value.int IntKind.i64 x.lk.cl, Value.int IntKind.i64 x.lk.sq, Value.int IntKind.i64 x.lk.hm, Value.int IntKind.i64 x.lk.n] : Bx } =
      some
      { ty := (28 : TypeId), cs := [Value.string x.key, Value.int IntKind.i64 x.lo, Value.int IntKind.i64 x.hi, Value.int IntKind.i64 x.base, Value.int IntKind.i64 x.round, Value.slice a x.hs.length c, Value.int IntKind.i64 x.lk.cl, Value.int IntKind.i64 x.lk.sq, Value.int IntKind.i64 x.lk.hm, Value.int IntKind.i64 x.lk.n] : Bx } ∧
      true = true) ∧
      (some
      { ty := (28 : TypeId), cs := [Value.string x.key, Value.int IntKind.i64 x.lo, Value.int IntKind.i64 x.hi, Value.int IntKind.i64 x.base, Value.int IntKind.i64 x.round, Value.slice a_3.a (putH x.hs (grantH x nd le ns)).length a_3.c, Value.int IntKind.i64 x.lk.cl, Value.int IntKind.i64 x.lk.sq, Value.int IntKind.i64 x.lk.hm, Value.int IntKind.i64 x.lk.n] : Bx } =
      some
      { ty := (28 : TypeId), cs := [Value.string x.key, Value.int IntKind.i64 x.lo, Value.int IntKind.i64 x.hi, Value.int IntKind.i64 x.base, Value.int IntKind.i64 x.round, Value.slice a'.a (putH x.hs (grantH x nd le ns)).length a'.c, Value.int IntKind.i64 x.lk.cl, Value.int IntKind.i64 x.lk.sq, Value.int IntKind.i64 x.lk.hm, Value.int IntKind.i64 x.lk.n] : Bx } ∧
      true = true) ∧
      True) ∧
      (6 : Nat) - a'.o <
      (6 : Nat) - a_3.o)))
      (∃ (a' : GrX),
      (GrI x (grantA x nd le ns)
      { π := m.π, sz := N, uf := m.uf : M }
      a' ∧
      a_3.m = a'.m ∧
      ((SV.val
      (Value.int IntKind.i64
      (IntKind.i64.wrap
      ((↑a_3.o : Int) +
      (1 : Int)))) =
      SV.val
      (Value.int IntKind.i64
      (↑a'.o : Int)) ∧
      true = true) ∧
      (SV.own (12 : Nat) (0 : Nat) =
      SV.own (12 : Nat)
      (0 : Nat) ∧
      true = true) ∧
      (SV.own (0 : Nat) (0 : Nat) =
      SV.own (0 : Nat)
      (0 : Nat) ∧
      true = true) ∧
      (SV.val
      (Value.int IntKind.i64
      nd) =
      SV.val
      (Value.int IntKind.i64
      nd) ∧
      true = true) ∧
      True) ∧
      (some
      { ty := (28 : TypeId), cs := [Value.string x.key, Value.int IntKind.i64 x.lo, Value.int IntKind.i64 x.hi, Value.int IntKind.i64 x.base, Value.int IntKind.i64 x.round, Value.slice a x.hs.length c, Value.int IntKind.i64 x.lk.cl, Value.int IntKind.i64 x.lk.sq, Value.int IntKind.i64 x.lk.hm, Value.int IntKind.i64 x.lk.n] : Bx } =
      some
      { ty := (28 : TypeId), cs := [Value.string x.key, Value.int IntKind.i64 x.lo, Value.int IntKind.i64 x.hi, Value.int IntKind.i64 x.base, Value.int IntKind.i64 x.round, Value.slice a x.hs.length c, Value.int IntKind.i64 x.lk.cl, Value.int IntKind.i64 x.lk.sq, Value.int IntKind.i64 x.lk.hm, Value.int IntKind.i64 x.lk.n] : Bx } ∧
      true = true) ∧
      (some
      { ty := (28 : TypeId), cs := [Value.string x.key, Value.int IntKind.i64 x.lo, Value.int IntKind.i64 x.hi, Value.int IntKind.i64 x.base, Value.int IntKind.i64 x.round, Value.slice a_3.a (putH x.hs (grantH x nd le ns)).length a_3.c, Value.int IntKind.i64 x.lk.cl, Value.int IntKind.i64 x.lk.sq, Value.int IntKind.i64 x.lk.hm, Value.int IntKind.i64 x.lk.n] : Bx } =
      some
      { ty := (28 : TypeId), cs := [Value.string x.key, Value.int IntKind.i64 x.lo, Value.int IntKind.i64 x.hi, Value.int IntKind.i64 x.base, Value.int IntKind.i64 x.round, Value.slice a'.a (putH x.hs (grantH x nd le ns)).length a'.c, Value.int IntKind.i64 x.lk.cl, Value.int IntKind.i64 x.lk.sq, Value.int IntKind.i64 x.lk.hm, Value.int IntKind.i64 x.lk.n] : Bx } ∧
      true = true) ∧
      True) ∧
      (6 : Nat) - a'.o < (6 : Nat) - a_3.o))
      (Done (Value.bool true = Value.bool true))))
      ((∃ (a_3 : GrX),
      GrI x (grantA x nd le ns) { π := m.π, sz := N, uf := m.uf : M } a_3 ∧
      m' = a_3.m ∧
      ((SV.val (Value.int IntKind.i64 (1 : Int)) =
      SV.val (Value.int IntKind.i64 (↑a_3.o : Int)) ∧
      true = true) ∧
      (SV.own ((0 : Nat) + (2 : Nat) + (2 : Nat) + (8 : Nat)) (0 : Nat) =
      SV.own (12 : Nat) (0 : Nat) ∧
      true = true) ∧
      (SV.own ((0 : Nat) + (0 : Nat)) (0 : Nat) =
      SV.own (0 : Nat) (0 : Nat) ∧
      true = true) ∧
      (SV.val (Value.int IntKind.i64 nd) =
      SV.val (Value.int IntKind.i64 nd) ∧
      true = true) ∧
      True) ∧
      (some
      { ty := (28 : Nat), cs := [Value.string x.key, Value.int IntKind.i64 x.lo, Value.int IntKind.i64 x.hi, Value.int IntKind.i64 x.base, Value.int IntKind.i64 x.round, Value.slice a x.hs.length c, Value.int IntKind.i64 x.lk.cl, Value.int IntKind.i64 x.lk.sq, Value.int IntKind.i64 x.lk.hm, Value.int IntKind.i64 x.lk.n] : Bx } =
      some
      { ty := (28 : TypeId), cs := [Value.string x.key, Value.int IntKind.i64 x.lo, Value.int IntKind.i64 x.hi, Value.int IntKind.i64 x.base, Value.int IntKind.i64 x.round, Value.slice a x.hs.length c, Value.int IntKind.i64 x.lk.cl, Value.int IntKind.i64 x.lk.sq, Value.int IntKind.i64 x.lk.hm, Value.int IntKind.i64 x.lk.n] : Bx } ∧
      true = true) ∧
      (some
      { ty := (28 : Nat), cs := [Value.string s, Value.int IntKind.i64 n, Value.int IntKind.i64 n_1, Value.int IntKind.i64 n_2, Value.int IntKind.i64 n_3, Value.slice a_2 n_4 c_1, Value.int IntKind.i64 n_5, Value.int IntKind.i64 n_6, Value.int IntKind.i64 n_7, Value.int IntKind.i64 n_8] : Bx } =
      some
      { ty := (28 : TypeId), cs := [Value.string x.key, Value.int IntKind.i64 x.lo, Value.int IntKind.i64 x.hi, Value.int IntKind.i64 x.base, Value.int IntKind.i64 x.round, Value.slice a_3.a (putH x.hs (grantH x nd le ns)).length a_3.c, Value.int IntKind.i64 x.lk.cl, Value.int IntKind.i64 x.lk.sq, Value.int IntKind.i64 x.lk.hm, Value.int IntKind.i64 x.lk.n] : Bx } ∧
      true = true) ∧
      True) ∧
      ∀ (a_3 : GrX),
      GrI x (grantA x nd le ns) { π := m.π, sz := N, uf := m.uf : M } a_3 →
      ifB (decide ((↑a_3.o : Int) ≤ (5 : Int)))
      (∃ (n : Int),
      ∃ (n_22 : Int),
      ∃ (n_23 : Int),
      ∃ (n_24 : Int),
      ∃ (b : Bool),
      QSpec Try.prog (19 : Nat)
      [Value.agg
      #[Value.string x.key, Value.int IntKind.i64 x.lo,
      Value.int IntKind.i64 x.hi,
      Value.int IntKind.i64 x.base,
      Value.int IntKind.i64 x.round,
      Value.slice a_3.a
      (putH x.hs (grantH x nd le ns)).length a_3.c,
      Value.int IntKind.i64 x.lk.cl,
      Value.int IntKind.i64 x.lk.sq,
      Value.int IntKind.i64 x.lk.hm,
      Value.int IntKind.i64 x.lk.n],
      Value.int IntKind.i64 (↑a_3.o : Int)]
      a_3.m
      (Value.tuple
      #[Value.agg
      #[Value.int IntKind.i64 n, Value.int IntKind.i64 n_22,
      Value.int IntKind.i64 n_23,
      Value.int IntKind.i64 n_24],
      Value.bool b]) ∧
      ∃ (n_25 : Int),
      ∃ (n_26 : Int),
      ∃ (n_27 : Int),
      ∃ (n_28 : Int),
      ∃ (b_2 : Bool),
      QSpec Try.prog (19 : Nat)
      [Value.agg
      #[Value.string x.key,
      Value.int IntKind.i64 x.lo,
      Value.int IntKind.i64 x.hi,
      Value.int IntKind.i64 x.base,
      Value.int IntKind.i64 x.round,
      Value.slice a x.hs.length c,
      Value.int IntKind.i64 x.lk.cl,
      Value.int IntKind.i64 x.lk.sq,
      Value.int IntKind.i64 x.lk.hm,
      Value.int IntKind.i64 x.lk.n],
      Value.int IntKind.i64 (↑a_3.o : Int)]
      a_3.m
      (Value.tuple
      #[Value.agg
      #[Value.int IntKind.i64 n_25,
      Value.int IntKind.i64 n_26,
      Value.int IntKind.i64 n_27,
      Value.int IntKind.i64 n_28],
      Value.bool b_2]) ∧
      ifB ((↑a_3.o : Int) != nd)
      (ifB (!b == b_2)
      (Done (Value.bool false = Value.bool true))
      (ifB
      (!(n == n_25 &&
      (n_22 == n_26 &&
      (n_23 == n_27 &&
      (n_24 == n_28 && true)))))
      (Done (Value.bool false = Value.bool true))
      (∃ (a' : GrX),
      (GrI x (grantA x nd le ns)
      { π := m.π, sz := N, uf := m.uf : M }
      a' ∧
      a_3.m = a'.m ∧
      ((SV.val
      (Value.int IntKind.i64
      (IntKind.i64.wrap
      ((↑a_3.o : Int) +
      (1 : Int)))) =
      SV.val
      (Value.int IntKind.i64
      (↑a'.o : Int)) ∧
      true = true) ∧
      (SV.own (12 : Nat) (0 : Nat) =
      SV.own (12 : Nat)
      (0 : Nat) ∧
      true = true) ∧
      (SV.own (0 : Nat) (0 : Nat) =
      SV.own (0 : Nat)
      (0 : Nat) ∧
      true = true) ∧
      (SV.val
      (Value.int
      IntKind.i64 nd) =
      SV.val
      (Value.int
      IntKind.i64 nd) ∧
      true = true) ∧
      True) ∧
      (some
      { ty := (28 : TypeId), cs := [Value.string x.key, Value.int IntKind.i64 x.lo, Value.int IntKind.i64 x.hi, Value.int IntKind.i64 x.base, Value.int IntKind.i64 x.round, Value.slice a x.hs.length c, Value.int IntKind.i64 x.lk.cl, Value.int IntKind.i64 x.lk.sq, Value.int IntKind.i64 x.lk.hm, Value.int IntKind.i64 x.lk.n] : Bx } =
      some
      { ty := (28 : TypeId), cs := [Value.string x.key, Value.int IntKind.i64 x.lo, Value.int IntKind.i64 x.hi, Value.int IntKind.i64 x.base, Value.int IntKind.i64 x.round, Value.slice a x.hs.length c, Value.int IntKind.i64 x.lk.cl, Value.int IntKind.i64 x.lk.sq, Value.int IntKind.i64 x.lk.hm, Value.int IntKind.i64 x.lk.n] : Bx } ∧
      true = true) ∧
      (some
      { ty := (28 : TypeId), cs := [Value.string x.key, Value.int IntKind.i64 x.lo, Value.int IntKind.i64 x.hi, Value.int IntKind.i64 x.base, Value.int IntKind.i64 x.round, Value.slice a_3.a (putH x.hs (grantH x nd le ns)).length a_3.c, Value.int IntKind.i64 x.lk.cl, Value.int IntKind.i64 x.lk.sq, Value.int IntKind.i64 x.lk.hm, Value.int IntKind.i64 x.lk.n] : Bx } =
      some
      { ty := (28 : TypeId), cs := [Value.string x.key, Value.int IntKind.i64 x.lo, Value.int IntKind.i64 x.hi, Value.int IntKind.i64 x.base, Value.int IntKind.i64 x.round, Value.slice a'.a (putH x.hs (grantH x nd le ns)).length a'.c, Value.int IntKind.i64 x.lk.cl, Value.int IntKind.i64 x.lk.sq, Value.int IntKind.i64 x.lk.hm, Value.int IntKind.i64 x.lk.n] : Bx } ∧
      true = true) ∧
      True) ∧
      (6 : Nat) - a'.o < (6 : Nat) - a_3.o)))
      (∃ (a' : GrX),
      (GrI x (grantA x nd le ns)
      { π := m.π, sz := N, uf := m.uf : M }
      a' ∧
      a_3.m = a'.m ∧
      ((SV.val
      (Value.int IntKind.i64
      (IntKind.i64.wrap
      ((↑a_3.o : Int) +
      (1 : Int)))) =
      SV.val
      (Value.int IntKind.i64
      (↑a'.o : Int)) ∧
      true = true) ∧
      (SV.own (12 : Nat) (0 : Nat) =
      SV.own (12 : Nat) (0 : Nat) ∧
      true = true) ∧
      (SV.own (0 : Nat) (0 : Nat) =
      SV.own (0 : Nat) (0 : Nat) ∧
      true = true) ∧
      (SV.val
      (Value.int IntKind.i64
      nd) =
      SV.val
      (Value.int IntKind.i64
      nd) ∧
      true = true) ∧
      True) ∧
      (some
      { ty := (28 : TypeId), cs := [Value.string x.key, Value.int IntKind.i64 x.lo, Value.int IntKind.i64 x.hi, Value.int IntKind.i64 x.base, Value.int IntKind.i64 x.round, Value.slice a x.hs.length c, Value.int IntKind.i64 x.lk.cl, Value.int IntKind.i64 x.lk.sq, Value.int IntKind.i64 x.lk.hm, Value.int IntKind.i64 x.lk.n] : Bx } =
      some
      { ty := (28 : TypeId), cs := [Value.string x.key, Value.int IntKind.i64 x.lo, Value.int IntKind.i64 x.hi, Value.int IntKind.i64 x.base, Value.int IntKind.i64 x.round, Value.slice a x.hs.length c, Value.int IntKind.i64 x.lk.cl, Value.int IntKind.i64 x.lk.sq, Value.int IntKind.i64 x.lk.hm, Value.int IntKind.i64 x.lk.n] : Bx } ∧
      true = true) ∧
      (some
      { ty := (28 : TypeId), cs := [Value.string x.key, Value.int IntKind.i64 x.lo, Value.int IntKind.i64 x.hi, Value.int IntKind.i64 x.base, Value.int IntKind.i64 x.round, Value.slice a_3.a (putH x.hs (grantH x nd le ns)).length a_3.c, Value.int IntKind.i64 x.lk.cl, Value.int IntKind.i64 x.lk.sq, Value.int IntKind.i64 x.lk.hm, Value.int IntKind.i64 x.lk.n] : Bx } =
      some
      { ty := (28 : TypeId), cs := [Value.string x.key, Value.int IntKind.i64 x.lo, Value.int IntKind.i64 x.hi, Value.int IntKind.i64 x.base, Value.int IntKind.i64 x.round, Value.slice a'.a (putH x.hs (grantH x nd le ns)).length a'.c, Value.int IntKind.i64 x.lk.cl, Value.int IntKind.i64 x.lk.sq, Value.int IntKind.i64 x.lk.hm, Value.int IntKind.i64 x.lk.n] : Bx } ∧
      true = true) ∧
      True) ∧
      (6 : Nat) - a'.o < (6 : Nat) - a_3.o))
      (Done (Value.bool true = Value.bool true)))))))))))))) (by kernel_rfl) ?_
  refine ⟨rfl, _, awake_q _, ifB_false fun N1 hN1 => (agrant_s x a c nd le ns hx h0 _ (h.sz (Nat.le_trans hN hN1))).mono fun v m' hag ⟨a', c', hv, hr⟩ => ⟨_, _, _, _, _, _, _, _, _, _, _, _, _, hv, ?_⟩⟩
  by_cases he : (aGrant x nd le ns).2 = 0
  · obtain ⟨h1, h2, h3, h4, h5, h6, h7, h8, h9⟩ := aGrant_ok he
    have P := grant_p hx h1 h2 h3 h4 h5 h6 hle h7 h8
    rw [h9] at hr ⊢
    have rx : Row m' a (hds x.hs) := (h.sz (Nat.le_trans hN hN1)).agree hag
    refine ifB_false ⟨_, _, _, _, _, find_q (grantA x nd le ns) a' c' nd P.wf _ hr.row, _, _, _, _, _, find_q x a c nd hx _ rx, _, _, room_q x a c hx _ rx, _, _, room_q (grantA x nd le ns) a' c' P.wf _ hr.row, ?_⟩
    obtain ⟨f1, f2⟩ := P.find
    have hup := P.up
    have hdn := P.dn
    have rU := P.roomU
    have rD := P.roomD
    have t1 : (decide ((grantH x nd le ns).up < (findH x nd).up)) = false := by simp; omega
    have t2 : (decide ((grantH x nd le ns).dn < (findH x nd).dn)) = false := by simp; omega
    have t3 : (IntKind.u64.wrap (roomDn x - roomDn (grantA x nd le ns)) != IntKind.u64.wrap (IntKind.i64.wrap ((grantH x nd le ns).dn - (findH x nd).dn))) = false := by
      rw [rD]; simp [IntKind.wrap_u64, IntKind.wrap_i64]; omega
    have t4 : (IntKind.u64.wrap (roomUp x - roomUp (grantA x nd le ns)) != IntKind.u64.wrap (IntKind.i64.wrap ((grantH x nd le ns).up - (findH x nd).up))) = false := by
      rw [rU]; simp [IntKind.wrap_u64, IntKind.wrap_i64]; omega
    have t5 : (((grantA x nd le ns, (0 : Int)).fst.base != x.base)) = false := by simp [grantA]
    have t6 : (!((grantA x nd le ns, (0 : Int)).fst.lo == x.lo && ((grantA x nd le ns, (0 : Int)).fst.hi == x.hi && true))) = false := by simp [grantA]
    rw [f1, f2, t1, t2, t3, t4, t5, t6]
    have A0 : Agree N { m with sz := N } m' := (Agree.szl (B := N) (m := { m with sz := N }) hN1).trans (hag.mono hN1)
    refine ifB_false (ifB_false (ifB_false (ifB_false (ifB_false (ifB_false (ifB_false ?_))))))
    rw [P.gle]
    cases hf : findB x nd
    · rw [if_neg (by simp)]
      rw [show ((le != le) : Bool) = false by simp]
      refine ifB_false (ifB_false ?_)
      refine ⟨⟨⟨1, a', c', m'⟩, ⟨Nat.le_refl _, by simp, hr.lower hN1, A0⟩, rfl, by simp, ⟨⟨rfl, rfl⟩, ⟨rfl, rfl⟩, trivial⟩⟩, fun z hz => ifB_intro (fun hb => ?_) (fun hb => ⟨rfl⟩)⟩
      have hz5 : z.o ≤ 5 := by simp at hb; omega
      have hzl := hz.lo
      have w1 : IntKind.i64.wrap ((z.o : Int) + 1) = ((z.o + 1 : Nat) : Int) := by simp [IntKind.wrap_i64]; omega
      have hnx : GrI x (grantA x nd le ns) { m with sz := N } ⟨z.o + 1, z.a, z.c, z.m⟩ := ⟨by simp only; omega, by simp only; omega, hz.own, hz.ag⟩
      refine ⟨_, _, _, _, _, find_q (grantA x nd le ns) z.a z.c z.o P.wf _ hz.own.row, _, _, _, _, _, find_q x a c z.o hx _ ((h.sz hN).agree hz.ag), ifB_intro (fun hne => ?_) (fun hne => ⟨⟨z.o + 1, z.a, z.c, z.m⟩, ⟨hnx, rfl, ⟨⟨by rw [w1], rfl⟩, ⟨rfl, rfl⟩, ⟨rfl, rfl⟩, ⟨rfl, rfl⟩, trivial⟩, ⟨⟨rfl, rfl⟩, ⟨rfl, rfl⟩, trivial⟩⟩, by simp only; omega⟩)⟩
      obtain ⟨o1, o2⟩ := P.other z.o (by simpa using hne)
      rw [o1, o2, show (!(findB x z.o == findB x z.o)) = false by simp, show (!((findH x z.o).nd == (findH x z.o).nd && ((findH x z.o).le == (findH x z.o).le && ((findH x z.o).up == (findH x z.o).up && ((findH x z.o).dn == (findH x z.o).dn && true))))) = false by simp]
      exact ifB_false (ifB_false ⟨⟨z.o + 1, z.a, z.c, z.m⟩, ⟨hnx, rfl, ⟨⟨by rw [w1], rfl⟩, ⟨rfl, rfl⟩, ⟨rfl, rfl⟩, ⟨rfl, rfl⟩, trivial⟩, ⟨⟨rfl, rfl⟩, ⟨rfl, rfl⟩, trivial⟩⟩, by simp only; omega⟩)
    · rw [if_pos rfl]
      rw [show (((findH x nd).le != (findH x nd).le) : Bool) = false by simp]
      refine ifB_intro (fun _ => ifB_false (ifB_true (ifB_false ?_))) (fun _ => ifB_true (ifB_false ?_))
      · refine ⟨⟨⟨1, a', c', m'⟩, ⟨Nat.le_refl _, by simp, hr.lower hN1, A0⟩, rfl, by simp, ⟨⟨rfl, rfl⟩, ⟨rfl, rfl⟩, trivial⟩⟩, fun z hz => ifB_intro (fun hb => ?_) (fun hb => ⟨rfl⟩)⟩
        have hz5 : z.o ≤ 5 := by simp at hb; omega
        have hzl := hz.lo
        have w1 : IntKind.i64.wrap ((z.o : Int) + 1) = ((z.o + 1 : Nat) : Int) := by simp [IntKind.wrap_i64]; omega
        have hnx : GrI x (grantA x nd le ns) { m with sz := N } ⟨z.o + 1, z.a, z.c, z.m⟩ := ⟨by simp only; omega, by simp only; omega, hz.own, hz.ag⟩
        refine ⟨_, _, _, _, _, find_q (grantA x nd le ns) z.a z.c z.o P.wf _ hz.own.row, _, _, _, _, _, find_q x a c z.o hx _ ((h.sz hN).agree hz.ag), ifB_intro (fun hne => ?_) (fun hne => ⟨⟨z.o + 1, z.a, z.c, z.m⟩, ⟨hnx, rfl, ⟨⟨by rw [w1], rfl⟩, ⟨rfl, rfl⟩, ⟨rfl, rfl⟩, ⟨rfl, rfl⟩, trivial⟩, ⟨⟨rfl, rfl⟩, ⟨rfl, rfl⟩, trivial⟩⟩, by simp only; omega⟩)⟩
        obtain ⟨o1, o2⟩ := P.other z.o (by simpa using hne)
        rw [o1, o2, show (!(findB x z.o == findB x z.o)) = false by simp, show (!((findH x z.o).nd == (findH x z.o).nd && ((findH x z.o).le == (findH x z.o).le && ((findH x z.o).up == (findH x z.o).up && ((findH x z.o).dn == (findH x z.o).dn && true))))) = false by simp]
        exact ifB_false (ifB_false ⟨⟨z.o + 1, z.a, z.c, z.m⟩, ⟨hnx, rfl, ⟨⟨by rw [w1], rfl⟩, ⟨rfl, rfl⟩, ⟨rfl, rfl⟩, ⟨rfl, rfl⟩, trivial⟩, ⟨⟨rfl, rfl⟩, ⟨rfl, rfl⟩, trivial⟩⟩, by simp only; omega⟩)
      · refine ⟨⟨⟨1, a', c', m'⟩, ⟨Nat.le_refl _, by simp, hr.lower hN1, A0⟩, rfl, by simp, ⟨⟨rfl, rfl⟩, ⟨rfl, rfl⟩, trivial⟩⟩, fun z hz => ifB_intro (fun hb => ?_) (fun hb => ⟨rfl⟩)⟩
        have hz5 : z.o ≤ 5 := by simp at hb; omega
        have hzl := hz.lo
        have w1 : IntKind.i64.wrap ((z.o : Int) + 1) = ((z.o + 1 : Nat) : Int) := by simp [IntKind.wrap_i64]; omega
        have hnx : GrI x (grantA x nd le ns) { m with sz := N } ⟨z.o + 1, z.a, z.c, z.m⟩ := ⟨by simp only; omega, by simp only; omega, hz.own, hz.ag⟩
        refine ⟨_, _, _, _, _, find_q (grantA x nd le ns) z.a z.c z.o P.wf _ hz.own.row, _, _, _, _, _, find_q x a c z.o hx _ ((h.sz hN).agree hz.ag), ifB_intro (fun hne => ?_) (fun hne => ⟨⟨z.o + 1, z.a, z.c, z.m⟩, ⟨hnx, rfl, ⟨⟨by rw [w1], rfl⟩, ⟨rfl, rfl⟩, ⟨rfl, rfl⟩, ⟨rfl, rfl⟩, trivial⟩, ⟨⟨rfl, rfl⟩, ⟨rfl, rfl⟩, trivial⟩⟩, by simp only; omega⟩)⟩
        obtain ⟨o1, o2⟩ := P.other z.o (by simpa using hne)
        rw [o1, o2, show (!(findB x z.o == findB x z.o)) = false by simp, show (!((findH x z.o).nd == (findH x z.o).nd && ((findH x z.o).le == (findH x z.o).le && ((findH x z.o).up == (findH x z.o).up && ((findH x z.o).dn == (findH x z.o).dn && true))))) = false by simp]
        exact ifB_false (ifB_false ⟨⟨z.o + 1, z.a, z.c, z.m⟩, ⟨hnx, rfl, ⟨⟨by rw [w1], rfl⟩, ⟨rfl, rfl⟩, ⟨rfl, rfl⟩, ⟨rfl, rfl⟩, trivial⟩, ⟨⟨rfl, rfl⟩, ⟨rfl, rfl⟩, trivial⟩⟩, by simp only; omega⟩)
  · have hb : ((aGrant x nd le ns).2 != 0) = true := by simpa using he
    rw [hb]
    have e := aGrant_err he
    rw [e] at hr ⊢
    refine ifB_true ⟨_, saccount_q ac0 ac0 a' none c' 0 (wf_key _ (by decide)) (wf_key _ (by decide)) m' hr.row (.nil _), ⟨by simp⟩⟩

end Go.Proofs.Ytlifpjllhibdpaa
