/-
  Contracts of functions of this seat: what each hands back, and what it leaves of memory (deal6). Nothing here is trusted: Lean checks it.
-/
import Derived.Test.YtoilbbfidnhekaaDeal5
set_option linter.unusedVariables false
set_option linter.unusedSimpArgs false
namespace Go.Proofs.Ytoilbbfidnhekaa
open Go.Vc Go.RowKit
set_option maxRecDepth 100000

theorem own_r (a : Option Addr) (c : Nat) (l : List Dl) (hn : l.length ≤ 1048576) (m : M) (h : Row m a (dls l)) :
    Vc.Spec Try.prog 9 [.slice a l.length c] m fun v m' => ∃ (b c' : Nat), v = .slice (some ⟨b, 0, none⟩) l.length c' ∧ Row m' (some ⟨b, 0, none⟩) (dls l) :=
  (own_s a c l hn m h).mono fun v m1 _ ⟨b, e, _, h1, _, h3⟩ => ⟨b, _, e, .at _ _ _ h1 h3.take⟩

theorem dealothers (a : Option Addr) (cp : Nat) (l : List Dl) (c s oc os : Int) (mine is : Bool) (hn : l.length ≤ 1048576) (m : M) (h : Row m a (dls l)) :
    QSpec Try.prog 5 [.slice a l.length cp, I c, I s, I oc, I os, .bool mine, .bool is] m (.bool true) := by
  refine QSpec.of_vc Try.func5 (ann := fun _ => noAnn) fun N hN => ?_
  refine vc_by (X :=
      true = true ∧
      ∃ (b : Bool),
      QSpec Try.prog (15 : Nat) [] { π := m.π, sz := N, uf := m.uf : M } (Value.bool b) ∧
      ifB (!b) (∃ (b : Bool), QSpec Try.prog (15 : Nat) [] { π := m.π, sz := N, uf := m.uf : M } (Value.bool b) ∧ Done (Value.bool b = Value.bool true))
      (ifB (c == oc)
      (ifB (s == os) (∃ (b : Bool), QSpec Try.prog (15 : Nat) [] { π := m.π, sz := N, uf := m.uf : M } (Value.bool b) ∧ Done (Value.bool b = Value.bool true))
      (∃ (S' : Nat → Prop),
      (∀ (b : Nat), S' b → m.uf b ∧ (N ≤ b ∨ False)) ∧
      ∀ (n : Nat),
      N ≤ n →
      SpecW Try.prog (9 : Nat) [Value.slice a l.length cp] { π := m.π, sz := n, uf := m.uf : M } S' fun (v : Value) (m' : M) =>
      ∃ (a_2 : Option Addr),
      ∃ (n : Nat),
      ∃ (c_1 : Nat),
      v = Value.slice a_2 n c_1 ∧
      ∃ (n_1 : Int),
      ∃ (n_2 : Int),
      ∃ (s_1 : ByteArray),
      ∃ (s_2 : ByteArray),
      ∃ (n_3 : Int),
      ∃ (n_4 : Int),
      ∃ (n_5 : Int),
      ∃ (n_6 : Int),
      ∃ (b : Bool),
      QSpec Try.prog (11 : Nat) [Value.slice a_2 n c_1, Value.int IntKind.i64 oc, Value.int IntKind.i64 os] m'
      (Value.tuple
      #[Value.agg
      #[Value.int IntKind.i64 n_1, Value.int IntKind.i64 n_2, Value.string s_1, Value.string s_2, Value.int IntKind.i64 n_3,
      Value.int IntKind.i64 n_4, Value.int IntKind.i64 n_5, Value.int IntKind.i64 n_6],
      Value.bool b]) ∧
      ∃ (S' : Nat → Prop),
      (∀ (b : Nat), S' b → m'.uf b ∧ (N ≤ b ∨ False)) ∧
      ∀ (n : Nat),
      m'.sz ≤ n →
      SpecW Try.prog (9 : Nat) [Value.slice a l.length cp] { π := m'.π, sz := n, uf := m'.uf : M } S'
      fun (v : Value) (m' : M) =>
      ∃ (a_4 : Option Addr),
      ∃ (n : Nat),
      ∃ (c_2 : Nat),
      v = Value.slice a_4 n c_2 ∧
      ∃ (S' : Nat → Prop),
      (∀ (b : Nat), S' b → m'.uf b ∧ (N ≤ b ∨ False)) ∧
      ∀ (n_7 : Nat),
      m'.sz ≤ n_7 →
      SpecW Try.prog (18 : Nat)
      [Value.slice a_4 n c_2, Value.int IntKind.i64 c, Value.int IntKind.i64 s, Value.bool mine,
      Value.bool is]
      { π := m'.π, sz := n_7, uf := m'.uf : M } S' fun (v : Value) (m' : M) =>
      ∃ (a_6 : Option Addr),
      ∃ (n : Nat),
      ∃ (c_3 : Nat),
      ∃ (b_1 : Bool),
      ∃ (n_8 : Int),
      v = Value.tuple #[Value.slice a_6 n c_3, Value.bool b_1, Value.int IntKind.i64 n_8] ∧
      ∃ (S' : Nat → Prop),
      (∀ (b : Nat), S' b → m'.uf b ∧ (N ≤ b ∨ False)) ∧
      ∀ (n_9 : Nat),
      m'.sz ≤ n_9 →
      SpecW Try.prog (9 : Nat) [Value.slice a l.length cp]
      { π := m'.π, sz := n_9, uf := m'.uf : M } S' fun (v : Value) (m' : M) =>
      ∃ (a_8 : Option Addr),
      ∃ (n_10 : Nat),
      ∃ (c_4 : Nat),
      v = Value.slice a_8 n_10 c_4 ∧
      ∃ (S' : Nat → Prop),
      (∀ (b : Nat), S' b → m'.uf b ∧ (N ≤ b ∨ False)) ∧
      ∀ (n_11 : Nat),
      m'.sz ≤ n_11 →
      SpecW Try.prog (20 : Nat)
      [Value.slice a_8 n_10 c_4, Value.int IntKind.i64 c,
      Value.int IntKind.i64 s]
      { π := m'.π, sz := n_11, uf := m'.uf : M } S'
      fun (v : Value) (m' : M) =>
      ∃ (a_10 : Option Addr),
      ∃ (n_12 : Nat),
      ∃ (c_5 : Nat),
      ∃ (b_2 : Bool),
      ∃ (n_13 : Int),
      v =
      Value.tuple
      #[Value.slice a_10 n_12 c_5, Value.bool b_2,
      Value.int IntKind.i64 n_13] ∧
      ∃ (S' : Nat → Prop),
      (∀ (b : Nat),
      S' b → m'.uf b ∧ (N ≤ b ∨ False)) ∧
      ∀ (n_14 : Nat),
      m'.sz ≤ n_14 →
      SpecW Try.prog (9 : Nat)
      [Value.slice a l.length cp]
      { π := m'.π, sz := n_14, uf := m'.uf : M }
      S' fun (v : Value) (m' : M) =>
      ∃ (a : Option Addr),
      ∃ (n_15 : Nat),
      ∃ (c_6 : Nat),
      v = Value.slice a n_15 c_6 ∧
      ∃ (S' : Nat → Prop),
      (∀ (b : Nat),
      S' b →
      m'.uf b ∧
      (N ≤ b ∨ False)) ∧
      ∀ (n_16 : Nat),
      m'.sz ≤ n_16 →
      SpecW Try.prog
      (22 : Nat)
      [Value.slice a n_15
      c_6,
      Value.int
      IntKind.i64 c,
      Value.int
      IntKind.i64 s]
      { π := m'.π, sz := n_16, uf := m'.uf : M }
      S'
      fun (v : Value)
      (m' : M) =>
      ∃ (a : Option Addr),
      ∃ (n_17 : Nat),
      ∃ (c : Nat),
      ∃ (n_18 : Int),
      v =
      Value.tuple
      #[Value.slice
      a
      n_17
      c,
      Value.int
      IntKind.i64
      n_18] ∧
      ∃ (n_19 :
      Int),
      ∃ (n_20 :
      Int),
      ∃ (s :
      ByteArray),
      ∃ (s_3
      :
      ByteArray),
      ∃
      (n_21
      :
      Int),
      ∃
      (n_22
      :
      Int),
      ∃
      (n_23
      :
      Int),
      ∃
      (n_24
      :
      Int),
      ∃
      (b_3
      :
      Bool),
      QSpec
      Try.prog
      (11 :
      Nat)
      [Value.slice
      a_6
      n
      c_3,
      Value.int
      IntKind.i64
      oc,
      Value.int
      IntKind.i64
      os]
      m'
      (Value.tuple
      #[Value.agg
      #[Value.int
      IntKind.i64
      n_19,
      Value.int
      IntKind.i64
      n_20,
      Value.string
      s,
      Value.string
      s_3,
      Value.int
      IntKind.i64
      n_21,
      Value.int
      IntKind.i64
      n_22,
      Value.int
      IntKind.i64
      n_23,
      Value.int
      IntKind.i64
      n_24],
      Value.bool
      b_3]) ∧
      ∃
      (n
      :
      Int),
      ∃
      (n_25
      :
      Int),
      ∃
      (s_4
      :
      ByteArray),
      ∃
      (s_5
      :
      ByteArray),
      ∃
      (n_26
      :
      Int),
      ∃
      (n_27
      :
      Int),
      ∃
      (n_28
      :
      Int),
      ∃
      (n_29
      :
      Int),
      ∃
      (b_4
      :
      Bool),
      QSpec
      Try.prog
      (11 :
      Nat)
      [Value.slice
      a_10
      n_12
      c_5,
      Value.int
      IntKind.i64
      oc,
      Value.int
      IntKind.i64
      os]
      m'
      (Value.tuple
      #[Value.agg
      #[Value.int
      IntKind.i64
      n,
      Value.int
      IntKind.i64
      n_25,
      Value.string
      s_4,
      Value.string
      s_5,
      Value.int
      IntKind.i64
      n_26,
      Value.int
      IntKind.i64
      n_27,
      Value.int
      IntKind.i64
      n_28,
      Value.int
      IntKind.i64
      n_29],
      Value.bool
      b_4]) ∧
      ∃
      (n_30
      :
      Int),
      ∃
      (n_31
      :
      Int),
      ∃
      (s_6
      :
      ByteArray),
      ∃
      (s_7
      :
      ByteArray),
      ∃
      (n_32
      :
      Int),
      ∃
      (n_33
      :
      Int),
      ∃
      (n_34
      :
      Int),
      ∃
      (n_35
      :
      Int),
      ∃
      (b_5
      :
      Bool),
      QSpec
      Try.prog
      (11 :
      Nat)
      [Value.slice
      a
      n_17
      c,
      Value.int
      IntKind.i64
      oc,
      Value.int
      IntKind.i64
      os]
      m'
      (Value.tuple
      #[Value.agg
      #[Value.int
      IntKind.i64
      n_30,
      Value.int
      IntKind.i64
      n_31,
      Value.string
      s_6,
      Value.string
      s_7,
      Value.int
      IntKind.i64
      n_32,
      Value.int
      IntKind.i64
      n_33,
      Value.int
      IntKind.i64
      n_34,
      Value.int
      IntKind.i64
      n_35],
      Value.bool
      b_5]) ∧
      ifB
      (n_8 ==
      (0 :
      Int))
      (ifB
      (!(n_19 ==
      n_1 &&
      (n_20 ==
      n_2 &&
      (s.toList ==
      s_1.toList &&
      (s_3.toList ==
      s_2.toList &&
      (n_21 ==
      n_3 &&
      (n_22 ==
      n_4 &&
      (n_23 ==
      n_5 &&
      (n_24 ==
      n_6 &&
      true)))))))))
      (Done
      (Value.bool
      false =
      Value.bool
      true))
      (ifB
      (!b_3 ==
      b)
      (Done
      (Value.bool
      false =
      Value.bool
      true))
      (ifB
      (n_13 ==
      (0 :
      Int))
      (ifB
      (!(n ==
      n_1 &&
      (n_25 ==
      n_2 &&
      (s_4.toList ==
      s_1.toList &&
      (s_5.toList ==
      s_2.toList &&
      (n_26 ==
      n_3 &&
      (n_27 ==
      n_4 &&
      (n_28 ==
      n_5 &&
      (n_29 ==
      n_6 &&
      true)))))))))
      (Done
      (Value.bool
      false =
      Value.bool
      true))
      (ifB
      (!b_4 ==
      b)
      (Done
      (Value.bool
      false =
      Value.bool
      true))
      (ifB
      (n_18 ==
      (0 :
      Int))
      (ifB
      (!(n_30 ==
      n_1 &&
      (n_31 ==
      n_2 &&
      (s_6.toList ==
      s_1.toList &&
      (s_7.toList ==
      s_2.toList &&
      (n_32 ==
      n_3 &&
      (n_33 ==
      n_4 &&
      (n_34 ==
      n_5 &&
      (n_35 ==
      n_6 &&
      true)))))))))
      (Done
      (Value.bool
      false =
      Value.bool
      true))
      (ifB
      (!b_5 ==
      b)
      (Done
      (Value.bool
      false =
      Value.bool
      true))
      (ifB
      (n_8 ==
      n_13)
      (ifB
      (n_18 ==
      (0 :
      Int))
      (Done
      (Value.bool
      true =
      Value.bool
      true))
      (ifB
      (n_18 ==
      n_8)
      (Done
      (Value.bool
      true =
      Value.bool
      true))
      (Done
      (Value.bool
      (n_18 ==
      (60 :
      Int)) =
      Value.bool
      true))))
      (Done
      (Value.bool
      false =
      Value.bool
      true)))))
      (ifB
      (n_8 ==
      n_13)
      (ifB
      (n_18 ==
      (0 :
      Int))
      (Done
      (Value.bool
      true =
      Value.bool
      true))
      (ifB
      (n_18 ==
      n_8)
      (Done
      (Value.bool
      true =
      Value.bool
      true))
      (Done
      (Value.bool
      (n_18 ==
      (60 :
      Int)) =
      Value.bool
      true))))
      (Done
      (Value.bool
      false =
      Value.bool
      true))))))
      (ifB
      (n_18 ==
      (0 :
      Int))
      (ifB
      (!(n_30 ==
      n_1 &&
      (n_31 ==
      n_2 &&
      (s_6.toList ==
      s_1.toList &&
      (s_7.toList ==
      s_2.toList &&
      (n_32 ==
      n_3 &&
      (n_33 ==
      n_4 &&
      (n_34 ==
      n_5 &&
      (n_35 ==
      n_6 &&
      true)))))))))
      (Done
      (Value.bool
      false =
      Value.bool
      true))
      (ifB
      (!b_5 ==
      b)
      (Done
      (Value.bool
      false =
      Value.bool
      true))
      (ifB
      (n_8 ==
      n_13)
      (ifB
      (n_18 ==
      (0 :
      Int))
      (Done
      (Value.bool
      true =
      Value.bool
      true))
      (ifB
      (n_18 ==
      n_8)
      (Done
      (Value.bool
      true =
      Value.bool
      true))
      (Done
      (Value.bool
      (n_18 ==
      (60 :
      Int)) =
      Value.bool
      true))))
      (Done
      (Value.bool
      false =
      Value.bool
      true)))))
      (ifB
      (n_8 ==
      n_13)
      (ifB
      (n_18 ==
      (0 :
      Int))
      (Done
      (Value.bool
      true =
      Value.bool
      true))
      (ifB
      (n_18 ==
      n_8)
      (Done
      (Value.bool
      true =
      Value.bool
      true))
      (Done
      (Value.bool
      (n_18 ==
      (60 :
      Int)) =
      Value.bool
      true))))
      (Done
      (Value.bool
      false =
      Value.bool
      true)))))))
      (ifB
      (n_13 ==
      (0 :
      Int))
      (ifB
      (!(n ==
      n_1 &&
      (n_25 ==
      n_2 &&
      (s_4.toList ==
      s_1.toList &&
      (s_5.toList ==
      s_2.toList &&
      (n_26 ==
      n_3 &&
      (n_27 ==
      n_4 &&
      (n_28 ==
      n_5 &&
      (n_29 ==
      n_6 &&
      true)))))))))
      (Done
      (Value.bool
      false =
      Value.bool
      true))
      (ifB
      (!b_4 ==
      b)
      (Done
      (Value.bool
      false =
      Value.bool
      true))
      (ifB
      (n_18 ==
      (0 :
      Int))
      (ifB
      (!(n_30 ==
      n_1 &&
      (n_31 ==
      n_2 &&
      (s_6.toList ==
      s_1.toList &&
      (s_7.toList ==
      s_2.toList &&
      (n_32 ==
      n_3 &&
      (n_33 ==
      n_4 &&
      (n_34 ==
      n_5 &&
      (n_35 ==
      n_6 &&
      true)))))))))
      (Done
      (Value.bool
      false =
      Value.bool
      true))
      (ifB
      (!b_5 ==
      b)
      (Done
      (Value.bool
      false =
      Value.bool
      true))
      (ifB
      (n_8 ==
      n_13)
      (ifB
      (n_18 ==
      (0 :
      Int))
      (Done
      (Value.bool
      true =
      Value.bool
      true))
      (ifB
      (n_18 ==
      n_8)
      (Done
      (Value.bool
      true =
      Value.bool
      true))
      (Done
      (Value.bool
      (n_18 ==
      (60 :
      Int)) =
      Value.bool
      true))))
      (Done
      (Value.bool
      false =
      Value.bool
      true)))))
      (ifB
      (n_8 ==
      n_13)
      (ifB
      (n_18 ==
      (0 :
      Int))
      (Done
      (Value.bool
      true =
      Value.bool
      true))
      (ifB
      (n_18 ==
      n_8)
      (Done
      (Value.bool
      true =
      Value.bool
      true))
      (Done
      (Value.bool
      (n_18 ==
      (60 :
      Int)) =
      Value.bool
      true))))
      (Done
      (Value.bool
      false =
      Value.bool
      true))))))
      (ifB
      (n_18 ==
      (0 :
      Int))
      (ifB
      (!(n_30 ==
      n_1 &&
      (n_31 ==
      n_2 &&
      (s_6.toList ==
      s_1.toList &&
      (s_7.toList ==
      s_2.toList &&
      (n_32 ==
      n_3 &&
      (n_33 ==
      n_4 &&
      (n_34 ==
      n_5 &&
      (n_35 ==
      n_6 &&
      true)))))))))
      (Done
      (Value.bool
      false =
      Value.bool
      true))
      (ifB
      (!b_5 ==
      b)
      (Done
      (Value.bool
      false =
      Value.bool
      true))
      (ifB
      (n_8 ==
      n_13)
      (ifB
      (n_18 ==
      (0 :
      Int))
      (Done
      (Value.bool
      true =
      Value.bool
      true))
      (ifB
      (n_18 ==
      n_8)
      (Done
      (Value.bool
      true =
      Value.bool
      true))
      (Done
      (Value.bool
      (n_18 ==
      (60 :
      Int)) =
      Value.bool
      true))))
      (Done
      (Value.bool
      false =
      Value.bool
      true)))))
      (ifB
      (n_8 ==
      n_13)
      (ifB
      (n_18 ==
      (0 :
      Int))
      (Done
      (Value.bool
      true =
      Value.bool
      true))
      (ifB
      (n_18 ==
      n_8)
      (Done
      (Value.bool
      true =
      Value.bool
      true))
      (Done
      (Value.bool
      (n_18 ==
      (60 :
      Int)) =
      Value.bool
      true))))
      (Done
      (Value.bool
      false =
      Value.bool
      true)))))))
      (∃ (S' : Nat → Prop),
      (∀ (b : Nat), S' b → m.uf b ∧ (N ≤ b ∨ False)) ∧
      ∀ (n : Nat),
      N ≤ n →
      SpecW Try.prog (9 : Nat) [Value.slice a l.length cp] { π := m.π, sz := n, uf := m.uf : M } S' fun (v : Value) (m' : M) =>
      ∃ (a_2 : Option Addr),
      ∃ (n : Nat),
      ∃ (c_1 : Nat),
      v = Value.slice a_2 n c_1 ∧
      ∃ (n_1 : Int),
      ∃ (n_2 : Int),
      ∃ (s_1 : ByteArray),
      ∃ (s_2 : ByteArray),
      ∃ (n_3 : Int),
      ∃ (n_4 : Int),
      ∃ (n_5 : Int),
      ∃ (n_6 : Int),
      ∃ (b : Bool),
      QSpec Try.prog (11 : Nat) [Value.slice a_2 n c_1, Value.int IntKind.i64 oc, Value.int IntKind.i64 os] m'
      (Value.tuple
      #[Value.agg
      #[Value.int IntKind.i64 n_1, Value.int IntKind.i64 n_2, Value.string s_1, Value.string s_2, Value.int IntKind.i64 n_3,
      Value.int IntKind.i64 n_4, Value.int IntKind.i64 n_5, Value.int IntKind.i64 n_6],
      Value.bool b]) ∧
      ∃ (S' : Nat → Prop),
      (∀ (b : Nat), S' b → m'.uf b ∧ (N ≤ b ∨ False)) ∧
      ∀ (n : Nat),
      m'.sz ≤ n →
      SpecW Try.prog (9 : Nat) [Value.slice a l.length cp] { π := m'.π, sz := n, uf := m'.uf : M } S' fun (v : Value) (m' : M) =>
      ∃ (a_4 : Option Addr),
      ∃ (n : Nat),
      ∃ (c_2 : Nat),
      v = Value.slice a_4 n c_2 ∧
      ∃ (S' : Nat → Prop),
      (∀ (b : Nat), S' b → m'.uf b ∧ (N ≤ b ∨ False)) ∧
      ∀ (n_7 : Nat),
      m'.sz ≤ n_7 →
      SpecW Try.prog (18 : Nat)
      [Value.slice a_4 n c_2, Value.int IntKind.i64 c, Value.int IntKind.i64 s, Value.bool mine,
      Value.bool is]
      { π := m'.π, sz := n_7, uf := m'.uf : M } S' fun (v : Value) (m' : M) =>
      ∃ (a_6 : Option Addr),
      ∃ (n : Nat),
      ∃ (c_3 : Nat),
      ∃ (b_1 : Bool),
      ∃ (n_8 : Int),
      v = Value.tuple #[Value.slice a_6 n c_3, Value.bool b_1, Value.int IntKind.i64 n_8] ∧
      ∃ (S' : Nat → Prop),
      (∀ (b : Nat), S' b → m'.uf b ∧ (N ≤ b ∨ False)) ∧
      ∀ (n_9 : Nat),
      m'.sz ≤ n_9 →
      SpecW Try.prog (9 : Nat) [Value.slice a l.length cp]
      { π := m'.π, sz := n_9, uf := m'.uf : M } S' fun (v : Value) (m' : M) =>
      ∃ (a_8 : Option Addr),
      ∃ (n_10 : Nat),
      ∃ (c_4 : Nat),
      v = Value.slice a_8 n_10 c_4 ∧
      ∃ (S' : Nat → Prop),
      (∀ (b : Nat), S' b → m'.uf b ∧ (N ≤ b ∨ False)) ∧
      ∀ (n_11 : Nat),
      m'.sz ≤ n_11 →
      SpecW Try.prog (20 : Nat)
      [Value.slice a_8 n_10 c_4, Value.int IntKind.i64 c,
      Value.int IntKind.i64 s]
      { π := m'.π, sz := n_11, uf := m'.uf : M } S'
      fun (v : Value) (m' : M) =>
      ∃ (a_10 : Option Addr),
      ∃ (n_12 : Nat),
      ∃ (c_5 : Nat),
      ∃ (b_2 : Bool),
      ∃ (n_13 : Int),
      v =
      Value.tuple
      #[Value.slice a_10 n_12 c_5, Value.bool b_2,
      Value.int IntKind.i64 n_13] ∧
      ∃ (S' : Nat → Prop),
      (∀ (b : Nat), S' b → m'.uf b ∧ (N ≤ b ∨ False)) ∧
      ∀ (n_14 : Nat),
      m'.sz ≤ n_14 →
      SpecW Try.prog (9 : Nat)
      [Value.slice a l.length cp]
      { π := m'.π, sz := n_14, uf := m'.uf : M }
      S' fun (v : Value) (m' : M) =>
      ∃ (a : Option Addr),
      ∃ (n_15 : Nat),
      ∃ (c_6 : Nat),
      v = Value.slice a n_15 c_6 ∧
      ∃ (S' : Nat → Prop),
      (∀ (b : Nat),
      S' b →
      m'.uf b ∧
      (N ≤ b ∨ False)) ∧
      ∀ (n_16 : Nat),
      m'.sz ≤ n_16 →
      SpecW Try.prog (22 : Nat)
      [Value.slice a n_15 c_6,
      Value.int IntKind.i64
      c,
      Value.int IntKind.i64
      s]
      { π := m'.π, sz := n_16, uf := m'.uf : M }
      S'
      fun (v : Value)
      (m' : M) =>
      ∃ (a : Option Addr),
      ∃ (n_17 : Nat),
      ∃ (c : Nat),
      ∃ (n_18 : Int),
      v =
      Value.tuple
      #[Value.slice
      a n_17
      c,
      Value.int
      IntKind.i64
      n_18] ∧
      ∃ (n_19 :
      Int),
      ∃ (n_20 :
      Int),
      ∃ (s :
      ByteArray),
      ∃ (s_3 :
      ByteArray),
      ∃
      (n_21
      :
      Int),
      ∃
      (n_22
      :
      Int),
      ∃
      (n_23
      :
      Int),
      ∃
      (n_24
      :
      Int),
      ∃
      (b_3
      :
      Bool),
      QSpec
      Try.prog
      (11 :
      Nat)
      [Value.slice
      a_6
      n
      c_3,
      Value.int
      IntKind.i64
      oc,
      Value.int
      IntKind.i64
      os]
      m'
      (Value.tuple
      #[Value.agg
      #[Value.int
      IntKind.i64
      n_19,
      Value.int
      IntKind.i64
      n_20,
      Value.string
      s,
      Value.string
      s_3,
      Value.int
      IntKind.i64
      n_21,
      Value.int
      IntKind.i64
      n_22,
      Value.int
      IntKind.i64
      n_23,
      Value.int
      IntKind.i64
      n_24],
      Value.bool
      b_3]) ∧
      ∃
      (n
      :
      Int),
      ∃
      (n_25
      :
      Int),
      ∃
      (s_4
      :
      ByteArray),
      ∃
      (s_5
      :
      ByteArray),
      ∃
      (n_26
      :
      Int),
      ∃
      (n_27
      :
      Int),
      ∃
      (n_28
      :
      Int),
      ∃
      (n_29
      :
      Int),
      ∃
      (b_4
      :
      Bool),
      QSpec
      Try.prog
      (11 :
      Nat)
      [Value.slice
      a_10
      n_12
      c_5,
      Value.int
      IntKind.i64
      oc,
      Value.int
      IntKind.i64
      os]
      m'
      (Value.tuple
      #[Value.agg
      #[Value.int
      IntKind.i64
      n,
      Value.int
      IntKind.i64
      n_25,
      Value.string
      s_4,
      Value.string
      s_5,
      Value.int
      IntKind.i64
      n_26,
      Value.int
      IntKind.i64
      n_27,
      Value.int
      IntKind.i64
      n_28,
      Value.int
      IntKind.i64
      n_29],
      Value.bool
      b_4]) ∧
      ∃
      (n_30
      :
      Int),
      ∃
      (n_31
      :
      Int),
      ∃
      (s_6
      :
      ByteArray),
      ∃
      (s_7
      :
      ByteArray),
      ∃
      (n_32
      :
      Int),
      ∃
      (n_33
      :
      Int),
      ∃
      (n_34
      :
      Int),
      ∃
      (n_35
      :
      Int),
      ∃
      (b_5
      :
      Bool),
      QSpec
      Try.prog
      (11 :
      Nat)
      [Value.slice
      a
      n_17
      c,
      Value.int
      IntKind.i64
      oc,
      Value.int
      IntKind.i64
      os]
      m'
      (Value.tuple
      #[Value.agg
      #[Value.int
      IntKind.i64
      n_30,
      Value.int
      IntKind.i64
      n_31,
      Value.string
      s_6,
      Value.string
      s_7,
      Value.int
      IntKind.i64
      n_32,
      Value.int
      IntKind.i64
      n_33,
      Value.int
      IntKind.i64
      n_34,
      Value.int
      IntKind.i64
      n_35],
      Value.bool
      b_5]) ∧
      ifB
      (n_8 ==
      (0 :
      Int))
      (ifB
      (!(n_19 ==
      n_1 &&
      (n_20 ==
      n_2 &&
      (s.toList ==
      s_1.toList &&
      (s_3.toList ==
      s_2.toList &&
      (n_21 ==
      n_3 &&
      (n_22 ==
      n_4 &&
      (n_23 ==
      n_5 &&
      (n_24 ==
      n_6 &&
      true)))))))))
      (Done
      (Value.bool
      false =
      Value.bool
      true))
      (ifB
      (!b_3 ==
      b)
      (Done
      (Value.bool
      false =
      Value.bool
      true))
      (ifB
      (n_13 ==
      (0 :
      Int))
      (ifB
      (!(n ==
      n_1 &&
      (n_25 ==
      n_2 &&
      (s_4.toList ==
      s_1.toList &&
      (s_5.toList ==
      s_2.toList &&
      (n_26 ==
      n_3 &&
      (n_27 ==
      n_4 &&
      (n_28 ==
      n_5 &&
      (n_29 ==
      n_6 &&
      true)))))))))
      (Done
      (Value.bool
      false =
      Value.bool
      true))
      (ifB
      (!b_4 ==
      b)
      (Done
      (Value.bool
      false =
      Value.bool
      true))
      (ifB
      (n_18 ==
      (0 :
      Int))
      (ifB
      (!(n_30 ==
      n_1 &&
      (n_31 ==
      n_2 &&
      (s_6.toList ==
      s_1.toList &&
      (s_7.toList ==
      s_2.toList &&
      (n_32 ==
      n_3 &&
      (n_33 ==
      n_4 &&
      (n_34 ==
      n_5 &&
      (n_35 ==
      n_6 &&
      true)))))))))
      (Done
      (Value.bool
      false =
      Value.bool
      true))
      (ifB
      (!b_5 ==
      b)
      (Done
      (Value.bool
      false =
      Value.bool
      true))
      (ifB
      (n_8 ==
      n_13)
      (ifB
      (n_18 ==
      (0 :
      Int))
      (Done
      (Value.bool
      true =
      Value.bool
      true))
      (ifB
      (n_18 ==
      n_8)
      (Done
      (Value.bool
      true =
      Value.bool
      true))
      (Done
      (Value.bool
      (n_18 ==
      (60 :
      Int)) =
      Value.bool
      true))))
      (Done
      (Value.bool
      false =
      Value.bool
      true)))))
      (ifB
      (n_8 ==
      n_13)
      (ifB
      (n_18 ==
      (0 :
      Int))
      (Done
      (Value.bool
      true =
      Value.bool
      true))
      (ifB
      (n_18 ==
      n_8)
      (Done
      (Value.bool
      true =
      Value.bool
      true))
      (Done
      (Value.bool
      (n_18 ==
      (60 :
      Int)) =
      Value.bool
      true))))
      (Done
      (Value.bool
      false =
      Value.bool
      true))))))
      (ifB
      (n_18 ==
      (0 :
      Int))
      (ifB
      (!(n_30 ==
      n_1 &&
      (n_31 ==
      n_2 &&
      (s_6.toList ==
      s_1.toList &&
      (s_7.toList ==
      s_2.toList &&
      (n_32 ==
      n_3 &&
      (n_33 ==
      n_4 &&
      (n_34 ==
      n_5 &&
      (n_35 ==
      n_6 &&
      true)))))))))
      (Done
      (Value.bool
      false =
      Value.bool
      true))
      (ifB
      (!b_5 ==
      b)
      (Done
      (Value.bool
      false =
      Value.bool
      true))
      (ifB
      (n_8 ==
      n_13)
      (ifB
      (n_18 ==
      (0 :
      Int))
      (Done
      (Value.bool
      true =
      Value.bool
      true))
      (ifB
      (n_18 ==
      n_8)
      (Done
      (Value.bool
      true =
      Value.bool
      true))
      (Done
      (Value.bool
      (n_18 ==
      (60 :
      Int)) =
      Value.bool
      true))))
      (Done
      (Value.bool
      false =
      Value.bool
      true)))))
      (ifB
      (n_8 ==
      n_13)
      (ifB
      (n_18 ==
      (0 :
      Int))
      (Done
      (Value.bool
      true =
      Value.bool
      true))
      (ifB
      (n_18 ==
      n_8)
      (Done
      (Value.bool
      true =
      Value.bool
      true))
      (Done
      (Value.bool
      (n_18 ==
      (60 :
      Int)) =
      Value.bool
      true))))
      (Done
      (Value.bool
      false =
      Value.bool
      true)))))))
      (ifB
      (n_13 ==
      (0 :
      Int))
      (ifB
      (!(n ==
      n_1 &&
      (n_25 ==
      n_2 &&
      (s_4.toList ==
      s_1.toList &&
      (s_5.toList ==
      s_2.toList &&
      (n_26 ==
      n_3 &&
      (n_27 ==
      n_4 &&
      (n_28 ==
      n_5 &&
      (n_29 ==
      n_6 &&
      true)))))))))
      (Done
      (Value.bool
      false =
      Value.bool
      true))
      (ifB
      (!b_4 ==
      b)
      (Done
      (Value.bool
      false =
      Value.bool
      true))
      (ifB
      (n_18 ==
      (0 :
      Int))
      (ifB
      (!(n_30 ==
      n_1 &&
      (n_31 ==
      n_2 &&
      (s_6.toList ==
      s_1.toList &&
      (s_7.toList ==
      s_2.toList &&
      (n_32 ==
      n_3 &&
      (n_33 ==
      n_4 &&
      (n_34 ==
      n_5 &&
      (n_35 ==
      n_6 &&
      true)))))))))
      (Done
      (Value.bool
      false =
      Value.bool
      true))
      (ifB
      (!b_5 ==
      b)
      (Done
      (Value.bool
      false =
      Value.bool
      true))
      (ifB
      (n_8 ==
      n_13)
      (ifB
      (n_18 ==
      (0 :
      Int))
      (Done
      (Value.bool
      true =
      Value.bool
      true))
      (ifB
      (n_18 ==
      n_8)
      (Done
      (Value.bool
      true =
      Value.bool
      true))
      (Done
      (Value.bool
      (n_18 ==
      (60 :
      Int)) =
      Value.bool
      true))))
      (Done
      (Value.bool
      false =
      Value.bool
      true)))))
      (ifB
      (n_8 ==
      n_13)
      (ifB
      (n_18 ==
      (0 :
      Int))
      (Done
      (Value.bool
      true =
      Value.bool
      true))
      (ifB
      (n_18 ==
      n_8)
      (Done
      (Value.bool
      true =
      Value.bool
      true))
      (Done
      (Value.bool
      (n_18 ==
      (60 :
      Int)) =
      Value.bool
      true))))
      (Done
      (Value.bool
      false =
      Value.bool
      true))))))
      (ifB
      (n_18 ==
      (0 :
      Int))
      (ifB
      (!(n_30 ==
      n_1 &&
      (n_31 ==
      n_2 &&
      (s_6.toList ==
      s_1.toList &&
      (s_7.toList ==
      s_2.toList &&
      (n_32 ==
      n_3 &&
      (n_33 ==
      n_4 &&
      (n_34 ==
      n_5 &&
      (n_35 ==
      n_6 &&
      true)))))))))
      (Done
      (Value.bool
      false =
      Value.bool
      true))
      (ifB
      (!b_5 ==
      b)
      (Done
      (Value.bool
      false =
      Value.bool
      true))
      (ifB
      (n_8 ==
      n_13)
      (ifB
      (n_18 ==
      (0 :
      Int))
      (Done
      (Value.bool
      true =
      Value.bool
      true))
      (ifB
      (n_18 ==
      n_8)
      (Done
      (Value.bool
      true =
      Value.bool
      true))
      (Done
      (Value.bool
      (n_18 ==
      (60 :
      Int)) =
      Value.bool
      true))))
      (Done
      (Value.bool
      false =
      Value.bool
      true)))))
      (ifB
      (n_8 ==
      n_13)
      (ifB
      (n_18 ==
      (0 :
      Int))
      (Done
      (Value.bool
      true =
      Value.bool
      true))
      (ifB
      (n_18 ==
      n_8)
      (Done
      (Value.bool
      true =
      Value.bool
      true))
      (Done
      (Value.bool
      (n_18 ==
      (60 :
      Int)) =
      Value.bool
      true))))
      (Done
      (Value.bool
      false =
      Value.bool
      true)))))))) (by kernel_rfl) ?_
  have hh : l.length ≤ 9223372036854775807 := by omega
  have hl1 := say_len l c s mine is
  have hl2 := give_len l c s
  have hl3 := forget_len l c s
  refine ⟨rfl, _, awake_q _, ifB_false (ifB_intro (fun k1 => ifB_intro (fun k2 => ⟨_, awake_q _, ⟨rfl⟩⟩) (fun k2 => ?_)) (fun k1 => ?_))⟩
  all_goals
    have hne : ¬ (c = oc ∧ s = os) := fun e => by first | (simp [e.2] at k2) | (simp [e.1] at k1)
    obtain ⟨q1, q2, q3, q4, q5⟩ := others_law l c s oc os mine is hne
    refine ⟨_, noS, fun N1 hN1 => (own_r a cp l hn _ (h.sz (by omega))).monoW fun v1 m1 ag1 ⟨b1, c1, e1, r1⟩ => ⟨_, _, _, e1, _, _, _, _, _, _, _, _, _, find_q _ _ l oc os hh _ r1, ?_⟩⟩
    have i1 := (h.sz (n := N1) (by omega)).agree ag1
    refine ⟨_, noS, fun N2 hN2 => (own_r a cp l hn _ (i1.sz hN2)).monoW fun v2 m2 ag2 ⟨b2, c2, e2, r2⟩ => ⟨_, _, _, e2, ?_⟩⟩
    have i2 := (i1.sz hN2).agree ag2
    refine ⟨_, noS, fun N3 hN3 => (saying_s _ _ l c s mine is hh (fun e => by simp at e) _ (r2.sz hN3)).monoW fun v3 m3 ag3 ⟨a3, c3, e3, r3⟩ => ⟨_, _, _, _, _, e3, ?_⟩⟩
    have i3 := (i2.sz hN3).agree ag3
    have s3 := r3.row
    refine ⟨_, noS, fun N4 hN4 => (own_r a cp l hn _ (i3.sz hN4)).monoW fun v4 m4 ag4 ⟨b4, c4, e4, r4⟩ => ⟨_, _, _, e4, ?_⟩⟩
    have i4 := (i3.sz hN4).agree ag4
    have s4 := (s3.sz hN4).agree ag4
    refine ⟨_, noS, fun N5 hN5 => (give_s _ _ l c s hh (fun e => by simp at e) _ (r4.sz hN5)).monoW fun v5 m5 ag5 ⟨a5, c5, e5, r5⟩ => ⟨_, _, _, _, _, e5, ?_⟩⟩
    have i5 := (i4.sz hN5).agree ag5
    have s5 := (s4.sz hN5).agree ag5
    have t5 := r5.row
    refine ⟨_, noS, fun N6 hN6 => (own_r a cp l hn _ (i5.sz hN6)).monoW fun v6 m6 ag6 ⟨b6, c6, e6, r6⟩ => ⟨_, _, _, e6, ?_⟩⟩
    have s6 := (s5.sz hN6).agree ag6
    have t6 := (t5.sz hN6).agree ag6
    refine ⟨_, noS, fun N7 hN7 => (forget_s _ _ l c s hh (fun e => by simp at e) _ (r6.sz hN7)).monoW fun v7 m7 ag7 ⟨a7, c7, e7, r7⟩ => ⟨_, _, _, _, e7, ?_⟩⟩
    have s7 := (s6.sz hN7).agree ag7
    have t7 := (t6.sz hN7).agree ag7
    refine ⟨_, _, _, _, _, _, _, _, _, find_q _ _ _ oc os (by omega) _ s7, _, _, _, _, _, _, _, _, _, find_q _ _ _ oc os (by omega) _ t7, _, _, _, _, _, _, _, _, _, find_q _ _ _ oc os (by omega) _ r7.row, ?_⟩
    rw [q1, q2]
    by_cases he : foundE l c s = 0
    · obtain ⟨q6, q7⟩ := q3 he
      rw [q6, q7, he]
      simp only [beq_self_eq_true, Bool.and_self, Bool.not_true]
      refine ifB_true (ifB_false (ifB_false (ifB_true (ifB_false (ifB_false ?_)))))
      by_cases hz : (forgetD l c s).2 = 0
      · rw [q4 hz, hz]
        simp only [beq_self_eq_true, Bool.and_self, Bool.not_true]
        exact ifB_true (ifB_false (ifB_false (ifB_true (ifB_true ⟨trivial⟩))))
      · have hz2 : (forgetD l c s).2 = 60 := by omega
        rw [hz2]
        exact ifB_false (ifB_true (ifB_false (ifB_false ⟨rfl⟩)))
    · have e0 : (foundE l c s == 0) = false := by simpa using he
      have hz : (forgetD l c s).2 = foundE l c s := by simp [forgetD, he]
      rw [hz]
      simp only [e0, beq_self_eq_true]
      exact ifB_false (ifB_false (ifB_false (ifB_true (ifB_false (ifB_true ⟨trivial⟩)))))

end Go.Proofs.Ytoilbbfidnhekaa
