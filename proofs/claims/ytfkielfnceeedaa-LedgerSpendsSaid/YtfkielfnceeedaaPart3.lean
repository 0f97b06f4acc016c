/-
  Contracts of functions of this seat: what each hands back, and what it leaves of memory (led8, acc8). Nothing here is trusted: Lean checks it.
-/
import Derived.Test.YtfkielfnceeedaaPart2
import Derived.Test.YtfkielfnceeedaaPart1
set_option linter.unusedVariables false
set_option linter.unusedSimpArgs false
namespace Go.Proofs.Ytfkielfnceeedaa
open Go.Vc Go.RowKit
set_option maxRecDepth 100000

theorem bplain_q (m : M) : QSpec Try.prog 85 [.slice none 0 0, .slice none 0 0] m (.bool true) := by
  refine QSpec.of_vc Try.func85 (ann := fun n _ => { A := Nat, inv := fun k => k = 0, st := fun _ => [(5, .val (I 0)), (0, .val (.slice none 0 0)), (1, .val (.slice none 0 0))], own := fun _ => [], m := fun _ => { m with sz := n }, μ := fun _ => 0 }) fun n hn => ?_
  refine vc_by (X :=
      true = true ∧
      (∃ (a : Nat),
      a = (0 : Nat) ∧
      { π := m.π, sz := n, uf := m.uf : M } = { π := m.π, sz := n, uf := m.uf : M } ∧
      ((SV.val (Value.int IntKind.i64 (0 : Int)) = SV.val (Value.int IntKind.i64 (0 : Int)) ∧ true = true) ∧
      (SV.val (Value.slice none (0 : Nat) (0 : Nat)) = SV.val (Value.slice none (0 : Nat) (0 : Nat)) ∧ true = true) ∧
      (SV.val (Value.slice none (0 : Nat) (0 : Nat)) = SV.val (Value.slice none (0 : Nat) (0 : Nat)) ∧ true = true) ∧ True) ∧
      True) ∧
      ∀ (a : Nat), a = (0 : Nat) → Done (Value.bool true = Value.bool true)) (by kernel_rfl) ?_
  exact ⟨rfl, ⟨0, by simp⟩, fun _ _ => ⟨rfl⟩⟩

theorem bytes_q (m : M) : QSpec Try.prog 65 [.slice none 0 0, .slice none 0 0] m (.bool true) := by
  refine QSpec.of_vc Try.func65 (ann := fun _ => noAnn) fun n hn => ?_
  refine vc_by (X :=
      true = true ∧
      ∃ (b : Bool),
      QSpec Try.prog (85 : Nat) [Value.slice none (0 : Nat) (0 : Nat), Value.slice none (0 : Nat) (0 : Nat)] { π := m.π, sz := n, uf := m.uf : M } (Value.bool b) ∧
      Done (Value.bool b = Value.bool true)) (by kernel_rfl) ?_
  exact ⟨rfl, _, bplain_q _, ⟨rfl⟩⟩

theorem command_q (c : Cm) (m : M) : QSpec Try.prog 30 [cmv c, cmv c] m (.bool true) := by
  refine QSpec.of_vc Try.func30 (ann := fun _ => noAnn) fun n hn => ?_
  refine vc_by (X :=
      true = true ∧
      ifB (c.k == c.k)
      (ifB (c.nd == c.nd)
      (ifB (c.ky.toList == c.ky.toList)
      (ifB (c.le == c.le)
      (ifB (c.ro == c.ro)
      (ifB (c.ne == c.ne)
      (∃ (b : Bool),
      QSpec Try.prog (65 : Nat) [Value.slice none (0 : Nat) (0 : Nat), Value.slice none (0 : Nat) (0 : Nat)] { π := m.π, sz := n, uf := m.uf : M } (Value.bool b) ∧
      Done (Value.bool b = Value.bool true))
      (Done (Value.bool false = Value.bool true)))
      (Done (Value.bool false = Value.bool true)))
      (Done (Value.bool false = Value.bool true)))
      (Done (Value.bool false = Value.bool true)))
      (Done (Value.bool false = Value.bool true)))
      (Done (Value.bool false = Value.bool true))) (by kernel_rfl) ?_
  simp only [bne_self_eq_false, beq_self_eq_true, Bool.not_true, Bool.not_false, Bool.and_self, Bool.and_true, decide_true]
  exact ⟨by trivial, ifB_true (ifB_true (ifB_true (ifB_true (ifB_true (ifB_true ⟨_, bytes_q _, ⟨rfl⟩⟩)))))⟩

set_option maxHeartbeats 1000000 in
theorem ledgerspends (al : Option Addr) (cl : Nat) (l : List Rt) (g : Int) (x : Ac) (a : Option Addr) (c : Nat) (nd n : Int) (hl : l.length ≤ 3518437208780) (hlw : ∀ r ∈ l, r.wf) (hx : x.wf) (hxl : x.hs.length ≤ 4398046510976) (hn : In64 n) (m : M) (h1 : Row m al (rts l)) (h2 : Row m a (hds x.hs)) :
    QSpec Try.prog 6 [.slice al l.length cl, I g, acv x a c, I nd, I n] m (.bool true) := by
  refine QSpec.of_vc Try.func6 (ann := fun _ => noAnn) fun N hN => ?_
  refine vc_by (X :=
      true = true ∧
      ∃ (S' : Nat → Prop),
      (∀ (b : Nat), S' b → m.uf b ∧ (N ≤ b ∨ False)) ∧
      ∀ (n_1 : Nat),
      N ≤ n_1 →
      SpecW Try.prog (9 : Nat) [Value.slice al l.length cl] { π := m.π, sz := n_1, uf := m.uf : M } S' fun (v : Value) (m' : M) =>
      ∃ (a_2 : Option Addr),
      ∃ (n_2 : Nat),
      ∃ (c_1 : Nat),
      v = Value.slice a_2 n_2 c_1 ∧
      ∀ (n_3 : Nat),
      m'.sz ≤ n_3 →
      Vc.Spec Try.prog (23 : Nat)
      [Value.agg
      #[Value.string x.key, Value.int IntKind.i64 x.lo, Value.int IntKind.i64 x.hi, Value.int IntKind.i64 x.base, Value.int IntKind.i64 x.round,
      Value.slice a x.hs.length c, Value.int IntKind.i64 x.lk.cl, Value.int IntKind.i64 x.lk.sq, Value.int IntKind.i64 x.lk.hm,
      Value.int IntKind.i64 x.lk.n]]
      { π := m'.π, sz := n_3, uf := m'.uf : M } fun (v : Value) (m' : M) =>
      ∃ (s : ByteArray),
      ∃ (n_4 : Int),
      ∃ (n_5 : Int),
      ∃ (n_6 : Int),
      ∃ (n_7 : Int),
      ∃ (a_4 : Option Addr),
      ∃ (n_8 : Nat),
      ∃ (c_2 : Nat),
      ∃ (n_9 : Int),
      ∃ (n_10 : Int),
      ∃ (n_11 : Int),
      ∃ (n_12 : Int),
      v =
      Value.agg
      #[Value.string s, Value.int IntKind.i64 n_4, Value.int IntKind.i64 n_5, Value.int IntKind.i64 n_6,
      Value.int IntKind.i64 n_7, Value.slice a_4 n_8 c_2, Value.int IntKind.i64 n_9, Value.int IntKind.i64 n_10,
      Value.int IntKind.i64 n_11, Value.int IntKind.i64 n_12] ∧
      ∃ (n_13 : Int),
      ∃ (s_1 : ByteArray),
      ∃ (n_14 : Int),
      ∃ (n_15 : Int),
      ∃ (n_16 : Int),
      QSpec Try.prog (24 : Nat)
      [Value.slice a_2 n_2 c_1, Value.int IntKind.i64 g,
      Value.agg
      #[Value.string s, Value.int IntKind.i64 n_4, Value.int IntKind.i64 n_5, Value.int IntKind.i64 n_6,
      Value.int IntKind.i64 n_7, Value.slice a_4 n_8 c_2, Value.int IntKind.i64 n_9, Value.int IntKind.i64 n_10,
      Value.int IntKind.i64 n_11, Value.int IntKind.i64 n_12],
      Value.int IntKind.i64 nd, Value.int IntKind.i64 n]
      m'
      (Value.tuple
      #[Value.agg
      #[Value.int IntKind.i64 n_13, Value.string s_1, Value.int IntKind.i64 n_14, Value.int IntKind.i64 n_15],
      Value.int IntKind.i64 n_16]) ∧
      ∃ (n_17 : Int),
      ∃ (s_2 : ByteArray),
      ∃ (n_18 : Int),
      ∃ (n_19 : Int),
      ∃ (n_20 : Int),
      QSpec Try.prog (25 : Nat)
      [Value.slice al l.length cl, Value.int IntKind.i64 g,
      Value.agg
      #[Value.string x.key, Value.int IntKind.i64 x.lo, Value.int IntKind.i64 x.hi,
      Value.int IntKind.i64 x.base, Value.int IntKind.i64 x.round, Value.slice a x.hs.length c,
      Value.int IntKind.i64 x.lk.cl, Value.int IntKind.i64 x.lk.sq, Value.int IntKind.i64 x.lk.hm,
      Value.int IntKind.i64 x.lk.n],
      Value.int IntKind.i64 nd, Value.int IntKind.i64 n]
      m'
      (Value.tuple
      #[Value.agg
      #[Value.int IntKind.i64 n_17, Value.string s_2, Value.int IntKind.i64 n_18,
      Value.int IntKind.i64 n_19],
      Value.int IntKind.i64 n_20]) ∧
      ∃ (n : Int),
      ∃ (n_21 : Int),
      ∃ (n_22 : Int),
      QSpec Try.prog (26 : Nat)
      [Value.slice a_2 n_2 c_1, Value.int IntKind.i64 g,
      Value.agg
      #[Value.string s, Value.int IntKind.i64 n_4, Value.int IntKind.i64 n_5,
      Value.int IntKind.i64 n_6, Value.int IntKind.i64 n_7, Value.slice a_4 n_8 c_2,
      Value.int IntKind.i64 n_9, Value.int IntKind.i64 n_10, Value.int IntKind.i64 n_11,
      Value.int IntKind.i64 n_12],
      Value.int IntKind.i64 nd]
      m'
      (Value.tuple
      #[Value.int IntKind.i64 n, Value.int IntKind.i64 n_21, Value.int IntKind.i64 n_22]) ∧
      ∃ (n_23 : Int),
      ∃ (n_24 : Int),
      ∃ (n_25 : Int),
      QSpec Try.prog (27 : Nat)
      [Value.slice al l.length cl, Value.int IntKind.i64 g,
      Value.agg
      #[Value.string x.key, Value.int IntKind.i64 x.lo, Value.int IntKind.i64 x.hi,
      Value.int IntKind.i64 x.base, Value.int IntKind.i64 x.round,
      Value.slice a x.hs.length c, Value.int IntKind.i64 x.lk.cl,
      Value.int IntKind.i64 x.lk.sq, Value.int IntKind.i64 x.lk.hm,
      Value.int IntKind.i64 x.lk.n],
      Value.int IntKind.i64 nd]
      m'
      (Value.tuple
      #[Value.int IntKind.i64 n_23, Value.int IntKind.i64 n_24,
      Value.int IntKind.i64 n_25]) ∧
      ∃ (S' : Nat → Prop),
      (∀ (b : Nat), S' b → m'.uf b ∧ (N ≤ b ∨ False)) ∧
      ∀ (n_26 : Nat),
      m'.sz ≤ n_26 →
      SpecW Try.prog (28 : Nat)
      [Value.slice a_2 n_2 c_1, Value.int IntKind.i64 g,
      Value.agg
      #[Value.string s, Value.int IntKind.i64 n_4, Value.int IntKind.i64 n_5,
      Value.int IntKind.i64 n_6, Value.int IntKind.i64 n_7,
      Value.slice a_4 n_8 c_2, Value.int IntKind.i64 n_9,
      Value.int IntKind.i64 n_10, Value.int IntKind.i64 n_11,
      Value.int IntKind.i64 n_12],
      Value.int IntKind.i64 nd]
      { π := m'.π, sz := n_26, uf := m'.uf : M } S' fun (v : Value) (m' : M) =>
      ∃ (n_27 : Int),
      ∃ (n_28 : Int),
      ∃ (n_29 : Int),
      ∃ (n_30 : Int),
      ∃ (n_31 : Int),
      ∃ (n_32 : Int),
      ∃ (s_3 : ByteArray),
      ∃ (n_33 : Int),
      ∃ (n_34 : Int),
      ∃ (n_35 : Int),
      ∃ (b : Bool),
      ∃ (n_36 : Int),
      ∃ (s_4 : ByteArray),
      ∃ (s_5 : ByteArray),
      ∃ (n_37 : Int),
      ∃ (n_38 : Int),
      ∃ (n_39 : Int),
      ∃ (n_40 : Int),
      ∃ (n_41 : Int),
      ∃ (n_42 : Int),
      ∃ (s_6 : ByteArray),
      ∃ (s_7 : ByteArray),
      ∃ (n_43 : Int),
      ∃ (n_44 : Int),
      ∃ (a_6 : Option Addr),
      ∃ (n_45 : Nat),
      ∃ (c_3 : Nat),
      ∃ (b_1 : Bool),
      v =
      Value.tuple
      #[Value.agg
      #[Value.int
      IntKind.i64
      n_27,
      Value.int
      IntKind.i64
      n_28,
      Value.int
      IntKind.i64
      n_29,
      Value.int
      IntKind.i64
      n_30,
      Value.int
      IntKind.i64
      n_31,
      Value.int
      IntKind.i64
      n_32,
      Value.string
      s_3,
      Value.int
      IntKind.i64
      n_33,
      Value.int
      IntKind.i64
      n_34,
      Value.int
      IntKind.i64
      n_35,
      Value.bool
      b,
      Value.int
      IntKind.i64
      n_36,
      Value.string
      s_4,
      Value.string
      s_5,
      Value.int
      IntKind.i64
      n_37,
      Value.int
      IntKind.i64
      n_38,
      Value.int
      IntKind.i64
      n_39,
      Value.int
      IntKind.i64
      n_40,
      Value.int
      IntKind.i64
      n_41,
      Value.int
      IntKind.i64
      n_42,
      Value.string
      s_6,
      Value.string
      s_7,
      Value.int
      IntKind.i64
      n_43,
      Value.int
      IntKind.i64
      n_44,
      Value.slice
      a_6 n_45
      c_3],
      Value.bool
      b_1] ∧
      ∃ (S' : Nat → Prop),
      (∀ (b : Nat),
      S' b →
      m'.uf b ∧
      (N ≤ b ∨
      False)) ∧
      ∀ (n_46 : Nat),
      m'.sz ≤ n_46 →
      SpecW
      Try.prog
      (29 : Nat)
      [Value.slice
      al
      l.length
      cl,
      Value.int
      IntKind.i64
      g,
      Value.agg
      #[Value.string
      x.key,
      Value.int
      IntKind.i64
      x.lo,
      Value.int
      IntKind.i64
      x.hi,
      Value.int
      IntKind.i64
      x.base,
      Value.int
      IntKind.i64
      x.round,
      Value.slice
      a
      x.hs.length
      c,
      Value.int
      IntKind.i64
      x.lk.cl,
      Value.int
      IntKind.i64
      x.lk.sq,
      Value.int
      IntKind.i64
      x.lk.hm,
      Value.int
      IntKind.i64
      x.lk.n],
      Value.int
      IntKind.i64
      nd]
      { π := m'.π, sz := n_46, uf := m'.uf : M }
      S'
      fun
      (v :
      Value)
      (m' :
      M) =>
      ∃ (n_47 :
      Int),
      ∃ (n_48
      :
      Int),
      ∃
      (n_49
      :
      Int),
      ∃
      (n_50
      :
      Int),
      ∃
      (n_51
      :
      Int),
      ∃
      (n_52
      :
      Int),
      ∃
      (s_8
      :
      ByteArray),
      ∃
      (n_53
      :
      Int),
      ∃
      (n_54
      :
      Int),
      ∃
      (n_55
      :
      Int),
      ∃
      (b_2
      :
      Bool),
      ∃
      (n_56
      :
      Int),
      ∃
      (s_9
      :
      ByteArray),
      ∃
      (s_10
      :
      ByteArray),
      ∃
      (n_57
      :
      Int),
      ∃
      (n_58
      :
      Int),
      ∃
      (n_59
      :
      Int),
      ∃
      (n_60
      :
      Int),
      ∃
      (n_61
      :
      Int),
      ∃
      (n_62
      :
      Int),
      ∃
      (s_11
      :
      ByteArray),
      ∃
      (s_12
      :
      ByteArray),
      ∃
      (n_63
      :
      Int),
      ∃
      (n_64
      :
      Int),
      ∃
      (a_8
      :
      Option
      Addr),
      ∃
      (n_65
      :
      Nat),
      ∃
      (c_4
      :
      Nat),
      ∃
      (b_3
      :
      Bool),
      v =
      Value.tuple
      #[Value.agg
      #[Value.int
      IntKind.i64
      n_47,
      Value.int
      IntKind.i64
      n_48,
      Value.int
      IntKind.i64
      n_49,
      Value.int
      IntKind.i64
      n_50,
      Value.int
      IntKind.i64
      n_51,
      Value.int
      IntKind.i64
      n_52,
      Value.string
      s_8,
      Value.int
      IntKind.i64
      n_53,
      Value.int
      IntKind.i64
      n_54,
      Value.int
      IntKind.i64
      n_55,
      Value.bool
      b_2,
      Value.int
      IntKind.i64
      n_56,
      Value.string
      s_9,
      Value.string
      s_10,
      Value.int
      IntKind.i64
      n_57,
      Value.int
      IntKind.i64
      n_58,
      Value.int
      IntKind.i64
      n_59,
      Value.int
      IntKind.i64
      n_60,
      Value.int
      IntKind.i64
      n_61,
      Value.int
      IntKind.i64
      n_62,
      Value.string
      s_11,
      Value.string
      s_12,
      Value.int
      IntKind.i64
      n_63,
      Value.int
      IntKind.i64
      n_64,
      Value.slice
      a_8
      n_65
      c_4],
      Value.bool
      b_3] ∧
      ∃
      (b_4
      :
      Bool),
      QSpec
      Try.prog
      (13 :
      Nat)
      []
      m'
      (Value.bool
      b_4) ∧
      ifB
      b_4
      (ifB
      (n_13 ==
      n_17 &&
      (s_1.toList ==
      s_2.toList &&
      (n_14 ==
      n_18 &&
      (n_15 ==
      n_19 &&
      true))))
      (ifB
      (n_16 ==
      n_20)
      (ifB
      (n ==
      n_23)
      (ifB
      (n_21 ==
      n_24)
      (ifB
      (n_22 ==
      n_25)
      (∃
      (b_5
      :
      Bool),
      QSpec
      Try.prog
      (30 :
      Nat)
      [Value.agg
      #[Value.int
      IntKind.i64
      n_27,
      Value.int
      IntKind.i64
      n_28,
      Value.int
      IntKind.i64
      n_29,
      Value.int
      IntKind.i64
      n_30,
      Value.int
      IntKind.i64
      n_31,
      Value.int
      IntKind.i64
      n_32,
      Value.string
      s_3,
      Value.int
      IntKind.i64
      n_33,
      Value.int
      IntKind.i64
      n_34,
      Value.int
      IntKind.i64
      n_35,
      Value.bool
      b,
      Value.int
      IntKind.i64
      n_36,
      Value.string
      s_4,
      Value.string
      s_5,
      Value.int
      IntKind.i64
      n_37,
      Value.int
      IntKind.i64
      n_38,
      Value.int
      IntKind.i64
      n_39,
      Value.int
      IntKind.i64
      n_40,
      Value.int
      IntKind.i64
      n_41,
      Value.int
      IntKind.i64
      n_42,
      Value.string
      s_6,
      Value.string
      s_7,
      Value.int
      IntKind.i64
      n_43,
      Value.int
      IntKind.i64
      n_44,
      Value.slice
      a_6
      n_45
      c_3],
      Value.agg
      #[Value.int
      IntKind.i64
      n_47,
      Value.int
      IntKind.i64
      n_48,
      Value.int
      IntKind.i64
      n_49,
      Value.int
      IntKind.i64
      n_50,
      Value.int
      IntKind.i64
      n_51,
      Value.int
      IntKind.i64
      n_52,
      Value.string
      s_8,
      Value.int
      IntKind.i64
      n_53,
      Value.int
      IntKind.i64
      n_54,
      Value.int
      IntKind.i64
      n_55,
      Value.bool
      b_2,
      Value.int
      IntKind.i64
      n_56,
      Value.string
      s_9,
      Value.string
      s_10,
      Value.int
      IntKind.i64
      n_57,
      Value.int
      IntKind.i64
      n_58,
      Value.int
      IntKind.i64
      n_59,
      Value.int
      IntKind.i64
      n_60,
      Value.int
      IntKind.i64
      n_61,
      Value.int
      IntKind.i64
      n_62,
      Value.string
      s_11,
      Value.string
      s_12,
      Value.int
      IntKind.i64
      n_63,
      Value.int
      IntKind.i64
      n_64,
      Value.slice
      a_8
      n_65
      c_4]]
      m'
      (Value.bool
      b_5) ∧
      ifB
      b_5
      (ifB
      (b_1 ==
      b_3)
      (∃
      (b
      :
      Bool),
      QSpec
      Try.prog
      (18 :
      Nat)
      [Value.slice
      a_2
      n_2
      c_1,
      Value.slice
      al
      l.length
      cl]
      m'
      (Value.bool
      b) ∧
      ifB
      b
      (∃
      (b
      :
      Bool),
      QSpec
      Try.prog
      (31 :
      Nat)
      [Value.agg
      #[Value.string
      s,
      Value.int
      IntKind.i64
      n_4,
      Value.int
      IntKind.i64
      n_5,
      Value.int
      IntKind.i64
      n_6,
      Value.int
      IntKind.i64
      n_7,
      Value.slice
      a_4
      n_8
      c_2,
      Value.int
      IntKind.i64
      n_9,
      Value.int
      IntKind.i64
      n_10,
      Value.int
      IntKind.i64
      n_11,
      Value.int
      IntKind.i64
      n_12],
      Value.agg
      #[Value.string
      x.key,
      Value.int
      IntKind.i64
      x.lo,
      Value.int
      IntKind.i64
      x.hi,
      Value.int
      IntKind.i64
      x.base,
      Value.int
      IntKind.i64
      x.round,
      Value.slice
      a
      x.hs.length
      c,
      Value.int
      IntKind.i64
      x.lk.cl,
      Value.int
      IntKind.i64
      x.lk.sq,
      Value.int
      IntKind.i64
      x.lk.hm,
      Value.int
      IntKind.i64
      x.lk.n]]
      m'
      (Value.bool
      b) ∧
      Done
      (Value.bool
      b =
      Value.bool
      true))
      (Done
      (Value.bool
      false =
      Value.bool
      true)))
      (Done
      (Value.bool
      false =
      Value.bool
      true)))
      (Done
      (Value.bool
      false =
      Value.bool
      true)))
      (Done
      (Value.bool
      false =
      Value.bool
      true)))
      (Done
      (Value.bool
      false =
      Value.bool
      true)))
      (Done
      (Value.bool
      false =
      Value.bool
      true)))
      (Done
      (Value.bool
      false =
      Value.bool
      true)))
      (Done
      (Value.bool
      false =
      Value.bool
      true)))
      (Done
      (Value.bool
      false =
      Value.bool
      true))) (by kernel_rfl) ?_
  have R : Rs { m with sz := N } [(al, rts l), (a, hds x.hs)] := ⟨h1.sz hN, h2.sz hN, trivial⟩
  refine ⟨rfl, ?_⟩
  refine ⟨_, noS, fun N1 hN1 => (own_s al cl l (by omega) _ ((R.sz hN1).1)).monoW fun v1 m1 ag1 q1 => ?_⟩
  obtain ⟨b1, e1, r1⟩ := q1
  refine ⟨_, _, _, e1, ?_⟩
  have R1 := Rs.cons r1 (Rs.step R hN1 ag1)
  refine fun N2 hN2 => (ccopy_q x a c (by omega) _ ((R1.sz hN2).2.2.1)).mono fun v2 m2 ag2 q2 => ?_
  obtain ⟨a3, c3, e2, r2⟩ := q2
  refine ⟨_, _, _, _, _, _, _, _, _, _, _, _, e2, ?_⟩
  have R2 := Rs.cons r2.row (Rs.step R1 hN2 ag2)
  refine ⟨_, _, _, _, _, lspend_q _ _ l g x a3 c3 nd n (by omega) hlw hx hn _ (R2.2.1.take) (R2.1), _, _, _, _, _, rspend_q _ _ l g x a c nd n (by omega) hlw hx hn _ (R2.2.2.1) (R2.2.2.2.1), ?_⟩
  refine ⟨_, _, _, lbracket_q _ _ l g x a3 c3 nd (by omega) hlw hx _ (R2.2.1.take) (R2.1), _, _, _, rbracket_q _ _ l g x a c nd (by omega) hlw hx _ (R2.2.2.1) (R2.2.2.2.1), ?_⟩
  refine ⟨_, noS, fun N3 hN3 => ((lreport_q _ _ l g x a3 c3 nd (by omega) hx _ ((R2.sz hN3).2.1.take) ((R2.sz hN3).1)).spec).monoW fun v3 m3 ag3 q3 => ?_⟩
  refine ⟨_, _, _, _, _, _, _, _, _, _, _, _, _, _, _, _, _, _, _, _, _, _, _, _, _, _, _, _, q3.1, ?_⟩
  have R3 := Rs.step R2 hN3 ag3
  refine ⟨_, noS, fun N4 hN4 => ((rreport_q _ _ l g x a c nd (by omega) hx _ ((R3.sz hN4).2.2.1) ((R3.sz hN4).2.2.2.1)).spec).monoW fun v4 m4 ag4 q4 => ?_⟩
  refine ⟨_, _, _, _, _, _, _, _, _, _, _, _, _, _, _, _, _, _, _, _, _, _, _, _, _, _, _, _, q4.1, ?_⟩
  have R4 := Rs.step R3 hN4 ag4
  refine ⟨_, lawake_q _, ifB_true ?_⟩
  simp only [bne_self_eq_false, beq_self_eq_true, Bool.not_true, Bool.not_false, Bool.and_self, Bool.and_true, decide_true]
  refine ifB_true (ifB_true (ifB_true (ifB_true (ifB_true ⟨_, command_q _ _, ifB_true (ifB_true ?_)⟩))))
  refine ⟨_, kept_q b1 l al cl (by omega) _ (R4.2.1) (R4.2.2.1), ifB_true ⟨_, saccount_q x x a3 a c3 c hx hx _ (R4.1) (R4.2.2.2.1), ⟨by simp⟩⟩⟩

end Go.Proofs.Ytfkielfnceeedaa
set_option linter.unusedVariables false
set_option linter.unusedSimpArgs false
namespace Go.Proofs.Ytfkielfnceeedaa
open Go.Vc Go.RowKit Go.ChangeShapes Go.WideShapes Go.ChangeAt
set_option maxRecDepth 100000

theorem cells_acc : Try.prog.cellsOf 46 = 10 := by kernel_rfl

theorem cells_hd : Try.prog.cellsOf 67 = 4 := by kernel_rfl

theorem cells_lk : Try.prog.cellsOf 44 = 4 := by kernel_rfl

theorem cells_sp : Try.prog.cellsOf 41 = 2 := by kernel_rfl

theorem cells_int : Try.prog.cellsOf 3 = 1 := by kernel_rfl

theorem cells_str : Try.prog.cellsOf 9 = 1 := by kernel_rfl

theorem cells_hds : Try.prog.cellsOf 42 = 1 := by kernel_rfl

/-- cells that are read as an account -/
theorem rd_acc {m : M} {N d : Nat} {cs : List Value} (h : Rd Try.prog m N (d + 4) 46 cs) (hN : N ≤ 9223372036854775807) :
    ∃ (x : Ac) (a : Option Addr) (c : Nat), cs = acc x a c ∧ x.wf ∧ x.hs.length ≤ N ∧ x.hs.length ≤ c ∧ c ≤ N ∧ (a = none → x.hs = []) ∧ Row m a (hds x.hs) := by
  simp only [Rd, Try.underlying46, Try.underlying41, Try.underlying44, Try.underlying3, Try.underlying9, Try.underlying42, Try.underlying67, fieldsD, cells_acc, cells_hd, cells_lk, cells_sp, cells_int, cells_str, cells_hds] at h
  obtain ⟨hl, ⟨k, hk, hks⟩, ⟨-, ⟨lo, hlo, wlo⟩, ⟨hi, hhi, whi⟩, -⟩, ⟨base, hbase, wbase⟩, ⟨round, hround, wround⟩, ⟨a, c, rows, hsl, h1, h2, h3, h4, h5⟩, ⟨-, ⟨l1, hl1, w1⟩, ⟨l2, hl2, w2⟩, ⟨l3, hl3, w3⟩, ⟨l4, hl4, w4⟩, -⟩, -⟩ := h
  obtain ⟨z, hz, he, hw⟩ := rows_list (α := Hd) (e := encH) (p := Hd.wf) rows fun r hr => by
    obtain ⟨g0, ⟨-, ⟨n1, hn1, v1⟩, ⟨n2, hn2, v2⟩, ⟨n3, hn3, v3⟩, ⟨n4, hn4, v4⟩, -⟩⟩ := h4 r hr
    obtain ⟨c1, c2, c3, c4, rfl⟩ : ∃ c1 c2 c3 c4, r = [c1, c2, c3, c4] := by
      match r, g0 with
      | [c1, c2, c3, c4], _ => exact ⟨c1, c2, c3, c4, rfl⟩
    simp at hn1 hn2 hn3 hn4
    subst hn1 hn2 hn3 hn4
    exact ⟨⟨n1, n2, n3, n4⟩, rfl, in64_of v1, in64_of v2, in64_of v3, in64_of v4⟩
  obtain ⟨c1, c2, c3, c4, c5, c6, c7, c8, c9, c10, rfl⟩ : ∃ c1 c2 c3 c4 c5 c6 c7 c8 c9 c10, cs = [c1, c2, c3, c4, c5, c6, c7, c8, c9, c10] := by
    match cs, hl with
    | [c1, c2, c3, c4, c5, c6, c7, c8, c9, c10], _ => exact ⟨_, _, _, _, _, _, _, _, _, _, rfl⟩
  simp at hk hlo hhi hbase hround hsl hl1 hl2 hl3 hl4
  subst hk hlo hhi hbase hround hsl hl1 hl2 hl3 hl4
  refine ⟨⟨k, lo, hi, base, round, z, ⟨l1, l2, l3, l4⟩⟩, a, c, by simp [acc, hz], ⟨Nat.le_trans hks hN, in64_of wlo, in64_of whi, in64_of wbase, in64_of wround, hw, by simp only [hz]; omega, in64_of w1, in64_of w2, in64_of w3, in64_of w4⟩, by simp only [hz]; omega, by simp only [hz]; omega, h2, fun e => ?_, ?_⟩
  · have : z.length = 0 := by have := h3 e; omega
    simpa using this
  · rw [he] at h5; exact h5

variable {H : Type} {enc : TypeId × Value → H} {W : World} {r : Reach} {b0 : Nat} {v : Value} {d : DataW H} {p : List MemPlace} {N : Nat} {Bd : DataW H → Prop}

theorem open_acc (B : Bound N Bd) (hN : N ≤ 9223372036854775807) (hv : Value.okWide Try.prog W r b0 46 v) (h : DataW.Trod enc Try.prog W 0 (fun _ => true) true 46 v d p) (hb : Bd d) :
    ∃ (x : Ac) (a : Option Addr) (c : Nat), v = acv x a c ∧ x.wf ∧ x.hs.length ≤ N ∧ (a = none → x.hs = []) ∧ Row (M.all W) a (hds x.hs) := by
  obtain ⟨cs, rfl, hl⟩ := open_agg Try.underlying46 cells_acc hv
  obtain ⟨fuel, hf⟩ := h
  have hr := rd_of_trod B 4 fuel 46 _ _ hf hb
  simp only [Value.cells] at hr
  obtain ⟨x, a, c, he, hw, h1, h2, h3, h4, h5⟩ := rd_acc (d := 0) hr hN
  exact ⟨x, a, c, by rw [show cs = acc x a c from he], hw, h1, h4, h5⟩

theorem open_lk (hv : Value.okWide Try.prog W r b0 44 v) (h : DataW.Trod enc Try.prog W 0 (fun _ => true) true 44 v d p) :
    ∃ k : Lk, v = .agg #[I k.cl, I k.sq, I k.hm, I k.n] ∧ k.wf := by
  obtain ⟨cs, rfl, hl⟩ := open_agg Try.underlying44 cells_lk hv
  obtain ⟨fuel, hf⟩ := h
  have hr := rd_of_trod (bound_any H) 2 fuel 44 _ _ hf trivial
  simp only [Rd, Try.underlying44, Try.underlying3, fieldsD, cells_lk, cells_int] at hr
  obtain ⟨-, ⟨l1, hl1, w1⟩, ⟨l2, hl2, w2⟩, ⟨l3, hl3, w3⟩, ⟨l4, hl4, w4⟩, -⟩ := hr
  obtain ⟨c1, c2, c3, c4, rfl⟩ : ∃ c1 c2 c3 c4, cs = [c1, c2, c3, c4] := by
    match cs, hl with
    | [c1, c2, c3, c4], _ => exact ⟨_, _, _, _, rfl⟩
  simp [Value.cells] at hl1 hl2 hl3 hl4
  subst hl1 hl2 hl3 hl4
  exact ⟨⟨l1, l2, l3, l4⟩, rfl, in64_of w1, in64_of w2, in64_of w3, in64_of w4⟩

theorem open_sp (hv : Value.okWide Try.prog W r b0 41 v) (h : DataW.Trod enc Try.prog W 0 (fun _ => true) true 41 v d p) :
    ∃ lo hi : Int, v = sp lo hi ∧ In64 lo ∧ In64 hi := by
  obtain ⟨cs, rfl, hl⟩ := open_agg Try.underlying41 cells_sp hv
  obtain ⟨fuel, hf⟩ := h
  have hr := rd_of_trod (bound_any H) 2 fuel 41 _ _ hf trivial
  simp only [Rd, Try.underlying41, Try.underlying3, fieldsD, cells_sp, cells_int] at hr
  obtain ⟨-, ⟨l1, hl1, w1⟩, ⟨l2, hl2, w2⟩, -⟩ := hr
  obtain ⟨c1, c2, rfl⟩ : ∃ c1 c2, cs = [c1, c2] := by
    match cs, hl with
    | [c1, c2], _ => exact ⟨_, _, rfl⟩
  simp [Value.cells] at hl1 hl2
  subst hl1 hl2
  exact ⟨l1, l2, rfl, in64_of w1, in64_of w2⟩

end Go.Proofs.Ytfkielfnceeedaa
