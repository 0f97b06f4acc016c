/-
  Contracts of functions of this seat: what each hands back, and what it leaves of memory (led8, acc8, led10, led11, led12, led13). Nothing here is trusted: Lean checks it.
-/
import Derived.Test.YtfkielfnceeedaaPart2
import Derived.Test.YtfkielfnceeedaaPart1
import Derived.Test.YtfkielfnceeedaaVcList
import Derived.SizedLaws
set_option linter.unusedVariables false
set_option linter.unusedSimpArgs false
namespace Go.Proofs.Ytfkielfnceeedaa
open Go.Vc Go.RowKit
set_option maxRecDepth 100000

theorem bplain_q (m : M) : QSpec Try.prog 85 [.slice none 0 0, .slice none 0 0] m (.bool true) := by
  refine QSpec.of_vc Try.func85 (ann := fun n _ => { A := Nat, inv := fun k => k = 0, st := fun _ => [(5, .val (I 0)), (0, .val (.slice none 0 0)), (1, .val (.slice none 0 0))], own := fun _ => [], m := fun _ => { m with sz := n }, μ := fun _ => 0 }) fun n hn => ?_
  refine vc_by (X :=
      true = true ∧
      (∃ (a : Nat),
      a = (0 : Nat) ∧
      { π := m.π, sz := n, uf := m.uf : M } = { π := m.π, sz := n, uf := m.uf : M } ∧
      ((SV.val (Value.int IntKind.i64 (0 : Int)) = SV.val (Value.int IntKind.i64 (0 : Int)) ∧ true = true) ∧
      (SV.val (Value.slice none (0 : Nat) (0 : Nat)) = SV.val (Value.slice none (0 : Nat) (0 : Nat)) ∧ true = true) ∧
      (SV.val (Value.slice none (0 : Nat) (0 : Nat)) = SV.val (Value.slice none (0 : Nat) (0 : Nat)) ∧ true = true) ∧ True) ∧
      True) ∧
      ∀ (a : Nat), a = (0 : Nat) → Done (Value.bool true = Value.bool true)) (by kernel_rfl) ?_
  exact ⟨rfl, ⟨0, by simp⟩, fun _ _ => ⟨rfl⟩⟩

theorem bytes_q (m : M) : QSpec Try.prog 65 [.slice none 0 0, .slice none 0 0] m (.bool true) := by
  refine QSpec.of_vc Try.func65 (ann := fun _ => noAnn) fun n hn => ?_
  refine vc_by (X :=
      true = true ∧
      ∃ (b : Bool),
      QSpec Try.prog (85 : Nat) [Value.slice none (0 : Nat) (0 : Nat), Value.slice none (0 : Nat) (0 : Nat)] { π := m.π, sz := n, uf := m.uf : M } (Value.bool b) ∧
      Done (Value.bool b = Value.bool true)) (by kernel_rfl) ?_
  exact ⟨rfl, _, bplain_q _, ⟨rfl⟩⟩

theorem command_q (c : Cm) (m : M) : QSpec Try.prog 30 [cmv c, cmv c] m (.bool true) := by
  refine QSpec.of_vc Try.func30 (ann := fun _ => noAnn) fun n hn => ?_
  refine vc_by (X :=
      true = true ∧
      ifB (c.k == c.k)
      (ifB (c.nd == c.nd)
      (ifB (c.ky.toList == c.ky.toList)
      (ifB (c.le == c.le)
      (ifB (c.ro == c.ro)
      (ifB (c.ne == c.ne)
      (∃ (b : Bool),
      QSpec Try.prog (65 : Nat) [Value.slice none (0 : Nat) (0 : Nat), Value.slice none (0 : Nat) (0 : Nat)] { π := m.π, sz := n, uf := m.uf : M } (Value.bool b) ∧
      Done (Value.bool b = Value.bool true))
      (Done (Value.bool false = Value.bool true)))
      (Done (Value.bool false = Value.bool true)))
      (Done (Value.bool false = Value.bool true)))
      (Done (Value.bool false = Value.bool true)))
      (Done (Value.bool false = Value.bool true)))
      (Done (Value.bool false = Value.bool true))) (by kernel_rfl) ?_
  simp only [bne_self_eq_false, beq_self_eq_true, Bool.not_true, Bool.not_false, Bool.and_self, Bool.and_true, decide_true]
  exact ⟨by trivial, ifB_true (ifB_true (ifB_true (ifB_true (ifB_true (ifB_true ⟨_, bytes_q _, ⟨rfl⟩⟩)))))⟩

set_option maxHeartbeats 1000000 in
theorem ledgerspends (al : Option Addr) (cl : Nat) (l : List Rt) (g : Int) (x : Ac) (a : Option Addr) (c : Nat) (nd n : Int) (hl : l.length ≤ 3518437208780) (hlw : ∀ r ∈ l, r.wf) (hx : x.wf) (hxl : x.hs.length ≤ 4398046510976) (hn : In64 n) (m : M) (h1 : Row m al (rts l)) (h2 : Row m a (hds x.hs)) :
    QSpec Try.prog 6 [.slice al l.length cl, I g, acv x a c, I nd, I n] m (.bool true) := by
  refine QSpec.of_vc Try.func6 (ann := fun _ => noAnn) fun N hN => ?_
  refine vc_by (X :=
      true = true ∧
      ∃ (S' : Nat → Prop),
      (∀ (b : Nat), S' b → m.uf b ∧ (N ≤ b ∨ False)) ∧
      ∀ (n_1 : Nat),
      N ≤ n_1 →
      SpecW Try.prog (9 : Nat) [Value.slice al l.length cl] { π := m.π, sz := n_1, uf := m.uf : M } S' fun (v : Value) (m' : M) =>
      ∃ (a_2 : Option Addr),
      ∃ (n_2 : Nat),
      ∃ (c_1 : Nat),
      v = Value.slice a_2 n_2 c_1 ∧
      ∀ (n_3 : Nat),
      m'.sz ≤ n_3 →
      Vc.Spec Try.prog (23 : Nat)
      [Value.agg
      #[Value.string x.key, Value.int IntKind.i64 x.lo, Value.int IntKind.i64 x.hi, Value.int IntKind.i64 x.base, Value.int IntKind.i64 x.round,
      Value.slice a x.hs.length c, Value.int IntKind.i64 x.lk.cl, Value.int IntKind.i64 x.lk.sq, Value.int IntKind.i64 x.lk.hm,
      Value.int IntKind.i64 x.lk.n]]
      { π := m'.π, sz := n_3, uf := m'.uf : M } fun (v : Value) (m' : M) =>
      ∃ (s : ByteArray),
      ∃ (n_4 : Int),
      ∃ (n_5 : Int),
      ∃ (n_6 : Int),
      ∃ (n_7 : Int),
      ∃ (a_4 : Option Addr),
      ∃ (n_8 : Nat),
      ∃ (c_2 : Nat),
      ∃ (n_9 : Int),
      ∃ (n_10 : Int),
      ∃ (n_11 : Int),
      ∃ (n_12 : Int),
      v =
      Value.agg
      #[Value.string s, Value.int IntKind.i64 n_4, Value.int IntKind.i64 n_5, Value.int IntKind.i64 n_6,
      Value.int IntKind.i64 n_7, Value.slice a_4 n_8 c_2, Value.int IntKind.i64 n_9, Value.int IntKind.i64 n_10,
      Value.int IntKind.i64 n_11, Value.int IntKind.i64 n_12] ∧
      ∃ (n_13 : Int),
      ∃ (s_1 : ByteArray),
      ∃ (n_14 : Int),
      ∃ (n_15 : Int),
      ∃ (n_16 : Int),
      QSpec Try.prog (24 : Nat)
      [Value.slice a_2 n_2 c_1, Value.int IntKind.i64 g,
      Value.agg
      #[Value.string s, Value.int IntKind.i64 n_4, Value.int IntKind.i64 n_5, Value.int IntKind.i64 n_6,
      Value.int IntKind.i64 n_7, Value.slice a_4 n_8 c_2, Value.int IntKind.i64 n_9, Value.int IntKind.i64 n_10,
      Value.int IntKind.i64 n_11, Value.int IntKind.i64 n_12],
      Value.int IntKind.i64 nd, Value.int IntKind.i64 n]
      m'
      (Value.tuple
      #[Value.agg
      #[Value.int IntKind.i64 n_13, Value.string s_1, Value.int IntKind.i64 n_14, Value.int IntKind.i64 n_15],
      Value.int IntKind.i64 n_16]) ∧
      ∃ (n_17 : Int),
      ∃ (s_2 : ByteArray),
      ∃ (n_18 : Int),
      ∃ (n_19 : Int),
      ∃ (n_20 : Int),
      QSpec Try.prog (25 : Nat)
      [Value.slice al l.length cl, Value.int IntKind.i64 g,
      Value.agg
      #[Value.string x.key, Value.int IntKind.i64 x.lo, Value.int IntKind.i64 x.hi,
      Value.int IntKind.i64 x.base, Value.int IntKind.i64 x.round, Value.slice a x.hs.length c,
      Value.int IntKind.i64 x.lk.cl, Value.int IntKind.i64 x.lk.sq, Value.int IntKind.i64 x.lk.hm,
      Value.int IntKind.i64 x.lk.n],
      Value.int IntKind.i64 nd, Value.int IntKind.i64 n]
      m'
      (Value.tuple
      #[Value.agg
      #[Value.int IntKind.i64 n_17, Value.string s_2, Value.int IntKind.i64 n_18,
      Value.int IntKind.i64 n_19],
      Value.int IntKind.i64 n_20]) ∧
      ∃ (n : Int),
      ∃ (n_21 : Int),
      ∃ (n_22 : Int),
      QSpec Try.prog (26 : Nat)
      [Value.slice a_2 n_2 c_1, Value.int IntKind.i64 g,
      Value.agg
      #[Value.string s, Value.int IntKind.i64 n_4, Value.int IntKind.i64 n_5,
      Value.int IntKind.i64 n_6, Value.int IntKind.i64 n_7, Value.slice a_4 n_8 c_2,
      Value.int IntKind.i64 n_9, Value.int IntKind.i64 n_10, Value.int IntKind.i64 n_11,
      Value.int IntKind.i64 n_12],
      Value.int IntKind.i64 nd]
      m'
      (Value.tuple
      #[Value.int IntKind.i64 n, Value.int IntKind.i64 n_21, Value.int IntKind.i64 n_22]) ∧
      ∃ (n_23 : Int),
      ∃ (n_24 : Int),
      ∃ (n_25 : Int),
      QSpec Try.prog (27 : Nat)
      [Value.slice al l.length cl, Value.int IntKind.i64 g,
      Value.agg
      #[Value.string x.key, Value.int IntKind.i64 x.lo, Value.int IntKind.i64 x.hi,
      Value.int IntKind.i64 x.base, Value.int IntKind.i64 x.round,
      Value.slice a x.hs.length c, Value.int IntKind.i64 x.lk.cl,
      Value.int IntKind.i64 x.lk.sq, Value.int IntKind.i64 x.lk.hm,
      Value.int IntKind.i64 x.lk.n],
      Value.int IntKind.i64 nd]
      m'
      (Value.tuple
      #[Value.int IntKind.i64 n_23, Value.int IntKind.i64 n_24,
      Value.int IntKind.i64 n_25]) ∧
      ∃ (S' : Nat → Prop),
      (∀ (b : Nat), S' b → m'.uf b ∧ (N ≤ b ∨ False)) ∧
      ∀ (n_26 : Nat),
      m'.sz ≤ n_26 →
      SpecW Try.prog (28 : Nat)
      [Value.slice a_2 n_2 c_1, Value.int IntKind.i64 g,
      Value.agg
      #[Value.string s, Value.int IntKind.i64 n_4, Value.int IntKind.i64 n_5,
      Value.int IntKind.i64 n_6, Value.int IntKind.i64 n_7,
      Value.slice a_4 n_8 c_2, Value.int IntKind.i64 n_9,
      Value.int IntKind.i64 n_10, Value.int IntKind.i64 n_11,
      Value.int IntKind.i64 n_12],
      Value.int IntKind.i64 nd]
      { π := m'.π, sz := n_26, uf := m'.uf : M } S' fun (v : Value) (m' : M) =>
      ∃ (n_27 : Int),
      ∃ (n_28 : Int),
      ∃ (n_29 : Int),
      ∃ (n_30 : Int),
      ∃ (n_31 : Int),
      ∃ (n_32 : Int),
      ∃ (s_3 : ByteArray),
      ∃ (n_33 : Int),
      ∃ (n_34 : Int),
      ∃ (n_35 : Int),
      ∃ (b : Bool),
      ∃ (n_36 : Int),
      ∃ (s_4 : ByteArray),
      ∃ (s_5 : ByteArray),
      ∃ (n_37 : Int),
      ∃ (n_38 : Int),
      ∃ (n_39 : Int),
      ∃ (n_40 : Int),
      ∃ (n_41 : Int),
      ∃ (n_42 : Int),
      ∃ (s_6 : ByteArray),
      ∃ (s_7 : ByteArray),
      ∃ (n_43 : Int),
      ∃ (n_44 : Int),
      ∃ (a_6 : Option Addr),
      ∃ (n_45 : Nat),
      ∃ (c_3 : Nat),
      ∃ (b_1 : Bool),
      v =
      Value.tuple
      #[Value.agg
      #[Value.int
      IntKind.i64
      n_27,
      Value.int
      IntKind.i64
      n_28,
      Value.int
      IntKind.i64
      n_29,
      Value.int
      IntKind.i64
      n_30,
      Value.int
      IntKind.i64
      n_31,
      Value.int
      IntKind.i64
      n_32,
      Value.string
      s_3,
      Value.int
      IntKind.i64
      n_33,
      Value.int
      IntKind.i64
      n_34,
      Value.int
      IntKind.i64
      n_35,
      Value.bool
      b,
      Value.int
      IntKind.i64
      n_36,
      Value.string
      s_4,
      Value.string
      s_5,
      Value.int
      IntKind.i64
      n_37,
      Value.int
      IntKind.i64
      n_38,
      Value.int
      IntKind.i64
      n_39,
      Value.int
      IntKind.i64
      n_40,
      Value.int
      IntKind.i64
      n_41,
      Value.int
      IntKind.i64
      n_42,
      Value.string
      s_6,
      Value.string
      s_7,
      Value.int
      IntKind.i64
      n_43,
      Value.int
      IntKind.i64
      n_44,
      Value.slice
      a_6 n_45
      c_3],
      Value.bool
      b_1] ∧
      ∃ (S' : Nat → Prop),
      (∀ (b : Nat),
      S' b →
      m'.uf b ∧
      (N ≤ b ∨
      False)) ∧
      ∀ (n_46 : Nat),
      m'.sz ≤ n_46 →
      SpecW
      Try.prog
      (29 : Nat)
      [Value.slice
      al
      l.length
      cl,
      Value.int
      IntKind.i64
      g,
      Value.agg
      #[Value.string
      x.key,
      Value.int
      IntKind.i64
      x.lo,
      Value.int
      IntKind.i64
      x.hi,
      Value.int
      IntKind.i64
      x.base,
      Value.int
      IntKind.i64
      x.round,
      Value.slice
      a
      x.hs.length
      c,
      Value.int
      IntKind.i64
      x.lk.cl,
      Value.int
      IntKind.i64
      x.lk.sq,
      Value.int
      IntKind.i64
      x.lk.hm,
      Value.int
      IntKind.i64
      x.lk.n],
      Value.int
      IntKind.i64
      nd]
      { π := m'.π, sz := n_46, uf := m'.uf : M }
      S'
      fun
      (v :
      Value)
      (m' :
      M) =>
      ∃ (n_47 :
      Int),
      ∃ (n_48
      :
      Int),
      ∃
      (n_49
      :
      Int),
      ∃
      (n_50
      :
      Int),
      ∃
      (n_51
      :
      Int),
      ∃
      (n_52
      :
      Int),
      ∃
      (s_8
      :
      ByteArray),
      ∃
      (n_53
      :
      Int),
      ∃
      (n_54
      :
      Int),
      ∃
      (n_55
      :
      Int),
      ∃
      (b_2
      :
      Bool),
      ∃
      (n_56
      :
      Int),
      ∃
      (s_9
      :
      ByteArray),
      ∃
      (s_10
      :
      ByteArray),
      ∃
      (n_57
      :
      Int),
      ∃
      (n_58
      :
      Int),
      ∃
      (n_59
      :
      Int),
      ∃
      (n_60
      :
      Int),
      ∃
      (n_61
      :
      Int),
      ∃
      (n_62
      :
      Int),
      ∃
      (s_11
      :
      ByteArray),
      ∃
      (s_12
      :
      ByteArray),
      ∃
      (n_63
      :
      Int),
      ∃
      (n_64
      :
      Int),
      ∃
      (a_8
      :
      Option
      Addr),
      ∃
      (n_65
      :
      Nat),
      ∃
      (c_4
      :
      Nat),
      ∃
      (b_3
      :
      Bool),
      v =
      Value.tuple
      #[Value.agg
      #[Value.int
      IntKind.i64
      n_47,
      Value.int
      IntKind.i64
      n_48,
      Value.int
      IntKind.i64
      n_49,
      Value.int
      IntKind.i64
      n_50,
      Value.int
      IntKind.i64
      n_51,
      Value.int
      IntKind.i64
      n_52,
      Value.string
      s_8,
      Value.int
      IntKind.i64
      n_53,
      Value.int
      IntKind.i64
      n_54,
      Value.int
      IntKind.i64
      n_55,
      Value.bool
      b_2,
      Value.int
      IntKind.i64
      n_56,
      Value.string
      s_9,
      Value.string
      s_10,
      Value.int
      IntKind.i64
      n_57,
      Value.int
      IntKind.i64
      n_58,
      Value.int
      IntKind.i64
      n_59,
      Value.int
      IntKind.i64
      n_60,
      Value.int
      IntKind.i64
      n_61,
      Value.int
      IntKind.i64
      n_62,
      Value.string
      s_11,
      Value.string
      s_12,
      Value.int
      IntKind.i64
      n_63,
      Value.int
      IntKind.i64
      n_64,
      Value.slice
      a_8
      n_65
      c_4],
      Value.bool
      b_3] ∧
      ∃
      (b_4
      :
      Bool),
      QSpec
      Try.prog
      (13 :
      Nat)
      []
      m'
      (Value.bool
      b_4) ∧
      ifB
      b_4
      (ifB
      (n_13 ==
      n_17 &&
      (s_1.toList ==
      s_2.toList &&
      (n_14 ==
      n_18 &&
      (n_15 ==
      n_19 &&
      true))))
      (ifB
      (n_16 ==
      n_20)
      (ifB
      (n ==
      n_23)
      (ifB
      (n_21 ==
      n_24)
      (ifB
      (n_22 ==
      n_25)
      (∃
      (b_5
      :
      Bool),
      QSpec
      Try.prog
      (30 :
      Nat)
      [Value.agg
      #[Value.int
      IntKind.i64
      n_27,
      Value.int
      IntKind.i64
      n_28,
      Value.int
      IntKind.i64
      n_29,
      Value.int
      IntKind.i64
      n_30,
      Value.int
      IntKind.i64
      n_31,
      Value.int
      IntKind.i64
      n_32,
      Value.string
      s_3,
      Value.int
      IntKind.i64
      n_33,
      Value.int
      IntKind.i64
      n_34,
      Value.int
      IntKind.i64
      n_35,
      Value.bool
      b,
      Value.int
      IntKind.i64
      n_36,
      Value.string
      s_4,
      Value.string
      s_5,
      Value.int
      IntKind.i64
      n_37,
      Value.int
      IntKind.i64
      n_38,
      Value.int
      IntKind.i64
      n_39,
      Value.int
      IntKind.i64
      n_40,
      Value.int
      IntKind.i64
      n_41,
      Value.int
      IntKind.i64
      n_42,
      Value.string
      s_6,
      Value.string
      s_7,
      Value.int
      IntKind.i64
      n_43,
      Value.int
      IntKind.i64
      n_44,
      Value.slice
      a_6
      n_45
      c_3],
      Value.agg
      #[Value.int
      IntKind.i64
      n_47,
      Value.int
      IntKind.i64
      n_48,
      Value.int
      IntKind.i64
      n_49,
      Value.int
      IntKind.i64
      n_50,
      Value.int
      IntKind.i64
      n_51,
      Value.int
      IntKind.i64
      n_52,
      Value.string
      s_8,
      Value.int
      IntKind.i64
      n_53,
      Value.int
      IntKind.i64
      n_54,
      Value.int
      IntKind.i64
      n_55,
      Value.bool
      b_2,
      Value.int
      IntKind.i64
      n_56,
      Value.string
      s_9,
      Value.string
      s_10,
      Value.int
      IntKind.i64
      n_57,
      Value.int
      IntKind.i64
      n_58,
      Value.int
      IntKind.i64
      n_59,
      Value.int
      IntKind.i64
      n_60,
      Value.int
      IntKind.i64
      n_61,
      Value.int
      IntKind.i64
      n_62,
      Value.string
      s_11,
      Value.string
      s_12,
      Value.int
      IntKind.i64
      n_63,
      Value.int
      IntKind.i64
      n_64,
      Value.slice
      a_8
      n_65
      c_4]]
      m'
      (Value.bool
      b_5) ∧
      ifB
      b_5
      (ifB
      (b_1 ==
      b_3)
      (∃
      (b
      :
      Bool),
      QSpec
      Try.prog
      (18 :
      Nat)
      [Value.slice
      a_2
      n_2
      c_1,
      Value.slice
      al
      l.length
      cl]
      m'
      (Value.bool
      b) ∧
      ifB
      b
      (∃
      (b
      :
      Bool),
      QSpec
      Try.prog
      (31 :
      Nat)
      [Value.agg
      #[Value.string
      s,
      Value.int
      IntKind.i64
      n_4,
      Value.int
      IntKind.i64
      n_5,
      Value.int
      IntKind.i64
      n_6,
      Value.int
      IntKind.i64
      n_7,
      Value.slice
      a_4
      n_8
      c_2,
      Value.int
      IntKind.i64
      n_9,
      Value.int
      IntKind.i64
      n_10,
      Value.int
      IntKind.i64
      n_11,
      Value.int
      IntKind.i64
      n_12],
      Value.agg
      #[Value.string
      x.key,
      Value.int
      IntKind.i64
      x.lo,
      Value.int
      IntKind.i64
      x.hi,
      Value.int
      IntKind.i64
      x.base,
      Value.int
      IntKind.i64
      x.round,
      Value.slice
      a
      x.hs.length
      c,
      Value.int
      IntKind.i64
      x.lk.cl,
      Value.int
      IntKind.i64
      x.lk.sq,
      Value.int
      IntKind.i64
      x.lk.hm,
      Value.int
      IntKind.i64
      x.lk.n]]
      m'
      (Value.bool
      b) ∧
      Done
      (Value.bool
      b =
      Value.bool
      true))
      (Done
      (Value.bool
      false =
      Value.bool
      true)))
      (Done
      (Value.bool
      false =
      Value.bool
      true)))
      (Done
      (Value.bool
      false =
      Value.bool
      true)))
      (Done
      (Value.bool
      false =
      Value.bool
      true)))
      (Done
      (Value.bool
      false =
      Value.bool
      true)))
      (Done
      (Value.bool
      false =
      Value.bool
      true)))
      (Done
      (Value.bool
      false =
      Value.bool
      true)))
      (Done
      (Value.bool
      false =
      Value.bool
      true)))
      (Done
      (Value.bool
      false =
      Value.bool
      true))) (by kernel_rfl) ?_
  have R : Rs { m with sz := N } [(al, rts l), (a, hds x.hs)] := ⟨h1.sz hN, h2.sz hN, trivial⟩
  refine ⟨rfl, ?_⟩
  refine ⟨_, noS, fun N1 hN1 => (own_s al cl l (by omega) _ ((R.sz hN1).1)).monoW fun v1 m1 ag1 q1 => ?_⟩
  obtain ⟨b1, e1, r1⟩ := q1
  refine ⟨_, _, _, e1, ?_⟩
  have R1 := Rs.cons r1 (Rs.step R hN1 ag1)
  refine fun N2 hN2 => (ccopy_q x a c (by omega) _ ((R1.sz hN2).2.2.1)).mono fun v2 m2 ag2 q2 => ?_
  obtain ⟨a3, c3, e2, r2⟩ := q2
  refine ⟨_, _, _, _, _, _, _, _, _, _, _, _, e2, ?_⟩
  have R2 := Rs.cons r2.row (Rs.step R1 hN2 ag2)
  refine ⟨_, _, _, _, _, lspend_q _ _ l g x a3 c3 nd n (by omega) hlw hx hn _ (R2.2.1.take) (R2.1), _, _, _, _, _, rspend_q _ _ l g x a c nd n (by omega) hlw hx hn _ (R2.2.2.1) (R2.2.2.2.1), ?_⟩
  refine ⟨_, _, _, lbracket_q _ _ l g x a3 c3 nd (by omega) hlw hx _ (R2.2.1.take) (R2.1), _, _, _, rbracket_q _ _ l g x a c nd (by omega) hlw hx _ (R2.2.2.1) (R2.2.2.2.1), ?_⟩
  refine ⟨_, noS, fun N3 hN3 => ((lreport_q _ _ l g x a3 c3 nd (by omega) hx _ ((R2.sz hN3).2.1.take) ((R2.sz hN3).1)).spec).monoW fun v3 m3 ag3 q3 => ?_⟩
  refine ⟨_, _, _, _, _, _, _, _, _, _, _, _, _, _, _, _, _, _, _, _, _, _, _, _, _, _, _, _, q3.1, ?_⟩
  have R3 := Rs.step R2 hN3 ag3
  refine ⟨_, noS, fun N4 hN4 => ((rreport_q _ _ l g x a c nd (by omega) hx _ ((R3.sz hN4).2.2.1) ((R3.sz hN4).2.2.2.1)).spec).monoW fun v4 m4 ag4 q4 => ?_⟩
  refine ⟨_, _, _, _, _, _, _, _, _, _, _, _, _, _, _, _, _, _, _, _, _, _, _, _, _, _, _, _, q4.1, ?_⟩
  have R4 := Rs.step R3 hN4 ag4
  refine ⟨_, lawake_q _, ifB_true ?_⟩
  simp only [bne_self_eq_false, beq_self_eq_true, Bool.not_true, Bool.not_false, Bool.and_self, Bool.and_true, decide_true]
  refine ifB_true (ifB_true (ifB_true (ifB_true (ifB_true ⟨_, command_q _ _, ifB_true (ifB_true ?_)⟩))))
  refine ⟨_, kept_q b1 l al cl (by omega) _ (R4.2.1) (R4.2.2.1), ifB_true ⟨_, saccount_q x x a3 a c3 c hx hx _ (R4.1) (R4.2.2.2.1), ⟨by simp⟩⟩⟩

end Go.Proofs.Ytfkielfnceeedaa
set_option linter.unusedVariables false
set_option linter.unusedSimpArgs false
namespace Go.Proofs.Ytfkielfnceeedaa
open Go.Vc Go.RowKit Go.ChangeShapes Go.WideShapes Go.ChangeAt
set_option maxRecDepth 100000

theorem cells_acc : Try.prog.cellsOf 46 = 10 := by kernel_rfl

theorem cells_hd : Try.prog.cellsOf 67 = 4 := by kernel_rfl

theorem cells_lk : Try.prog.cellsOf 44 = 4 := by kernel_rfl

theorem cells_sp : Try.prog.cellsOf 41 = 2 := by kernel_rfl

theorem cells_int : Try.prog.cellsOf 3 = 1 := by kernel_rfl

theorem cells_str : Try.prog.cellsOf 9 = 1 := by kernel_rfl

theorem cells_hds : Try.prog.cellsOf 42 = 1 := by kernel_rfl

/-- cells that are read as an account -/
theorem rd_acc {m : M} {N d : Nat} {cs : List Value} (h : Rd Try.prog m N (d + 4) 46 cs) (hN : N ≤ 9223372036854775807) :
    ∃ (x : Ac) (a : Option Addr) (c : Nat), cs = acc x a c ∧ x.wf ∧ x.hs.length ≤ N ∧ x.hs.length ≤ c ∧ c ≤ N ∧ (a = none → x.hs = []) ∧ Row m a (hds x.hs) := by
  simp only [Rd, Try.underlying46, Try.underlying41, Try.underlying44, Try.underlying3, Try.underlying9, Try.underlying42, Try.underlying67, fieldsD, cells_acc, cells_hd, cells_lk, cells_sp, cells_int, cells_str, cells_hds] at h
  obtain ⟨hl, ⟨k, hk, hks⟩, ⟨-, ⟨lo, hlo, wlo⟩, ⟨hi, hhi, whi⟩, -⟩, ⟨base, hbase, wbase⟩, ⟨round, hround, wround⟩, ⟨a, c, rows, hsl, h1, h2, h3, h4, h5⟩, ⟨-, ⟨l1, hl1, w1⟩, ⟨l2, hl2, w2⟩, ⟨l3, hl3, w3⟩, ⟨l4, hl4, w4⟩, -⟩, -⟩ := h
  obtain ⟨z, hz, he, hw⟩ := rows_list (α := Hd) (e := encH) (p := Hd.wf) rows fun r hr => by
    obtain ⟨g0, ⟨-, ⟨n1, hn1, v1⟩, ⟨n2, hn2, v2⟩, ⟨n3, hn3, v3⟩, ⟨n4, hn4, v4⟩, -⟩⟩ := h4 r hr
    obtain ⟨c1, c2, c3, c4, rfl⟩ : ∃ c1 c2 c3 c4, r = [c1, c2, c3, c4] := by
      match r, g0 with
      | [c1, c2, c3, c4], _ => exact ⟨c1, c2, c3, c4, rfl⟩
    simp at hn1 hn2 hn3 hn4
    subst hn1 hn2 hn3 hn4
    exact ⟨⟨n1, n2, n3, n4⟩, rfl, in64_of v1, in64_of v2, in64_of v3, in64_of v4⟩
  obtain ⟨c1, c2, c3, c4, c5, c6, c7, c8, c9, c10, rfl⟩ : ∃ c1 c2 c3 c4 c5 c6 c7 c8 c9 c10, cs = [c1, c2, c3, c4, c5, c6, c7, c8, c9, c10] := by
    match cs, hl with
    | [c1, c2, c3, c4, c5, c6, c7, c8, c9, c10], _ => exact ⟨_, _, _, _, _, _, _, _, _, _, rfl⟩
  simp at hk hlo hhi hbase hround hsl hl1 hl2 hl3 hl4
  subst hk hlo hhi hbase hround hsl hl1 hl2 hl3 hl4
  refine ⟨⟨k, lo, hi, base, round, z, ⟨l1, l2, l3, l4⟩⟩, a, c, by simp [acc, hz], ⟨Nat.le_trans hks hN, in64_of wlo, in64_of whi, in64_of wbase, in64_of wround, hw, by simp only [hz]; omega, in64_of w1, in64_of w2, in64_of w3, in64_of w4⟩, by simp only [hz]; omega, by simp only [hz]; omega, h2, fun e => ?_, ?_⟩
  · have : z.length = 0 := by have := h3 e; omega
    simpa using this
  · rw [he] at h5; exact h5

variable {H : Type} {enc : TypeId × Value → H} {W : World} {r : Reach} {b0 : Nat} {v : Value} {d : DataW H} {p : List MemPlace} {N : Nat} {Bd : DataW H → Prop}

theorem open_acc (B : Bound N Bd) (hN : N ≤ 9223372036854775807) (hv : Value.okWide Try.prog W r b0 46 v) (h : DataW.Trod enc Try.prog W 0 (fun _ => true) true 46 v d p) (hb : Bd d) :
    ∃ (x : Ac) (a : Option Addr) (c : Nat), v = acv x a c ∧ x.wf ∧ x.hs.length ≤ N ∧ (a = none → x.hs = []) ∧ Row (M.all W) a (hds x.hs) := by
  obtain ⟨cs, rfl, hl⟩ := open_agg Try.underlying46 cells_acc hv
  obtain ⟨fuel, hf⟩ := h
  have hr := rd_of_trod B 4 fuel 46 _ _ hf hb
  simp only [Value.cells] at hr
  obtain ⟨x, a, c, he, hw, h1, h2, h3, h4, h5⟩ := rd_acc (d := 0) hr hN
  exact ⟨x, a, c, by rw [show cs = acc x a c from he], hw, h1, h4, h5⟩

theorem open_lk (hv : Value.okWide Try.prog W r b0 44 v) (h : DataW.Trod enc Try.prog W 0 (fun _ => true) true 44 v d p) :
    ∃ k : Lk, v = .agg #[I k.cl, I k.sq, I k.hm, I k.n] ∧ k.wf := by
  obtain ⟨cs, rfl, hl⟩ := open_agg Try.underlying44 cells_lk hv
  obtain ⟨fuel, hf⟩ := h
  have hr := rd_of_trod (bound_any H) 2 fuel 44 _ _ hf trivial
  simp only [Rd, Try.underlying44, Try.underlying3, fieldsD, cells_lk, cells_int] at hr
  obtain ⟨-, ⟨l1, hl1, w1⟩, ⟨l2, hl2, w2⟩, ⟨l3, hl3, w3⟩, ⟨l4, hl4, w4⟩, -⟩ := hr
  obtain ⟨c1, c2, c3, c4, rfl⟩ : ∃ c1 c2 c3 c4, cs = [c1, c2, c3, c4] := by
    match cs, hl with
    | [c1, c2, c3, c4], _ => exact ⟨_, _, _, _, rfl⟩
  simp [Value.cells] at hl1 hl2 hl3 hl4
  subst hl1 hl2 hl3 hl4
  exact ⟨⟨l1, l2, l3, l4⟩, rfl, in64_of w1, in64_of w2, in64_of w3, in64_of w4⟩

theorem open_sp (hv : Value.okWide Try.prog W r b0 41 v) (h : DataW.Trod enc Try.prog W 0 (fun _ => true) true 41 v d p) :
    ∃ lo hi : Int, v = sp lo hi ∧ In64 lo ∧ In64 hi := by
  obtain ⟨cs, rfl, hl⟩ := open_agg Try.underlying41 cells_sp hv
  obtain ⟨fuel, hf⟩ := h
  have hr := rd_of_trod (bound_any H) 2 fuel 41 _ _ hf trivial
  simp only [Rd, Try.underlying41, Try.underlying3, fieldsD, cells_sp, cells_int] at hr
  obtain ⟨-, ⟨l1, hl1, w1⟩, ⟨l2, hl2, w2⟩, -⟩ := hr
  obtain ⟨c1, c2, rfl⟩ : ∃ c1 c2, cs = [c1, c2] := by
    match cs, hl with
    | [c1, c2], _ => exact ⟨_, _, rfl⟩
  simp [Value.cells] at hl1 hl2
  subst hl1 hl2
  exact ⟨l1, l2, rfl, in64_of w1, in64_of w2⟩

end Go.Proofs.Ytfkielfnceeedaa
set_option linter.unusedVariables false
set_option linter.unusedSimpArgs false
namespace Go.Proofs.Ytfkielfnceeedaa
open Go.Vc Go.RowKit Go.ChangeShapes Go.WideShapes Go.ChangeAt
set_option maxRecDepth 100000

/-- an account where its holders stand -/
structure Ax where
  x : Ac
  a : Option Addr
  c : Nat

abbrev encAx (y : Ax) : List Value := acc y.x y.a y.c

abbrev axs (l : List Ax) : List Value := l.flatMap encAx

theorem ax_k (y : Ax) : (encAx y).length = 10 := rfl

theorem axs_len (l : List Ax) : (axs l).length = l.length * 10 := flat_len ax_k l

theorem ax_at {m : M} {b o i : Nat} {l : List Ax} (h : CellsAt m b o (axs l)) (hi : i < l.length) : CellsAt m b (o + i * 10) (encAx l[i]) := CellsAt.elem ax_k l o i hi h

theorem ax_zr (k : Nat) : (zeroRow Try.prog 46 k).length = k * 10 := zrLen (by kernel_rfl) k

/-- accounts that are known -/
structure AxR (m : M) (a : Option Addr) (z : List Ax) : Prop where
  row : Row m a (axs z)
  hs : ∀ y ∈ z, Row m y.a (hds y.x.hs)

theorem AxR.of {m m' : M} {a : Option Addr} {z : List Ax} (h : AxR m a z) (e : ∀ a cs, Row m a cs → Row m' a cs) : AxR m' a z := ⟨e _ _ h.row, fun y hy => e _ _ (h.hs y hy)⟩

theorem AxR.sz {m : M} {a : Option Addr} {z : List Ax} (h : AxR m a z) {n : Nat} (hn : m.sz ≤ n) : AxR { m with sz := n } a z := h.of fun _ _ r => r.sz hn

theorem AxR.agree {m m' : M} {a : Option Addr} {z : List Ax} (h : AxR m a z) (hag : Agree m.sz m m') : AxR m' a z := h.of fun _ _ r => r.agree hag

theorem open_axs {H : Type} {enc : TypeId × Value → H} {W : World} {r : Reach} {b0 : Nat} {v : Value} {d : DataW H} {p : List MemPlace} {N : Nat} {Bd : DataW H → Prop} (B : Bound N Bd) (hN : N ≤ 9223372036854775807) (hv : Value.okWide Try.prog W r b0 35 v) (h : DataW.Trod enc Try.prog W 0 (fun _ => true) true 35 v d p) (hb : Bd d) :
    ∃ (a : Option Addr) (c : Nat) (z : List Ax), v = .slice a z.length c ∧ z.length ≤ N ∧ (∀ y ∈ z, y.x.wf ∧ y.x.hs.length ≤ N) ∧ (a = none → z = []) ∧ AxR (M.all W) a z := by
  obtain ⟨a, len, cap, rfl⟩ := okWide_slice Try.underlying35 hv
  obtain ⟨fuel, hf⟩ := h
  have hr := rd_of_trod B 5 fuel 35 _ _ hf hb
  rw [Rd] at hr
  simp only [Try.underlying35] at hr
  obtain ⟨a', cap', rows, hcs, h1, h2, h3, h4, h5⟩ := hr
  obtain ⟨z, hz, he, hi⟩ := rows_list (α := Ax) (e := encAx) (p := fun y => y.x.wf ∧ y.x.hs.length ≤ N ∧ Row (M.all W) y.a (hds y.x.hs)) rows fun r hr => by
    obtain ⟨x, a, c, he, hw, g1, g2, g3, g4, g5⟩ := rd_acc (d := 0) (h4 r hr).2 hN
    exact ⟨⟨x, a, c⟩, he, hw, g1, g5⟩
  simp [Value.cells] at hcs
  obtain ⟨rfl, rfl, rfl⟩ := hcs
  rw [he] at h5
  exact ⟨a, cap, z, by rw [hz], by omega, fun y hy => ⟨(hi y hy).1, (hi y hy).2.1⟩, fun e => List.eq_nil_of_length_eq_zero (by have := h3 e; omega), ⟨h5, fun y hy => (hi y hy).2.2⟩⟩

/-- no list of holders stands in the block in which the accounts stand -/
def ApH (a : Option Addr) (z : List Ax) : Prop := ∀ y ∈ z, ∀ b o b' o', a = some ⟨b, o, none⟩ → y.a = some ⟨b', o', none⟩ → y.x.hs ≠ [] → b' ≠ b

theorem newr_lt {B : Nat} {S : Nat → Prop} {m : M} {size len cap : Nat} {a : Option Addr} {cs : List Value} (h : NewR B S m size a len cap cs) {b o : Nat} (e : a = some ⟨b, o, none⟩) (hc : len < cap) : b < m.sz := by
  cases h with
  | nil => omega
  | own q => exact q.lt e

structure CaX where
  k : Nat
  z : List Ax
  a : Option Addr
  c : Nat
  m : M

structure CaI (z : List Ax) (m : M) (y : CaX) : Prop where
  k : y.k ≤ z.length
  xs : y.z.map (·.x) = (z.take y.k).map (·.x)
  own : NewR m.sz (fun _ => False) y.m 10 y.a y.z.length y.c (axs y.z)
  hs : ∀ w ∈ y.z, Row y.m w.a (hds w.x.hs)
  ap : ApH y.a y.z
  ag : Agree m.sz m y.m

theorem ccopies_s (a : Option Addr) (c : Nat) (z : List Ax) (hn : z.length ≤ 1353245080300) (hz : ∀ y ∈ z, y.x.hs.length ≤ 4398046511000) (m : M) (h : AxR m a z) :
    Vc.Spec Try.prog 19 [.slice a z.length c] m fun v m' => ∃ a' c' z', v = .slice a' z.length c' ∧ z'.map (·.x) = z.map (·.x) ∧ AxR m' a' z' := by
  refine Vc.Spec.of_vc Try.func19 (ann := fun _ => { A := CaX, inv := CaI z m, st := fun y => [(4, .val (I y.k)), (0, .val (.slice a z.length c)), (3, .val (.slice y.a y.k y.c))], own := fun _ => [], m := fun y => y.m, μ := fun y => z.length - y.k }) ?_
  refine vc_by (X :=
      true = true ∧
      (∃ (a_1 : CaX),
      CaI z m a_1 ∧
      m = a_1.m ∧
      ((SV.val (Value.int IntKind.i64 (0 : Int)) = SV.val (Value.int IntKind.i64 (↑a_1.k : Int)) ∧ true = true) ∧
      (SV.val (Value.slice a z.length c) = SV.val (Value.slice a z.length c) ∧ true = true) ∧
      (SV.val (Value.slice none (0 : Nat) (0 : Nat)) = SV.val (Value.slice a_1.a a_1.k a_1.c) ∧ true = true) ∧ True) ∧
      True) ∧
      ∀ (a_1 : CaX),
      CaI z m a_1 →
      ifB (decide ((↑a_1.k : Int) < (↑z.length : Int)))
      (∃ (b : Nat),
      ∃ (off : Nat),
      a = some { block := b, off := off : Addr } ∧
      ((0 : Int) ≤ (↑a_1.k : Int) ∧ (↑a_1.k : Int) < (↑z.length : Int)) ∧
      ∃ (s : ByteArray),
      ∃ (n : Int),
      ∃ (n_1 : Int),
      ∃ (n_2 : Int),
      ∃ (n_3 : Int),
      ∃ (a_3 : Option Addr),
      ∃ (n_4 : Nat),
      ∃ (c_1 : Nat),
      ∃ (n_5 : Int),
      ∃ (n_6 : Int),
      ∃ (n_7 : Int),
      ∃ (n_8 : Int),
      CellsAt a_1.m b (off + (↑a_1.k : Int).toNat * (10 : Nat))
      [Value.string s, Value.int IntKind.i64 n, Value.int IntKind.i64 n_1, Value.int IntKind.i64 n_2, Value.int IntKind.i64 n_3,
      Value.slice a_3 n_4 c_1, Value.int IntKind.i64 n_5, Value.int IntKind.i64 n_6, Value.int IntKind.i64 n_7,
      Value.int IntKind.i64 n_8] ∧
      ∀ (n_9 : Nat),
      a_1.m.sz ≤ n_9 →
      Vc.Spec Try.prog (23 : Nat)
      [Value.agg
      #[Value.string s, Value.int IntKind.i64 n, Value.int IntKind.i64 n_1, Value.int IntKind.i64 n_2, Value.int IntKind.i64 n_3,
      Value.slice a_3 n_4 c_1, Value.int IntKind.i64 n_5, Value.int IntKind.i64 n_6, Value.int IntKind.i64 n_7,
      Value.int IntKind.i64 n_8]]
      { π := a_1.m.π, sz := n_9, uf := a_1.m.uf : M } fun (v : Value) (m' : M) =>
      ∃ (s : ByteArray),
      ∃ (n : Int),
      ∃ (n_10 : Int),
      ∃ (n_11 : Int),
      ∃ (n_12 : Int),
      ∃ (a_5 : Option Addr),
      ∃ (n_13 : Nat),
      ∃ (c_2 : Nat),
      ∃ (n_14 : Int),
      ∃ (n_15 : Int),
      ∃ (n_16 : Int),
      ∃ (n_17 : Int),
      v =
      Value.agg
      #[Value.string s, Value.int IntKind.i64 n, Value.int IntKind.i64 n_10, Value.int IntKind.i64 n_11,
      Value.int IntKind.i64 n_12, Value.slice a_5 n_13 c_2, Value.int IntKind.i64 n_14,
      Value.int IntKind.i64 n_15, Value.int IntKind.i64 n_16, Value.int IntKind.i64 n_17] ∧
      true = true ∧
      ∀ (b : Nat),
      m'.sz ≤ b →
      ∃ (old : List Value),
      ∃ (src : List Value),
      AppPre m.sz (fun (x : Nat) => False)
      (m'.newBlock b
      [Value.string s, Value.int IntKind.i64 n, Value.int IntKind.i64 n_10,
      Value.int IntKind.i64 n_11, Value.int IntKind.i64 n_12, Value.slice a_5 n_13 c_2,
      Value.int IntKind.i64 n_14, Value.int IntKind.i64 n_15, Value.int IntKind.i64 n_16,
      Value.int IntKind.i64 n_17])
      (10 : Nat) (104 : Nat) a_1.a a_1.k a_1.c (some { block := b, off := (0 : Nat) : Addr })
      (1 : Nat) old src ∧
      ∀ (a' : Option Addr) (c' : Nat) (m'_1 : M),
      AppPost Try.prog (46 : Nat)
      (m'.newBlock b
      [Value.string s, Value.int IntKind.i64 n, Value.int IntKind.i64 n_10,
      Value.int IntKind.i64 n_11, Value.int IntKind.i64 n_12, Value.slice a_5 n_13 c_2,
      Value.int IntKind.i64 n_14, Value.int IntKind.i64 n_15,
      Value.int IntKind.i64 n_16, Value.int IntKind.i64 n_17])
      (10 : Nat) a_1.a a_1.k a_1.c (1 : Nat) old src a' c' m'_1 →
      ∃ (a'_1 : CaX),
      (CaI z m a'_1 ∧
      m'_1 = a'_1.m ∧
      ((SV.val
      (Value.int IntKind.i64
      (IntKind.i64.wrap ((↑a_1.k : Int) + (1 : Int)))) =
      SV.val (Value.int IntKind.i64 (↑a'_1.k : Int)) ∧
      true = true) ∧
      (SV.val (Value.slice a z.length c) = SV.val (Value.slice a z.length c) ∧
      true = true) ∧
      (SV.val (Value.slice a' (a_1.k + (1 : Nat)) c') =
      SV.val (Value.slice a'_1.a a'_1.k a'_1.c) ∧
      true = true) ∧
      True) ∧
      True) ∧
      z.length - a'_1.k < z.length - a_1.k)
      (Done
      (∃ (a' : Option Addr),
      ∃ (c' : Nat),
      ∃ (z' : List Ax),
      Value.slice a_1.a a_1.k a_1.c = Value.slice a' z.length c' ∧ List.map (fun (x : Ax) => x.x) z' = List.map (fun (x : Ax) => x.x) z ∧ AxR a_1.m a' z'))) (by kernel_rfl) ?_
  refine ⟨rfl, ⟨⟨0, [], none, 0, m⟩, ⟨Nat.zero_le _, rfl, .nil _, fun _ hw => by simp at hw, fun _ hw => by simp at hw, Agree.refl _ _⟩, rfl, by simp⟩, fun y Y => ifB_intro (fun hb => ?_) (fun hb => ⟨?_⟩)⟩
  · have hk2 : y.k < z.length := by simpa using hb
    obtain ⟨b, o, rfl, hc⟩ := (h.row.agree Y.ag).cells (by rw [axs_len]; omega)
    have w1 : IntKind.i64.wrap ((y.k : Int) + 1) = ((y.k + 1 : Nat) : Int) := by simp [IntKind.wrap_i64]; omega
    have hzl : y.z.length = y.k := by have := congrArg List.length Y.xs; simp at this; omega
    have hm := List.getElem_mem hk2
    refine ⟨b, o, rfl, by omega, _, _, _, _, _, _, _, _, _, _, _, _, by simpa using ax_at hc hk2, fun N1 hN1 => ?_⟩
    refine (ccopy_q z[y.k].x z[y.k].a z[y.k].c (hz _ hm) _ (((h.hs _ hm).agree Y.ag).sz hN1)).mono fun v1 m1 ag1 ⟨a5, c5, e1, r5⟩ => ⟨_, _, _, _, _, _, _, _, _, _, _, _, e1, rfl, fun b4 hb4 => ?_⟩
    have A1 : Agree m.sz m m1 := Y.ag.trans ((Agree.szl (B := m.sz) (m := y.m) hN1).trans (ag1.mono (Nat.le_trans Y.ag.2.2 hN1)))
    have o1 := (Y.own.sz hN1).agree ag1
    have hs1 : N1 ≤ m1.sz := ag1.2.2
    obtain ⟨g1, g2⟩ := o1.push (P := Try.prog) (e := 46) (bytes := 104) (src := acc z[y.k].x a5 c5) hb4 A1.2.2 rfl rfl (by omega) ax_zr
    rw [hzl] at g1 g2
    refine ⟨_, _, g1, fun a' c' m' hp => ?_⟩
    obtain ⟨g3, g4⟩ := g2 a' c' m' hp
    have hrow : ∀ w ∈ y.z, Row m1 w.a (hds w.x.hs) := fun w hw => ((Y.hs w hw).sz hN1).agree ag1
    have lt1 : ∀ b o, y.a = some ⟨b, o, none⟩ → y.k + 1 ≤ y.c → b < y.m.sz := fun b o e hc => by
      exact newr_lt Y.own e (by omega)
    have lt5 : ∀ b o, a5 = some ⟨b, o, none⟩ → z[y.k].x.hs ≠ [] → N1 ≤ b ∧ b < m1.sz := fun b o e hne => by
      have q := r5.toOwn (fun e => hne (List.eq_nil_of_length_eq_zero e))
      exact ⟨(q.lo e).resolve_right id, q.lt e⟩
    have ltw : ∀ w ∈ y.z, ∀ b o, w.a = some ⟨b, o, none⟩ → w.x.hs ≠ [] → b < y.m.sz := fun w hw b o e hne => (Y.hs w hw).lt (fun e => hne (by have := congrArg List.length e; rw [hds_len] at this; exact List.eq_nil_of_length_eq_zero (by simp at this; omega))) e
    have nb : (m1.newBlock b4 (acc z[y.k].x a5 c5)).sz = max m1.sz (b4 + 1) := rfl
    have kp : ∀ (aw : Option Addr) (l : List Hd), Row m1 aw (hds l) → (l ≠ [] → ∀ b o, aw = some ⟨b, o, none⟩ → ∀ b' o', y.a = some ⟨b', o', none⟩ → y.k + 1 ≤ y.c → b ≠ b') → Row m' aw (hds l) := fun aw l hr hap => by
      by_cases hl : l = []
      · subst hl; exact .nil _
      · refine (hr.newBlock hb4).of hp.sz fun b o e hb => ?_
        rcases hp with ⟨hle, -, -, ⟨-, rfl⟩ | ⟨b', o', e2, rfl⟩⟩ | ⟨-, b', hb', -, -, rfl⟩
        · rfl
        · exact setCells_other (hap hl b o e b' o' e2 hle)
        · exact newBlock_other (by omega)
    have hr' : ∀ w ∈ y.z, Row m' w.a (hds w.x.hs) := fun w hw => kp _ _ (hrow w hw) fun hne b o e b' o' e2 hle e3 => Y.ap w hw b' o' b o e2 e hne e3
    have hr5 : Row m' a5 (hds z[y.k].x.hs) := kp _ _ r5.row fun hne b o e b' o' e2 hle e3 => by
      have h1 := lt5 b o e hne
      have h2 := lt1 b' o' e2 hle
      omega
    have ap' : ApH a' (y.z ++ [⟨z[y.k].x, a5, c5⟩]) := fun w hw b o b' o' e1 e2 hne e3 => by
      rcases hp with ⟨hle, rfl, -, -⟩ | ⟨-, bn, hbn, -, rfl, -⟩
      · rcases List.mem_append.1 hw with hw | hw
        · exact Y.ap w hw b o b' o' e1 e2 hne e3
        · have hw : w = ⟨z[y.k].x, a5, c5⟩ := by simpa using hw
          subst hw
          have h1 := lt5 b' o' e2 hne
          have h2 := lt1 b o e1 hle
          omega
      · cases e1
        have hbn2 : max m1.sz (b4 + 1) ≤ b := hbn
        rcases List.mem_append.1 hw with hw | hw
        · have := ltw w hw b' o' e2 hne; omega
        · have hw : w = ⟨z[y.k].x, a5, c5⟩ := by simpa using hw
          subst hw
          have h1 := lt5 b' o' e2 hne
          omega
    refine ⟨⟨y.k + 1, y.z ++ [⟨z[y.k].x, a5, c5⟩], a', c', m'⟩, ⟨⟨hk2, ?_, ?_, fun w hw => ?_, ap', A1.trans g4⟩, rfl, by simp [w1]⟩, by simp only; omega⟩
    · simp only [List.map_append, List.take_succ_eq_append_getElem hk2, Y.xs]; rfl
    · have : axs (y.z ++ [⟨z[y.k].x, a5, c5⟩]) = axs y.z ++ acc z[y.k].x a5 c5 := by simp [axs]
      simp only [this, List.length_append, hzl]
      exact g3
    · rcases List.mem_append.1 hw with hw | hw
      · exact hr' w hw
      · have hw : w = ⟨z[y.k].x, a5, c5⟩ := by simpa using hw
        subst hw
        exact hr5
  · have hk : y.k = z.length := by have := Y.k; simp at hb; omega
    have hx := Y.xs
    rw [hk, List.take_length] at hx
    exact ⟨y.a, y.c, y.z, by rw [hk], hx, ⟨Y.own.row, Y.hs⟩⟩

end Go.Proofs.Ytfkielfnceeedaa
set_option linter.unusedVariables false
set_option linter.unusedSimpArgs false
namespace Go.Proofs.Ytfkielfnceeedaa
open Go.Vc Go.RowKit
set_option maxRecDepth 100000

theorem same_axs (a a2 : Option Addr) (c c2 : Nat) (z z2 : List Ax) (hn : z.length ≤ 9223372036854775807) (hz : ∀ y ∈ z, y.x.wf) (hz2 : ∀ y ∈ z2, y.x.wf) (m : M) (h : AxR m a z) (h2 : AxR m a2 z2) :
    QSpec Try.prog 53 [.slice a z.length c, .slice a2 z2.length c2, .func (.func 31) #[] #[]] m (.bool (decide (z.map (·.x) = z2.map (·.x)))) := by
  refine QSpec.of_vc Try.func53 (ann := fun n _ => { A := Nat, inv := fun k => k ≤ z.length ∧ (z.map (·.x)).take k = (z2.map (·.x)).take k, st := fun k => [(7, .val (I k)), (0, .val (.slice a z.length c)), (1, .val (.slice a2 z2.length c2)), (2, .val (.func (.func 31) #[] #[]))], own := fun _ => [], m := fun _ => { m with sz := n }, μ := fun k => z.length - k }) fun n hn' => ?_
  refine vc_by (X :=
      true = true ∧
      ifB ((↑z.length : Int) != (↑z2.length : Int)) (Done (Value.bool false = Value.bool (decide (List.map (fun (x : Ax) => x.x) z = List.map (fun (x : Ax) => x.x) z2))))
      ((∃ (a_1 : Nat),
      (a_1 ≤ z.length ∧ List.take a_1 (List.map (fun (x : Ax) => x.x) z) = List.take a_1 (List.map (fun (x : Ax) => x.x) z2)) ∧
      { π := m.π, sz := n, uf := m.uf : M } = { π := m.π, sz := n, uf := m.uf : M } ∧
      ((SV.val (Value.int IntKind.i64 (0 : Int)) = SV.val (Value.int IntKind.i64 (↑a_1 : Int)) ∧ true = true) ∧
      (SV.val (Value.slice a z.length c) = SV.val (Value.slice a z.length c) ∧ true = true) ∧
      (SV.val (Value.slice a2 z2.length c2) = SV.val (Value.slice a2 z2.length c2) ∧ true = true) ∧
      (SV.val (Value.func (Fn.func (31 : FuncId)) #[] #[]) = SV.val (Value.func (Fn.func (31 : FuncId)) #[] #[]) ∧ true = true) ∧ True) ∧
      True) ∧
      ∀ (a_1 : Nat),
      a_1 ≤ z.length ∧ List.take a_1 (List.map (fun (x : Ax) => x.x) z) = List.take a_1 (List.map (fun (x : Ax) => x.x) z2) →
      ifB (decide ((↑a_1 : Int) < (↑z.length : Int)))
      (true = true ∧
      ∃ (b : Nat),
      ∃ (off : Nat),
      a = some { block := b, off := off : Addr } ∧
      ((0 : Int) ≤ (↑a_1 : Int) ∧ (↑a_1 : Int) < (↑z.length : Int)) ∧
      ∃ (s : ByteArray),
      ∃ (n_1 : Int),
      ∃ (n_2 : Int),
      ∃ (n_3 : Int),
      ∃ (n_4 : Int),
      ∃ (a_3 : Option Addr),
      ∃ (n_5 : Nat),
      ∃ (c_1 : Nat),
      ∃ (n_6 : Int),
      ∃ (n_7 : Int),
      ∃ (n_8 : Int),
      ∃ (n_9 : Int),
      CellsAt { π := m.π, sz := n, uf := m.uf : M } b (off + (↑a_1 : Int).toNat * (10 : Nat))
      [Value.string s, Value.int IntKind.i64 n_1, Value.int IntKind.i64 n_2, Value.int IntKind.i64 n_3, Value.int IntKind.i64 n_4,
      Value.slice a_3 n_5 c_1, Value.int IntKind.i64 n_6, Value.int IntKind.i64 n_7, Value.int IntKind.i64 n_8,
      Value.int IntKind.i64 n_9] ∧
      ∃ (b : Nat),
      ∃ (off : Nat),
      a2 = some { block := b, off := off : Addr } ∧
      ((0 : Int) ≤ (↑a_1 : Int) ∧ (↑a_1 : Int) < (↑z2.length : Int)) ∧
      ∃ (s_1 : ByteArray),
      ∃ (n_10 : Int),
      ∃ (n_11 : Int),
      ∃ (n_12 : Int),
      ∃ (n_13 : Int),
      ∃ (a_4 : Option Addr),
      ∃ (n_14 : Nat),
      ∃ (c_2 : Nat),
      ∃ (n_15 : Int),
      ∃ (n_16 : Int),
      ∃ (n_17 : Int),
      ∃ (n_18 : Int),
      CellsAt { π := m.π, sz := n, uf := m.uf : M } b (off + (↑a_1 : Int).toNat * (10 : Nat))
      [Value.string s_1, Value.int IntKind.i64 n_10, Value.int IntKind.i64 n_11,
      Value.int IntKind.i64 n_12, Value.int IntKind.i64 n_13, Value.slice a_4 n_14 c_2,
      Value.int IntKind.i64 n_15, Value.int IntKind.i64 n_16, Value.int IntKind.i64 n_17,
      Value.int IntKind.i64 n_18] ∧
      ∃ (b : Bool),
      QSpec Try.prog (31 : FuncId)
      [Value.agg
      #[Value.string s, Value.int IntKind.i64 n_1, Value.int IntKind.i64 n_2,
      Value.int IntKind.i64 n_3, Value.int IntKind.i64 n_4, Value.slice a_3 n_5 c_1,
      Value.int IntKind.i64 n_6, Value.int IntKind.i64 n_7, Value.int IntKind.i64 n_8,
      Value.int IntKind.i64 n_9],
      Value.agg
      #[Value.string s_1, Value.int IntKind.i64 n_10, Value.int IntKind.i64 n_11,
      Value.int IntKind.i64 n_12, Value.int IntKind.i64 n_13, Value.slice a_4 n_14 c_2,
      Value.int IntKind.i64 n_15, Value.int IntKind.i64 n_16, Value.int IntKind.i64 n_17,
      Value.int IntKind.i64 n_18]]
      { π := m.π, sz := n, uf := m.uf : M } (Value.bool b) ∧
      ifB (!b)
      (Done
      (Value.bool false =
      Value.bool
      (decide (List.map (fun (x : Ax) => x.x) z = List.map (fun (x : Ax) => x.x) z2))))
      (∃ (a' : Nat),
      ((a' ≤ z.length ∧
      List.take a' (List.map (fun (x : Ax) => x.x) z) =
      List.take a' (List.map (fun (x : Ax) => x.x) z2)) ∧
      { π := m.π, sz := n, uf := m.uf : M } = { π := m.π, sz := n, uf := m.uf : M } ∧
      ((SV.val (Value.int IntKind.i64 (IntKind.i64.wrap ((↑a_1 : Int) + (1 : Int)))) =
      SV.val (Value.int IntKind.i64 (↑a' : Int)) ∧
      true = true) ∧
      (SV.val (Value.slice a z.length c) = SV.val (Value.slice a z.length c) ∧
      true = true) ∧
      (SV.val (Value.slice a2 z2.length c2) = SV.val (Value.slice a2 z2.length c2) ∧
      true = true) ∧
      (SV.val (Value.func (Fn.func (31 : FuncId)) #[] #[]) =
      SV.val (Value.func (Fn.func (31 : FuncId)) #[] #[]) ∧
      true = true) ∧
      True) ∧
      True) ∧
      z.length - a' < z.length - a_1))
      (Done (Value.bool true = Value.bool (decide (List.map (fun (x : Ax) => x.x) z = List.map (fun (x : Ax) => x.x) z2)))))) (by kernel_rfl) ?_
  have h' := h.sz hn'
  have h2' := h2.sz hn'
  refine ⟨rfl, ifB_intro (fun hb => ⟨?_⟩) (fun hb => ⟨⟨0, by simp⟩, fun k hk => ifB_intro (fun hb2 => ?_) (fun hb2 => ⟨?_⟩)⟩)⟩
  · have : z.map (·.x) ≠ z2.map (·.x) := fun e => by have := congrArg List.length e; simp at this; simp [this] at hb
    simp [this]
  · have hlen : z.length = z2.length := by simp at hb; omega
    have hk2 : k < z.length := by simpa using hb2
    have hk3 : k < z2.length := by omega
    obtain ⟨b, o, rfl, hc⟩ := h'.row.cells (by rw [axs_len]; omega)
    obtain ⟨b2, o2, rfl, hc2⟩ := h2'.row.cells (by rw [axs_len]; omega)
    have w1 : IntKind.i64.wrap ((k : Int) + 1) = ((k + 1 : Nat) : Int) := by simp [IntKind.wrap_i64]; omega
    have m1 := List.getElem_mem hk2
    have m2 := List.getElem_mem hk3
    refine ⟨rfl, b, o, rfl, by omega, _, _, _, _, _, _, _, _, _, _, _, _, by simpa using ax_at hc hk2, b2, o2, rfl, by omega, _, _, _, _, _, _, _, _, _, _, _, _, by simpa using ax_at hc2 hk3, _, saccount_q z[k].x z2[k].x z[k].a z2[k].a z[k].c z2[k].c (hz _ m1) (hz2 _ m2) _ (h'.hs _ m1) (h2'.hs _ m2), ifB_intro (fun h3 => ⟨?_⟩) (fun h3 => ⟨k + 1, ⟨⟨hk2, ?_⟩, by simp [w1]⟩, by omega⟩)⟩
    · have h3 : z[k].x ≠ z2[k].x := by simpa using h3
      have : z.map (·.x) ≠ z2.map (·.x) := fun e => h3 (by
        have e1 : (z.map (·.x))[k]? = (z2.map (·.x))[k]? := by rw [e]
        simpa [List.getElem?_eq_getElem hk2, List.getElem?_eq_getElem hk3] using e1)
      simp [this]
    · have h3 : z[k].x = z2[k].x := by simpa using h3
      rw [List.take_succ_eq_append_getElem (by simpa using hk2), List.take_succ_eq_append_getElem (by simpa using hk3), hk.2]
      simp [h3]
  · have hlen : z.length = z2.length := by simp at hb; omega
    have : k = z.length := by simp at hb2; omega
    have e := hk.2
    rw [List.take_of_length_le (by simp; omega), List.take_of_length_le (by simp; omega)] at e
    simp [e]

/-- the node holds that lease of it -/
def leaB (nd : Int) (r : Rt) (x : Ac) : Bool := findB x nd && (decide (x.key = r.ky) && decide ((findH x nd).le = r.le))

theorem trim11_q (y : Ax) (b : Nat) (nd : Int) (b2 : Nat) (r : Rt) (hy : y.x.wf) (m : M) (hr : Row m y.a (hds y.x.hs)) (h1 : CellsAt m b 0 [I nd]) (h2 : CellsAt m b2 0 (encRt r)) : QSpec Try.prog 50 [acv y.x y.a y.c, .pointer (some ⟨b, 0, none⟩), .pointer (some ⟨b2, 0, none⟩)] m (.bool (leaB nd r y.x)) := by
  refine QSpec.of_vc Try.func50 (ann := fun _ => noAnn) fun n hn' => ?_
  refine vc_by (X :=
      true = true ∧
      ∃ (n_1 : Int),
      CellsAt { π := m.π, sz := n, uf := m.uf : M } b (0 : Nat) [Value.int IntKind.i64 n_1] ∧
      ∃ (n_2 : Int),
      ∃ (n_3 : Int),
      ∃ (n_4 : Int),
      ∃ (n_5 : Int),
      ∃ (b : Bool),
      QSpec Try.prog (33 : Nat)
      [Value.agg
      #[Value.string y.x.key, Value.int IntKind.i64 y.x.lo, Value.int IntKind.i64 y.x.hi, Value.int IntKind.i64 y.x.base, Value.int IntKind.i64 y.x.round,
      Value.slice y.a y.x.hs.length y.c, Value.int IntKind.i64 y.x.lk.cl, Value.int IntKind.i64 y.x.lk.sq, Value.int IntKind.i64 y.x.lk.hm,
      Value.int IntKind.i64 y.x.lk.n],
      Value.int IntKind.i64 n_1]
      { π := m.π, sz := n, uf := m.uf : M }
      (Value.tuple #[Value.agg #[Value.int IntKind.i64 n_2, Value.int IntKind.i64 n_3, Value.int IntKind.i64 n_4, Value.int IntKind.i64 n_5], Value.bool b]) ∧
      ifB b
      (∃ (s : ByteArray),
      CellsAt { π := m.π, sz := n, uf := m.uf : M } b2 (1 : Nat) [Value.string s] ∧
      ifB (y.x.key.toList == s.toList)
      (∃ (n_6 : Int),
      CellsAt { π := m.π, sz := n, uf := m.uf : M } b2 (2 : Nat) [Value.int IntKind.i64 n_6] ∧ Done (Value.bool (n_3 == n_6) = Value.bool (leaB nd r y.x)))
      (Done (Value.bool false = Value.bool (leaB nd r y.x))))
      (Done (Value.bool false = Value.bool (leaB nd r y.x)))) (by kernel_rfl) ?_
  have k1 : CellsAt { m with sz := n } b2 1 [.string r.ky] := CellsAt.take (ds := [I r.le, I r.ne]) (CellsAt.drop (cs := [I r.g]) (ds := [.string r.ky, I r.le, I r.ne]) ⟨h2.out⟩)
  have k2 : CellsAt { m with sz := n } b2 2 [I r.le] := CellsAt.take (ds := [I r.ne]) (CellsAt.drop (cs := [I r.g, .string r.ky]) (ds := [I r.le, I r.ne]) ⟨h2.out⟩)
  refine ⟨rfl, nd, ⟨h1.out⟩, _, _, _, _, _, find_q y.x y.a y.c nd hy _ (hr.sz hn'), ?_⟩
  cases hf : findB y.x nd
  · exact ifB_false ⟨by simp [leaB, hf]⟩
  refine ifB_true ⟨_, k1, ?_⟩
  rw [bytes_beq]
  refine ifB_intro (fun h3 => ⟨_, k2, ⟨?_⟩⟩) (fun h3 => ⟨?_⟩)
  · simp only [leaB, hf, h3, Bool.true_and]; rfl
  · simp only [leaB, hf, h3, Bool.true_and, Bool.false_and]

def idxG {α : Type} (p : α → Bool) (l : List α) : Int := match l.findIdx? p with | some i => i | none => -1

theorem idxG_found {α : Type} {p : α → Bool} {l : List α} {k : Nat} (hk : k < l.length) (h1 : ∀ h ∈ l.take k, p h = false) (h2 : p l[k] = true) : idxG p l = k := by
  have : l.findIdx? p = some k := by
    rw [List.findIdx?_eq_some_iff_getElem]
    refine ⟨hk, h2, fun j hj => ?_⟩
    have := h1 l[j] (by rw [List.mem_take_iff_getElem]; exact ⟨j, by omega, rfl⟩)
    simp [this]
  simp [idxG, this]

theorem idxG_none {α : Type} {p : α → Bool} {l : List α} (h1 : ∀ h ∈ l, p h = false) : idxG p l = -1 := by
  have : l.findIdx? p = none := by rw [List.findIdx?_eq_none_iff]; exact h1
  simp [idxG, this]

theorem idxG_cases {α : Type} (p : α → Bool) (l : List α) : (idxG p l = -1 ∧ ∀ h ∈ l, p h = false) ∨ ∃ k, ∃ hk : k < l.length, idxG p l = k ∧ p l[k] = true ∧ ∀ h ∈ l.take k, p h = false := by
  cases hf : l.findIdx? p with
  | none => left; refine ⟨by simp [idxG, hf], ?_⟩; rw [List.findIdx?_eq_none_iff] at hf; exact hf
  | some k =>
    right
    rw [List.findIdx?_eq_some_iff_getElem] at hf
    obtain ⟨hk, h2, h3⟩ := hf
    refine ⟨k, hk, by simp [idxG, List.findIdx?_eq_some_iff_getElem.2 ⟨hk, h2, h3⟩], h2, fun h hm => ?_⟩
    rw [List.mem_take_iff_getElem] at hm
    obtain ⟨j, hj, rfl⟩ := hm
    have := h3 j (by omega)
    simpa using this

theorem idxG_any {α : Type} (p : α → Bool) (l : List α) : decide (idxG p l ≥ 0) = l.any p := by
  rcases idxG_cases p l with ⟨e, h⟩ | ⟨k, hk, e, h, -⟩
  · rw [e]; symm; simpa using h
  · rw [e]
    have : l.any p = true := List.any_eq_true.2 ⟨_, List.getElem_mem hk, h⟩
    rw [this]; simp

theorem idxA_q (a : Option Addr) (c : Nat) (z : List Ax) (b b2 : Nat) (nd : Int) (r : Rt) (hn : z.length ≤ 9223372036854775807) (hz : ∀ y ∈ z, y.x.wf) (m : M) (h : AxR m a z) (h1 : CellsAt m b 0 [I nd]) (h2 : CellsAt m b2 0 (encRt r)) :
    QSpec Try.prog 81 [.slice a z.length c, .func (.func 50) #[] #[.pointer (some ⟨b, 0, none⟩), .pointer (some ⟨b2, 0, none⟩)]] m (I (idxG (fun y => leaB nd r y.x) z)) := by
  refine QSpec.of_vc Try.func81 (ann := fun n _ => { A := Nat, inv := fun k => k ≤ z.length ∧ ∀ y ∈ z.take k, leaB nd r y.x = false, st := fun k => [(8, .val (I k)), (7, .val (I z.length)), (0, .val (.slice a z.length c)), (1, .val (.func (.func 50) #[] #[.pointer (some ⟨b, 0, none⟩), .pointer (some ⟨b2, 0, none⟩)]))], own := fun _ => [], m := fun _ => { m with sz := n }, μ := fun k => z.length - k }) fun n hn' => ?_
  refine vc_by (X :=
      true = true ∧
      (∃ (a_1 : Nat),
      (a_1 ≤ z.length ∧ ∀ (y : Ax), y ∈ List.take a_1 z → leaB nd r y.x = false) ∧
      { π := m.π, sz := n, uf := m.uf : M } = { π := m.π, sz := n, uf := m.uf : M } ∧
      ((SV.val (Value.int IntKind.i64 (0 : Int)) = SV.val (Value.int IntKind.i64 (↑a_1 : Int)) ∧ true = true) ∧
      (SV.val (Value.int IntKind.i64 (↑z.length : Int)) = SV.val (Value.int IntKind.i64 (↑z.length : Int)) ∧ true = true) ∧
      (SV.val (Value.slice a z.length c) = SV.val (Value.slice a z.length c) ∧ true = true) ∧
      (SV.val
      (Value.func (Fn.func (50 : FuncId)) #[]
      #[Value.pointer (some { block := b, off := (0 : Nat) : Addr }), Value.pointer (some { block := b2, off := (0 : Nat) : Addr })]) =
      SV.val
      (Value.func (Fn.func (50 : FuncId)) #[]
      #[Value.pointer (some { block := b, off := (0 : Nat) : Addr }), Value.pointer (some { block := b2, off := (0 : Nat) : Addr })]) ∧
      true = true) ∧
      True) ∧
      True) ∧
      ∀ (a_1 : Nat),
      (a_1 ≤ z.length ∧ ∀ (y : Ax), y ∈ List.take a_1 z → leaB nd r y.x = false) →
      ifB (decide ((↑a_1 : Int) < (↑z.length : Int)))
      (∃ (b_1 : Nat),
      ∃ (off : Nat),
      a = some { block := b_1, off := off : Addr } ∧
      ((0 : Int) ≤ (↑a_1 : Int) ∧ (↑a_1 : Int) < (↑z.length : Int)) ∧
      ∃ (s : ByteArray),
      ∃ (n_1 : Int),
      ∃ (n_2 : Int),
      ∃ (n_3 : Int),
      ∃ (n_4 : Int),
      ∃ (a_3 : Option Addr),
      ∃ (n_5 : Nat),
      ∃ (c_1 : Nat),
      ∃ (n_6 : Int),
      ∃ (n_7 : Int),
      ∃ (n_8 : Int),
      ∃ (n_9 : Int),
      CellsAt { π := m.π, sz := n, uf := m.uf : M } b_1 (off + (↑a_1 : Int).toNat * (10 : Nat))
      [Value.string s, Value.int IntKind.i64 n_1, Value.int IntKind.i64 n_2, Value.int IntKind.i64 n_3, Value.int IntKind.i64 n_4,
      Value.slice a_3 n_5 c_1, Value.int IntKind.i64 n_6, Value.int IntKind.i64 n_7, Value.int IntKind.i64 n_8,
      Value.int IntKind.i64 n_9] ∧
      ∃ (b_2 : Bool),
      QSpec Try.prog (50 : FuncId)
      [Value.agg
      #[Value.string s, Value.int IntKind.i64 n_1, Value.int IntKind.i64 n_2, Value.int IntKind.i64 n_3, Value.int IntKind.i64 n_4,
      Value.slice a_3 n_5 c_1, Value.int IntKind.i64 n_6, Value.int IntKind.i64 n_7, Value.int IntKind.i64 n_8,
      Value.int IntKind.i64 n_9],
      Value.pointer (some { block := b, off := (0 : Nat) : Addr }), Value.pointer (some { block := b2, off := (0 : Nat) : Addr })]
      { π := m.π, sz := n, uf := m.uf : M } (Value.bool b_2) ∧
      ifB b_2 (Done (Value.int IntKind.i64 (↑a_1 : Int) = Value.int IntKind.i64 (idxG (fun (y : Ax) => leaB nd r y.x) z)))
      (∃ (a' : Nat),
      ((a' ≤ z.length ∧ ∀ (y : Ax), y ∈ List.take a' z → leaB nd r y.x = false) ∧
      { π := m.π, sz := n, uf := m.uf : M } = { π := m.π, sz := n, uf := m.uf : M } ∧
      ((SV.val (Value.int IntKind.i64 (IntKind.i64.wrap ((↑a_1 : Int) + (1 : Int)))) =
      SV.val (Value.int IntKind.i64 (↑a' : Int)) ∧
      true = true) ∧
      (SV.val (Value.int IntKind.i64 (↑z.length : Int)) = SV.val (Value.int IntKind.i64 (↑z.length : Int)) ∧ true = true) ∧
      (SV.val (Value.slice a z.length c) = SV.val (Value.slice a z.length c) ∧ true = true) ∧
      (SV.val
      (Value.func (Fn.func (50 : FuncId)) #[]
      #[Value.pointer (some { block := b, off := (0 : Nat) : Addr }),
      Value.pointer (some { block := b2, off := (0 : Nat) : Addr })]) =
      SV.val
      (Value.func (Fn.func (50 : FuncId)) #[]
      #[Value.pointer (some { block := b, off := (0 : Nat) : Addr }),
      Value.pointer (some { block := b2, off := (0 : Nat) : Addr })]) ∧
      true = true) ∧
      True) ∧
      True) ∧
      z.length - a' < z.length - a_1))
      (Done (Value.int IntKind.i64 (-1 : Int) = Value.int IntKind.i64 (idxG (fun (y : Ax) => leaB nd r y.x) z)))) (by kernel_rfl) ?_
  have h' := h.sz hn'
  refine ⟨rfl, ⟨0, by simp⟩, fun k ⟨hk, hq⟩ => ifB_intro (fun hb => ?_) (fun hb => ⟨?_⟩)⟩
  · have hk2 : k < z.length := by simpa using hb
    obtain ⟨b9, o9, rfl, hc⟩ := h'.row.cells (by rw [axs_len]; omega)
    have w1 : IntKind.i64.wrap ((k : Int) + 1) = ((k + 1 : Nat) : Int) := by simp [IntKind.wrap_i64]; omega
    have m1 := List.getElem_mem hk2
    refine ⟨b9, o9, rfl, by omega, _, _, _, _, _, _, _, _, _, _, _, _, by simpa using ax_at hc hk2, _, trim11_q z[k] b nd b2 r (hz _ m1) _ (h'.hs _ m1) ⟨h1.out⟩ ⟨h2.out⟩, ifB_intro (fun h3 => ⟨?_⟩) (fun h3 => ⟨k + 1, ⟨⟨hk2, fun y hy => ?_⟩, by simp [w1]⟩, by omega⟩)⟩
    · rw [idxG_found hk2 hq h3]
    · rw [List.take_succ_eq_append_getElem hk2, List.mem_append] at hy
      rcases hy with hy | hy
      · exact hq y hy
      · have hy : y = z[k] := by simpa using hy
        subst hy; exact h3
  · have : k = z.length := by simp at hb; omega
    rw [this, List.take_length] at hq
    rw [idxG_none hq]

theorem contains_q (a : Option Addr) (c : Nat) (z : List Ax) (b b2 : Nat) (nd : Int) (r : Rt) (hn : z.length ≤ 9223372036854775807) (hz : ∀ y ∈ z, y.x.wf) (m : M) (h : AxR m a z) (h1 : CellsAt m b 0 [I nd]) (h2 : CellsAt m b2 0 (encRt r)) :
    QSpec Try.prog 49 [.slice a z.length c, .func (.func 50) #[] #[.pointer (some ⟨b, 0, none⟩), .pointer (some ⟨b2, 0, none⟩)]] m (.bool (z.any fun y => leaB nd r y.x)) := by
  refine QSpec.of_vc Try.func49 (ann := fun _ => noAnn) fun n hn' => ?_
  refine vc_by (X :=
      true = true ∧
      ∃ (n_1 : Int),
      QSpec Try.prog (81 : Nat)
      [Value.slice a z.length c,
      Value.func (Fn.func (50 : FuncId)) #[] #[Value.pointer (some { block := b, off := (0 : Nat) : Addr }), Value.pointer (some { block := b2, off := (0 : Nat) : Addr })]]
      { π := m.π, sz := n, uf := m.uf : M } (Value.int IntKind.i64 n_1) ∧
      Done (Value.bool (decide (n_1 ≥ (0 : Int))) = Value.bool (z.any fun (y : Ax) => leaB nd r y.x))) (by kernel_rfl) ?_
  refine ⟨rfl, _, idxA_q a c z b b2 nd r hn hz _ (h.sz hn') ⟨h1.out⟩ ⟨h2.out⟩, ⟨?_⟩⟩
  rw [idxG_any]

/-- what the closure looks at -/
structure EnvT (b1 b2 b3 : Nat) (g nd : Int) (a : Option Addr) (c : Nat) (z : List Ax) (m : M) : Prop where
  c1 : CellsAt m b1 0 [I g]
  c2 : CellsAt m b2 0 [.slice a z.length c]
  c3 : CellsAt m b3 0 [I nd]
  ax : AxR m a z

theorem EnvT.sz {b1 b2 b3 : Nat} {g nd : Int} {a : Option Addr} {c : Nat} {z : List Ax} {m : M} (E : EnvT b1 b2 b3 g nd a c z m) {n : Nat} (hn : m.sz ≤ n) : EnvT b1 b2 b3 g nd a c z { m with sz := n } := ⟨⟨E.c1.out⟩, ⟨E.c2.out⟩, ⟨E.c3.out⟩, E.ax.sz hn⟩

def goneB (g nd : Int) (z : List Ax) (r : Rt) : Bool := decide (r.g = g) && !z.any fun y => leaB nd r y.x

theorem trim1_q (r : Rt) (b1 b2 b3 : Nat) (g nd : Int) (a : Option Addr) (c : Nat) (z : List Ax) (hn : z.length ≤ 9223372036854775807) (hz : ∀ y ∈ z, y.x.wf) (m : M) (E : EnvT b1 b2 b3 g nd a c z m) :
    QSpec Try.prog 48 [rtv r, .pointer (some ⟨b1, 0, none⟩), .pointer (some ⟨b2, 0, none⟩), .pointer (some ⟨b3, 0, none⟩)] m (.bool (goneB g nd z r)) := by
  refine QSpec.of_vc Try.func48 (ann := fun _ => noAnn) fun n hn' => ?_
  refine vc_by (X :=
      true = true ∧
      ∃ (n_1 : Int),
      CellsAt { π := m.π, sz := n, uf := m.uf : M } b1 (0 : Nat) [Value.int IntKind.i64 n_1] ∧
      ifB (r.g == n_1)
      (∃ (a : Option Addr),
      ∃ (n_2 : Nat),
      ∃ (c : Nat),
      CellsAt { π := m.π, sz := n, uf := m.uf : M } b2 (0 : Nat) [Value.slice a n_2 c] ∧
      ∀ (b : Nat),
      Fresh n { π := m.π, sz := n, uf := m.uf : M } b →
      ∃ (b_1 : Bool),
      QSpec Try.prog (49 : Nat)
      [Value.slice a n_2 c,
      Value.func (Fn.func (50 : Nat)) #[]
      #[Value.pointer (some { block := b3, off := (0 : Nat) : Addr }), Value.pointer (some { block := b, off := (0 : Nat) : Addr })]]
      ({ π := m.π, sz := n, uf := m.uf : M }.newBlock b [Value.int IntKind.i64 r.g, Value.string r.ky, Value.int IntKind.i64 r.le, Value.int IntKind.i64 r.ne])
      (Value.bool b_1) ∧
      Done ((Value.bool !b_1) = Value.bool (goneB g nd z r)))
      (Done (Value.bool false = Value.bool (goneB g nd z r)))) (by kernel_rfl) ?_
  refine ⟨rfl, g, ⟨E.c1.out⟩, ifB_intro (fun h1 => ⟨a, _, c, ⟨E.c2.out⟩, fun b hb => ?_⟩) (fun h1 => ⟨?_⟩)⟩
  · have n3 : b3 ≠ b := fun e => by
      subst e
      have h1 := hb.cells 0
      have h2 := E.c3.out 0 (by simp)
      rw [show (0 : Nat) + 0 = 0 from rfl] at h2
      simp only at h1
      rw [h1] at h2; simp at h2
    have fr : ∀ a cs, Row m a cs → Row (({ m with sz := n } : M).newBlock b (encRt r)) a cs := fun a cs h => (h.sz hn').fresh hb fun hc b' o e => Nat.lt_of_lt_of_le (h.lt hc e) hn'
    have E2 : AxR (({ m with sz := n } : M).newBlock b (encRt r)) a z := E.ax.of fr
    refine ⟨_, contains_q a c z b3 b nd r hn hz _ E2 (CellsAt.of (m := m) E.c3 (newBlock_other (m := { m with sz := n }) n3)) cellsAt_new, ⟨?_⟩⟩
    simp at h1
    simp [goneB, h1]
  · simp at h1; simp [goneB, h1]

theorem idxR_q (a : Option Addr) (cp : Nat) (l : List Rt) (b1 b2 b3 : Nat) (g nd : Int) (aa : Option Addr) (c : Nat) (z : List Ax) (hl : l.length ≤ 9223372036854775807) (hn : z.length ≤ 9223372036854775807) (hz : ∀ y ∈ z, y.x.wf) (m : M) (h : Row m a (rts l)) (E : EnvT b1 b2 b3 g nd aa c z m) :
    QSpec Try.prog 82 [.slice a l.length cp, .func (.func 48) #[] #[.pointer (some ⟨b1, 0, none⟩), .pointer (some ⟨b2, 0, none⟩), .pointer (some ⟨b3, 0, none⟩)]] m (I (idxG (goneB g nd z) l)) := by
  refine QSpec.of_vc Try.func82 (ann := fun n _ => { A := Nat, inv := fun k => k ≤ l.length ∧ ∀ y ∈ l.take k, goneB g nd z y = false, st := fun k => [(8, .val (I k)), (7, .val (I l.length)), (0, .val (.slice a l.length cp)), (1, .val (.func (.func 48) #[] #[.pointer (some ⟨b1, 0, none⟩), .pointer (some ⟨b2, 0, none⟩), .pointer (some ⟨b3, 0, none⟩)]))], own := fun _ => [], m := fun _ => { m with sz := n }, μ := fun k => l.length - k }) fun n hn' => ?_
  refine vc_by (X :=
      true = true ∧
      (∃ (a_1 : Nat),
      (a_1 ≤ l.length ∧ ∀ (y : Rt), y ∈ List.take a_1 l → goneB g nd z y = false) ∧
      { π := m.π, sz := n, uf := m.uf : M } = { π := m.π, sz := n, uf := m.uf : M } ∧
      ((SV.val (Value.int IntKind.i64 (0 : Int)) = SV.val (Value.int IntKind.i64 (↑a_1 : Int)) ∧ true = true) ∧
      (SV.val (Value.int IntKind.i64 (↑l.length : Int)) = SV.val (Value.int IntKind.i64 (↑l.length : Int)) ∧ true = true) ∧
      (SV.val (Value.slice a l.length cp) = SV.val (Value.slice a l.length cp) ∧ true = true) ∧
      (SV.val
      (Value.func (Fn.func (48 : FuncId)) #[]
      #[Value.pointer (some { block := b1, off := (0 : Nat) : Addr }), Value.pointer (some { block := b2, off := (0 : Nat) : Addr }),
      Value.pointer (some { block := b3, off := (0 : Nat) : Addr })]) =
      SV.val
      (Value.func (Fn.func (48 : FuncId)) #[]
      #[Value.pointer (some { block := b1, off := (0 : Nat) : Addr }), Value.pointer (some { block := b2, off := (0 : Nat) : Addr }),
      Value.pointer (some { block := b3, off := (0 : Nat) : Addr })]) ∧
      true = true) ∧
      True) ∧
      True) ∧
      ∀ (a_1 : Nat),
      (a_1 ≤ l.length ∧ ∀ (y : Rt), y ∈ List.take a_1 l → goneB g nd z y = false) →
      ifB (decide ((↑a_1 : Int) < (↑l.length : Int)))
      (∃ (b : Nat),
      ∃ (off : Nat),
      a = some { block := b, off := off : Addr } ∧
      ((0 : Int) ≤ (↑a_1 : Int) ∧ (↑a_1 : Int) < (↑l.length : Int)) ∧
      ∃ (n_1 : Int),
      ∃ (s : ByteArray),
      ∃ (n_2 : Int),
      ∃ (n_3 : Int),
      CellsAt { π := m.π, sz := n, uf := m.uf : M } b (off + (↑a_1 : Int).toNat * (4 : Nat))
      [Value.int IntKind.i64 n_1, Value.string s, Value.int IntKind.i64 n_2, Value.int IntKind.i64 n_3] ∧
      ∃ (b : Bool),
      QSpec Try.prog (48 : FuncId)
      [Value.agg #[Value.int IntKind.i64 n_1, Value.string s, Value.int IntKind.i64 n_2, Value.int IntKind.i64 n_3],
      Value.pointer (some { block := b1, off := (0 : Nat) : Addr }), Value.pointer (some { block := b2, off := (0 : Nat) : Addr }),
      Value.pointer (some { block := b3, off := (0 : Nat) : Addr })]
      { π := m.π, sz := n, uf := m.uf : M } (Value.bool b) ∧
      ifB b (Done (Value.int IntKind.i64 (↑a_1 : Int) = Value.int IntKind.i64 (idxG (goneB g nd z) l)))
      (∃ (a' : Nat),
      ((a' ≤ l.length ∧ ∀ (y : Rt), y ∈ List.take a' l → goneB g nd z y = false) ∧
      { π := m.π, sz := n, uf := m.uf : M } = { π := m.π, sz := n, uf := m.uf : M } ∧
      ((SV.val (Value.int IntKind.i64 (IntKind.i64.wrap ((↑a_1 : Int) + (1 : Int)))) = SV.val (Value.int IntKind.i64 (↑a' : Int)) ∧
      true = true) ∧
      (SV.val (Value.int IntKind.i64 (↑l.length : Int)) = SV.val (Value.int IntKind.i64 (↑l.length : Int)) ∧ true = true) ∧
      (SV.val (Value.slice a l.length cp) = SV.val (Value.slice a l.length cp) ∧ true = true) ∧
      (SV.val
      (Value.func (Fn.func (48 : FuncId)) #[]
      #[Value.pointer (some { block := b1, off := (0 : Nat) : Addr }),
      Value.pointer (some { block := b2, off := (0 : Nat) : Addr }),
      Value.pointer (some { block := b3, off := (0 : Nat) : Addr })]) =
      SV.val
      (Value.func (Fn.func (48 : FuncId)) #[]
      #[Value.pointer (some { block := b1, off := (0 : Nat) : Addr }),
      Value.pointer (some { block := b2, off := (0 : Nat) : Addr }),
      Value.pointer (some { block := b3, off := (0 : Nat) : Addr })]) ∧
      true = true) ∧
      True) ∧
      True) ∧
      l.length - a' < l.length - a_1))
      (Done (Value.int IntKind.i64 (-1 : Int) = Value.int IntKind.i64 (idxG (goneB g nd z) l)))) (by kernel_rfl) ?_
  have h' := h.sz hn'
  refine ⟨rfl, ⟨0, by simp⟩, fun k ⟨hk, hq⟩ => ifB_intro (fun hb => ?_) (fun hb => ⟨?_⟩)⟩
  · have hk2 : k < l.length := by simpa using hb
    obtain ⟨b9, o9, rfl, hc⟩ := h'.cells (by rw [rt_len]; omega)
    have w1 : IntKind.i64.wrap ((k : Int) + 1) = ((k + 1 : Nat) : Int) := by simp [IntKind.wrap_i64]; omega
    have m1 := List.getElem_mem hk2
    refine ⟨b9, o9, rfl, by omega, _, _, _, _, by simpa using rt_at hc hk2, _, trim1_q l[k] b1 b2 b3 g nd aa c z hn hz _ (E.sz hn'), ifB_intro (fun h3 => ⟨?_⟩) (fun h3 => ⟨k + 1, ⟨⟨hk2, fun y hy => ?_⟩, by simp [w1]⟩, by omega⟩)⟩
    · rw [idxG_found hk2 hq h3]
    · rw [List.take_succ_eq_append_getElem hk2, List.mem_append] at hy
      rcases hy with hy | hy
      · exact hq y hy
      · have hy : y = l[k] := by simpa using hy
        subst hy; exact h3
  · have : k = l.length := by simp at hb; omega
    rw [this, List.take_length] at hq
    rw [idxG_none hq]

/-- block b is none of those that the closure looks at -/
def AwayT (b b1 b2 b3 : Nat) (a : Option Addr) (z : List Ax) : Prop := b ≠ b1 ∧ b ≠ b2 ∧ b ≠ b3 ∧ (∀ o, z ≠ [] → a ≠ some ⟨b, o, none⟩) ∧ ∀ y ∈ z, ∀ o, y.x.hs ≠ [] → y.a ≠ some ⟨b, o, none⟩

theorem EnvT.set {b1 b2 b3 b o : Nat} {g nd : Int} {a : Option Addr} {c : Nat} {z : List Ax} {m : M} {cs : List Value} (E : EnvT b1 b2 b3 g nd a c z m) (h : AwayT b b1 b2 b3 a z) : EnvT b1 b2 b3 g nd a c z (m.setCells b o cs) := by
  obtain ⟨n1, n2, n3, n4, n5⟩ := h
  refine ⟨E.c1.of (setCells_other (Ne.symm n1)), E.c2.of (setCells_other (Ne.symm n2)), E.c3.of (setCells_other (Ne.symm n3)), ⟨?_, fun y hy => ?_⟩⟩
  · by_cases hz : z = []
    · subst hz; exact .nil _
    · exact E.ax.row.of (Nat.le_refl _) fun b' o' e _ => setCells_other (fun e2 => by subst e2; exact n4 _ hz e)
  · by_cases hh : y.x.hs = []
    · rw [hh]; exact .nil _
    · exact (E.ax.hs y hy).of (Nat.le_refl _) fun b' o' e _ => setCells_other (fun e2 => by subst e2; exact n5 y hy _ hh e)

abbrev gonF (b1 b2 b3 : Nat) : Value := .func (.func 48) #[] #[.pointer (some ⟨b1, 0, none⟩), .pointer (some ⟨b2, 0, none⟩), .pointer (some ⟨b3, 0, none⟩)]

structure DrX where
  i : Nat
  j : Nat
  cur : List Rt
  m : M

structure DrI (l : List Rt) (p : Rt → Bool) (a : Option Addr) (c : Nat) (S : Nat → Prop) (env : M → Prop) (m : M) (y : DrX) : Prop where
  ij : y.i < y.j
  jl : y.j ≤ l.length
  len : y.cur.length = l.length
  done : y.cur.take y.i = (l.take y.j).filter p
  left : y.cur.drop y.j = l.drop y.j
  own : OwnB m.sz S y.m 4 a l.length c (rts y.cur)
  env : env y.m
  sz : m.sz ≤ y.m.sz

theorem delfR_s (a : Option Addr) (c : Nat) (l : List Rt) (b1 b2 b3 : Nat) (g nd : Int) (aa : Option Addr) (ca : Nat) (z : List Ax) (S : Nat → Prop) (hl : l.length ≤ 3518437208870) (hn : z.length ≤ 9223372036854775807) (hz : ∀ y ∈ z, y.x.wf) (m : M) (hS : ∀ b o, a = some ⟨b, o, none⟩ → S b ∧ AwayT b b1 b2 b3 aa z) (h : OwnB m.sz S m 4 a l.length c (rts l)) (E : EnvT b1 b2 b3 g nd aa ca z m) :
    SpecW Try.prog 51 [.slice a l.length c, gonF b1 b2 b3] m S fun v m' => v = .slice a (l.filter fun r => !goneB g nd z r).length c ∧ OwnB m.sz S m' 4 a (l.filter fun r => !goneB g nd z r).length c (rts (l.filter fun r => !goneB g nd z r)) := by
  refine SpecW.of_vc Try.func51 (ann := fun _ => { A := DrX, inv := DrI l (fun r => !goneB g nd z r) a c S (EnvT b1 b2 b3 g nd aa ca z) m, st := fun y => [(5, .val (I y.i)), (6, .val (I y.j)), (0, .val (.slice a l.length c)), (1, .val (gonF b1 b2 b3))], own := fun _ => [], m := fun y => y.m, μ := fun y => l.length - y.j }) ?_
  refine vc_by (X :=
      true = true ∧
      ∃ (n : Int),
      QSpec Try.prog (82 : Nat)
      [Value.slice a l.length c,
      Value.func (Fn.func (48 : FuncId)) #[]
      #[Value.pointer (some { block := b1, off := (0 : Nat) : Addr }), Value.pointer (some { block := b2, off := (0 : Nat) : Addr }),
      Value.pointer (some { block := b3, off := (0 : Nat) : Addr })]]
      m (Value.int IntKind.i64 n) ∧
      ifB (n == (-1 : Int))
      (Done
      (Value.slice a l.length c = Value.slice a (List.filter (fun (r : Rt) => !goneB g nd z r) l).length c ∧
      OwnB m.sz S m (4 : Nat) a (List.filter (fun (r : Rt) => !goneB g nd z r) l).length c (rts (List.filter (fun (r : Rt) => !goneB g nd z r) l))))
      ((∃ (a_1 : DrX),
      DrI l (fun (r : Rt) => !goneB g nd z r) a c S (EnvT b1 b2 b3 g nd aa ca z) m a_1 ∧
      m = a_1.m ∧
      ((SV.val (Value.int IntKind.i64 n) = SV.val (Value.int IntKind.i64 (↑a_1.i : Int)) ∧ true = true) ∧
      (SV.val (Value.int IntKind.i64 (IntKind.i64.wrap (n + (1 : Int)))) = SV.val (Value.int IntKind.i64 (↑a_1.j : Int)) ∧ true = true) ∧
      (SV.val (Value.slice a l.length c) = SV.val (Value.slice a l.length c) ∧ true = true) ∧
      (SV.val
      (Value.func (Fn.func (48 : FuncId)) #[]
      #[Value.pointer (some { block := b1, off := (0 : Nat) : Addr }), Value.pointer (some { block := b2, off := (0 : Nat) : Addr }),
      Value.pointer (some { block := b3, off := (0 : Nat) : Addr })]) =
      SV.val
      (Value.func (Fn.func (48 : FuncId)) #[]
      #[Value.pointer (some { block := b1, off := (0 : Nat) : Addr }), Value.pointer (some { block := b2, off := (0 : Nat) : Addr }),
      Value.pointer (some { block := b3, off := (0 : Nat) : Addr })]) ∧
      true = true) ∧
      True) ∧
      True) ∧
      ∀ (a_1 : DrX),
      DrI l (fun (r : Rt) => !goneB g nd z r) a c S (EnvT b1 b2 b3 g nd aa ca z) m a_1 →
      ifB (decide ((↑a_1.j : Int) < (↑l.length : Int)))
      (∃ (b : Nat),
      ∃ (off : Nat),
      a = some { block := b, off := off : Addr } ∧
      ((0 : Int) ≤ (↑a_1.j : Int) ∧ (↑a_1.j : Int) < (↑l.length : Int)) ∧
      ∃ (n : Int),
      ∃ (s : ByteArray),
      ∃ (n_1 : Int),
      ∃ (n_2 : Int),
      CellsAt a_1.m b (off + (↑a_1.j : Int).toNat * (4 : Nat))
      [Value.int IntKind.i64 n, Value.string s, Value.int IntKind.i64 n_1, Value.int IntKind.i64 n_2] ∧
      ∃ (b : Bool),
      QSpec Try.prog (48 : FuncId)
      [Value.agg #[Value.int IntKind.i64 n, Value.string s, Value.int IntKind.i64 n_1, Value.int IntKind.i64 n_2],
      Value.pointer (some { block := b1, off := (0 : Nat) : Addr }), Value.pointer (some { block := b2, off := (0 : Nat) : Addr }),
      Value.pointer (some { block := b3, off := (0 : Nat) : Addr })]
      a_1.m (Value.bool b) ∧
      ifB (!b)
      (∃ (b : Nat),
      ∃ (off : Nat),
      a = some { block := b, off := off : Addr } ∧
      ((0 : Int) ≤ (↑a_1.i : Int) ∧ (↑a_1.i : Int) < (↑l.length : Int)) ∧
      Wr m.sz S a_1.m b (off + (↑a_1.i : Int).toNat * (4 : Nat))
      #[Value.int IntKind.i64 n, Value.string s, Value.int IntKind.i64 n_1, Value.int IntKind.i64 n_2].size ∧
      ∃ (a' : DrX),
      (DrI l (fun (r : Rt) => !goneB g nd z r) a c S (EnvT b1 b2 b3 g nd aa ca z) m a' ∧
      a_1.m.setCells b (off + (↑a_1.i : Int).toNat * (4 : Nat))
      [Value.int IntKind.i64 n, Value.string s, Value.int IntKind.i64 n_1, Value.int IntKind.i64 n_2] =
      a'.m ∧
      ((SV.val (Value.int IntKind.i64 (IntKind.i64.wrap ((↑a_1.i : Int) + (1 : Int)))) =
      SV.val (Value.int IntKind.i64 (↑a'.i : Int)) ∧
      true = true) ∧
      (SV.val (Value.int IntKind.i64 (IntKind.i64.wrap ((↑a_1.j : Int) + (1 : Int)))) =
      SV.val (Value.int IntKind.i64 (↑a'.j : Int)) ∧
      true = true) ∧
      (SV.val (Value.slice a l.length c) = SV.val (Value.slice a l.length c) ∧ true = true) ∧
      (SV.val
      (Value.func (Fn.func (48 : FuncId)) #[]
      #[Value.pointer (some { block := b1, off := (0 : Nat) : Addr }),
      Value.pointer (some { block := b2, off := (0 : Nat) : Addr }),
      Value.pointer (some { block := b3, off := (0 : Nat) : Addr })]) =
      SV.val
      (Value.func (Fn.func (48 : FuncId)) #[]
      #[Value.pointer (some { block := b1, off := (0 : Nat) : Addr }),
      Value.pointer (some { block := b2, off := (0 : Nat) : Addr }),
      Value.pointer (some { block := b3, off := (0 : Nat) : Addr })]) ∧
      true = true) ∧
      True) ∧
      True) ∧
      l.length - a'.j < l.length - a_1.j)
      (∃ (a' : DrX),
      (DrI l (fun (r : Rt) => !goneB g nd z r) a c S (EnvT b1 b2 b3 g nd aa ca z) m a' ∧
      a_1.m = a'.m ∧
      ((SV.val (Value.int IntKind.i64 (↑a_1.i : Int)) = SV.val (Value.int IntKind.i64 (↑a'.i : Int)) ∧ true = true) ∧
      (SV.val (Value.int IntKind.i64 (IntKind.i64.wrap ((↑a_1.j : Int) + (1 : Int)))) = SV.val (Value.int IntKind.i64 (↑a'.j : Int)) ∧
      true = true) ∧
      (SV.val (Value.slice a l.length c) = SV.val (Value.slice a l.length c) ∧ true = true) ∧
      (SV.val
      (Value.func (Fn.func (48 : FuncId)) #[]
      #[Value.pointer (some { block := b1, off := (0 : Nat) : Addr }),
      Value.pointer (some { block := b2, off := (0 : Nat) : Addr }),
      Value.pointer (some { block := b3, off := (0 : Nat) : Addr })]) =
      SV.val
      (Value.func (Fn.func (48 : FuncId)) #[]
      #[Value.pointer (some { block := b1, off := (0 : Nat) : Addr }),
      Value.pointer (some { block := b2, off := (0 : Nat) : Addr }),
      Value.pointer (some { block := b3, off := (0 : Nat) : Addr })]) ∧
      true = true) ∧
      True) ∧
      True) ∧
      l.length - a'.j < l.length - a_1.j))
      ((true = true ∧ (0 : Int) ≤ (↑a_1.i : Int) ∧ (↑a_1.i : Int) ≤ (↑l.length : Int) ∧ True ∧ True) ∧
      true = true ∧
      ((↑l.length : Int).toNat - (↑a_1.i : Int).toNat ≠ (0 : Nat) →
      ∃ (b : Nat),
      ∃ (o : Nat),
      (if (↑c : Int).toNat = (↑a_1.i : Int).toNat then a
      else Option.map (fun (x : Addr) => x.add ((↑a_1.i : Int).toNat * Try.prog.types[(24 : Nat)].size)) a) =
      some { block := b, off := o : Addr } ∧
      Wr m.sz S a_1.m b o (((↑l.length : Int).toNat - (↑a_1.i : Int).toNat) * (4 : Nat))) ∧
      ∀ (m' : M),
      CopyPost a_1.m
      (if (↑c : Int).toNat = (↑a_1.i : Int).toNat then a else Option.map (fun (x : Addr) => x.add ((↑a_1.i : Int).toNat * Try.prog.types[(24 : Nat)].size)) a)
      (zeroRow Try.prog (24 : Nat) ((↑l.length : Int).toNat - (↑a_1.i : Int).toNat)) m' →
      (true = true ∧ (0 : Int) ≤ (0 : Int) ∧ (0 : Int) ≤ (↑a_1.i : Int) ∧ (↑a_1.i : Int) ≤ (↑c : Int) ∧ True) ∧
      Done
      (Value.slice (if (↑c : Int).toNat = (0 : Nat) then a else Option.map (fun (x : Addr) => x) a) ((↑a_1.i : Int).toNat - (0 : Nat))
      ((↑c : Int).toNat - (0 : Nat)) =
      Value.slice a (List.filter (fun (r : Rt) => !goneB g nd z r) l).length c ∧
      OwnB m.sz S m' (4 : Nat) a (List.filter (fun (r : Rt) => !goneB g nd z r) l).length c (rts (List.filter (fun (r : Rt) => !goneB g nd z r) l)))))) (by kernel_rfl) ?_
  have zl : ∀ k, (zeroRow Try.prog 24 k).length = k * 4 := rt_zr
  refine ⟨rfl, _, idxR_q a c l b1 b2 b3 g nd aa ca z (by omega) hn hz m h.row E, ?_⟩
  generalize hp0 : goneB g nd z = p0
  have hpq : ∀ r m', EnvT b1 b2 b3 g nd aa ca z m' → QSpec Try.prog 48 [rtv r, .pointer (some ⟨b1, 0, none⟩), .pointer (some ⟨b2, 0, none⟩), .pointer (some ⟨b3, 0, none⟩)] m' (.bool (p0 r)) := fun r m' E' => by rw [← hp0]; exact trim1_q r b1 b2 b3 g nd aa ca z hn hz m' E'
  rcases idxG_cases p0 l with ⟨e, hall⟩ | ⟨k, hk, e, hp, hq⟩
  · rw [e]
    have ef : (l.filter fun r => !p0 r) = l := List.filter_eq_self.2 fun h hm => by have := hall h hm; simpa using this
    rw [ef]
    exact ifB_true ⟨rfl, h⟩
  rw [e]
  have hkn : ((k : Int) == -1) = false := by simp
  have w1 : IntKind.i64.wrap ((k : Int) + 1) = ((k + 1 : Nat) : Int) := by simp [IntKind.wrap_i64]; omega
  rw [hkn, w1]
  have ft : (l.take (k + 1)).filter (fun r => !p0 r) = l.take k := by
    rw [List.take_succ_eq_append_getElem hk, List.filter_append]
    have e1 : (l.take k).filter (fun r => !p0 r) = l.take k := List.filter_eq_self.2 fun h hm => by have := hq h hm; simpa using this
    rw [e1]; simp [hp]
  refine ifB_false ⟨⟨⟨k, k + 1, l, m⟩, ⟨by simp, by simp only; omega, rfl, ft.symm, rfl, h, E, Nat.le_refl _⟩, by simp⟩, fun y hy => ?_⟩
  have hij := hy.ij
  have hjl := hy.jl
  have hlen := hy.len
  have ho := hy.own
  have hne : y.cur.length ≠ 0 := by omega
  obtain ⟨b, o, rfl, hcell⟩ := ho.row.cells (by rw [rt_len]; omega)
  obtain ⟨hSb, hbn⟩ := hS b o rfl
  refine ifB_intro (fun hb => ?_) (fun hb => ?_)
  · have hj2 : y.j < l.length := by simpa using hb
    have ecur : y.cur[y.j]'(by omega) = l[y.j] := by
      have h1 : (y.cur.drop y.j)[0]'(by simp; omega) = (l.drop y.j)[0]'(by simp; omega) := by simp only [hy.left]
      simpa using h1
    have wi : IntKind.i64.wrap ((y.i : Int) + 1) = ((y.i + 1 : Nat) : Int) := by simp [IntKind.wrap_i64]; omega
    have wj : IntKind.i64.wrap ((y.j : Int) + 1) = ((y.j + 1 : Nat) : Int) := by simp [IntKind.wrap_i64]; omega
    have hcj := rt_at hcell (by omega : y.j < y.cur.length)
    rw [ecur] at hcj
    have ts : l.take (y.j + 1) = l.take y.j ++ [l[y.j]] := List.take_succ_eq_append_getElem hj2
    have ld : y.cur.drop (y.j + 1) = l.drop (y.j + 1) := by
      have := congrArg (List.drop 1) hy.left
      simpa [List.drop_drop, Nat.add_comm] using this
    refine ⟨b, o, rfl, by omega, _, _, _, _, by simpa using hcj, _, hpq l[y.j] _ hy.env, ifB_intro (fun h1 => ?_) (fun h1 => ?_)⟩
    · have h1 : p0 l[y.j] = false := by simpa using h1
      obtain ⟨g1, g2⟩ := OwnB.setAt (enc := encRt) (fun _ => rfl) ho (by omega : y.i < y.cur.length) l[y.j]
      refine ⟨b, o, rfl, by omega, by simpa using g1, ⟨y.i + 1, y.j + 1, y.cur.set y.i l[y.j], y.m.setCells b (o + y.i * 4) (encRt l[y.j])⟩, ⟨⟨by simp only; omega, hj2, by simp [hlen], ?_, ?_, g2, hy.env.set hbn, hy.sz⟩, by simp [wi, wj]⟩, by simp only; omega⟩
      · simp only [ts, List.filter_append]
        rw [List.take_succ_eq_append_getElem (by simp; omega), List.take_set_of_le (Nat.le_refl _), hy.done]
        simp [h1]
      · simp only
        rw [List.drop_set_of_lt (by omega), ld]
    · have h1 : p0 l[y.j] = true := by simpa using h1
      refine ⟨⟨y.i, y.j + 1, y.cur, y.m⟩, ⟨⟨by simp only; omega, hj2, hlen, ?_, ld, ho, hy.env, hy.sz⟩, by simp [wj]⟩, by simp only; omega⟩
      simp only [ts, List.filter_append]
      rw [hy.done]
      simp [h1]
  · have hjl2 : y.j = l.length := by simp at hb; omega
    have hd := hy.done
    rw [hjl2, List.take_length] at hd
    have hfl : (l.filter fun r => !p0 r).length = y.i := by rw [← hd, List.length_take]; omega
    have hlc : l.length ≤ c := by cases ho with | «at» b o len cap cs rest lo lt uf h h1 h2 hc => exact hc
    have hci : ¬ c = y.i := by omega
    have ec : rts y.cur = rts (y.cur.take y.i) ++ rts (y.cur.drop y.i) := flat_cut _ _
    rw [ec] at ho
    obtain ⟨g1, g2⟩ := ho.overTail (i := y.i) (new := zeroRow Try.prog 24 (l.length - y.i)) (by rw [rt_len, List.length_take]; congr 1; omega) (by omega) (by rw [zl, rt_len, List.length_drop, hlen])
    rw [zl] at g1
    have es : Try.prog.types[24].size = 4 := by kernel_rfl
    have ea : (if (c : Int).toNat = (y.i : Int).toNat then some (⟨b, o, none⟩ : Addr) else Option.map (fun x : Addr => x.add ((y.i : Int).toNat * Try.prog.types[24].size)) (some (⟨b, o, none⟩ : Addr))) = some ⟨b, o + y.i * 4, none⟩ := by
      rw [if_neg (by simpa using hci)]
      show some (Addr.add _ (y.i * Try.prog.types[24].size)) = _
      rw [es, add_none]
    refine ⟨⟨rfl, by omega, by omega, trivial, trivial⟩, rfl, fun _ => ⟨b, o + y.i * 4, ea, by simpa using g1⟩, fun m' hp => ⟨⟨rfl, by omega, by omega, by omega, trivial⟩, ⟨?_, ?_⟩⟩⟩
    · rw [hfl]; simp
    · have hp' : m' = y.m.setCells b (o + y.i * 4) (zeroRow Try.prog 24 (l.length - y.i)) := by
        rcases hp with ⟨hz, -⟩ | ⟨b', o', he, rfl⟩
        · exfalso
          have := congrArg List.length hz
          rw [zl] at this
          simp at this; omega
        · rw [ea] at he
          cases he
          simp
      rw [hfl, ← hd, hp']
      exact g2

end Go.Proofs.Ytfkielfnceeedaa
set_option linter.unusedVariables false
set_option linter.unusedSimpArgs false
namespace Go.Proofs.Ytfkielfnceeedaa
open Go.Vc Go.RowKit
set_option maxRecDepth 100000

theorem delfR0_s (a : Option Addr) (c : Nat) (b1 b2 b3 : Nat) (g nd : Int) (aa : Option Addr) (ca : Nat) (z : List Ax) (hn : z.length ≤ 9223372036854775807) (hz : ∀ y ∈ z, y.x.wf) (m : M) (E : EnvT b1 b2 b3 g nd aa ca z m) :
    SpecW Try.prog 51 [.slice a 0 c, gonF b1 b2 b3] m (fun _ => False) fun v _ => v = .slice a 0 c := by
  refine SpecW.of_vc Try.func51 (ann := fun _ => { A := Empty, inv := fun _ => True, st := fun y => [], own := fun _ => [], m := fun y => y.elim, μ := fun y => 0 }) ?_
  refine vc_by (X :=
      true = true ∧
      ∃ (n : Int),
      QSpec Try.prog (82 : Nat)
      [Value.slice a (0 : Nat) c,
      Value.func (Fn.func (48 : FuncId)) #[]
      #[Value.pointer (some { block := b1, off := (0 : Nat) : Addr }), Value.pointer (some { block := b2, off := (0 : Nat) : Addr }),
      Value.pointer (some { block := b3, off := (0 : Nat) : Addr })]]
      m (Value.int IntKind.i64 n) ∧
      ifB (n == (-1 : Int)) (Done (Value.slice a (0 : Nat) c = Value.slice a (0 : Nat) c)) ((∃ (a : Empty), True ∧ m = a.elim ∧ True ∧ True) ∧ ∀ (a : Empty), True → False)) (by kernel_rfl) ?_
  have := idxR_q a c [] b1 b2 b3 g nd aa ca z (by simp) hn hz m (.nil _) E
  exact ⟨rfl, _, this, ifB_true ⟨rfl⟩⟩

/-- are all of them right? -/
def axsB (z : List Ax) : Bool := z.all fun y => rightB y.x

def trimE (l : List Rt) (g : Int) (z : List Ax) (nd : Int) : List Rt × Int := if ledB none l = false then ([], 21) else if axsB z = false then ([], 21) else (l.filter fun r => !goneB g nd z r, 0)

theorem ltrim_s (a : Option Addr) (cp : Nat) (l : List Rt) (g nd : Int) (aa : Option Addr) (ca : Nat) (z : List Ax) (hl : l.length ≤ 3518437208870) (hn : z.length ≤ 9223372036854775807) (hz : ∀ y ∈ z, y.x.wf) (m : M) (h : Row m a (rts l)) (hz2 : AxR m aa z) :
    Vc.Spec Try.prog 20 [.slice a l.length cp, I g, .slice aa z.length ca, I nd] m (LpR (trimE l g z nd)) := by
  refine Vc.Spec.of_vc Try.func20 (ann := fun _ => { A := Nat, inv := fun k => k ≤ z.length ∧ axsB (z.take k) = true, st := fun k => [(18, .val (I k)), (17, .val (I z.length)), (16, .val (.slice aa z.length ca)), (5, .own 0 0), (6, .own 1 0), (7, .own 2 0), (0, .val (.slice a l.length cp))], own := fun _ => [(0, ⟨3, [I g]⟩), (1, ⟨35, [.slice aa z.length ca]⟩), (2, ⟨3, [I nd]⟩)], m := fun _ => m, μ := fun k => z.length - k }) ?_
  refine vc_by (X :=
      true = true ∧
      ∃ (n : Int),
      QSpec Try.prog (14 : Nat) [Value.slice a l.length cp] m (Value.int IntKind.i64 n) ∧
      ifB (n != (0 : Int)) (Done (LpR (trimE l g z nd) (Value.tuple #[Value.slice none (0 : Nat) (0 : Nat), Value.int IntKind.i64 (21 : Int)]) m))
      ((∃ (a_1 : Nat),
      (a_1 ≤ z.length ∧ axsB (List.take a_1 z) = true) ∧
      m = m ∧
      ((SV.val (Value.int IntKind.i64 (0 : Int)) = SV.val (Value.int IntKind.i64 (↑a_1 : Int)) ∧ true = true) ∧
      (SV.val (Value.int IntKind.i64 (↑z.length : Int)) = SV.val (Value.int IntKind.i64 (↑z.length : Int)) ∧ true = true) ∧
      (SV.val (Value.slice aa z.length ca) = SV.val (Value.slice aa z.length ca) ∧ true = true) ∧
      (SV.own ((0 : Nat) + (0 : Nat)) (0 : Nat) = SV.own (0 : Nat) (0 : Nat) ∧ true = true) ∧
      (SV.own ((0 : Nat) + (1 : Nat)) (0 : Nat) = SV.own (1 : Nat) (0 : Nat) ∧ true = true) ∧
      (SV.own ((0 : Nat) + (2 : Nat)) (0 : Nat) = SV.own (2 : Nat) (0 : Nat) ∧ true = true) ∧
      (SV.val (Value.slice a l.length cp) = SV.val (Value.slice a l.length cp) ∧ true = true) ∧ True) ∧
      (some { ty := (3 : Nat), cs := [Value.int IntKind.i64 g] : Bx } = some { ty := (3 : TypeId), cs := [Value.int IntKind.i64 g] : Bx } ∧ true = true) ∧
      (some { ty := (35 : Nat), cs := [Value.slice aa z.length ca] : Bx } = some { ty := (35 : TypeId), cs := [Value.slice aa z.length ca] : Bx } ∧ true = true) ∧
      (some { ty := (3 : Nat), cs := [Value.int IntKind.i64 nd] : Bx } = some { ty := (3 : TypeId), cs := [Value.int IntKind.i64 nd] : Bx } ∧ true = true) ∧ True) ∧
      ∀ (a_1 : Nat),
      a_1 ≤ z.length ∧ axsB (List.take a_1 z) = true →
      ifB (decide ((↑a_1 : Int) < (↑z.length : Int)))
      (∃ (b : Nat),
      ∃ (off : Nat),
      aa = some { block := b, off := off : Addr } ∧
      ((0 : Int) ≤ (↑a_1 : Int) ∧ (↑a_1 : Int) < (↑z.length : Int)) ∧
      ∃ (s : ByteArray),
      ∃ (n : Int),
      ∃ (n_1 : Int),
      ∃ (n_2 : Int),
      ∃ (n_3 : Int),
      ∃ (a_3 : Option Addr),
      ∃ (n_4 : Nat),
      ∃ (c : Nat),
      ∃ (n_5 : Int),
      ∃ (n_6 : Int),
      ∃ (n_7 : Int),
      ∃ (n_8 : Int),
      CellsAt m b (off + (↑a_1 : Int).toNat * (10 : Nat))
      [Value.string s, Value.int IntKind.i64 n, Value.int IntKind.i64 n_1, Value.int IntKind.i64 n_2, Value.int IntKind.i64 n_3,
      Value.slice a_3 n_4 c, Value.int IntKind.i64 n_5, Value.int IntKind.i64 n_6, Value.int IntKind.i64 n_7,
      Value.int IntKind.i64 n_8] ∧
      ∃ (n_9 : Int),
      QSpec Try.prog (47 : Nat)
      [Value.agg
      #[Value.string s, Value.int IntKind.i64 n, Value.int IntKind.i64 n_1, Value.int IntKind.i64 n_2,
      Value.int IntKind.i64 n_3, Value.slice a_3 n_4 c, Value.int IntKind.i64 n_5, Value.int IntKind.i64 n_6,
      Value.int IntKind.i64 n_7, Value.int IntKind.i64 n_8]]
      m (Value.int IntKind.i64 n_9) ∧
      ifB (n_9 != (0 : Int))
      (Done (LpR (trimE l g z nd) (Value.tuple #[Value.slice none (0 : Nat) (0 : Nat), Value.int IntKind.i64 (21 : Int)]) m))
      (∃ (a' : Nat),
      ((a' ≤ z.length ∧ axsB (List.take a' z) = true) ∧
      m = m ∧
      ((SV.val (Value.int IntKind.i64 (IntKind.i64.wrap ((↑a_1 : Int) + (1 : Int)))) =
      SV.val (Value.int IntKind.i64 (↑a' : Int)) ∧
      true = true) ∧
      (SV.val (Value.int IntKind.i64 (↑z.length : Int)) = SV.val (Value.int IntKind.i64 (↑z.length : Int)) ∧
      true = true) ∧
      (SV.val (Value.slice aa z.length ca) = SV.val (Value.slice aa z.length ca) ∧ true = true) ∧
      (SV.own (0 : Nat) (0 : Nat) = SV.own (0 : Nat) (0 : Nat) ∧ true = true) ∧
      (SV.own (1 : Nat) (0 : Nat) = SV.own (1 : Nat) (0 : Nat) ∧ true = true) ∧
      (SV.own (2 : Nat) (0 : Nat) = SV.own (2 : Nat) (0 : Nat) ∧ true = true) ∧
      (SV.val (Value.slice a l.length cp) = SV.val (Value.slice a l.length cp) ∧ true = true) ∧ True) ∧
      (some { ty := (3 : TypeId), cs := [Value.int IntKind.i64 g] : Bx } =
      some { ty := (3 : TypeId), cs := [Value.int IntKind.i64 g] : Bx } ∧
      true = true) ∧
      (some { ty := (35 : TypeId), cs := [Value.slice aa z.length ca] : Bx } =
      some { ty := (35 : TypeId), cs := [Value.slice aa z.length ca] : Bx } ∧
      true = true) ∧
      (some { ty := (3 : TypeId), cs := [Value.int IntKind.i64 nd] : Bx } =
      some { ty := (3 : TypeId), cs := [Value.int IntKind.i64 nd] : Bx } ∧
      true = true) ∧
      True) ∧
      z.length - a' < z.length - a_1))
      (∀ (b : Nat),
      Fresh m.sz m b →
      ∀ (b_1 : Nat),
      Fresh m.sz (m.newBlock b [Value.int IntKind.i64 g]) b_1 →
      ∀ (b_2 : Nat),
      Fresh m.sz ((m.newBlock b [Value.int IntKind.i64 g]).newBlock b_1 [Value.slice aa z.length ca]) b_2 →
      ∃ (S' : Nat → Prop),
      (∀ (b_3 : Nat),
      S' b_3 →
      (((m.newBlock b [Value.int IntKind.i64 g]).newBlock b_1 [Value.slice aa z.length ca]).newBlock b_2 [Value.int IntKind.i64 nd]).uf b_3 ∧
      (m.sz ≤ b_3 ∨ False)) ∧
      ∀ (n : Nat),
      max (max (max m.sz (b + (1 : Nat))) (b_1 + (1 : Nat))) (b_2 + (1 : Nat)) ≤ n →
      SpecW Try.prog (42 : Nat) [Value.slice a l.length cp]
      { π := (((m.newBlock b [Value.int IntKind.i64 g]).newBlock b_1 [Value.slice aa z.length ca]).newBlock b_2 [Value.int IntKind.i64 nd]).π, sz := n, uf := (((m.newBlock b [Value.int IntKind.i64 g]).newBlock b_1 [Value.slice aa z.length ca]).newBlock b_2 [Value.int IntKind.i64 nd]).uf : M }
      S' fun (v : Value) (m' : M) =>
      ∃ (a : Option Addr),
      ∃ (n : Nat),
      ∃ (c : Nat),
      v = Value.slice a n c ∧
      ∃ (S' : Nat → Prop),
      (∀ (b : Nat), S' b → m'.uf b ∧ (m.sz ≤ b ∨ False)) ∧
      ∀ (n_1 : Nat),
      m'.sz ≤ n_1 →
      SpecW Try.prog (51 : Nat)
      [Value.slice a n c,
      Value.func (Fn.func (48 : Nat)) #[]
      #[Value.pointer (some { block := b, off := (0 : Nat) : Addr }),
      Value.pointer (some { block := b_1, off := (0 : Nat) : Addr }),
      Value.pointer (some { block := b_2, off := (0 : Nat) : Addr })]]
      { π := m'.π, sz := n_1, uf := m'.uf : M } S' fun (v : Value) (m' : M) =>
      ∃ (a : Option Addr),
      ∃ (n : Nat),
      ∃ (c : Nat),
      v = Value.slice a n c ∧
      Done (LpR (trimE l g z nd) (Value.tuple #[Value.slice a n c, Value.int IntKind.i64 (0 : Int)]) m')))) (by kernel_rfl) ?_
  refine ⟨rfl, _, lcheck_q a cp l (by omega) _ h, ?_⟩
  cases ht : ledB none l
  · exact ifB_true (lp_fail (by simp [trimE, ht]))
  refine ifB_false ⟨⟨0, ⟨Nat.zero_le _, rfl⟩, rfl, by simp, ⟨rfl, rfl⟩, ⟨rfl, rfl⟩, ⟨rfl, rfl⟩, trivial⟩, fun k ⟨hk, hq⟩ => ifB_intro (fun hb => ?_) (fun hb b1 hb1 b2 hb2 b3 hb3 => ?_)⟩
  · have hk2 : k < z.length := by simpa using hb
    obtain ⟨b9, o9, rfl, hc⟩ := hz2.row.cells (by rw [axs_len]; omega)
    have w1 : IntKind.i64.wrap ((k : Int) + 1) = ((k + 1 : Nat) : Int) := by simp [IntKind.wrap_i64]; omega
    have m1 := List.getElem_mem hk2
    refine ⟨b9, o9, rfl, by omega, _, _, _, _, _, _, _, _, _, _, _, _, by simpa using ax_at hc hk2, _, check_q z[k].x z[k].a z[k].c (hz _ m1) _ (hz2.hs _ m1), ?_⟩
    cases hr : rightB z[k].x
    · refine ifB_true (lp_fail ?_)
      have : axsB z = false := by
        cases h2 : axsB z with
        | false => rfl
        | true => have := List.all_eq_true.1 h2 _ m1; rw [hr] at this; cases this
      simp [trimE, ht, this]
    · refine ifB_false ⟨k + 1, ⟨⟨hk2, ?_⟩, rfl, by simp [w1], ⟨rfl, rfl⟩, ⟨rfl, rfl⟩, ⟨rfl, rfl⟩, trivial⟩, by omega⟩
      unfold axsB at hq ⊢
      rw [List.take_succ_eq_append_getElem hk2, List.all_append, hq]
      simp [hr]
  · have hkl : k = z.length := by simp at hb; omega
    rw [hkl, List.take_length] at hq
    have hE : trimE l g z nd = (l.filter fun r => !goneB g nd z r, 0) := by simp [trimE, ht, hq]
    have fr : ∀ {a : Option Addr} {cs : List Value}, Row m a cs → Row (((m.newBlock b1 [I g]).newBlock b2 [.slice aa z.length ca]).newBlock b3 [I nd]) a cs := fun {a cs} r => ((r.fresh hb1 fun hc b o e => r.lt hc e).fresh hb2 fun hc b o e => r.lt hc e).fresh hb3 fun hc b o e => r.lt hc e
    have n12 : b1 ≠ b2 := fresh_other hb2 (.inl rfl)
    have n13 : b1 ≠ b3 := fresh_other hb3 (.inr (.inl rfl))
    have n23 : b2 ≠ b3 := fresh_other hb3 (.inl rfl)
    generalize hM : ((m.newBlock b1 [I g]).newBlock b2 [.slice aa z.length ca]).newBlock b3 [I nd] = M4 at *
    have E : EnvT b1 b2 b3 g nd aa ca z M4 := by
      rw [← hM]
      refine ⟨((cellsAt_new (m := m) (b := b1)).of (newBlock_other n12)).of (newBlock_other n13), (cellsAt_new (b := b2)).of (newBlock_other n23), cellsAt_new, ⟨by rw [hM]; exact fr hz2.row, fun y hy => by rw [hM]; exact fr (hz2.hs y hy)⟩⟩
    have sz4 : M4.sz = max (max (max m.sz (b1 + 1)) (b2 + 1)) (b3 + 1) := by rw [← hM]; rfl
    have hM4 : m.sz ≤ M4.sz := by omega
    rw [← sz4]
    refine ⟨_, noS, fun N hN => (rt_clone l a cp (by omega) (rt_none h) _ ((fr h).sz hN)).monoW fun v m' hag ⟨a', c', hv, hr'⟩ => ⟨a', _, c', hv, ?_⟩⟩
    have E' : EnvT b1 b2 b3 g nd aa ca z m' := by
      have hp : ∀ b, b < M4.sz → m'.π b = M4.π b := fun b hb => hag.1 b (by simp only; omega)
      exact ⟨E.c1.of (hp _ (by omega)), E.c2.of (hp _ (by omega)), E.c3.of (hp _ (by omega)), E.ax.of fun _ _ r => (r.sz hN).agree hag⟩
    have hszm : N ≤ m'.sz := hag.2.2
    by_cases hl0 : l.length = 0
    · have : l = [] := List.eq_nil_of_length_eq_zero hl0
      subst this
      exact ⟨_, noS, fun n hn' => (delfR0_s a' c' b1 b2 b3 g nd aa ca z hn hz { m' with sz := n } (E'.sz hn')).mono fun v2 m2 _ hv2 => ⟨_, _, _, hv2, lp_ok (z := []) hE rfl (.nil _)⟩⟩
    have hown := hr'.toOwn hl0
    have hSf : ∀ b o, a' = some ⟨b, o, none⟩ → m'.uf b ∧ N ≤ b := fun b o e => ⟨hown.uf e, (hown.lo e).resolve_right id⟩
    have away : ∀ b o, a' = some ⟨b, o, none⟩ → AwayT b b1 b2 b3 aa z := fun b o e => by
      have h1 := (hSf b o e).2
      refine ⟨by omega, by omega, by omega, fun o' hne e2 => ?_, fun y hy o' hne e2 => ?_⟩
      · have := hz2.row.lt (fun e3 => hne (by have := congrArg List.length e3; rw [axs_len] at this; exact List.eq_nil_of_length_eq_zero (by simp at this; omega))) e2
        omega
      · have := (hz2.hs y hy).lt (fun e3 => hne (by have := congrArg List.length e3; rw [hds_len] at this; exact List.eq_nil_of_length_eq_zero (by simp at this; omega))) e2
        omega
    refine ⟨fun b => ∃ o, a' = some ⟨b, o, none⟩, fun b ⟨o, e⟩ => ⟨(hSf b o e).1, .inl (by have := (hSf b o e).2; omega)⟩, fun n hn' => ?_⟩
    refine (delfR_s a' c' l b1 b2 b3 g nd aa ca z (fun b => ∃ o, a' = some ⟨b, o, none⟩) hl hn hz { m' with sz := n } (fun b o e => ⟨⟨o, e⟩, away b o e⟩) ((hown.sz hn').re fun b o e => .inr ⟨o, e⟩) (E'.sz hn')).mono fun v2 m2 hag2 ⟨hv2, hr2⟩ => ⟨_, _, _, hv2, lp_ok (z := l.filter fun r => !goneB g nd z r) hE rfl hr2.row⟩

structure RtX where
  k : Nat
  j : Nat
  a : Option Addr
  c : Nat
  m : M

def rAt (l : List Rt) (k : Nat) : Rt := (l[k]?).getD ⟨0, .empty, 0, 0⟩

/-- is a right kept, by the first accounts? -/
def kpB (g nd : Int) (z : List Ax) (r : Rt) (j : Nat) : Bool := (r.g != g) || (z.take j).any fun y => leaB nd r y.x

theorem kp_all (g nd : Int) (z : List Ax) (r : Rt) : kpB g nd z r z.length = !goneB g nd z r := by
  unfold kpB goneB
  rw [List.take_length, Bool.not_and, Bool.not_not]
  congr 1

theorem kp_succ (g nd : Int) (z : List Ax) (r : Rt) (j : Nat) (hj : j < z.length) : kpB g nd z r (j + 1) = (kpB g nd z r j || leaB nd r z[j].x) := by
  unfold kpB
  rw [List.take_succ_eq_append_getElem hj, List.any_append, Bool.or_assoc]
  simp

abbrev kpL (l : List Rt) (g nd : Int) (z : List Ax) (k : Nat) : List Rt := (l.take k).filter fun r => !goneB g nd z r

structure RtI (l : List Rt) (g nd : Int) (z : List Ax) (m : M) (y : RtX) : Prop where
  k : y.k ≤ l.length
  own : NewR m.sz (fun _ => False) y.m 4 y.a (kpL l g nd z y.k).length y.c (rts (kpL l g nd z y.k))
  ag : Agree m.sz m y.m

def rtAnn (l : List Rt) (a : Option Addr) (cp : Nat) (g nd : Int) (aa : Option Addr) (ca : Nat) (z : List Ax) (m : M) : Nat → Ann
  | 4 => { A := Nat, inv := fun k => k ≤ z.length ∧ axsB (z.take k) = true, st := fun k => [(10, .val (I k)), (2, .val (.slice aa z.length ca)), (0, .val (.slice a l.length cp)), (1, .val (I g)), (3, .val (I nd))], own := fun _ => [], m := fun _ => m, μ := fun k => z.length - k }
  | 10 => { A := RtX, inv := RtI l g nd z m, st := fun y => [(12, .val (I y.k)), (2, .val (.slice aa z.length ca)), (0, .val (.slice a l.length cp)), (1, .val (I g)), (3, .val (I nd)), (11, .val (.slice y.a (kpL l g nd z y.k).length y.c))], own := fun _ => [], m := fun y => y.m, μ := fun y => l.length - y.k }
  | 14 => { A := RtX, inv := fun y => RtI l g nd z m y ∧ y.k < l.length ∧ y.j ≤ z.length, st := fun y => [(12, .val (I y.k)), (2, .val (.slice aa z.length ca)), (0, .val (.slice a l.length cp)), (1, .val (I g)), (3, .val (I nd)), (11, .val (.slice y.a (kpL l g nd z y.k).length y.c)), (14, .val (I y.j)), (13, .val (.bool (kpB g nd z (rAt l y.k) y.j)))], own := fun _ => [], m := fun y => y.m, μ := fun y => z.length - y.j, link := some fun y ctx => ctx = [l.length - y.k] }
  | _ => noAnn 0

theorem rtrim_s (a : Option Addr) (cp : Nat) (l : List Rt) (g nd : Int) (aa : Option Addr) (ca : Nat) (z : List Ax) (hl : l.length ≤ 3518437208870) (hn : z.length ≤ 9223372036854775807) (hz : ∀ y ∈ z, y.x.wf) (m : M) (h : Row m a (rts l)) (hz2 : AxR m aa z) :
    Vc.Spec Try.prog 21 [.slice a l.length cp, I g, .slice aa z.length ca, I nd] m (LpR (trimE l g z nd)) := by
  refine Vc.Spec.of_vc Try.func21 (ann := rtAnn l a cp g nd aa ca z m) ?_
  refine vc_by (X :=
      true = true ∧
      ∃ (b : Bool),
      QSpec Try.prog (10 : Nat) [Value.slice a l.length cp] m (Value.bool b) ∧
      ifB (!b) (Done (LpR (trimE l g z nd) (Value.tuple #[Value.slice none (0 : Nat) (0 : Nat), Value.int IntKind.i64 (21 : Int)]) m))
      ((∃ (a_1 : Nat),
      (a_1 ≤ z.length ∧ axsB (List.take a_1 z) = true) ∧
      m = m ∧
      ((SV.val (Value.int IntKind.i64 (0 : Int)) = SV.val (Value.int IntKind.i64 (↑a_1 : Int)) ∧ true = true) ∧
      (SV.val (Value.slice aa z.length ca) = SV.val (Value.slice aa z.length ca) ∧ true = true) ∧
      (SV.val (Value.slice a l.length cp) = SV.val (Value.slice a l.length cp) ∧ true = true) ∧
      (SV.val (Value.int IntKind.i64 g) = SV.val (Value.int IntKind.i64 g) ∧ true = true) ∧
      (SV.val (Value.int IntKind.i64 nd) = SV.val (Value.int IntKind.i64 nd) ∧ true = true) ∧ True) ∧
      True) ∧
      ∀ (a_1 : Nat),
      a_1 ≤ z.length ∧ axsB (List.take a_1 z) = true →
      ifB (decide ((↑a_1 : Int) < (↑z.length : Int)))
      (∃ (b : Nat),
      ∃ (off : Nat),
      aa = some { block := b, off := off : Addr } ∧
      ((0 : Int) ≤ (↑a_1 : Int) ∧ (↑a_1 : Int) < (↑z.length : Int)) ∧
      ∃ (s : ByteArray),
      ∃ (n : Int),
      ∃ (n_1 : Int),
      ∃ (n_2 : Int),
      ∃ (n_3 : Int),
      ∃ (a_3 : Option Addr),
      ∃ (n_4 : Nat),
      ∃ (c : Nat),
      ∃ (n_5 : Int),
      ∃ (n_6 : Int),
      ∃ (n_7 : Int),
      ∃ (n_8 : Int),
      CellsAt m b (off + (↑a_1 : Int).toNat * (10 : Nat))
      [Value.string s, Value.int IntKind.i64 n, Value.int IntKind.i64 n_1, Value.int IntKind.i64 n_2, Value.int IntKind.i64 n_3,
      Value.slice a_3 n_4 c, Value.int IntKind.i64 n_5, Value.int IntKind.i64 n_6, Value.int IntKind.i64 n_7,
      Value.int IntKind.i64 n_8] ∧
      ∃ (b : Bool),
      QSpec Try.prog (32 : Nat)
      [Value.agg
      #[Value.string s, Value.int IntKind.i64 n, Value.int IntKind.i64 n_1, Value.int IntKind.i64 n_2,
      Value.int IntKind.i64 n_3, Value.slice a_3 n_4 c, Value.int IntKind.i64 n_5, Value.int IntKind.i64 n_6,
      Value.int IntKind.i64 n_7, Value.int IntKind.i64 n_8]]
      m (Value.bool b) ∧
      ifB (!b)
      (Done (LpR (trimE l g z nd) (Value.tuple #[Value.slice none (0 : Nat) (0 : Nat), Value.int IntKind.i64 (21 : Int)]) m))
      (∃ (a' : Nat),
      ((a' ≤ z.length ∧ axsB (List.take a' z) = true) ∧
      m = m ∧
      ((SV.val (Value.int IntKind.i64 (IntKind.i64.wrap ((↑a_1 : Int) + (1 : Int)))) =
      SV.val (Value.int IntKind.i64 (↑a' : Int)) ∧
      true = true) ∧
      (SV.val (Value.slice aa z.length ca) = SV.val (Value.slice aa z.length ca) ∧ true = true) ∧
      (SV.val (Value.slice a l.length cp) = SV.val (Value.slice a l.length cp) ∧ true = true) ∧
      (SV.val (Value.int IntKind.i64 g) = SV.val (Value.int IntKind.i64 g) ∧ true = true) ∧
      (SV.val (Value.int IntKind.i64 nd) = SV.val (Value.int IntKind.i64 nd) ∧ true = true) ∧ True) ∧
      True) ∧
      z.length - a' < z.length - a_1))
      ((∃ (a_3 : RtX),
      RtI l g nd z m a_3 ∧
      m = a_3.m ∧
      ((SV.val (Value.int IntKind.i64 (0 : Int)) = SV.val (Value.int IntKind.i64 (↑a_3.k : Int)) ∧ true = true) ∧
      (SV.val (Value.slice aa z.length ca) = SV.val (Value.slice aa z.length ca) ∧ true = true) ∧
      (SV.val (Value.slice a l.length cp) = SV.val (Value.slice a l.length cp) ∧ true = true) ∧
      (SV.val (Value.int IntKind.i64 g) = SV.val (Value.int IntKind.i64 g) ∧ true = true) ∧
      (SV.val (Value.int IntKind.i64 nd) = SV.val (Value.int IntKind.i64 nd) ∧ true = true) ∧
      (SV.val (Value.slice none (0 : Nat) (0 : Nat)) = SV.val (Value.slice a_3.a (kpL l g nd z a_3.k).length a_3.c) ∧ true = true) ∧ True) ∧
      True) ∧
      ∀ (a_3 : RtX),
      RtI l g nd z m a_3 →
      ifB (decide ((↑a_3.k : Int) < (↑l.length : Int)))
      (∃ (b : Nat),
      ∃ (off : Nat),
      a = some { block := b, off := off : Addr } ∧
      ((0 : Int) ≤ (↑a_3.k : Int) ∧ (↑a_3.k : Int) < (↑l.length : Int)) ∧
      ∃ (n : Int),
      CellsAt a_3.m b (off + (↑a_3.k : Int).toNat * (4 : Nat) + (0 : Nat)) [Value.int IntKind.i64 n] ∧
      (∃ (a_5 : RtX),
      ((RtI l g nd z m a_5 ∧ a_5.k < l.length ∧ a_5.j ≤ z.length) ∧
      a_3.m = a_5.m ∧
      ((SV.val (Value.int IntKind.i64 (↑a_3.k : Int)) = SV.val (Value.int IntKind.i64 (↑a_5.k : Int)) ∧ true = true) ∧
      (SV.val (Value.slice aa z.length ca) = SV.val (Value.slice aa z.length ca) ∧ true = true) ∧
      (SV.val (Value.slice a l.length cp) = SV.val (Value.slice a l.length cp) ∧ true = true) ∧
      (SV.val (Value.int IntKind.i64 g) = SV.val (Value.int IntKind.i64 g) ∧ true = true) ∧
      (SV.val (Value.int IntKind.i64 nd) = SV.val (Value.int IntKind.i64 nd) ∧ true = true) ∧
      (SV.val (Value.slice a_3.a (kpL l g nd z a_3.k).length a_3.c) =
      SV.val (Value.slice a_5.a (kpL l g nd z a_5.k).length a_5.c) ∧
      true = true) ∧
      (SV.val (Value.int IntKind.i64 (0 : Int)) = SV.val (Value.int IntKind.i64 (↑a_5.j : Int)) ∧ true = true) ∧
      (SV.val (Value.bool (n != g)) = SV.val (Value.bool (kpB g nd z (rAt l a_5.k) a_5.j)) ∧ true = true) ∧ True) ∧
      True) ∧
      [l.length - a_3.k] = [l.length - a_5.k]) ∧
      ∀ (a_5 : RtX),
      (RtI l g nd z m a_5 ∧ a_5.k < l.length ∧ a_5.j ≤ z.length) ∧ [l.length - a_3.k] = [l.length - a_5.k] →
      ifB (decide ((↑a_5.j : Int) < (↑z.length : Int)))
      (∃ (b : Nat),
      ∃ (off : Nat),
      aa = some { block := b, off := off : Addr } ∧
      ((0 : Int) ≤ (↑a_5.j : Int) ∧ (↑a_5.j : Int) < (↑z.length : Int)) ∧
      ∃ (s : ByteArray),
      ∃ (n : Int),
      ∃ (n_1 : Int),
      ∃ (n_2 : Int),
      ∃ (n_3 : Int),
      ∃ (a_7 : Option Addr),
      ∃ (n_4 : Nat),
      ∃ (c : Nat),
      ∃ (n_5 : Int),
      ∃ (n_6 : Int),
      ∃ (n_7 : Int),
      ∃ (n_8 : Int),
      CellsAt a_5.m b (off + (↑a_5.j : Int).toNat * (10 : Nat))
      [Value.string s, Value.int IntKind.i64 n, Value.int IntKind.i64 n_1, Value.int IntKind.i64 n_2,
      Value.int IntKind.i64 n_3, Value.slice a_7 n_4 c, Value.int IntKind.i64 n_5,
      Value.int IntKind.i64 n_6, Value.int IntKind.i64 n_7, Value.int IntKind.i64 n_8] ∧
      ∃ (n_9 : Int),
      ∃ (n_10 : Int),
      ∃ (n_11 : Int),
      ∃ (n_12 : Int),
      ∃ (b : Bool),
      QSpec Try.prog (52 : Nat)
      [Value.agg
      #[Value.string s, Value.int IntKind.i64 n, Value.int IntKind.i64 n_1,
      Value.int IntKind.i64 n_2, Value.int IntKind.i64 n_3, Value.slice a_7 n_4 c,
      Value.int IntKind.i64 n_5, Value.int IntKind.i64 n_6, Value.int IntKind.i64 n_7,
      Value.int IntKind.i64 n_8],
      Value.int IntKind.i64 nd]
      a_5.m
      (Value.tuple
      #[Value.agg
      #[Value.int IntKind.i64 n_9, Value.int IntKind.i64 n_10,
      Value.int IntKind.i64 n_11, Value.int IntKind.i64 n_12],
      Value.bool b]) ∧
      true = true ∧
      ifB (kpB g nd z (rAt l a_5.k) a_5.j)
      (∃ (a' : RtX),
      (((RtI l g nd z m a' ∧ a'.k < l.length ∧ a'.j ≤ z.length) ∧
      a_5.m = a'.m ∧
      ((SV.val (Value.int IntKind.i64 (↑a_5.k : Int)) =
      SV.val (Value.int IntKind.i64 (↑a'.k : Int)) ∧
      true = true) ∧
      (SV.val (Value.slice aa z.length ca) =
      SV.val (Value.slice aa z.length ca) ∧
      true = true) ∧
      (SV.val (Value.slice a l.length cp) =
      SV.val (Value.slice a l.length cp) ∧
      true = true) ∧
      (SV.val (Value.int IntKind.i64 g) =
      SV.val (Value.int IntKind.i64 g) ∧
      true = true) ∧
      (SV.val (Value.int IntKind.i64 nd) =
      SV.val (Value.int IntKind.i64 nd) ∧
      true = true) ∧
      (SV.val (Value.slice a_5.a (kpL l g nd z a_5.k).length a_5.c) =
      SV.val
      (Value.slice a'.a (kpL l g nd z a'.k).length a'.c) ∧
      true = true) ∧
      (SV.val
      (Value.int IntKind.i64
      (IntKind.i64.wrap ((↑a_5.j : Int) + (1 : Int)))) =
      SV.val (Value.int IntKind.i64 (↑a'.j : Int)) ∧
      true = true) ∧
      (SV.val (Value.bool true) =
      SV.val (Value.bool (kpB g nd z (rAt l a'.k) a'.j)) ∧
      true = true) ∧
      True) ∧
      True) ∧
      [l.length - a_3.k] = [l.length - a'.k]) ∧
      z.length - a'.j < z.length - a_5.j)
      (ifB b
      (∃ (b : Nat),
      ∃ (off : Nat),
      aa = some { block := b, off := off : Addr } ∧
      ((0 : Int) ≤ (↑a_5.j : Int) ∧ (↑a_5.j : Int) < (↑z.length : Int)) ∧
      ∃ (s : ByteArray),
      CellsAt a_5.m b (off + (↑a_5.j : Int).toNat * (10 : Nat) + (0 : Nat))
      [Value.string s] ∧
      ∃ (b : Nat),
      ∃ (off : Nat),
      a = some { block := b, off := off : Addr } ∧
      ((0 : Int) ≤ (↑a_5.k : Int) ∧
      (↑a_5.k : Int) < (↑l.length : Int)) ∧
      ∃ (s_1 : ByteArray),
      CellsAt a_5.m b
      (off + (↑a_5.k : Int).toNat * (4 : Nat) + (1 : Nat))
      [Value.string s_1] ∧
      ifB (s.toList == s_1.toList)
      (∃ (b : Nat),
      ∃ (off : Nat),
      a = some { block := b, off := off : Addr } ∧
      ((0 : Int) ≤ (↑a_5.k : Int) ∧
      (↑a_5.k : Int) < (↑l.length : Int)) ∧
      ∃ (n : Int),
      CellsAt a_5.m b
      (off + (↑a_5.k : Int).toNat * (4 : Nat) +
      (2 : Nat))
      [Value.int IntKind.i64 n] ∧
      ∃ (a' : RtX),
      (((RtI l g nd z m a' ∧
      a'.k < l.length ∧ a'.j ≤ z.length) ∧
      a_5.m = a'.m ∧
      ((SV.val
      (Value.int IntKind.i64
      (↑a_5.k : Int)) =
      SV.val
      (Value.int IntKind.i64
      (↑a'.k : Int)) ∧
      true = true) ∧
      (SV.val
      (Value.slice aa z.length
      ca) =
      SV.val
      (Value.slice aa z.length
      ca) ∧
      true = true) ∧
      (SV.val
      (Value.slice a
      l.length cp) =
      SV.val
      (Value.slice a
      l.length cp) ∧
      true = true) ∧
      (SV.val
      (Value.int
      IntKind.i64 g) =
      SV.val
      (Value.int
      IntKind.i64 g) ∧
      true = true) ∧
      (SV.val
      (Value.int
      IntKind.i64
      nd) =
      SV.val
      (Value.int
      IntKind.i64
      nd) ∧
      true = true) ∧
      (SV.val
      (Value.slice
      a_5.a
      (kpL l g nd z
      a_5.k).length
      a_5.c) =
      SV.val
      (Value.slice
      a'.a
      (kpL l g nd z
      a'.k).length
      a'.c) ∧
      true = true) ∧
      (SV.val
      (Value.int
      IntKind.i64
      (IntKind.i64.wrap
      ((↑a_5.j :
      Int) +
      (1 :
      Int)))) =
      SV.val
      (Value.int
      IntKind.i64
      (↑a'.j :
      Int)) ∧
      true = true) ∧
      (SV.val
      (Value.bool
      (n_10 ==
      n)) =
      SV.val
      (Value.bool
      (kpB g nd
      z
      (rAt l
      a'.k)
      a'.j)) ∧
      true = true) ∧
      True) ∧
      True) ∧
      [l.length - a_3.k] =
      [l.length - a'.k]) ∧
      z.length - a'.j < z.length - a_5.j)
      (∃ (a' : RtX),
      (((RtI l g nd z m a' ∧
      a'.k < l.length ∧ a'.j ≤ z.length) ∧
      a_5.m = a'.m ∧
      ((SV.val
      (Value.int IntKind.i64
      (↑a_5.k : Int)) =
      SV.val
      (Value.int IntKind.i64
      (↑a'.k : Int)) ∧
      true = true) ∧
      (SV.val (Value.slice aa z.length ca) =
      SV.val (Value.slice aa z.length ca) ∧
      true = true) ∧
      (SV.val (Value.slice a l.length cp) =
      SV.val (Value.slice a l.length cp) ∧
      true = true) ∧
      (SV.val (Value.int IntKind.i64 g) =
      SV.val (Value.int IntKind.i64 g) ∧
      true = true) ∧
      (SV.val (Value.int IntKind.i64 nd) =
      SV.val
      (Value.int IntKind.i64 nd) ∧
      true = true) ∧
      (SV.val
      (Value.slice a_5.a
      (kpL l g nd z
      a_5.k).length
      a_5.c) =
      SV.val
      (Value.slice a'.a
      (kpL l g nd z a'.k).length
      a'.c) ∧
      true = true) ∧
      (SV.val
      (Value.int IntKind.i64
      (IntKind.i64.wrap
      ((↑a_5.j : Int) +
      (1 : Int)))) =
      SV.val
      (Value.int IntKind.i64
      (↑a'.j : Int)) ∧
      true = true) ∧
      (SV.val (Value.bool false) =
      SV.val
      (Value.bool
      (kpB g nd z
      (rAt l a'.k)
      a'.j)) ∧
      true = true) ∧
      True) ∧
      True) ∧
      [l.length - a_3.k] = [l.length - a'.k]) ∧
      z.length - a'.j < z.length - a_5.j))
      (∃ (a' : RtX),
      (((RtI l g nd z m a' ∧ a'.k < l.length ∧ a'.j ≤ z.length) ∧
      a_5.m = a'.m ∧
      ((SV.val (Value.int IntKind.i64 (↑a_5.k : Int)) =
      SV.val (Value.int IntKind.i64 (↑a'.k : Int)) ∧
      true = true) ∧
      (SV.val (Value.slice aa z.length ca) =
      SV.val (Value.slice aa z.length ca) ∧
      true = true) ∧
      (SV.val (Value.slice a l.length cp) =
      SV.val (Value.slice a l.length cp) ∧
      true = true) ∧
      (SV.val (Value.int IntKind.i64 g) =
      SV.val (Value.int IntKind.i64 g) ∧
      true = true) ∧
      (SV.val (Value.int IntKind.i64 nd) =
      SV.val (Value.int IntKind.i64 nd) ∧
      true = true) ∧
      (SV.val
      (Value.slice a_5.a (kpL l g nd z a_5.k).length
      a_5.c) =
      SV.val
      (Value.slice a'.a (kpL l g nd z a'.k).length a'.c) ∧
      true = true) ∧
      (SV.val
      (Value.int IntKind.i64
      (IntKind.i64.wrap ((↑a_5.j : Int) + (1 : Int)))) =
      SV.val (Value.int IntKind.i64 (↑a'.j : Int)) ∧
      true = true) ∧
      (SV.val (Value.bool false) =
      SV.val (Value.bool (kpB g nd z (rAt l a'.k) a'.j)) ∧
      true = true) ∧
      True) ∧
      True) ∧
      [l.length - a_3.k] = [l.length - a'.k]) ∧
      z.length - a'.j < z.length - a_5.j)))
      (ifB (kpB g nd z (rAt l a_5.k) a_5.j)
      (∃ (b : Nat),
      ∃ (off : Nat),
      a = some { block := b, off := off : Addr } ∧
      ((0 : Int) ≤ (↑a_5.k : Int) ∧ (↑a_5.k : Int) < (↑l.length : Int)) ∧
      ∃ (n : Int),
      ∃ (s : ByteArray),
      ∃ (n_1 : Int),
      ∃ (n_2 : Int),
      CellsAt a_5.m b (off + (↑a_5.k : Int).toNat * (4 : Nat))
      [Value.int IntKind.i64 n, Value.string s, Value.int IntKind.i64 n_1, Value.int IntKind.i64 n_2] ∧
      true = true ∧
      ∀ (b : Nat),
      a_5.m.sz ≤ b →
      ∃ (old : List Value),
      ∃ (src : List Value),
      AppPre m.sz (fun (x : Nat) => False)
      (a_5.m.newBlock b
      [Value.int IntKind.i64 n, Value.string s, Value.int IntKind.i64 n_1, Value.int IntKind.i64 n_2])
      (4 : Nat) (40 : Nat) a_5.a (kpL l g nd z a_5.k).length a_5.c
      (some { block := b, off := (0 : Nat) : Addr }) (1 : Nat) old src ∧
      ∀ (a' : Option Addr) (c' : Nat) (m' : M),
      AppPost Try.prog (24 : Nat)
      (a_5.m.newBlock b
      [Value.int IntKind.i64 n, Value.string s, Value.int IntKind.i64 n_1, Value.int IntKind.i64 n_2])
      (4 : Nat) a_5.a (kpL l g nd z a_5.k).length a_5.c (1 : Nat) old src a' c' m' →
      ∃ (a'_1 : RtX),
      (RtI l g nd z m a'_1 ∧
      m' = a'_1.m ∧
      ((SV.val (Value.int IntKind.i64 (IntKind.i64.wrap ((↑a_5.k : Int) + (1 : Int)))) =
      SV.val (Value.int IntKind.i64 (↑a'_1.k : Int)) ∧
      true = true) ∧
      (SV.val (Value.slice aa z.length ca) = SV.val (Value.slice aa z.length ca) ∧
      true = true) ∧
      (SV.val (Value.slice a l.length cp) = SV.val (Value.slice a l.length cp) ∧
      true = true) ∧
      (SV.val (Value.int IntKind.i64 g) = SV.val (Value.int IntKind.i64 g) ∧
      true = true) ∧
      (SV.val (Value.int IntKind.i64 nd) = SV.val (Value.int IntKind.i64 nd) ∧
      true = true) ∧
      (SV.val (Value.slice a' ((kpL l g nd z a_5.k).length + (1 : Nat)) c') =
      SV.val (Value.slice a'_1.a (kpL l g nd z a'_1.k).length a'_1.c) ∧
      true = true) ∧
      True) ∧
      True) ∧
      l.length - a'_1.k < l.length - a_3.k)
      (∃ (a' : RtX),
      (RtI l g nd z m a' ∧
      a_5.m = a'.m ∧
      ((SV.val (Value.int IntKind.i64 (IntKind.i64.wrap ((↑a_5.k : Int) + (1 : Int)))) =
      SV.val (Value.int IntKind.i64 (↑a'.k : Int)) ∧
      true = true) ∧
      (SV.val (Value.slice aa z.length ca) = SV.val (Value.slice aa z.length ca) ∧ true = true) ∧
      (SV.val (Value.slice a l.length cp) = SV.val (Value.slice a l.length cp) ∧ true = true) ∧
      (SV.val (Value.int IntKind.i64 g) = SV.val (Value.int IntKind.i64 g) ∧ true = true) ∧
      (SV.val (Value.int IntKind.i64 nd) = SV.val (Value.int IntKind.i64 nd) ∧ true = true) ∧
      (SV.val (Value.slice a_5.a (kpL l g nd z a_5.k).length a_5.c) =
      SV.val (Value.slice a'.a (kpL l g nd z a'.k).length a'.c) ∧
      true = true) ∧
      True) ∧
      True) ∧
      l.length - a'.k < l.length - a_3.k)))
      (Done (LpR (trimE l g z nd) (Value.tuple #[Value.slice a_3.a (kpL l g nd z a_3.k).length a_3.c, Value.int IntKind.i64 (0 : Int)]) a_3.m))))) (by kernel_rfl) ?_
  refine ⟨rfl, _, rright_l a cp l (by omega) _ h, ?_⟩
  cases ht : ledB none l
  · exact ifB_true (lp_fail (by simp [trimE, ht]))
  refine ifB_false ⟨⟨0, ⟨Nat.zero_le _, rfl⟩, rfl, by simp⟩, fun k ⟨hk, hq⟩ => ifB_intro (fun hb => ?_) (fun hb => ?_)⟩
  · have hk2 : k < z.length := by simpa using hb
    obtain ⟨b9, o9, rfl, hc⟩ := hz2.row.cells (by rw [axs_len]; omega)
    have w1 : IntKind.i64.wrap ((k : Int) + 1) = ((k + 1 : Nat) : Int) := by simp [IntKind.wrap_i64]; omega
    have m1 := List.getElem_mem hk2
    refine ⟨b9, o9, rfl, by omega, _, _, _, _, _, _, _, _, _, _, _, _, by simpa using ax_at hc hk2, _, rright_q z[k].x z[k].a z[k].c (hz _ m1) _ (hz2.hs _ m1), ?_⟩
    cases hr : rightB z[k].x
    · refine ifB_true (lp_fail ?_)
      have : axsB z = false := by
        cases h2 : axsB z with
        | false => rfl
        | true => have := List.all_eq_true.1 h2 _ m1; rw [hr] at this; cases this
      simp [trimE, ht, this]
    · refine ifB_false ⟨k + 1, ⟨⟨hk2, ?_⟩, rfl, by simp [w1]⟩, by omega⟩
      unfold axsB at hq ⊢
      rw [List.take_succ_eq_append_getElem hk2, List.all_append, hq]
      simp [hr]
  have hkl : k = z.length := by simp at hb; omega
  rw [hkl, List.take_length] at hq
  have hE : trimE l g z nd = (l.filter fun r => !goneB g nd z r, 0) := by simp [trimE, ht, hq]
  have hwf : ∀ y ∈ z, rightB y.x = true := fun y hy => List.all_eq_true.1 hq y hy
  refine ⟨⟨⟨0, 0, none, 0, m⟩, ⟨Nat.zero_le _, .nil _, Agree.refl _ _⟩, rfl, by simp [kpL]⟩, fun y Y => ifB_intro (fun hb => ?_) (fun hb => ?_)⟩
  rotate_left
  · have hy : y.k = l.length := by have := Y.k; simp at hb; omega
    have ho := Y.own
    unfold kpL at ho ⊢
    rw [hy, List.take_length] at ho ⊢
    exact lp_ok hE rfl ho.row
  have hk2 : y.k < l.length := by simpa using hb
  obtain ⟨b, o, rfl, hc⟩ := (h.agree Y.ag).cells (by rw [rt_len]; omega)
  have c0 := CellsAt.field rt_k hc hk2 (p := []) (old := [I l[y.k].g]) (q := [.string l[y.k].ky, I l[y.k].le, I l[y.k].ne]) rfl
  have er : rAt l y.k = l[y.k] := by simp [rAt, List.getElem?_eq_getElem hk2]
  refine ⟨b, o, rfl, by omega, l[y.k].g, by simpa using c0, ⟨{ y with j := 0 }, ⟨⟨⟨Y.k, Y.own, Y.ag⟩, hk2, Nat.zero_le _⟩, rfl, by simp [kpB, er]⟩, rfl⟩, fun x ⟨⟨X, X1, X2⟩, X0⟩ => ifB_intro (fun hb2 => ?_) (fun hb2 => ?_)⟩
  · have xk : x.k = y.k := by simp at X0; omega
    have er : rAt l x.k = l[x.k] := by simp [rAt, List.getElem?_eq_getElem X1]
    have hj : x.j < z.length := by simpa using hb2
    have w2 : IntKind.i64.wrap ((x.j : Int) + 1) = ((x.j + 1 : Nat) : Int) := by simp [IntKind.wrap_i64]; omega
    have hzx := hz2.agree X.ag
    obtain ⟨b2, o2, rfl, hcz⟩ := hzx.row.cells (by rw [axs_len]; omega)
    obtain ⟨b3, o3, e3, hc3⟩ := (h.agree X.ag).cells (by rw [rt_len]; omega)
    cases e3
    have m1 := List.getElem_mem hj
    have nx : ∀ v, v = kpB g nd z l[x.k] (x.j + 1) → (RtI l g nd z m { x with j := x.j + 1 } ∧ x.k < l.length ∧ x.j + 1 ≤ z.length) ∧ v = kpB g nd z (rAt l x.k) (x.j + 1) := fun v e => ⟨⟨⟨X.k, X.own, X.ag⟩, X1, hj⟩, by rw [er]; exact e⟩
    have ks := kp_succ g nd z l[x.k] x.j hj
    rw [er]
    refine ⟨b2, o2, rfl, by omega, _, _, _, _, _, _, _, _, _, _, _, _, by simpa using ax_at hcz hj, _, _, _, _, _, rfind_q z[x.j].x z[x.j].a z[x.j].c nd (hz _ m1) _ (hzx.hs _ m1), rfl, ifB_intro (fun q1 => ?_) (fun q1 => ifB_intro (fun q2 => ?_) (fun q2 => ?_))⟩
    · obtain ⟨n1, n2⟩ := nx true (by rw [ks, q1]; rfl)
      exact ⟨{ x with j := x.j + 1 }, ⟨⟨n1, rfl, by simp [w2]; exact n2.symm⟩, X0⟩, by simp only; omega⟩
    · have k0 := CellsAt.field ax_k hcz hj (p := []) (old := [.string z[x.j].x.key]) (q := (encAx z[x.j]).drop 1) rfl
      have k1 := CellsAt.field rt_k hc3 X1 (p := [I l[x.k].g]) (old := [.string l[x.k].ky]) (q := [I l[x.k].le, I l[x.k].ne]) rfl
      have k2 := CellsAt.field rt_k hc3 X1 (p := [I l[x.k].g, .string l[x.k].ky]) (old := [I l[x.k].le]) (q := [I l[x.k].ne]) rfl
      refine ⟨b2, o2, rfl, by omega, _, by simpa using k0, b, o, rfl, by omega, _, by simpa using k1, ?_⟩
      rw [bytes_beq]
      refine ifB_intro (fun q3 => ⟨b, o, rfl, by omega, _, by simpa using k2, ?_⟩) (fun q3 => ?_)
      · obtain ⟨n1, n2⟩ := nx ((findH z[x.j].x nd).le == l[x.k].le) (by rw [ks, q1, leaB, q2, q3]; rfl)
        exact ⟨{ x with j := x.j + 1 }, ⟨⟨n1, rfl, by simp [w2]; exact n2⟩, X0⟩, by simp only; omega⟩
      · obtain ⟨n1, n2⟩ := nx false (by rw [ks, q1, leaB, q2, q3]; rfl)
        exact ⟨{ x with j := x.j + 1 }, ⟨⟨n1, rfl, by simp [w2]; exact n2.symm⟩, X0⟩, by simp only; omega⟩
    · obtain ⟨n1, n2⟩ := nx false (by rw [ks, q1, leaB, q2]; rfl)
      exact ⟨{ x with j := x.j + 1 }, ⟨⟨n1, rfl, by simp [w2]; exact n2.symm⟩, X0⟩, by simp only; omega⟩
  · have xk : x.k = y.k := by simp at X0; omega
    have er : rAt l x.k = l[x.k] := by simp [rAt, List.getElem?_eq_getElem X1]
    have hj : x.j = z.length := by simp at hb2; omega
    have w2 : IntKind.i64.wrap ((x.k : Int) + 1) = ((x.k + 1 : Nat) : Int) := by simp [IntKind.wrap_i64]; omega
    rw [er, hj, kp_all]
    obtain ⟨b3, o3, e3, hc3⟩ := (h.agree X.ag).cells (by rw [rt_len]; omega)
    cases e3
    have hle : (kpL l g nd z x.k).length ≤ l.length := Nat.le_trans (List.length_filter_le _ _) (by rw [List.length_take]; omega)
    have ts : kpL l g nd z (x.k + 1) = kpL l g nd z x.k ++ if goneB g nd z l[x.k] = true then [] else [l[x.k]] := by
      unfold kpL
      rw [List.take_succ_eq_append_getElem X1, List.filter_append]
      congr 1
      by_cases hh : goneB g nd z l[x.k] = true <;> simp [hh]
    refine ifB_intro (fun q1 => ?_) (fun q1 => ?_)
    · have q1 : goneB g nd z l[x.k] = false := by simpa using q1
      rw [q1] at ts
      refine ⟨b, o, rfl, by omega, _, _, _, _, by simpa using rt_at hc3 X1, rfl, fun b4 hb4 => ?_⟩
      obtain ⟨g1, g2⟩ := X.own.push (P := Try.prog) (e := 24) (bytes := 40) (src := encRt l[x.k]) hb4 X.ag.2.2 rfl rfl (by omega) rt_zr
      refine ⟨_, _, g1, fun a' c' m' hp => ?_⟩
      obtain ⟨g3, g4⟩ := g2 a' c' m' hp
      have eq1 : rts (kpL l g nd z (x.k + 1)) = rts (kpL l g nd z x.k) ++ encRt l[x.k] := by rw [ts]; simp
      have eq2 : (kpL l g nd z (x.k + 1)).length = (kpL l g nd z x.k).length + 1 := by rw [ts]; simp
      refine ⟨⟨x.k + 1, 0, a', c', m'⟩, ⟨⟨X1, ?_, X.ag.trans g4⟩, rfl, ?_⟩, by simp only; omega⟩
      · simp only [eq1, eq2]; exact g3
      · simp only [eq2, w2]; simp
    · have q1 : goneB g nd z l[x.k] = true := by simpa using q1
      rw [q1] at ts
      have ts : kpL l g nd z (x.k + 1) = kpL l g nd z x.k := by rw [ts]; simp
      refine ⟨⟨x.k + 1, 0, x.a, x.c, x.m⟩, ⟨⟨X1, ?_, X.ag⟩, rfl, ?_⟩, by simp only; omega⟩
      · simp only [ts]; exact X.own
      · simp only [ts, w2]; simp

theorem accounts_q (a a2 : Option Addr) (c c2 : Nat) (z z2 : List Ax) (hn : z.length ≤ 9223372036854775807) (hz : ∀ y ∈ z, y.x.wf) (hz2 : ∀ y ∈ z2, y.x.wf) (m : M) (h : AxR m a z) (h2 : AxR m a2 z2) :
    QSpec Try.prog 22 [.slice a z.length c, .slice a2 z2.length c2] m (.bool (decide (z.map (·.x) = z2.map (·.x)))) := by
  refine QSpec.of_vc Try.func22 (ann := fun _ => noAnn) fun n hn' => ?_
  refine vc_by (X :=
      true = true ∧
      ∃ (b : Bool),
      QSpec Try.prog (53 : Nat) [Value.slice a z.length c, Value.slice a2 z2.length c2, Value.func (Fn.func (31 : Nat)) #[] #[]] { π := m.π, sz := n, uf := m.uf : M }
      (Value.bool b) ∧
      Done (Value.bool b = Value.bool (decide (List.map (fun (x : Ax) => x.x) z = List.map (fun (x : Ax) => x.x) z2)))) (by kernel_rfl) ?_
  exact ⟨rfl, _, same_axs a a2 c c2 z z2 hn hz hz2 _ (h.sz hn') (h2.sz hn'), ⟨rfl⟩⟩

theorem axs_wf {z z' : List Ax} (h : z'.map (·.x) = z.map (·.x)) (hz : ∀ y ∈ z, y.x.wf) : ∀ y ∈ z', y.x.wf := fun y hy => by
  have : y.x ∈ z'.map (·.x) := List.mem_map.2 ⟨y, hy, rfl⟩
  rw [h] at this
  obtain ⟨w, hw, e⟩ := List.mem_map.1 this
  rw [← e]; exact hz w hw

theorem trim_map {l : List Rt} {g nd : Int} {z z' : List Ax} (h : z'.map (·.x) = z.map (·.x)) : trimE l g z' nd = trimE l g z nd := by
  have h1 : axsB z' = axsB z := by
    have : ∀ z : List Ax, axsB z = (z.map (·.x)).all rightB := fun z => by simp [axsB, Function.comp_def]
    rw [this, this, h]
  have h2 : goneB g nd z' = goneB g nd z := by
    have : ∀ z : List Ax, goneB g nd z = fun r => decide (r.g = g) && !(z.map (·.x)).any (leaB nd r) := fun z => by funext r; simp [goneB, Function.comp_def]
    rw [this, this, h]
  unfold trimE
  rw [h1, h2]

theorem trim_len (l : List Rt) (g nd : Int) (z : List Ax) : (trimE l g z nd).1.length ≤ l.length := by
  have := List.length_filter_le (fun r => !goneB g nd z r) l
  unfold trimE
  split
  · simp
  · split
    · simp
    · exact this

theorem ledgertrims (a : Option Addr) (cp : Nat) (l : List Rt) (g nd : Int) (aa : Option Addr) (ca : Nat) (z : List Ax) (hl : l.length ≤ 3518437208780) (hn : z.length ≤ 1353245080300) (hz : ∀ y ∈ z, y.x.wf ∧ y.x.hs.length ≤ 4398046511000) (m : M) (h : Row m a (rts l)) (hz2 : AxR m aa z) :
    QSpec Try.prog 5 [.slice a l.length cp, I g, .slice aa z.length ca, I nd] m (.bool true) := by
  refine QSpec.of_vc Try.func5 (ann := fun _ => noAnn) fun N hN => ?_
  refine vc_by (X :=
      true = true ∧
      ∃ (S' : Nat → Prop),
      (∀ (b : Nat), S' b → m.uf b ∧ (N ≤ b ∨ False)) ∧
      ∀ (n : Nat),
      N ≤ n →
      SpecW Try.prog (9 : Nat) [Value.slice a l.length cp] { π := m.π, sz := n, uf := m.uf : M } S' fun (v : Value) (m' : M) =>
      ∃ (a_2 : Option Addr),
      ∃ (n : Nat),
      ∃ (c : Nat),
      v = Value.slice a_2 n c ∧
      ∃ (S' : Nat → Prop),
      (∀ (b : Nat), S' b → m'.uf b ∧ (N ≤ b ∨ False)) ∧
      ∀ (n_1 : Nat),
      m'.sz ≤ n_1 →
      SpecW Try.prog (19 : Nat) [Value.slice aa z.length ca] { π := m'.π, sz := n_1, uf := m'.uf : M } S' fun (v : Value) (m' : M) =>
      ∃ (a_4 : Option Addr),
      ∃ (n_2 : Nat),
      ∃ (c_1 : Nat),
      v = Value.slice a_4 n_2 c_1 ∧
      ∃ (S' : Nat → Prop),
      (∀ (b : Nat), S' b → m'.uf b ∧ (N ≤ b ∨ False)) ∧
      ∀ (n_3 : Nat),
      m'.sz ≤ n_3 →
      SpecW Try.prog (20 : Nat) [Value.slice a_2 n c, Value.int IntKind.i64 g, Value.slice a_4 n_2 c_1, Value.int IntKind.i64 nd]
      { π := m'.π, sz := n_3, uf := m'.uf : M } S' fun (v : Value) (m' : M) =>
      ∃ (a_6 : Option Addr),
      ∃ (n_4 : Nat),
      ∃ (c_2 : Nat),
      ∃ (n_5 : Int),
      v = Value.tuple #[Value.slice a_6 n_4 c_2, Value.int IntKind.i64 n_5] ∧
      ∃ (S' : Nat → Prop),
      (∀ (b : Nat), S' b → m'.uf b ∧ (N ≤ b ∨ False)) ∧
      ∀ (n_6 : Nat),
      m'.sz ≤ n_6 →
      SpecW Try.prog (21 : Nat)
      [Value.slice a l.length cp, Value.int IntKind.i64 g, Value.slice aa z.length ca, Value.int IntKind.i64 nd]
      { π := m'.π, sz := n_6, uf := m'.uf : M } S' fun (v : Value) (m' : M) =>
      ∃ (a_8 : Option Addr),
      ∃ (n_7 : Nat),
      ∃ (c_3 : Nat),
      ∃ (n_8 : Int),
      v = Value.tuple #[Value.slice a_8 n_7 c_3, Value.int IntKind.i64 n_8] ∧
      ∃ (b : Bool),
      QSpec Try.prog (13 : Nat) [] m' (Value.bool b) ∧
      ifB b
      (∃ (b : Bool),
      QSpec Try.prog (15 : Nat) [Value.slice a_6 n_4 c_2, Value.slice a_8 n_7 c_3] m'
      (Value.bool b) ∧
      ifB b
      (ifB (n_5 == n_8)
      (∃ (b : Bool),
      QSpec Try.prog (18 : Nat) [Value.slice a_2 n c, Value.slice a l.length cp] m'
      (Value.bool b) ∧
      ifB b
      (∃ (b : Bool),
      QSpec Try.prog (22 : Nat) [Value.slice a_4 n_2 c_1, Value.slice aa z.length ca]
      m' (Value.bool b) ∧
      Done (Value.bool b = Value.bool true))
      (Done (Value.bool false = Value.bool true)))
      (Done (Value.bool false = Value.bool true)))
      (Done (Value.bool false = Value.bool true)))
      (Done (Value.bool false = Value.bool true))) (by kernel_rfl) ?_
  have hw : ∀ y ∈ z, y.x.wf := fun y hy => (hz y hy).1
  have R : Rs { m with sz := N } [(a, rts l)] := ⟨h.sz hN, trivial⟩
  have Z := hz2.sz hN
  have stp : ∀ {m m' : M} {N : Nat} {a : Option Addr} {z : List Ax}, AxR m a z → m.sz ≤ N → Agree N { m with sz := N } m' → AxR m' a z := fun h hN hag => (h.sz hN).agree hag
  refine ⟨rfl, _, noS, fun N1 hN1 => (own_s a cp l (by omega) _ ((R.sz hN1).1)).monoW fun v1 m1 ag1 q1 => ?_⟩
  obtain ⟨b1, e1, r1⟩ := q1
  refine ⟨_, _, _, e1, ?_⟩
  have R1 := Rs.cons r1 (Rs.step R hN1 ag1)
  have Z1 := stp Z hN1 ag1
  refine ⟨_, noS, fun N2 hN2 => (ccopies_s aa ca z hn (fun y hy => (hz y hy).2) _ (Z1.sz hN2)).monoW fun v2 m2 ag2 q2 => ?_⟩
  obtain ⟨a2, c2, z', e2, hm, r2⟩ := q2
  have hzl : z'.length = z.length := by have := congrArg List.length hm; simpa using this
  rw [← hzl] at e2
  refine ⟨_, _, _, e2, ?_⟩
  have R2 := Rs.step R1 hN2 ag2
  have Z2 := stp Z1 hN2 ag2
  have hw' := axs_wf hm hw
  refine ⟨_, noS, fun N3 hN3 => (ltrim_s _ _ l g nd a2 c2 z' (by omega) (by omega) hw' _ ((R2.sz hN3).1.take) (r2.sz hN3)).monoW fun v3 m3 ag3 q3 => ?_⟩
  obtain ⟨a3, c3, e3, r3⟩ := q3
  rw [trim_map hm] at e3 r3
  refine ⟨_, _, _, _, e3, ?_⟩
  have R3 := Rs.cons r3 (Rs.step R2 hN3 ag3)
  have Z3 := stp Z2 hN3 ag3
  have Y3 := stp r2 hN3 ag3
  refine ⟨_, noS, fun N4 hN4 => (rtrim_s _ _ l g nd aa ca z (by omega) (by omega) hw _ ((R3.sz hN4).2.2.1) (Z3.sz hN4)).monoW fun v4 m4 ag4 q4 => ?_⟩
  obtain ⟨a4, c4, e4, r4⟩ := q4
  refine ⟨_, _, _, _, e4, ?_⟩
  have R4 := Rs.cons r4 (Rs.step R3 hN4 ag4)
  have Z4 := stp Z3 hN4 ag4
  have Y4 := stp Y3 hN4 ag4
  have hl4 := trim_len l g nd z
  refine ⟨_, lawake_q _, ifB_true ⟨_, rt_plain _ _ _ _ _ _ (by omega) _ (R4.2.1) (R4.1), ?_⟩⟩
  rw [decide_eq_true (rfl : (trimE l g z nd).1 = (trimE l g z nd).1)]
  simp only [beq_self_eq_true]
  refine ifB_true (ifB_true ⟨_, kept_q b1 l a cp (by omega) _ (R4.2.2.1) (R4.2.2.2.1), ifB_true ⟨_, accounts_q a2 aa c2 ca z' z (by omega) hw' hw _ Y4 Z4, ⟨?_⟩⟩⟩)
  rw [decide_eq_true hm]

end Go.Proofs.Ytfkielfnceeedaa
set_option linter.unusedVariables false
set_option linter.unusedSimpArgs false
namespace Go.Proofs.Ytfkielfnceeedaa
open Go.Vc Go.RowKit Go.ChangeShapes
set_option maxRecDepth 100000

theorem capOf {H : Type} {enc : TypeId × Value → H} {P : Program} {W : World} {t e : TypeId} {a : Option Addr} {fuel n c k : Nat} {x : DataW H × List MemPlace} (hu : P.underlying t = some (.slice e))
    (hf : DataW.trod enc P W 0 (fun _ => true) true fuel t [.slice a n c] = some x) (hw : ∀ w ∈ x.1.weights P t, w ≤ reachBytes) (hk : k ≤ P.bytesOf e) : n ≤ c ∧ c * k ≤ 140737488351232 := by
  rcases DataW.trod_slice hu hf with ⟨h1, h2⟩ | ⟨a', len, cap, elems, rest, m, -, h1, h2, -, hl, -, hel, -, hsp, -⟩
  · simp at h1
    obtain ⟨-, rfl, rfl⟩ := h1
    simp
  · simp at h1
    obtain ⟨-, rfl, rfl⟩ := h1
    have hr := (hsp rfl).1
    have hd : x.1 = .slice (elems.map (·.1)) (rest.map (·.1)) := congrArg Prod.fst h2
    have := hw ((elems.length + rest.length) * P.bytesOf e) (by rw [hd]; simp [DataW.weights, hu])
    rw [hel, hr, show n + (c - n) = c by omega] at this
    exact ⟨hl, Nat.le_trans (Nat.mul_le_mul_left c hk) (by simpa [reachBytes] using this)⟩

theorem wall_mem {H : Type} {P : Program} {e : TypeId} {n : Nat} : ∀ {l : List (DataW H)} {x : DataW H}, x ∈ l → n ∈ x.weights P e → n ∈ DataW.weightsAll P e l
  | y :: l, x, hx, hn => by
    simp only [DataW.weightsAll, List.mem_append]
    rcases List.mem_cons.1 hx with rfl | hx
    · exact .inl hn
    · exact .inr (wall_mem hx hn)

/-- a list in a field of an element of a list that the form reads -/
theorem nestOf {H : Type} {enc : TypeId × Value → H} {P : Program} {W : World} {t e e2 : TypeId} {fs : Array Field} {j : Nat} {f : Field} {b o n c n2 c2 i k : Nat} {a2 : Option Addr} {r : List Value} {d : DataW H} {p : List MemPlace}
    (hu : P.underlying t = some (.slice e)) (hs : P.underlying e = some (.struct fs)) (hj : fs[j]? = some f) (he : P.underlying f.type = some (.slice e2))
    (h : DataW.Trod enc P W 0 (fun _ => true) true t (.slice (some ⟨b, o, none⟩) n c) d p) (hw : ∀ w ∈ d.weights P t, w ≤ reachBytes) (hi : i < n) (hr : r.length = P.cellsOf e)
    (hcell : CellsAt (M.all W) b (o + i * P.cellsOf e) r) (hc : (r.drop f.offset).take (P.cellsOf f.type) = [.slice a2 n2 c2]) (hk : k ≤ P.bytesOf e2) : n2 ≤ c2 ∧ c2 * k ≤ 140737488351232 := by
  obtain ⟨fuel, hf⟩ := h
  rcases DataW.trod_slice hu hf with ⟨h1, h2⟩ | ⟨a', len, cap, elems, rest, m, -, h1, h2, -, hl, -, hel, hall, -, -⟩
  · simp [Value.cells] at h1
  · simp [Value.cells] at h1
    obtain ⟨rfl, rfl, rfl⟩ := h1
    have h3 := hall i hi
    rw [List.getElem?_eq_getElem (by omega)] at h3
    obtain ⟨r', hr', ht⟩ := Option.bind_eq_some_iff.1 h3
    obtain ⟨-, h4, h5⟩ := World.cells?_some hr'
    have er : r' = r := by
      refine List.ext_getElem? fun q => ?_
      by_cases hq : q < r.length
      · rw [← h5 q (by omega), ← hcell.out q hq, add_add _ _ _ rfl]
        rfl
      · rw [List.getElem?_eq_none (by omega), List.getElem?_eq_none (by omega)]
    subst er
    obtain ⟨xs, n', -, hx, -, hsz, hel2⟩ := DataW.trod_struct hs ht
    have h6 := hel2 j f hj
    rw [hc] at h6
    have hjs : j < fs.size := (Array.getElem?_eq_some_iff.1 hj).1
    rw [List.getElem?_eq_getElem (by omega)] at h6
    refine capOf he h6 (fun w hw' => hw w ?_) hk
    have hd : d = .slice (elems.map (·.1)) (rest.map (·.1)) := congrArg Prod.fst h2
    have he1 : (elems[i]'(by omega)).1 = .agg (xs.map (·.1)) := congrArg Prod.fst hx
    have hm : w ∈ (elems[i]'(by omega)).1.weights P e := by
      rw [he1]
      have ht2 : (fs.toList.map (·.type))[j]? = some f.type := by simp [hj]
      have := DataW.weights_mem_each (P := P) ht2 (show (xs.map (·.1))[j]? = some (xs[j]'(by omega)).1 by simp [List.getElem?_eq_getElem (show j < xs.length by omega)]) w hw'
      simpa [DataW.weights, hs] using this
    rw [hd]
    simp only [DataW.weights, hu, List.mem_cons, List.mem_append]
    exact .inr (.inl (wall_mem (List.mem_map.2 ⟨_, List.getElem_mem _, rfl⟩) hm))

/-- the holders of accounts that the form reads -/
theorem axs_sized {H : Type} {enc : TypeId × Value → H} {W : World} {a : Option Addr} {c : Nat} {z : List Ax} {d : DataW H} {p : List MemPlace}
    (h : DataW.Trod enc Try.prog W 0 (fun _ => true) true 35 (.slice a z.length c) d p) (hw : ∀ w ∈ d.weights Try.prog 35, w ≤ reachBytes)
    (hz : ∀ y ∈ z, y.x.wf) (hr : AxR (M.all W) a z) : ∀ y ∈ z, y.x.wf ∧ y.x.hs.length ≤ 4398046511000 := fun y hy => by
  refine ⟨hz y hy, ?_⟩
  obtain ⟨i, hi, rfl⟩ := List.mem_iff_getElem.1 hy
  obtain ⟨b, o, rfl, hc⟩ := hr.row.cells (by rw [axs_len]; omega)
  have q := nestOf (j := 4) (k := 32) Try.underlying35 Try.underlying46 rfl Try.underlying42 h hw hi (r := encAx z[i]) (by kernel_rfl) (by have := ax_at hc hi; exact this) rfl (of_decide_eq_true (by kernel_rfl))
  omega

end Go.Proofs.Ytfkielfnceeedaa
