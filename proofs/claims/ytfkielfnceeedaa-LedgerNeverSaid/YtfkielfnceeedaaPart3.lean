/-
  Contracts of functions of this seat: what each hands back, and what it leaves of memory (led8, acc14, ins_hd, bs_hd, acc15, acc16, acc18, acc19, acc20, acc21, acc22, led9, nev1, nev2, nev3, nev4). Nothing here is trusted: Lean checks it.
-/
import Derived.Test.YtfkielfnceeedaaPart2
import Derived.Test.YtfkielfnceeedaaVcList
import Derived.Test.YtfkielfnceeedaaVcOver
set_option linter.unusedVariables false
set_option linter.unusedSimpArgs false
namespace Go.Proofs.Ytfkielfnceeedaa
open Go.Vc Go.RowKit
set_option maxRecDepth 100000

theorem bplain_q (m : M) : QSpec Try.prog 85 [.slice none 0 0, .slice none 0 0] m (.bool true) := by
  refine QSpec.of_vc Try.func85 (ann := fun n _ => { A := Nat, inv := fun k => k = 0, st := fun _ => [(5, .val (I 0)), (0, .val (.slice none 0 0)), (1, .val (.slice none 0 0))], own := fun _ => [], m := fun _ => { m with sz := n }, μ := fun _ => 0 }) fun n hn => ?_
  refine vc_by (X :=
      true = true ∧
      (∃ (a : Nat),
      a = (0 : Nat) ∧
      { π := m.π, sz := n, uf := m.uf : M } = { π := m.π, sz := n, uf := m.uf : M } ∧
      ((SV.val (Value.int IntKind.i64 (0 : Int)) = SV.val (Value.int IntKind.i64 (0 : Int)) ∧ true = true) ∧
      (SV.val (Value.slice none (0 : Nat) (0 : Nat)) = SV.val (Value.slice none (0 : Nat) (0 : Nat)) ∧ true = true) ∧
      (SV.val (Value.slice none (0 : Nat) (0 : Nat)) = SV.val (Value.slice none (0 : Nat) (0 : Nat)) ∧ true = true) ∧ True) ∧
      True) ∧
      ∀ (a : Nat), a = (0 : Nat) → Done (Value.bool true = Value.bool true)) (by kernel_rfl) ?_
  exact ⟨rfl, ⟨0, by simp⟩, fun _ _ => ⟨rfl⟩⟩

theorem bytes_q (m : M) : QSpec Try.prog 65 [.slice none 0 0, .slice none 0 0] m (.bool true) := by
  refine QSpec.of_vc Try.func65 (ann := fun _ => noAnn) fun n hn => ?_
  refine vc_by (X :=
      true = true ∧
      ∃ (b : Bool),
      QSpec Try.prog (85 : Nat) [Value.slice none (0 : Nat) (0 : Nat), Value.slice none (0 : Nat) (0 : Nat)] { π := m.π, sz := n, uf := m.uf : M } (Value.bool b) ∧
      Done (Value.bool b = Value.bool true)) (by kernel_rfl) ?_
  exact ⟨rfl, _, bplain_q _, ⟨rfl⟩⟩

theorem command_q (c : Cm) (m : M) : QSpec Try.prog 30 [cmv c, cmv c] m (.bool true) := by
  refine QSpec.of_vc Try.func30 (ann := fun _ => noAnn) fun n hn => ?_
  refine vc_by (X :=
      true = true ∧
      ifB (c.k == c.k)
      (ifB (c.nd == c.nd)
      (ifB (c.ky.toList == c.ky.toList)
      (ifB (c.le == c.le)
      (ifB (c.ro == c.ro)
      (ifB (c.ne == c.ne)
      (∃ (b : Bool),
      QSpec Try.prog (65 : Nat) [Value.slice none (0 : Nat) (0 : Nat), Value.slice none (0 : Nat) (0 : Nat)] { π := m.π, sz := n, uf := m.uf : M } (Value.bool b) ∧
      Done (Value.bool b = Value.bool true))
      (Done (Value.bool false = Value.bool true)))
      (Done (Value.bool false = Value.bool true)))
      (Done (Value.bool false = Value.bool true)))
      (Done (Value.bool false = Value.bool true)))
      (Done (Value.bool false = Value.bool true)))
      (Done (Value.bool false = Value.bool true))) (by kernel_rfl) ?_
  simp only [bne_self_eq_false, beq_self_eq_true, Bool.not_true, Bool.not_false, Bool.and_self, Bool.and_true, decide_true]
  exact ⟨by trivial, ifB_true (ifB_true (ifB_true (ifB_true (ifB_true (ifB_true ⟨_, bytes_q _, ⟨rfl⟩⟩)))))⟩

set_option maxHeartbeats 1000000 in
theorem ledgerspends (al : Option Addr) (cl : Nat) (l : List Rt) (g : Int) (x : Ac) (a : Option Addr) (c : Nat) (nd n : Int) (hl : l.length ≤ 1048576) (hlw : ∀ r ∈ l, r.wf) (hx : x.wf) (hxl : x.hs.length ≤ 1048576) (hn : In64 n) (m : M) (h1 : Row m al (rts l)) (h2 : Row m a (hds x.hs)) :
    QSpec Try.prog 6 [.slice al l.length cl, I g, acv x a c, I nd, I n] m (.bool true) := by
  refine QSpec.of_vc Try.func6 (ann := fun _ => noAnn) fun N hN => ?_
  refine vc_by (X :=
      true = true ∧
      ∃ (S' : Nat → Prop),
      (∀ (b : Nat), S' b → m.uf b ∧ (N ≤ b ∨ False)) ∧
      ∀ (n_1 : Nat),
      N ≤ n_1 →
      SpecW Try.prog (9 : Nat) [Value.slice al l.length cl] { π := m.π, sz := n_1, uf := m.uf : M } S' fun (v : Value) (m' : M) =>
      ∃ (a_2 : Option Addr),
      ∃ (n_2 : Nat),
      ∃ (c_1 : Nat),
      v = Value.slice a_2 n_2 c_1 ∧
      ∀ (n_3 : Nat),
      m'.sz ≤ n_3 →
      Vc.Spec Try.prog (23 : Nat)
      [Value.agg
      #[Value.string x.key, Value.int IntKind.i64 x.lo, Value.int IntKind.i64 x.hi, Value.int IntKind.i64 x.base, Value.int IntKind.i64 x.round,
      Value.slice a x.hs.length c, Value.int IntKind.i64 x.lk.cl, Value.int IntKind.i64 x.lk.sq, Value.int IntKind.i64 x.lk.hm,
      Value.int IntKind.i64 x.lk.n]]
      { π := m'.π, sz := n_3, uf := m'.uf : M } fun (v : Value) (m' : M) =>
      ∃ (s : ByteArray),
      ∃ (n_4 : Int),
      ∃ (n_5 : Int),
      ∃ (n_6 : Int),
      ∃ (n_7 : Int),
      ∃ (a_4 : Option Addr),
      ∃ (n_8 : Nat),
      ∃ (c_2 : Nat),
      ∃ (n_9 : Int),
      ∃ (n_10 : Int),
      ∃ (n_11 : Int),
      ∃ (n_12 : Int),
      v =
      Value.agg
      #[Value.string s, Value.int IntKind.i64 n_4, Value.int IntKind.i64 n_5, Value.int IntKind.i64 n_6,
      Value.int IntKind.i64 n_7, Value.slice a_4 n_8 c_2, Value.int IntKind.i64 n_9, Value.int IntKind.i64 n_10,
      Value.int IntKind.i64 n_11, Value.int IntKind.i64 n_12] ∧
      ∃ (n_13 : Int),
      ∃ (s_1 : ByteArray),
      ∃ (n_14 : Int),
      ∃ (n_15 : Int),
      ∃ (n_16 : Int),
      QSpec Try.prog (24 : Nat)
      [Value.slice a_2 n_2 c_1, Value.int IntKind.i64 g,
      Value.agg
      #[Value.string s, Value.int IntKind.i64 n_4, Value.int IntKind.i64 n_5, Value.int IntKind.i64 n_6,
      Value.int IntKind.i64 n_7, Value.slice a_4 n_8 c_2, Value.int IntKind.i64 n_9, Value.int IntKind.i64 n_10,
      Value.int IntKind.i64 n_11, Value.int IntKind.i64 n_12],
      Value.int IntKind.i64 nd, Value.int IntKind.i64 n]
      m'
      (Value.tuple
      #[Value.agg
      #[Value.int IntKind.i64 n_13, Value.string s_1, Value.int IntKind.i64 n_14, Value.int IntKind.i64 n_15],
      Value.int IntKind.i64 n_16]) ∧
      ∃ (n_17 : Int),
      ∃ (s_2 : ByteArray),
      ∃ (n_18 : Int),
      ∃ (n_19 : Int),
      ∃ (n_20 : Int),
      QSpec Try.prog (25 : Nat)
      [Value.slice al l.length cl, Value.int IntKind.i64 g,
      Value.agg
      #[Value.string x.key, Value.int IntKind.i64 x.lo, Value.int IntKind.i64 x.hi,
      Value.int IntKind.i64 x.base, Value.int IntKind.i64 x.round, Value.slice a x.hs.length c,
      Value.int IntKind.i64 x.lk.cl, Value.int IntKind.i64 x.lk.sq, Value.int IntKind.i64 x.lk.hm,
      Value.int IntKind.i64 x.lk.n],
      Value.int IntKind.i64 nd, Value.int IntKind.i64 n]
      m'
      (Value.tuple
      #[Value.agg
      #[Value.int IntKind.i64 n_17, Value.string s_2, Value.int IntKind.i64 n_18,
      Value.int IntKind.i64 n_19],
      Value.int IntKind.i64 n_20]) ∧
      ∃ (n : Int),
      ∃ (n_21 : Int),
      ∃ (n_22 : Int),
      QSpec Try.prog (26 : Nat)
      [Value.slice a_2 n_2 c_1, Value.int IntKind.i64 g,
      Value.agg
      #[Value.string s, Value.int IntKind.i64 n_4, Value.int IntKind.i64 n_5,
      Value.int IntKind.i64 n_6, Value.int IntKind.i64 n_7, Value.slice a_4 n_8 c_2,
      Value.int IntKind.i64 n_9, Value.int IntKind.i64 n_10, Value.int IntKind.i64 n_11,
      Value.int IntKind.i64 n_12],
      Value.int IntKind.i64 nd]
      m'
      (Value.tuple
      #[Value.int IntKind.i64 n, Value.int IntKind.i64 n_21, Value.int IntKind.i64 n_22]) ∧
      ∃ (n_23 : Int),
      ∃ (n_24 : Int),
      ∃ (n_25 : Int),
      QSpec Try.prog (27 : Nat)
      [Value.slice al l.length cl, Value.int IntKind.i64 g,
      Value.agg
      #[Value.string x.key, Value.int IntKind.i64 x.lo, Value.int IntKind.i64 x.hi,
      Value.int IntKind.i64 x.base, Value.int IntKind.i64 x.round,
      Value.slice a x.hs.length c, Value.int IntKind.i64 x.lk.cl,
      Value.int IntKind.i64 x.lk.sq, Value.int IntKind.i64 x.lk.hm,
      Value.int IntKind.i64 x.lk.n],
      Value.int IntKind.i64 nd]
      m'
      (Value.tuple
      #[Value.int IntKind.i64 n_23, Value.int IntKind.i64 n_24,
      Value.int IntKind.i64 n_25]) ∧
      ∃ (S' : Nat → Prop),
      (∀ (b : Nat), S' b → m'.uf b ∧ (N ≤ b ∨ False)) ∧
      ∀ (n_26 : Nat),
      m'.sz ≤ n_26 →
      SpecW Try.prog (28 : Nat)
      [Value.slice a_2 n_2 c_1, Value.int IntKind.i64 g,
      Value.agg
      #[Value.string s, Value.int IntKind.i64 n_4, Value.int IntKind.i64 n_5,
      Value.int IntKind.i64 n_6, Value.int IntKind.i64 n_7,
      Value.slice a_4 n_8 c_2, Value.int IntKind.i64 n_9,
      Value.int IntKind.i64 n_10, Value.int IntKind.i64 n_11,
      Value.int IntKind.i64 n_12],
      Value.int IntKind.i64 nd]
      { π := m'.π, sz := n_26, uf := m'.uf : M } S' fun (v : Value) (m' : M) =>
      ∃ (n_27 : Int),
      ∃ (n_28 : Int),
      ∃ (n_29 : Int),
      ∃ (n_30 : Int),
      ∃ (n_31 : Int),
      ∃ (n_32 : Int),
      ∃ (s_3 : ByteArray),
      ∃ (n_33 : Int),
      ∃ (n_34 : Int),
      ∃ (n_35 : Int),
      ∃ (b : Bool),
      ∃ (n_36 : Int),
      ∃ (s_4 : ByteArray),
      ∃ (s_5 : ByteArray),
      ∃ (n_37 : Int),
      ∃ (n_38 : Int),
      ∃ (n_39 : Int),
      ∃ (n_40 : Int),
      ∃ (n_41 : Int),
      ∃ (n_42 : Int),
      ∃ (s_6 : ByteArray),
      ∃ (s_7 : ByteArray),
      ∃ (n_43 : Int),
      ∃ (n_44 : Int),
      ∃ (a_6 : Option Addr),
      ∃ (n_45 : Nat),
      ∃ (c_3 : Nat),
      ∃ (b_1 : Bool),
      v =
      Value.tuple
      #[Value.agg
      #[Value.int
      IntKind.i64
      n_27,
      Value.int
      IntKind.i64
      n_28,
      Value.int
      IntKind.i64
      n_29,
      Value.int
      IntKind.i64
      n_30,
      Value.int
      IntKind.i64
      n_31,
      Value.int
      IntKind.i64
      n_32,
      Value.string
      s_3,
      Value.int
      IntKind.i64
      n_33,
      Value.int
      IntKind.i64
      n_34,
      Value.int
      IntKind.i64
      n_35,
      Value.bool
      b,
      Value.int
      IntKind.i64
      n_36,
      Value.string
      s_4,
      Value.string
      s_5,
      Value.int
      IntKind.i64
      n_37,
      Value.int
      IntKind.i64
      n_38,
      Value.int
      IntKind.i64
      n_39,
      Value.int
      IntKind.i64
      n_40,
      Value.int
      IntKind.i64
      n_41,
      Value.int
      IntKind.i64
      n_42,
      Value.string
      s_6,
      Value.string
      s_7,
      Value.int
      IntKind.i64
      n_43,
      Value.int
      IntKind.i64
      n_44,
      Value.slice
      a_6 n_45
      c_3],
      Value.bool
      b_1] ∧
      ∃ (S' : Nat → Prop),
      (∀ (b : Nat),
      S' b →
      m'.uf b ∧
      (N ≤ b ∨
      False)) ∧
      ∀ (n_46 : Nat),
      m'.sz ≤ n_46 →
      SpecW
      Try.prog
      (29 : Nat)
      [Value.slice
      al
      l.length
      cl,
      Value.int
      IntKind.i64
      g,
      Value.agg
      #[Value.string
      x.key,
      Value.int
      IntKind.i64
      x.lo,
      Value.int
      IntKind.i64
      x.hi,
      Value.int
      IntKind.i64
      x.base,
      Value.int
      IntKind.i64
      x.round,
      Value.slice
      a
      x.hs.length
      c,
      Value.int
      IntKind.i64
      x.lk.cl,
      Value.int
      IntKind.i64
      x.lk.sq,
      Value.int
      IntKind.i64
      x.lk.hm,
      Value.int
      IntKind.i64
      x.lk.n],
      Value.int
      IntKind.i64
      nd]
      { π := m'.π, sz := n_46, uf := m'.uf : M }
      S'
      fun
      (v :
      Value)
      (m' :
      M) =>
      ∃ (n_47 :
      Int),
      ∃ (n_48
      :
      Int),
      ∃
      (n_49
      :
      Int),
      ∃
      (n_50
      :
      Int),
      ∃
      (n_51
      :
      Int),
      ∃
      (n_52
      :
      Int),
      ∃
      (s_8
      :
      ByteArray),
      ∃
      (n_53
      :
      Int),
      ∃
      (n_54
      :
      Int),
      ∃
      (n_55
      :
      Int),
      ∃
      (b_2
      :
      Bool),
      ∃
      (n_56
      :
      Int),
      ∃
      (s_9
      :
      ByteArray),
      ∃
      (s_10
      :
      ByteArray),
      ∃
      (n_57
      :
      Int),
      ∃
      (n_58
      :
      Int),
      ∃
      (n_59
      :
      Int),
      ∃
      (n_60
      :
      Int),
      ∃
      (n_61
      :
      Int),
      ∃
      (n_62
      :
      Int),
      ∃
      (s_11
      :
      ByteArray),
      ∃
      (s_12
      :
      ByteArray),
      ∃
      (n_63
      :
      Int),
      ∃
      (n_64
      :
      Int),
      ∃
      (a_8
      :
      Option
      Addr),
      ∃
      (n_65
      :
      Nat),
      ∃
      (c_4
      :
      Nat),
      ∃
      (b_3
      :
      Bool),
      v =
      Value.tuple
      #[Value.agg
      #[Value.int
      IntKind.i64
      n_47,
      Value.int
      IntKind.i64
      n_48,
      Value.int
      IntKind.i64
      n_49,
      Value.int
      IntKind.i64
      n_50,
      Value.int
      IntKind.i64
      n_51,
      Value.int
      IntKind.i64
      n_52,
      Value.string
      s_8,
      Value.int
      IntKind.i64
      n_53,
      Value.int
      IntKind.i64
      n_54,
      Value.int
      IntKind.i64
      n_55,
      Value.bool
      b_2,
      Value.int
      IntKind.i64
      n_56,
      Value.string
      s_9,
      Value.string
      s_10,
      Value.int
      IntKind.i64
      n_57,
      Value.int
      IntKind.i64
      n_58,
      Value.int
      IntKind.i64
      n_59,
      Value.int
      IntKind.i64
      n_60,
      Value.int
      IntKind.i64
      n_61,
      Value.int
      IntKind.i64
      n_62,
      Value.string
      s_11,
      Value.string
      s_12,
      Value.int
      IntKind.i64
      n_63,
      Value.int
      IntKind.i64
      n_64,
      Value.slice
      a_8
      n_65
      c_4],
      Value.bool
      b_3] ∧
      ∃
      (b_4
      :
      Bool),
      QSpec
      Try.prog
      (13 :
      Nat)
      []
      m'
      (Value.bool
      b_4) ∧
      ifB
      b_4
      (ifB
      (n_13 ==
      n_17 &&
      (s_1.toList ==
      s_2.toList &&
      (n_14 ==
      n_18 &&
      (n_15 ==
      n_19 &&
      true))))
      (ifB
      (n_16 ==
      n_20)
      (ifB
      (n ==
      n_23)
      (ifB
      (n_21 ==
      n_24)
      (ifB
      (n_22 ==
      n_25)
      (∃
      (b_5
      :
      Bool),
      QSpec
      Try.prog
      (30 :
      Nat)
      [Value.agg
      #[Value.int
      IntKind.i64
      n_27,
      Value.int
      IntKind.i64
      n_28,
      Value.int
      IntKind.i64
      n_29,
      Value.int
      IntKind.i64
      n_30,
      Value.int
      IntKind.i64
      n_31,
      Value.int
      IntKind.i64
      n_32,
      Value.string
      s_3,
      Value.int
      IntKind.i64
      n_33,
      Value.int
      IntKind.i64
      n_34,
      Value.int
      IntKind.i64
      n_35,
      Value.bool
      b,
      Value.int
      IntKind.i64
      n_36,
      Value.string
      s_4,
      Value.string
      s_5,
      Value.int
      IntKind.i64
      n_37,
      Value.int
      IntKind.i64
      n_38,
      Value.int
      IntKind.i64
      n_39,
      Value.int
      IntKind.i64
      n_40,
      Value.int
      IntKind.i64
      n_41,
      Value.int
      IntKind.i64
      n_42,
      Value.string
      s_6,
      Value.string
      s_7,
      Value.int
      IntKind.i64
      n_43,
      Value.int
      IntKind.i64
      n_44,
      Value.slice
      a_6
      n_45
      c_3],
      Value.agg
      #[Value.int
      IntKind.i64
      n_47,
      Value.int
      IntKind.i64
      n_48,
      Value.int
      IntKind.i64
      n_49,
      Value.int
      IntKind.i64
      n_50,
      Value.int
      IntKind.i64
      n_51,
      Value.int
      IntKind.i64
      n_52,
      Value.string
      s_8,
      Value.int
      IntKind.i64
      n_53,
      Value.int
      IntKind.i64
      n_54,
      Value.int
      IntKind.i64
      n_55,
      Value.bool
      b_2,
      Value.int
      IntKind.i64
      n_56,
      Value.string
      s_9,
      Value.string
      s_10,
      Value.int
      IntKind.i64
      n_57,
      Value.int
      IntKind.i64
      n_58,
      Value.int
      IntKind.i64
      n_59,
      Value.int
      IntKind.i64
      n_60,
      Value.int
      IntKind.i64
      n_61,
      Value.int
      IntKind.i64
      n_62,
      Value.string
      s_11,
      Value.string
      s_12,
      Value.int
      IntKind.i64
      n_63,
      Value.int
      IntKind.i64
      n_64,
      Value.slice
      a_8
      n_65
      c_4]]
      m'
      (Value.bool
      b_5) ∧
      ifB
      b_5
      (ifB
      (b_1 ==
      b_3)
      (∃
      (b
      :
      Bool),
      QSpec
      Try.prog
      (18 :
      Nat)
      [Value.slice
      a_2
      n_2
      c_1,
      Value.slice
      al
      l.length
      cl]
      m'
      (Value.bool
      b) ∧
      ifB
      b
      (∃
      (b
      :
      Bool),
      QSpec
      Try.prog
      (31 :
      Nat)
      [Value.agg
      #[Value.string
      s,
      Value.int
      IntKind.i64
      n_4,
      Value.int
      IntKind.i64
      n_5,
      Value.int
      IntKind.i64
      n_6,
      Value.int
      IntKind.i64
      n_7,
      Value.slice
      a_4
      n_8
      c_2,
      Value.int
      IntKind.i64
      n_9,
      Value.int
      IntKind.i64
      n_10,
      Value.int
      IntKind.i64
      n_11,
      Value.int
      IntKind.i64
      n_12],
      Value.agg
      #[Value.string
      x.key,
      Value.int
      IntKind.i64
      x.lo,
      Value.int
      IntKind.i64
      x.hi,
      Value.int
      IntKind.i64
      x.base,
      Value.int
      IntKind.i64
      x.round,
      Value.slice
      a
      x.hs.length
      c,
      Value.int
      IntKind.i64
      x.lk.cl,
      Value.int
      IntKind.i64
      x.lk.sq,
      Value.int
      IntKind.i64
      x.lk.hm,
      Value.int
      IntKind.i64
      x.lk.n]]
      m'
      (Value.bool
      b) ∧
      Done
      (Value.bool
      b =
      Value.bool
      true))
      (Done
      (Value.bool
      false =
      Value.bool
      true)))
      (Done
      (Value.bool
      false =
      Value.bool
      true)))
      (Done
      (Value.bool
      false =
      Value.bool
      true)))
      (Done
      (Value.bool
      false =
      Value.bool
      true)))
      (Done
      (Value.bool
      false =
      Value.bool
      true)))
      (Done
      (Value.bool
      false =
      Value.bool
      true)))
      (Done
      (Value.bool
      false =
      Value.bool
      true)))
      (Done
      (Value.bool
      false =
      Value.bool
      true)))
      (Done
      (Value.bool
      false =
      Value.bool
      true))) (by kernel_rfl) ?_
  have R : Rs { m with sz := N } [(al, rts l), (a, hds x.hs)] := ⟨h1.sz hN, h2.sz hN, trivial⟩
  refine ⟨rfl, ?_⟩
  refine ⟨_, noS, fun N1 hN1 => (own_s al cl l (by omega) _ ((R.sz hN1).1)).monoW fun v1 m1 ag1 q1 => ?_⟩
  obtain ⟨b1, e1, r1⟩ := q1
  refine ⟨_, _, _, e1, ?_⟩
  have R1 := Rs.cons r1 (Rs.step R hN1 ag1)
  refine fun N2 hN2 => (ccopy_q x a c hxl _ ((R1.sz hN2).2.2.1)).mono fun v2 m2 ag2 q2 => ?_
  obtain ⟨a3, c3, e2, r2⟩ := q2
  refine ⟨_, _, _, _, _, _, _, _, _, _, _, _, e2, ?_⟩
  have R2 := Rs.cons r2.row (Rs.step R1 hN2 ag2)
  refine ⟨_, _, _, _, _, lspend_q _ _ l g x a3 c3 nd n (by omega) hlw hx hn _ (R2.2.1.take) (R2.1), _, _, _, _, _, rspend_q _ _ l g x a c nd n (by omega) hlw hx hn _ (R2.2.2.1) (R2.2.2.2.1), ?_⟩
  refine ⟨_, _, _, lbracket_q _ _ l g x a3 c3 nd (by omega) hlw hx _ (R2.2.1.take) (R2.1), _, _, _, rbracket_q _ _ l g x a c nd (by omega) hlw hx _ (R2.2.2.1) (R2.2.2.2.1), ?_⟩
  refine ⟨_, noS, fun N3 hN3 => ((lreport_q _ _ l g x a3 c3 nd (by omega) hx _ ((R2.sz hN3).2.1.take) ((R2.sz hN3).1)).spec).monoW fun v3 m3 ag3 q3 => ?_⟩
  refine ⟨_, _, _, _, _, _, _, _, _, _, _, _, _, _, _, _, _, _, _, _, _, _, _, _, _, _, _, _, q3.1, ?_⟩
  have R3 := Rs.step R2 hN3 ag3
  refine ⟨_, noS, fun N4 hN4 => ((rreport_q _ _ l g x a c nd (by omega) hx _ ((R3.sz hN4).2.2.1) ((R3.sz hN4).2.2.2.1)).spec).monoW fun v4 m4 ag4 q4 => ?_⟩
  refine ⟨_, _, _, _, _, _, _, _, _, _, _, _, _, _, _, _, _, _, _, _, _, _, _, _, _, _, _, _, q4.1, ?_⟩
  have R4 := Rs.step R3 hN4 ag4
  refine ⟨_, lawake_q _, ifB_true ?_⟩
  simp only [bne_self_eq_false, beq_self_eq_true, Bool.not_true, Bool.not_false, Bool.and_self, Bool.and_true, decide_true]
  refine ifB_true (ifB_true (ifB_true (ifB_true (ifB_true ⟨_, command_q _ _, ifB_true (ifB_true ?_)⟩))))
  refine ⟨_, kept_q b1 l al cl (by omega) _ (R4.2.1) (R4.2.2.1), ifB_true ⟨_, saccount_q x x a3 a c3 c hx hx _ (R4.1) (R4.2.2.2.1), ⟨by simp⟩⟩⟩

end Go.Proofs.Ytfkielfnceeedaa
set_option linter.unusedVariables false
set_option linter.unusedSimpArgs false
namespace Go.Proofs.Ytfkielfnceeedaa
open Go.Vc Go.RowKit
set_option maxRecDepth 100000

def netOf (h : Hd) (ns : List Int) (i : Nat) : Int := match ns[i]? with | some v => max (-h.dn) (min v h.up) | none => 0

def netsSum (hs : List Hd) (ns : List Int) : Nat → Int
  | 0 => 0
  | k + 1 => netsSum hs ns k + (match hs[k]? with | some h => netOf h ns k | none => 0)

def rndA (x : Ac) (R : Int) (ns : List Int) (k : Nat) : Ac := { x with round := R, base := x.base + netsSum x.hs ns k, hs := x.hs.drop k }

structure RndX where
  k : Nat
  a : Option Addr
  c : Nat
  m : M

structure RndI (x : Ac) (R : Int) (ns : List Int) (m : M) (y : RndX) : Prop where
  k : y.k ≤ x.hs.length
  right : rightB (rndA x R ns y.k) = true
  wf : (rndA x R ns y.k).wf
  own : NewR m.sz (fun _ => False) y.m 4 y.a (x.hs.drop y.k).length y.c (hds (x.hs.drop y.k))
  ag : Agree m.sz m y.m

def rndR (x : Ac) (r : Int) : Int := if x.round = 0 then r else x.round

def hAt (x : Ac) (k : Nat) : Hd := (x.hs[k]?).getD hd0

def rndAnn (x : Ac) (a : Option Addr) (c : Nat) (an : Option Addr) (cn : Nat) (ns : List Int) (R : Int) (m : M) : Ann := {
    A := RndX
    inv := RndI x R ns m
    st := fun y => [(10, .val (I y.k)), (3, .own 0 0), (2, .val (.slice an ns.length cn)), (7, .own 10 0), (9, .own 19 0)]
    own := fun y => [(0, ⟨46, acc x a c⟩), (10, ⟨46, acc (rndA x R ns y.k) y.a y.c⟩), (19, ⟨108, [I (wideHi (rndA x R ns y.k).base), U (wideLo (rndA x R ns y.k).base)]⟩)]
    m := fun y => y.m
    μ := fun y => x.hs.length - y.k }

theorem aFreeze_ok {x : Ac} {r : Int} (h : (aFreeze x r).2 = 0) : rightB x = true ∧ 1 ≤ r ∧ r ≤ 4611686018427387904 ∧ aFreeze x r = ({ x with round := rndR x r }, 0) := by
  unfold aFreeze at h ⊢
  split at h
  · simp at h
  split at h
  · simp at h
  rename_i h1 h2
  refine ⟨by simpa using h1, by omega, by omega, by simp only [h1, h2, if_false, rndR]; simp⟩

theorem aFreeze_err {x : Ac} {r : Int} (h : (aFreeze x r).2 ≠ 0) : aFreeze x r = (ac0, (aFreeze x r).2) := by
  unfold aFreeze at h ⊢
  repeat' split
  all_goals simp_all

theorem round_right {x : Ac} {r : Int} (hx : x.wf) (hr : rightB x = true) (h : 0 ≤ r) (h2 : In64 r) : rightB { x with round := r } = true ∧ ({ x with round := r } : Ac).wf := by
  have hp := (right_iff x).1 hr
  refine ⟨(right_iff _).2 ⟨hp.key, hp.has, h, hp.hold, hp.up, hp.dn, ?_⟩, ⟨hx.key, hx.lo, hx.hi, hx.base, h2, hx.hs, hx.len, hx.lk⟩⟩
  have := hp.lock
  simp only [lockB, fitsB] at this ⊢
  exact this

theorem rnd_zero (x : Ac) (R : Int) (ns : List Int) : rndA x R ns 0 = { x with round := R } := by simp [rndA, netsSum]

theorem find_head {x : Ac} {h : Hd} {r : List Hd} (hr : rightB x = true) (he : x.hs = h :: r) : findB x h.nd = true ∧ findH x h.nd = h := by
  simp [findB, findH, hr, he, fndH]

theorem find_gone {x : Ac} {nd : Int} (hr : holdB nd x.hs = true) : findB x nd = false := by
  have : fndH x.hs nd = none := by
    unfold fndH
    rw [List.find?_eq_none]
    intro z hz
    have := hold_mem _ _ hr z hz
    simp; omega
  simp [findB, this]

theorem rnd_step {x : Ac} {R : Int} {ns : List Int} {k : Nat} (hk : k < x.hs.length) (hr : rightB (rndA x R ns k) = true) (hw : (rndA x R ns k).wf) (hR : R ≠ 0) :
    (∀ q, q ≠ R → aReport (rndA x R ns k) (hAt x k).nd (hAt x k).le q (netOf (hAt x k) ns k) = (ac0, 152)) ∧
    aReport (rndA x R ns k) (hAt x k).nd (hAt x k).le R (netOf (hAt x k) ns k) = (rndA x R ns (k + 1), 0) ∧
    aReport (rndA x R ns (k + 1)) (hAt x k).nd (hAt x k).le R (netOf (hAt x k) ns k) = (ac0, 151) ∧
    rightB (rndA x R ns (k + 1)) = true ∧ (rndA x R ns (k + 1)).wf ∧ In64 (netOf (hAt x k) ns k) := by
  have eh : hAt x k = x.hs[k] := by simp [hAt, List.getElem?_eq_getElem hk]
  have ehs : (rndA x R ns k).hs = hAt x k :: x.hs.drop (k + 1) := by rw [eh]; exact List.drop_eq_getElem_cons hk
  obtain ⟨f1, f2⟩ := find_head hr ehs
  have hm : hAt x k ∈ (rndA x R ns k).hs := by rw [ehs]; simp
  have hroom := hold_room hr hm
  have hhold := ((right_iff _).1 hr).hold
  rw [ehs] at hhold
  have hnet : netOf (hAt x k) ns k ≤ (hAt x k).up ∧ -(hAt x k).dn ≤ netOf (hAt x k) ns k := by
    unfold netOf
    split <;> omega
  have ecut : ({ rndA x R ns k with base := (rndA x R ns k).base + netOf (hAt x k) ns k, hs := (rndA x R ns k).hs.filter fun z => decide (z.nd ≠ (hAt x k).nd) } : Ac) = rndA x R ns (k + 1) := by
    rw [ehs, hold_cut hhold]
    simp only [rndA, netsSum, eh, List.getElem?_eq_getElem hk]
    simp; omega
  have hcut := cut_right hw hr hm hnet.1 hnet.2
  rw [ecut] at hcut
  have hwf := hw.hs _ hm
  refine ⟨fun q hq => ?_, ?_, ?_, hcut.1, hcut.2, ?_⟩
  · have hq' : (rndA x R ns k).round ≠ q := fun e => hq e.symm
    simp [aReport, hr, f1, f2, hq']
  · have hr1 : (rndA x R ns k).round = R := rfl
    have hnb : ¬ ((hAt x k).up < netOf (hAt x k) ns k ∨ netOf (hAt x k) ns k < -(hAt x k).dn) := by omega
    rw [← ecut]
    simp only [aReport, hr, f1, f2, hr1, hnb, hR]
    simp
  · have : findB (rndA x R ns (k + 1)) (hAt x k).nd = false := find_gone (by
      simp only [holdB, Bool.and_eq_true] at hhold
      exact hhold.2)
    simp [aReport, hcut.1, this]
  · unfold In64
    have h1 := hwf.2.2.1
    have h2 := hwf.2.2.2
    unfold In64 at h1 h2
    omega

end Go.Proofs.Ytfkielfnceeedaa
set_option linter.unusedVariables false
set_option linter.unusedSimpArgs false
namespace Go.Proofs.Ytfkielfnceeedaa
open Go.Vc Go.RowKit
set_option maxRecDepth 100000

theorem hd_insert (a : Option Addr) (c : Nat) (l : List Hd) (i vb vo vc : Nat) (x : Hd) (S : Nat → Prop) (hn : l.length ≤ 1048576) (hi : i ≤ l.length) (m : M) (h : NewR m.sz S m 4 a l.length c (l.flatMap encH)) (hS : l ≠ [] → ∀ b o, a = some ⟨b, o, none⟩ → b ≠ vb) (hvlt : vb < m.sz) (hu : m.uf vb) (hv : CellsAt m vb vo (encH x)) :
    SpecW Try.prog 104 [.slice a l.length c, I i, .slice (some ⟨vb, vo, none⟩) 1 vc] m S fun v m' => ∃ a' c', v = .slice a' (l.length + 1) c' ∧ NewR m.sz S m' 4 a' (l.length + 1) c' ((l.take i ++ x :: l.drop i).flatMap encH) := by
  refine SpecW.of_vc Try.func104 (ann := noAnn) ?_
  refine vc_by (X :=
      true = true ∧
      (true = true ∧ (0 : Int) ≤ (↑i : Int) ∧ (↑i : Int) ≤ (↑l.length : Int) ∧ True ∧ True) ∧
      ifB ((↑i : Int) == (↑l.length : Int))
      (∃ (old : List Value),
      ∃ (src : List Value),
      AppPre m.sz S m (4 : Nat) (32 : Nat) a l.length c (some { block := vb, off := vo : Addr }) (1 : Nat) old src ∧
      ∀ (a' : Option Addr) (c' : Nat) (m' : M),
      AppPost Try.prog (67 : Nat) m (4 : Nat) a l.length c (1 : Nat) old src a' c' m' →
      Done
      (∃ (a'_1 : Option Addr),
      ∃ (c'_1 : Nat),
      Value.slice a' (l.length + (1 : Nat)) c' = Value.slice a'_1 (l.length + (1 : Nat)) c'_1 ∧
      NewR m.sz S m' (4 : Nat) a'_1 (l.length + (1 : Nat)) c'_1 (List.flatMap encH (List.take i l ++ x :: List.drop i l))))
      (ifB (decide (IntKind.i64.wrap ((↑l.length : Int) + (↑(1 : Nat) : Int)) > (↑c : Int)))
      ((true = true ∧ (0 : Int) ≤ (0 : Int) ∧ (0 : Int) ≤ (↑i : Int) ∧ (↑i : Int) ≤ (↑c : Int) ∧ True) ∧
      ∃ (old : List Value),
      ((0 : Int) ≤ IntKind.i64.wrap (IntKind.i64.wrap ((↑l.length : Int) + (↑(1 : Nat) : Int)) - (↑i : Int)) ∧
      AppPreZ Try.prog (67 : Nat) m.sz S m (4 : Nat) (32 : Nat) (if (↑c : Int).toNat = (0 : Nat) then a else Option.map (fun (x : Addr) => x) a)
      ((↑i : Int).toNat - (0 : Nat)) ((↑c : Int).toNat - (0 : Nat)) (IntKind.i64.wrap (IntKind.i64.wrap ((↑l.length : Int) + (↑(1 : Nat) : Int)) - (↑i : Int))).toNat
      old) ∧
      ∀ (a' : Option Addr) (c' : Nat) (m' : M),
      AppPost Try.prog (67 : Nat) m (4 : Nat) (if (↑c : Int).toNat = (0 : Nat) then a else Option.map (fun (x : Addr) => x) a) ((↑i : Int).toNat - (0 : Nat))
      ((↑c : Int).toNat - (0 : Nat)) (IntKind.i64.wrap (IntKind.i64.wrap ((↑l.length : Int) + (↑(1 : Nat) : Int)) - (↑i : Int))).toNat old
      (zeroRow Try.prog (67 : Nat) (IntKind.i64.wrap (IntKind.i64.wrap ((↑l.length : Int) + (↑(1 : Nat) : Int)) - (↑i : Int))).toNat) a' c' m' →
      (true = true ∧
      (0 : Int) ≤ (↑i : Int) ∧
      (↑i : Int) ≤ (↑((↑i : Int).toNat - (0 : Nat) + (IntKind.i64.wrap (IntKind.i64.wrap ((↑l.length : Int) + (↑(1 : Nat) : Int)) - (↑i : Int))).toNat) : Int) ∧
      True ∧ True) ∧
      ∃ (src : List Value),
      CopyPre m.sz S m' (4 : Nat)
      (if (↑c' : Int).toNat = (↑i : Int).toNat then a' else Option.map (fun (x : Addr) => x.add ((↑i : Int).toNat * Try.prog.types[(67 : Nat)].size)) a')
      ((↑((↑i : Int).toNat - (0 : Nat) + (IntKind.i64.wrap (IntKind.i64.wrap ((↑l.length : Int) + (↑(1 : Nat) : Int)) - (↑i : Int))).toNat) : Int).toNat -
      (↑i : Int).toNat)
      (some { block := vb, off := vo : Addr }) (1 : Nat) src ∧
      ∀ (m'_1 : M),
      CopyPost m'
      (if (↑c' : Int).toNat = (↑i : Int).toNat then a' else Option.map (fun (x : Addr) => x.add ((↑i : Int).toNat * Try.prog.types[(67 : Nat)].size)) a')
      src m'_1 →
      true = true ∧
      (true = true ∧
      (0 : Int) ≤ IntKind.i64.wrap ((↑i : Int) + (↑(1 : Nat) : Int)) ∧
      IntKind.i64.wrap ((↑i : Int) + (↑(1 : Nat) : Int)) ≤
      (↑((↑i : Int).toNat - (0 : Nat) + (IntKind.i64.wrap (IntKind.i64.wrap ((↑l.length : Int) + (↑(1 : Nat) : Int)) - (↑i : Int))).toNat) :
      Int) ∧
      True ∧ True) ∧
      (true = true ∧ (0 : Int) ≤ (↑i : Int) ∧ (↑i : Int) ≤ (↑l.length : Int) ∧ True ∧ True) ∧
      (∃ (src : List Value),
      CopyPre m.sz S m'_1 (4 : Nat)
      (if (↑c' : Int).toNat = (IntKind.i64.wrap ((↑i : Int) + (↑(1 : Nat) : Int))).toNat then a'
      else
      Option.map (fun (x : Addr) => x.add ((IntKind.i64.wrap ((↑i : Int) + (↑(1 : Nat) : Int))).toNat * Try.prog.types[(67 : Nat)].size)) a')
      ((↑((↑i : Int).toNat - (0 : Nat) + (IntKind.i64.wrap (IntKind.i64.wrap ((↑l.length : Int) + (↑(1 : Nat) : Int)) - (↑i : Int))).toNat) :
      Int).toNat -
      (IntKind.i64.wrap ((↑i : Int) + (↑(1 : Nat) : Int))).toNat)
      (if (↑c : Int).toNat = (↑i : Int).toNat then a
      else Option.map (fun (x : Addr) => x.add ((↑i : Int).toNat * Try.prog.types[(67 : Nat)].size)) a)
      ((↑l.length : Int).toNat - (↑i : Int).toNat) src ∧
      ∀ (m' : M),
      CopyPost m'_1
      (if (↑c' : Int).toNat = (IntKind.i64.wrap ((↑i : Int) + (↑(1 : Nat) : Int))).toNat then a'
      else
      Option.map (fun (x : Addr) => x.add ((IntKind.i64.wrap ((↑i : Int) + (↑(1 : Nat) : Int))).toNat * Try.prog.types[(67 : Nat)].size))
      a')
      src m' →
      Done
      (∃ (a'_1 : Option Addr),
      ∃ (c'_1 : Nat),
      Value.slice a'
      ((↑i : Int).toNat - (0 : Nat) +
      (IntKind.i64.wrap (IntKind.i64.wrap ((↑l.length : Int) + (↑(1 : Nat) : Int)) - (↑i : Int))).toNat)
      c' =
      Value.slice a'_1 (l.length + (1 : Nat)) c'_1 ∧
      NewR m.sz S m' (4 : Nat) a'_1 (l.length + (1 : Nat)) c'_1 (List.flatMap encH (List.take i l ++ x :: List.drop i l)))) ∧
      True)
      ((true = true ∧
      (0 : Int) ≤ (0 : Int) ∧
      (0 : Int) ≤ IntKind.i64.wrap ((↑l.length : Int) + (↑(1 : Nat) : Int)) ∧ IntKind.i64.wrap ((↑l.length : Int) + (↑(1 : Nat) : Int)) ≤ (↑c : Int) ∧ True) ∧
      (true = true ∧
      (0 : Int) ≤ IntKind.i64.wrap ((↑i : Int) + (↑(1 : Nat) : Int)) ∧
      IntKind.i64.wrap ((↑i : Int) + (↑(1 : Nat) : Int)) ≤ (↑((IntKind.i64.wrap ((↑l.length : Int) + (↑(1 : Nat) : Int))).toNat - (0 : Nat)) : Int) ∧ True ∧ True) ∧
      ∃ (b : Bool),
      RunV Try.prog (111 : Nat)
      [Value.slice (some { block := vb, off := vo : Addr }) (1 : Nat) vc,
      Value.slice
      (if (↑((↑c : Int).toNat - (0 : Nat)) : Int).toNat = (IntKind.i64.wrap ((↑i : Int) + (↑(1 : Nat) : Int))).toNat then
      if (↑c : Int).toNat = (0 : Nat) then a else Option.map (fun (x : Addr) => x) a
      else
      Option.map (fun (x : Addr) => x.add ((IntKind.i64.wrap ((↑i : Int) + (↑(1 : Nat) : Int))).toNat * Try.prog.types[(67 : Nat)].size))
      (if (↑c : Int).toNat = (0 : Nat) then a else Option.map (fun (x : Addr) => x) a))
      ((↑((IntKind.i64.wrap ((↑l.length : Int) + (↑(1 : Nat) : Int))).toNat - (0 : Nat)) : Int).toNat - (IntKind.i64.wrap ((↑i : Int) + (↑(1 : Nat) : Int))).toNat)
      ((↑((↑c : Int).toNat - (0 : Nat)) : Int).toNat - (IntKind.i64.wrap ((↑i : Int) + (↑(1 : Nat) : Int))).toNat)]
      m (Value.bool b) ∧
      ifB (!b)
      (true = true ∧
      (true = true ∧
      (0 : Int) ≤ IntKind.i64.wrap ((↑i : Int) + (↑(1 : Nat) : Int)) ∧
      IntKind.i64.wrap ((↑i : Int) + (↑(1 : Nat) : Int)) ≤ (↑((IntKind.i64.wrap ((↑l.length : Int) + (↑(1 : Nat) : Int))).toNat - (0 : Nat)) : Int) ∧
      True ∧ True) ∧
      (true = true ∧ (0 : Int) ≤ (↑i : Int) ∧ (↑i : Int) ≤ (↑((IntKind.i64.wrap ((↑l.length : Int) + (↑(1 : Nat) : Int))).toNat - (0 : Nat)) : Int) ∧ True ∧ True) ∧
      (∃ (src : List Value),
      CopyPre m.sz S m (4 : Nat)
      (if (↑((↑c : Int).toNat - (0 : Nat)) : Int).toNat = (IntKind.i64.wrap ((↑i : Int) + (↑(1 : Nat) : Int))).toNat then
      if (↑c : Int).toNat = (0 : Nat) then a else Option.map (fun (x : Addr) => x) a
      else
      Option.map (fun (x : Addr) => x.add ((IntKind.i64.wrap ((↑i : Int) + (↑(1 : Nat) : Int))).toNat * Try.prog.types[(67 : Nat)].size))
      (if (↑c : Int).toNat = (0 : Nat) then a else Option.map (fun (x : Addr) => x) a))
      ((↑((IntKind.i64.wrap ((↑l.length : Int) + (↑(1 : Nat) : Int))).toNat - (0 : Nat)) : Int).toNat -
      (IntKind.i64.wrap ((↑i : Int) + (↑(1 : Nat) : Int))).toNat)
      (if (↑((↑c : Int).toNat - (0 : Nat)) : Int).toNat = (↑i : Int).toNat then
      if (↑c : Int).toNat = (0 : Nat) then a else Option.map (fun (x : Addr) => x) a
      else
      Option.map (fun (x : Addr) => x.add ((↑i : Int).toNat * Try.prog.types[(67 : Nat)].size))
      (if (↑c : Int).toNat = (0 : Nat) then a else Option.map (fun (x : Addr) => x) a))
      ((↑((IntKind.i64.wrap ((↑l.length : Int) + (↑(1 : Nat) : Int))).toNat - (0 : Nat)) : Int).toNat - (↑i : Int).toNat) src ∧
      ∀ (m' : M),
      CopyPost m
      (if (↑((↑c : Int).toNat - (0 : Nat)) : Int).toNat = (IntKind.i64.wrap ((↑i : Int) + (↑(1 : Nat) : Int))).toNat then
      if (↑c : Int).toNat = (0 : Nat) then a else Option.map (fun (x : Addr) => x) a
      else
      Option.map (fun (x : Addr) => x.add ((IntKind.i64.wrap ((↑i : Int) + (↑(1 : Nat) : Int))).toNat * Try.prog.types[(67 : Nat)].size))
      (if (↑c : Int).toNat = (0 : Nat) then a else Option.map (fun (x : Addr) => x) a))
      src m' →
      (true = true ∧
      (0 : Int) ≤ (↑i : Int) ∧
      (↑i : Int) ≤ (↑((IntKind.i64.wrap ((↑l.length : Int) + (↑(1 : Nat) : Int))).toNat - (0 : Nat)) : Int) ∧ True ∧ True) ∧
      ∃ (src : List Value),
      CopyPre m.sz S m' (4 : Nat)
      (if (↑((↑c : Int).toNat - (0 : Nat)) : Int).toNat = (↑i : Int).toNat then
      if (↑c : Int).toNat = (0 : Nat) then a else Option.map (fun (x : Addr) => x) a
      else
      Option.map (fun (x : Addr) => x.add ((↑i : Int).toNat * Try.prog.types[(67 : Nat)].size))
      (if (↑c : Int).toNat = (0 : Nat) then a else Option.map (fun (x : Addr) => x) a))
      ((↑((IntKind.i64.wrap ((↑l.length : Int) + (↑(1 : Nat) : Int))).toNat - (0 : Nat)) : Int).toNat - (↑i : Int).toNat)
      (some { block := vb, off := vo : Addr }) (1 : Nat) src ∧
      ∀ (m'_1 : M),
      CopyPost m'
      (if (↑((↑c : Int).toNat - (0 : Nat)) : Int).toNat = (↑i : Int).toNat then
      if (↑c : Int).toNat = (0 : Nat) then a else Option.map (fun (x : Addr) => x) a
      else
      Option.map (fun (x : Addr) => x.add ((↑i : Int).toNat * Try.prog.types[(67 : Nat)].size))
      (if (↑c : Int).toNat = (0 : Nat) then a else Option.map (fun (x : Addr) => x) a))
      src m'_1 →
      Done
      (∃ (a' : Option Addr),
      ∃ (c' : Nat),
      Value.slice (if (↑c : Int).toNat = (0 : Nat) then a else Option.map (fun (x : Addr) => x) a)
      ((IntKind.i64.wrap ((↑l.length : Int) + (↑(1 : Nat) : Int))).toNat - (0 : Nat)) ((↑c : Int).toNat - (0 : Nat)) =
      Value.slice a' (l.length + (1 : Nat)) c' ∧
      NewR m.sz S m'_1 (4 : Nat) a' (l.length + (1 : Nat)) c' (List.flatMap encH (List.take i l ++ x :: List.drop i l)))) ∧
      True)
      ((true = true ∧
      (0 : Int) ≤ (↑l.length : Int) ∧ (↑l.length : Int) ≤ (↑((IntKind.i64.wrap ((↑l.length : Int) + (↑(1 : Nat) : Int))).toNat - (0 : Nat)) : Int) ∧ True ∧ True) ∧
      ∃ (src : List Value),
      CopyPre m.sz S m (4 : Nat)
      (if (↑((↑c : Int).toNat - (0 : Nat)) : Int).toNat = (↑l.length : Int).toNat then
      if (↑c : Int).toNat = (0 : Nat) then a else Option.map (fun (x : Addr) => x) a
      else
      Option.map (fun (x : Addr) => x.add ((↑l.length : Int).toNat * Try.prog.types[(67 : Nat)].size))
      (if (↑c : Int).toNat = (0 : Nat) then a else Option.map (fun (x : Addr) => x) a))
      ((↑((IntKind.i64.wrap ((↑l.length : Int) + (↑(1 : Nat) : Int))).toNat - (0 : Nat)) : Int).toNat - (↑l.length : Int).toNat)
      (some { block := vb, off := vo : Addr }) (1 : Nat) src ∧
      ∀ (m' : M),
      CopyPost m
      (if (↑((↑c : Int).toNat - (0 : Nat)) : Int).toNat = (↑l.length : Int).toNat then
      if (↑c : Int).toNat = (0 : Nat) then a else Option.map (fun (x : Addr) => x) a
      else
      Option.map (fun (x : Addr) => x.add ((↑l.length : Int).toNat * Try.prog.types[(67 : Nat)].size))
      (if (↑c : Int).toNat = (0 : Nat) then a else Option.map (fun (x : Addr) => x) a))
      src m' →
      (true = true ∧
      (0 : Int) ≤ (↑i : Int) ∧ (↑i : Int) ≤ (↑((IntKind.i64.wrap ((↑l.length : Int) + (↑(1 : Nat) : Int))).toNat - (0 : Nat)) : Int) ∧ True ∧ True) ∧
      ∃ (S' : Nat → Prop),
      (∀ (b : Nat), S' b → m'.uf b ∧ (m.sz ≤ b ∨ S b)) ∧
      ∀ (n : Nat),
      m'.sz ≤ n →
      SpecW Try.prog (112 : Nat)
      [Value.slice
      (if (↑((↑c : Int).toNat - (0 : Nat)) : Int).toNat = (↑i : Int).toNat then
      if (↑c : Int).toNat = (0 : Nat) then a else Option.map (fun (x : Addr) => x) a
      else
      Option.map (fun (x : Addr) => x.add ((↑i : Int).toNat * Try.prog.types[(67 : Nat)].size))
      (if (↑c : Int).toNat = (0 : Nat) then a else Option.map (fun (x : Addr) => x) a))
      ((↑((IntKind.i64.wrap ((↑l.length : Int) + (↑(1 : Nat) : Int))).toNat - (0 : Nat)) : Int).toNat - (↑i : Int).toNat)
      ((↑((↑c : Int).toNat - (0 : Nat)) : Int).toNat - (↑i : Int).toNat),
      Value.int IntKind.i64 (↑(1 : Nat) : Int)]
      { π := m'.π, sz := n, uf := m'.uf : M } S' fun (v : Value) (m' : M) =>
      v = Value.tuple #[] ∧
      Done
      (∃ (a' : Option Addr),
      ∃ (c' : Nat),
      Value.slice (if (↑c : Int).toNat = (0 : Nat) then a else Option.map (fun (x : Addr) => x) a)
      ((IntKind.i64.wrap ((↑l.length : Int) + (↑(1 : Nat) : Int))).toNat - (0 : Nat)) ((↑c : Int).toNat - (0 : Nat)) =
      Value.slice a' (l.length + (1 : Nat)) c' ∧
      NewR m.sz S m' (4 : Nat) a' (l.length + (1 : Nat)) c' (List.flatMap encH (List.take i l ++ x :: List.drop i l))))))) (by kernel_rfl) ?_
  have hk : ∀ x, (encH x).length = 4 := fun _ => rfl
  have w1 : IntKind.i64.wrap ((l.length : Int) + ((1 : Nat) : Int)) = ((l.length + 1 : Nat) : Int) := by simp [IntKind.wrap_i64]; omega
  have w2 : IntKind.i64.wrap (((l.length + 1 : Nat) : Int) - (i : Int)) = ((l.length + 1 - i : Nat) : Int) := by simp [IntKind.wrap_i64]; omega
  have w3 : IntKind.i64.wrap ((i : Int) + ((1 : Nat) : Int)) = ((i + 1 : Nat) : Int) := by simp [IntKind.wrap_i64]; omega
  have es : Try.prog.types[67].size = 4 := by kernel_rfl
  simp only [w1, w2, w3, es, Int.toNat_natCast, Nat.sub_zero, Option.map_id_fun', id_eq, ite_self]
  have zl : ∀ k, (zeroRow Try.prog 67 k).length = k * 4 := zrLen (by kernel_rfl)
  have z1 : ∀ k, oneCells (zeroRow Try.prog 67 k) = true := zrOne (by kernel_rfl)
  have o1 : ∀ y : List Hd, oneCells (y.flatMap encH) = true := fun y => by
    rw [oneCells_iff]; intro v hv
    obtain ⟨w, -, hw⟩ := List.mem_flatMap.1 hv
    exact oneCells_iff.1 (rfl : oneCells (encH w) = true) v hw
  have hvr : Row m (some ⟨vb, vo, none⟩) (encH x) := .at _ _ _ hvlt hv
  have eres : (l.take i ++ x :: l.drop i).flatMap encH = (l.take i).flatMap encH ++ (encH x ++ (l.drop i).flatMap encH) := by
    rw [List.flatMap_append, List.flatMap_cons]
  rw [eres]
  refine ⟨trivial, ⟨trivial, by omega, by omega, trivial, trivial⟩, ifB_intro (fun hb => ?_) (fun hb => ?_)⟩
  · have hil : i = l.length := by simp at hb; omega
    subst hil
    refine ⟨_, _, h.appPre hvr (hk x) rfl (by omega), fun a' c' m' hp => ⟨⟨a', c', rfl, ?_⟩⟩⟩
    have := h.append hp (hk x) zl (Nat.le_refl _)
    rw [List.take_length, List.drop_length, List.flatMap_nil, List.append_nil]
    exact this
  have hil : i < l.length := by simp at hb; omega
  have ho := h.toOwn (by omega)
  obtain ⟨b, o, rfl, -⟩ := ho.row.cells (by rw [flat_len hk]; omega)
  have hcl := ho.capLe
  have hbv := hS (fun e => by subst e; simp at hil) b o rfl
  have hTl : ((l.take i).flatMap encH).length = i * 4 := by rw [flat_len hk, List.length_take]; congr 1; omega
  have hDl : ((l.drop i).flatMap encH).length = (l.length - i) * 4 := by rw [flat_len hk, List.length_drop]
  have hne : some (⟨b, o, none⟩ : Addr) ≠ none := by simp
  have hci : c ≠ i := by omega
  rw [flat_cut l i] at ho
  generalize hT : (l.take i).flatMap encH = T at *
  generalize hD : (l.drop i).flatMap encH = D at *
  refine ifB_intro (fun hc => ?_) (fun hc => ?_)
  · have hcl2 : c = l.length := by simp at hc; omega
    refine ⟨⟨trivial, by omega, by omega, by omega, trivial⟩, T, ⟨by omega, ⟨ho.row.take.rowAt, hTl, zl _, z1 _, by decide, by omega, (fun e => by cases e), fun _ hr => by omega⟩⟩, fun a' c' m' hp => ⟨⟨trivial, by omega, by omega, trivial, trivial⟩, ?_⟩⟩
    rcases hp with ⟨hr, -⟩ | ⟨-, b', hb', hc', rfl, rfl⟩
    · omega
    have hbb : b ≠ b' := by have := ho.lt rfl; omega
    have hvb : vb ≠ b' := by omega
    have e1 : i + (l.length + 1 - i) = l.length + 1 := by omega
    generalize hz : zeroRow Try.prog 67 (l.length + 1 - i) = z at *
    have hzl : z.length = (l.length + 1 - i) * 4 := by rw [← hz, zl]
    have zs : z = z.take 4 ++ z.drop 4 := (List.take_append_drop _ _).symm
    have zt : (z.take 4).length = 4 := by rw [List.length_take, hzl]; omega
    have zd : (z.drop 4).length = (l.length - i) * 4 := by rw [List.length_drop, hzl]; omega
    have q1 : OwnB m.sz S (m.newBlock b' (T ++ z ++ zeroRow Try.prog 67 (c' - (i + (l.length + 1 - i))))) 4 (some ⟨b', 0, none⟩) (l.length + 1) c' (T ++ (z.take 4 ++ z.drop 4)) := by
      rw [← zs]
      exact OwnB.new hb' (by rw [List.length_append, hTl, hzl]; omega) (by rw [zl]; congr 1; omega) (by omega)
    obtain ⟨g1, q2⟩ := q1.set (new := encH x) (by rw [zt]; exact hk x)
    rw [hTl] at g1 q2
    have q2' : OwnB m.sz S ((m.newBlock b' (T ++ z ++ zeroRow Try.prog 67 (c' - (i + (l.length + 1 - i))))).setCells b' (0 + i * 4) (encH x)) 4 (some ⟨b', 0, none⟩) (l.length + 1) c' ((T ++ encH x) ++ (z.drop 4 ++ [])) := by
      rw [show (T ++ encH x) ++ (z.drop 4 ++ []) = T ++ (encH x ++ z.drop 4) by rw [List.append_nil, List.append_assoc]]; exact q2
    obtain ⟨g2, q3⟩ := q2'.set (new := D) (by rw [zd, hDl])
    have el : (T ++ encH x).length = (i + 1) * 4 := by rw [List.length_append, hTl, hk]; omega
    rw [el] at g2 q3
    refine ⟨encH x, copyPre (sub_addr (by omega)) (hvr.newBlock hb').rowAt (by rw [hk]; omega) rfl g1 (by simp), fun m1 hp1 => ?_⟩
    have hm1 := hp1.atc (sub_addr (by omega))
    subst hm1
    have hDr : Row ((m.newBlock b' (T ++ z ++ zeroRow Try.prog 67 (c' - (i + (l.length + 1 - i))))).setCells b' (0 + i * 4) (encH x)) (some ⟨b, o + i * 4, none⟩) D := by
      have h1 := ho.row.drop hTl
      rw [show (some (⟨b, o, none⟩ : Addr)).map (fun x => x.add (i * 4)) = some ⟨b, o + i * 4, none⟩ from by show some (Addr.add _ _) = _; rw [add_none]] at h1
      exact (h1.newBlock hb').of (Nat.le_refl _) fun b2 o2 e2 _ => setCells_other (by cases e2; exact hbb)
    refine ⟨trivial, ⟨trivial, by omega, by omega, trivial, trivial⟩, ⟨trivial, by omega, by omega, trivial, trivial⟩, ⟨D, copyPre (sub_addr (by omega)) (by rw [sub_addr hci]; exact hDr.rowAt) (by rw [hDl]; congr 1; omega) (by rw [← hD]; exact o1 _) g2 (by rw [sub_addr hci]; simp), fun m2 hp2 => ?_⟩, trivial⟩
    have hm2 := hp2.atc (sub_addr (by omega))
    subst hm2
    refine ⟨⟨_, c', by rw [e1], .own ?_⟩⟩
    rw [show (T ++ encH x) ++ (D ++ []) = T ++ (encH x ++ D) by rw [List.append_nil, List.append_assoc]] at q3
    exact q3
  · have hcl2 : l.length + 1 ≤ c := by simp at hc; omega
    have hi1 : c ≠ i + 1 := by omega
    have hov : RunV Try.prog 111 [.slice (some ⟨vb, vo, none⟩) 1 vc, .slice (some ⟨b, o + (i + 1) * 4, none⟩) (l.length + 1 - (i + 1)) (c - (i + 1))] m (.bool false) :=
      over_run Try.func111 (by kernel_rfl) (by kernel_rfl) (by kernel_rfl) (t := 42) (tR := 4) (by kernel_rfl) Try.underlying42 (i := Try.prog.types[67]) (by kernel_rfl) (Ne.symm hbv) hu (ho.uf rfl) (by
        obtain ⟨b2, o2, e2, hcell⟩ := ho.row.cells (by rw [List.length_append, hTl, hDl]; omega)
        cases e2
        have h0 := hcell.out 0 (by rw [List.length_append, hTl, hDl]; omega)
        rw [List.getElem?_eq_getElem (by rw [List.length_append, hTl, hDl]; omega)] at h0
        exact ⟨_, _, h0⟩)
    cases ho with
    | «at» b o len cap cs rest lo lt uf hcells hl hr hc' =>
    have rs : rest = rest.take 4 ++ rest.drop 4 := (List.take_append_drop _ _).symm
    have rt : (rest.take 4).length = 4 := by rw [List.length_take, hr]; omega
    have rd : (rest.drop 4).length = (c - (l.length + 1)) * 4 := by rw [List.length_drop, hr]; omega
    have ds : D = D.take 4 ++ D.drop 4 := (List.take_append_drop _ _).symm
    have dt : (D.take 4).length = 4 := by rw [List.length_take, hDl]; omega
    have dd : (D.drop 4).length = (l.length - (i + 1)) * 4 := by rw [List.length_drop, hDl]; omega
    have q1 : OwnB m.sz S m 4 (some ⟨b, o, none⟩) (l.length + 1) c ((T ++ D.take 4) ++ ((D.drop 4 ++ rest.take 4) ++ [])) := by
      refine .at b o _ _ _ (rest.drop 4) lo lt uf ?_ (by simp only [List.length_append, List.length_nil, hTl, dt, dd, rt]; omega) rd hcl2
      have e1 : T ++ D.take 4 ++ ((D.drop 4 ++ rest.take 4) ++ []) ++ rest.drop 4 = T ++ D ++ rest := by
        conv => rhs; rw [ds, rs]
        simp only [List.append_assoc, List.append_nil]
      rw [e1]; exact hcells
    obtain ⟨g1, q2⟩ := q1.set (new := D) (by rw [List.length_append, dd, rt, hDl]; omega)
    have el : (T ++ D.take 4).length = (i + 1) * 4 := by rw [List.length_append, hTl, dt]; omega
    rw [el] at g1 q2
    rw [show (T ++ D.take 4) ++ (D ++ []) = T ++ (D.take 4 ++ D) by rw [List.append_nil, List.append_assoc]] at q2
    obtain ⟨g2, q3⟩ := q2.set (new := encH x) (by rw [dt]; exact hk x)
    rw [hTl] at g2 q3
    have hDr : RowAt m (some ⟨b, o + i * 4, none⟩) D := by
      have := hcells.take.drop
      rw [hTl] at this
      exact .inr ⟨b, _, rfl, this⟩
    refine ⟨⟨trivial, by omega, by omega, by omega, trivial⟩, ⟨trivial, by omega, by omega, trivial, trivial⟩, false, by rw [sub_addr hi1]; exact hov, ifB_true ⟨trivial, ⟨trivial, by omega, by omega, trivial, trivial⟩, ⟨trivial, by omega, by omega, trivial, trivial⟩, ⟨D, copyPre (sub_addr hi1) (by rw [sub_addr hci]; exact hDr) (by rw [hDl]; congr 1; omega) (by rw [← hD]; exact o1 _) g1 (by rw [sub_addr hci]; simp), fun m1 hp1 => ?_⟩, trivial⟩⟩
    have hm1 := hp1.atc (sub_addr hi1)
    subst hm1
    refine ⟨⟨trivial, by omega, by omega, trivial, trivial⟩, encH x, copyPre (sub_addr hci) (Row.of (m' := m.setCells b (o + (i + 1) * 4) D) hvr (Nat.le_refl _) fun b2 o2 e2 _ => setCells_other (by cases e2; exact Ne.symm hbv)).rowAt (by rw [hk]; omega) rfl g2 (by simp), fun m2 hp2 => ?_⟩
    have hm2 := hp2.atc (sub_addr hci)
    subst hm2
    exact ⟨⟨_, c, rfl, .own q3⟩⟩

end Go.Proofs.Ytfkielfnceeedaa
set_option linter.unusedVariables false
set_option linter.unusedSimpArgs false
namespace Go.Proofs.Ytfkielfnceeedaa
open Go.Vc Go.RowKit
set_option maxRecDepth 100000

structure hdBsX where
  i : Nat
  j : Nat

theorem hd_bsearch (a : Option Addr) (c : Nat) (l : List Hd) (nd : Int) (f : Hd → Int) (p : Nat) (hn : l.length ≤ 1048576) (m : M) (h : Row m a (l.flatMap encH))
    (hf : ∀ x ∈ l, ∀ m', QSpec Try.prog 103 [.agg (encH x).toArray, I nd] m' (I (f x))) (hp : p ≤ l.length) (h1 : ∀ k (hk : k < l.length), k < p → f l[k] < 0) (h2 : ∀ k (hk : k < l.length), p ≤ k → 0 ≤ f l[k]) :
    QSpec Try.prog 102 [.slice a l.length c, I nd, .func (.func 103) #[] #[]] m (.tuple #[I p, .bool ((l[p]?).any fun x => decide (f x = 0))]) := by
  refine QSpec.of_vc Try.func102 (ann := fun n _ => { A := hdBsX, inv := fun y => y.i ≤ p ∧ p ≤ y.j ∧ y.j ≤ l.length, st := fun y => [(9, .val (I y.i)), (10, .val (I y.j)), (8, .val (I l.length)), (0, .val (.slice a l.length c)), (1, .val (I nd)), (2, .val (.func (.func 103) #[] #[]))], own := fun _ => [], m := fun _ => { m with sz := n }, μ := fun y => y.j - y.i }) fun n hn' => ?_
  refine vc_by (X :=
      true = true ∧
      (∃ (a_1 : hdBsX),
      (a_1.i ≤ p ∧ p ≤ a_1.j ∧ a_1.j ≤ l.length) ∧
      { π := m.π, sz := n, uf := m.uf : M } = { π := m.π, sz := n, uf := m.uf : M } ∧
      ((SV.val (Value.int IntKind.i64 (0 : Int)) = SV.val (Value.int IntKind.i64 (↑a_1.i : Int)) ∧ true = true) ∧
      (SV.val (Value.int IntKind.i64 (↑l.length : Int)) = SV.val (Value.int IntKind.i64 (↑a_1.j : Int)) ∧ true = true) ∧
      (SV.val (Value.int IntKind.i64 (↑l.length : Int)) = SV.val (Value.int IntKind.i64 (↑l.length : Int)) ∧ true = true) ∧
      (SV.val (Value.slice a l.length c) = SV.val (Value.slice a l.length c) ∧ true = true) ∧
      (SV.val (Value.int IntKind.i64 nd) = SV.val (Value.int IntKind.i64 nd) ∧ true = true) ∧
      (SV.val (Value.func (Fn.func (103 : FuncId)) #[] #[]) = SV.val (Value.func (Fn.func (103 : FuncId)) #[] #[]) ∧ true = true) ∧ True) ∧
      True) ∧
      ∀ (a_1 : hdBsX),
      a_1.i ≤ p ∧ p ≤ a_1.j ∧ a_1.j ≤ l.length →
      ifB (decide ((↑a_1.i : Int) < (↑a_1.j : Int)))
      (∃ (b : Nat),
      ∃ (off : Nat),
      a = some { block := b, off := off : Addr } ∧
      ((0 : Int) ≤ IntKind.i64.wrap ((IntKind.u64.wrap (IntKind.i64.wrap ((↑a_1.i : Int) + (↑a_1.j : Int)))).fdiv ((2 : Int) ^ (1 : Nat))) ∧
      IntKind.i64.wrap ((IntKind.u64.wrap (IntKind.i64.wrap ((↑a_1.i : Int) + (↑a_1.j : Int)))).fdiv ((2 : Int) ^ (1 : Nat))) < (↑l.length : Int)) ∧
      ∃ (n_1 : Int),
      ∃ (n_2 : Int),
      ∃ (n_3 : Int),
      ∃ (n_4 : Int),
      CellsAt { π := m.π, sz := n, uf := m.uf : M } b
      (off + (IntKind.i64.wrap ((IntKind.u64.wrap (IntKind.i64.wrap ((↑a_1.i : Int) + (↑a_1.j : Int)))).fdiv ((2 : Int) ^ (1 : Nat)))).toNat * (4 : Nat))
      [Value.int IntKind.i64 n_1, Value.int IntKind.i64 n_2, Value.int IntKind.i64 n_3, Value.int IntKind.i64 n_4] ∧
      ∃ (n_5 : Int),
      QSpec Try.prog (103 : FuncId)
      [Value.agg #[Value.int IntKind.i64 n_1, Value.int IntKind.i64 n_2, Value.int IntKind.i64 n_3, Value.int IntKind.i64 n_4],
      Value.int IntKind.i64 nd]
      { π := m.π, sz := n, uf := m.uf : M } (Value.int IntKind.i64 n_5) ∧
      ifB (decide (n_5 < (0 : Int)))
      (∃ (a' : hdBsX),
      ((a'.i ≤ p ∧ p ≤ a'.j ∧ a'.j ≤ l.length) ∧
      { π := m.π, sz := n, uf := m.uf : M } = { π := m.π, sz := n, uf := m.uf : M } ∧
      ((SV.val
      (Value.int IntKind.i64
      (IntKind.i64.wrap
      (IntKind.i64.wrap ((IntKind.u64.wrap (IntKind.i64.wrap ((↑a_1.i : Int) + (↑a_1.j : Int)))).fdiv ((2 : Int) ^ (1 : Nat))) +
      (1 : Int)))) =
      SV.val (Value.int IntKind.i64 (↑a'.i : Int)) ∧
      true = true) ∧
      (SV.val (Value.int IntKind.i64 (↑a_1.j : Int)) = SV.val (Value.int IntKind.i64 (↑a'.j : Int)) ∧ true = true) ∧
      (SV.val (Value.int IntKind.i64 (↑l.length : Int)) = SV.val (Value.int IntKind.i64 (↑l.length : Int)) ∧ true = true) ∧
      (SV.val (Value.slice a l.length c) = SV.val (Value.slice a l.length c) ∧ true = true) ∧
      (SV.val (Value.int IntKind.i64 nd) = SV.val (Value.int IntKind.i64 nd) ∧ true = true) ∧
      (SV.val (Value.func (Fn.func (103 : FuncId)) #[] #[]) = SV.val (Value.func (Fn.func (103 : FuncId)) #[] #[]) ∧ true = true) ∧
      True) ∧
      True) ∧
      a'.j - a'.i < a_1.j - a_1.i)
      (∃ (a' : hdBsX),
      ((a'.i ≤ p ∧ p ≤ a'.j ∧ a'.j ≤ l.length) ∧
      { π := m.π, sz := n, uf := m.uf : M } = { π := m.π, sz := n, uf := m.uf : M } ∧
      ((SV.val (Value.int IntKind.i64 (↑a_1.i : Int)) = SV.val (Value.int IntKind.i64 (↑a'.i : Int)) ∧ true = true) ∧
      (SV.val
      (Value.int IntKind.i64
      (IntKind.i64.wrap ((IntKind.u64.wrap (IntKind.i64.wrap ((↑a_1.i : Int) + (↑a_1.j : Int)))).fdiv ((2 : Int) ^ (1 : Nat))))) =
      SV.val (Value.int IntKind.i64 (↑a'.j : Int)) ∧
      true = true) ∧
      (SV.val (Value.int IntKind.i64 (↑l.length : Int)) = SV.val (Value.int IntKind.i64 (↑l.length : Int)) ∧ true = true) ∧
      (SV.val (Value.slice a l.length c) = SV.val (Value.slice a l.length c) ∧ true = true) ∧
      (SV.val (Value.int IntKind.i64 nd) = SV.val (Value.int IntKind.i64 nd) ∧ true = true) ∧
      (SV.val (Value.func (Fn.func (103 : FuncId)) #[] #[]) = SV.val (Value.func (Fn.func (103 : FuncId)) #[] #[]) ∧ true = true) ∧
      True) ∧
      True) ∧
      a'.j - a'.i < a_1.j - a_1.i))
      (ifB (decide ((↑a_1.i : Int) < (↑l.length : Int)))
      (∃ (b : Nat),
      ∃ (off : Nat),
      a = some { block := b, off := off : Addr } ∧
      ((0 : Int) ≤ (↑a_1.i : Int) ∧ (↑a_1.i : Int) < (↑l.length : Int)) ∧
      ∃ (n_1 : Int),
      ∃ (n_2 : Int),
      ∃ (n_3 : Int),
      ∃ (n_4 : Int),
      CellsAt { π := m.π, sz := n, uf := m.uf : M } b (off + (↑a_1.i : Int).toNat * (4 : Nat))
      [Value.int IntKind.i64 n_1, Value.int IntKind.i64 n_2, Value.int IntKind.i64 n_3, Value.int IntKind.i64 n_4] ∧
      ∃ (n_5 : Int),
      QSpec Try.prog (103 : FuncId)
      [Value.agg #[Value.int IntKind.i64 n_1, Value.int IntKind.i64 n_2, Value.int IntKind.i64 n_3, Value.int IntKind.i64 n_4],
      Value.int IntKind.i64 nd]
      { π := m.π, sz := n, uf := m.uf : M } (Value.int IntKind.i64 n_5) ∧
      Done
      (Value.tuple #[Value.int IntKind.i64 (↑a_1.i : Int), Value.bool (n_5 == (0 : Int))] =
      Value.tuple #[Value.int IntKind.i64 (↑p : Int), Value.bool (Option.any (fun (x : Hd) => decide (f x = (0 : Int))) l[p]?)]))
      (Done
      (Value.tuple #[Value.int IntKind.i64 (↑a_1.i : Int), Value.bool false] =
      Value.tuple #[Value.int IntKind.i64 (↑p : Int), Value.bool (Option.any (fun (x : Hd) => decide (f x = (0 : Int))) l[p]?)])))) (by kernel_rfl) ?_
  have h' := h.sz hn'
  have hk : ∀ x, (encH x).length = 4 := fun _ => rfl
  have hcell : ∀ k (hlt : k < l.length), ∃ b o, a = some ⟨b, o, none⟩ ∧ CellsAt { m with sz := n } b (o + k * 4) (encH l[k]) := fun k hlt => by
    obtain ⟨b, o, e, hc⟩ := h'.cells (by rw [flat_len hk]; omega)
    exact ⟨b, o, e, CellsAt.elem hk l o k hlt hc⟩
  refine ⟨rfl, ⟨⟨0, l.length⟩, ⟨Nat.zero_le _, hp, Nat.le_refl _⟩, by simp⟩, fun y ⟨g1, g2, g3⟩ => ifB_intro (fun hb => ?_) (fun hb => ?_)⟩
  · have hij : y.i < y.j := by simp at hb; omega
    have wm : IntKind.i64.wrap ((IntKind.u64.wrap (IntKind.i64.wrap ((y.i : Int) + (y.j : Int)))).fdiv (2 ^ 1)) = (((y.i + y.j) / 2 : Nat) : Int) := by
      rw [Int.fdiv_eq_ediv_of_nonneg _ (by decide)]
      simp [IntKind.wrap_i64, IntKind.wrap_u64]; omega
    have hm : (y.i + y.j) / 2 < l.length := by omega
    obtain ⟨b, o, rfl, hc⟩ := hcell _ hm
    have w1 : IntKind.i64.wrap ((((y.i + y.j) / 2 : Nat) : Int) + 1) = (((y.i + y.j) / 2 + 1 : Nat) : Int) := by simp [IntKind.wrap_i64]; omega
    rw [wm, w1]
    simp only [Int.toNat_natCast]
    refine ⟨b, o, rfl, by omega, _,_,_,_, hc, _, hf _ (List.getElem_mem hm) _, ifB_intro (fun hb2 => ?_) (fun hb2 => ?_)⟩
    · have hlt : f l[(y.i + y.j) / 2] < 0 := by simpa using hb2
      have : (y.i + y.j) / 2 < p := by
        rcases Nat.lt_or_ge ((y.i + y.j) / 2) p with h | h
        · exact h
        · have := h2 _ hm h; omega
      exact ⟨⟨(y.i + y.j) / 2 + 1, y.j⟩, ⟨⟨by simp only; omega, g2, g3⟩, by simp⟩, by simp only; omega⟩
    · have hlt : ¬ f l[(y.i + y.j) / 2] < 0 := by simpa using hb2
      have : p ≤ (y.i + y.j) / 2 := by
        rcases Nat.lt_or_ge ((y.i + y.j) / 2) p with h | h
        · exact absurd (h1 _ hm h) hlt
        · exact h
      exact ⟨⟨y.i, (y.i + y.j) / 2⟩, ⟨⟨g1, by simp only; omega, by simp only; omega⟩, by simp⟩, by simp only; omega⟩
  · have hij : y.i = p := by simp at hb; omega
    rw [hij]
    refine ifB_intro (fun hb2 => ?_) (fun hb2 => ⟨?_⟩)
    · have hlt : p < l.length := by simp at hb2; omega
      obtain ⟨b, o, rfl, hc⟩ := hcell p hlt
      refine ⟨b, o, rfl, by omega, _,_,_,_, by simpa using hc, _, hf _ (List.getElem_mem hlt) _, ⟨?_⟩⟩
      rw [List.getElem?_eq_getElem hlt]
      rfl
    · have hlt : l.length ≤ p := by simp at hb2; omega
      rw [List.getElem?_eq_none hlt]
      rfl

end Go.Proofs.Ytfkielfnceeedaa
set_option linter.unusedVariables false
set_option linter.unusedSimpArgs false
namespace Go.Proofs.Ytfkielfnceeedaa
open Go.Vc Go.RowKit
set_option maxRecDepth 100000

def moreI (v s : Int) : Int := v + min s (9223372036854775807 - v)

theorem more_q (v n : Int) (hv : 0 ≤ v ∧ v ≤ 9223372036854775807) (hn : 0 ≤ n ∧ n ≤ 9223372036854775807) (m : M) : QSpec Try.prog 105 [I v, I n] m (I (moreI v n)) := by
  refine QSpec.of_vc Try.func105 (ann := fun _ => noAnn) fun N hN => ?_
  refine vc_by (X :=
      true = true ∧
      Done
      (Value.int IntKind.i64 (IntKind.i64.wrap (v + if IntKind.i64.wrap ((9223372036854775807 : Int) - v) < n then IntKind.i64.wrap ((9223372036854775807 : Int) - v) else n)) =
      Value.int IntKind.i64 (moreI v n))) (by kernel_rfl) ?_
  refine ⟨rfl, ⟨?_⟩⟩
  simp [moreI, IntKind.wrap_i64]
  omega

theorem cmp_q (h : Hd) (nd : Int) (m : M) : QSpec Try.prog 103 [.agg (encH h).toArray, I nd] m (I (IntKind.i64.wrap (h.nd - nd))) := by
  refine QSpec.of_vc Try.func103 (ann := fun _ => noAnn) fun N hN => ?_
  refine vc_by (X :=
      true = true ∧ Done (Value.int IntKind.i64 (IntKind.i64.wrap (h.nd - nd)) = Value.int IntKind.i64 (IntKind.i64.wrap (h.nd - nd)))) (by kernel_rfl) ?_
  exact ⟨rfl, ⟨rfl⟩⟩

def putH (l : List Hd) (h : Hd) : List Hd := (l.filter fun z => decide (z.nd < h.nd)) ++ h :: l.filter fun z => decide (h.nd < z.nd)

def grantH (x : Ac) (nd le ns : Int) : Hd :=
  let h := if findB x nd then findH x nd else ⟨nd, le, 0, 0⟩
  { h with up := moreI h.up (shareV (roomUp x) (ns + 1) ns), dn := moreI h.dn (shareV (roomDn x) (ns + 1) ns) }

def aGrant (x : Ac) (nd le ns : Int) : Ac × Int :=
  if rightB x = false then (ac0, 21) else if ns < 1 ∨ 5 < ns ∨ nd < 1 ∨ ns < nd ∨ le < 1 ∨ 4611686018427387904 < le then (ac0, 1) else if x.round ≠ 0 ∨ x.lk.cl ≠ 0 then (ac0, 152) else
  ({ x with hs := putH x.hs (grantH x nd le ns) }, 0)

theorem share_in (n p i : Int) (hn : InU n) : 0 ≤ shareV n p i ∧ shareV n p i ≤ n := by
  unfold InU at hn
  unfold shareV
  split
  · omega
  · rename_i h
    have hd := div_facts n p hn.1 (by omega)
    split <;> omega

theorem more_fit (v s : Int) (hv : 0 ≤ v) : moreI v (fitV s) = moreI v s := by unfold moreI fitV; omega

theorem hold_split (nd : Int) : ∀ {l : List Hd} {last : Int}, holdB last l = true → l = (l.filter fun z => decide (z.nd < nd)) ++ ((fndH l nd).toList ++ l.filter fun z => decide (nd < z.nd))
  | [], _, _ => rfl
  | h :: r, last, hb => by
    have hb' := hb
    simp only [holdB, Bool.and_eq_true] at hb'
    have hm := hold_mem _ _ hb'.2
    rcases Int.lt_trichotomy h.nd nd with hlt | heq | hgt
    · have hne : (h.nd == nd) = false := by simp; omega
      rw [List.filter_cons_of_pos (by simpa using hlt), List.filter_cons_of_neg (by simp; omega)]
      have : fndH (h :: r) nd = fndH r nd := by simp [fndH, List.find?_cons, hne]
      rw [this, List.cons_append, ← hold_split nd hb'.2]
    · subst heq
      have e1 : (r.filter fun z => decide (z.nd < h.nd)) = [] := List.filter_eq_nil_iff.2 fun z hz => by have := hm z hz; simp; omega
      have e2 : (r.filter fun z => decide (h.nd < z.nd)) = r := List.filter_eq_self.2 fun z hz => by have := hm z hz; simp; omega
      rw [List.filter_cons_of_neg (by simp), List.filter_cons_of_neg (by simp), e1, e2]
      simp [fndH]
    · have hne : (h.nd == nd) = false := by simp; omega
      have e1 : (r.filter fun z => decide (z.nd < nd)) = [] := List.filter_eq_nil_iff.2 fun z hz => by have := hm z hz; simp; omega
      have e2 : (r.filter fun z => decide (nd < z.nd)) = r := List.filter_eq_self.2 fun z hz => by have := hm z hz; simp; omega
      have e3 : r.find? (fun h => h.nd == nd) = none := List.find?_eq_none.2 fun z hz => by have := hm z hz; simp; omega
      rw [List.filter_cons_of_neg (by simp; omega), List.filter_cons_of_pos (by simpa using hgt), e1, e2]
      simp [fndH, List.find?_cons, hne, e3]

/-- one holder's Up, and its Down, written -/
theorem own_up {B : Nat} {S : Nat → Prop} {m : M} {b o len cap : Nat} {F G : List Hd} {e : Hd} (h : OwnB B S m 4 (some ⟨b, o, none⟩) len cap (hds (F ++ e :: G))) (u : Int) :
    Wr B S m b (o + F.length * 4 + 2) 1 ∧ OwnB B S (m.setCells b (o + F.length * 4 + 2) [I u]) 4 (some ⟨b, o, none⟩) len cap (hds (F ++ { e with up := u } :: G)) := by
  have e1 : ∀ x : Hd, hds (F ++ x :: G) = (hds F ++ [I x.nd, I x.le]) ++ ([I x.up] ++ ([I x.dn] ++ hds G)) := fun x => by simp [hds]
  rw [e1] at h
  obtain ⟨g1, g2⟩ := h.set (new := [I u]) rfl
  have el : o + (hds F ++ [I e.nd, I e.le]).length = o + F.length * 4 + 2 := by rw [List.length_append, hds_len]; simp; omega
  rw [el] at g1 g2
  rw [e1]
  exact ⟨g1, g2⟩

theorem own_dn {B : Nat} {S : Nat → Prop} {m : M} {b o len cap : Nat} {F G : List Hd} {e : Hd} (h : OwnB B S m 4 (some ⟨b, o, none⟩) len cap (hds (F ++ e :: G))) (u : Int) :
    Wr B S m b (o + F.length * 4 + 3) 1 ∧ OwnB B S (m.setCells b (o + F.length * 4 + 3) [I u]) 4 (some ⟨b, o, none⟩) len cap (hds (F ++ { e with dn := u } :: G)) := by
  have e1 : ∀ x : Hd, hds (F ++ x :: G) = (hds F ++ [I x.nd, I x.le, I x.up]) ++ ([I x.dn] ++ hds G) := fun x => by simp [hds]
  rw [e1] at h
  obtain ⟨g1, g2⟩ := h.set (new := [I u]) rfl
  have el : o + (hds F ++ [I e.nd, I e.le, I e.up]).length = o + F.length * 4 + 3 := by rw [List.length_append, hds_len]; simp; omega
  rw [el] at g1 g2
  rw [e1]
  exact ⟨g1, g2⟩

theorem up_cell {m : M} {b o : Nat} {F G : List Hd} {e : Hd} (h : CellsAt m b o (hds (F ++ e :: G))) : CellsAt m b (o + F.length * 4 + 2) [I e.up] ∧ CellsAt m b (o + F.length * 4 + 3) [I e.dn] := by
  have e1 : hds (F ++ e :: G) = (hds F ++ [I e.nd, I e.le]) ++ ([I e.up] ++ ([I e.dn] ++ hds G)) := by simp [hds]
  rw [e1] at h
  have h2 := h.drop
  have el : o + (hds F ++ [I e.nd, I e.le]).length = o + F.length * 4 + 2 := by rw [List.length_append, hds_len]; simp; omega
  rw [el] at h2
  exact ⟨h2.take, h2.drop.take⟩

theorem agrant_s (x : Ac) (a : Option Addr) (c : Nat) (nd le ns : Int) (hx : x.wf) (h0 : a = none → x.hs = []) (m : M) (h : Row m a (hds x.hs)) : Vc.Spec Try.prog 93 [acv x a c, I nd, I le, I ns] m (AcR m (aGrant x nd le ns)) := by
  refine Vc.Spec.of_vc Try.func93 (ann := noAnn) ?_
  refine vc_by (X :=
      true = true ∧
      ∃ (b : Bool),
      QSpec Try.prog (72 : Nat)
      [Value.agg
      #[Value.string x.key, Value.int IntKind.i64 x.lo, Value.int IntKind.i64 x.hi, Value.int IntKind.i64 x.base, Value.int IntKind.i64 x.round, Value.slice a x.hs.length c,
      Value.int IntKind.i64 x.lk.cl, Value.int IntKind.i64 x.lk.sq, Value.int IntKind.i64 x.lk.hm, Value.int IntKind.i64 x.lk.n]]
      m (Value.bool b) ∧
      ifB (!b)
      (Done
      (AcR m (aGrant x nd le ns)
      (Value.tuple
      #[Value.agg
      #[Value.string { data := #[] : ByteArray }, Value.int IntKind.i64 (0 : Int), Value.int IntKind.i64 (0 : Int), Value.int IntKind.i64 (0 : Int),
      Value.int IntKind.i64 (0 : Int), Value.slice none (0 : Nat) (0 : Nat), Value.int IntKind.i64 (0 : Int), Value.int IntKind.i64 (0 : Int),
      Value.int IntKind.i64 (0 : Int), Value.int IntKind.i64 (0 : Int)],
      Value.int IntKind.i64 (21 : Int)])
      m))
      (ifB (decide (ns < (1 : Int)))
      (Done
      (AcR m (aGrant x nd le ns)
      (Value.tuple
      #[Value.agg
      #[Value.string { data := #[] : ByteArray }, Value.int IntKind.i64 (0 : Int), Value.int IntKind.i64 (0 : Int), Value.int IntKind.i64 (0 : Int),
      Value.int IntKind.i64 (0 : Int), Value.slice none (0 : Nat) (0 : Nat), Value.int IntKind.i64 (0 : Int), Value.int IntKind.i64 (0 : Int),
      Value.int IntKind.i64 (0 : Int), Value.int IntKind.i64 (0 : Int)],
      Value.int IntKind.i64 (1 : Int)])
      m))
      (ifB (decide (ns > (5 : Int)))
      (Done
      (AcR m (aGrant x nd le ns)
      (Value.tuple
      #[Value.agg
      #[Value.string { data := #[] : ByteArray }, Value.int IntKind.i64 (0 : Int), Value.int IntKind.i64 (0 : Int), Value.int IntKind.i64 (0 : Int),
      Value.int IntKind.i64 (0 : Int), Value.slice none (0 : Nat) (0 : Nat), Value.int IntKind.i64 (0 : Int), Value.int IntKind.i64 (0 : Int),
      Value.int IntKind.i64 (0 : Int), Value.int IntKind.i64 (0 : Int)],
      Value.int IntKind.i64 (1 : Int)])
      m))
      (ifB (decide (nd < (1 : Int)))
      (Done
      (AcR m (aGrant x nd le ns)
      (Value.tuple
      #[Value.agg
      #[Value.string { data := #[] : ByteArray }, Value.int IntKind.i64 (0 : Int), Value.int IntKind.i64 (0 : Int), Value.int IntKind.i64 (0 : Int),
      Value.int IntKind.i64 (0 : Int), Value.slice none (0 : Nat) (0 : Nat), Value.int IntKind.i64 (0 : Int), Value.int IntKind.i64 (0 : Int),
      Value.int IntKind.i64 (0 : Int), Value.int IntKind.i64 (0 : Int)],
      Value.int IntKind.i64 (1 : Int)])
      m))
      (ifB (decide (nd > ns))
      (Done
      (AcR m (aGrant x nd le ns)
      (Value.tuple
      #[Value.agg
      #[Value.string { data := #[] : ByteArray }, Value.int IntKind.i64 (0 : Int), Value.int IntKind.i64 (0 : Int), Value.int IntKind.i64 (0 : Int),
      Value.int IntKind.i64 (0 : Int), Value.slice none (0 : Nat) (0 : Nat), Value.int IntKind.i64 (0 : Int), Value.int IntKind.i64 (0 : Int),
      Value.int IntKind.i64 (0 : Int), Value.int IntKind.i64 (0 : Int)],
      Value.int IntKind.i64 (1 : Int)])
      m))
      (ifB (decide (le < (1 : Int)))
      (Done
      (AcR m (aGrant x nd le ns)
      (Value.tuple
      #[Value.agg
      #[Value.string { data := #[] : ByteArray }, Value.int IntKind.i64 (0 : Int), Value.int IntKind.i64 (0 : Int), Value.int IntKind.i64 (0 : Int),
      Value.int IntKind.i64 (0 : Int), Value.slice none (0 : Nat) (0 : Nat), Value.int IntKind.i64 (0 : Int), Value.int IntKind.i64 (0 : Int),
      Value.int IntKind.i64 (0 : Int), Value.int IntKind.i64 (0 : Int)],
      Value.int IntKind.i64 (1 : Int)])
      m))
      (ifB (decide (le > (4611686018427387904 : Int)))
      (Done
      (AcR m (aGrant x nd le ns)
      (Value.tuple
      #[Value.agg
      #[Value.string { data := #[] : ByteArray }, Value.int IntKind.i64 (0 : Int), Value.int IntKind.i64 (0 : Int), Value.int IntKind.i64 (0 : Int),
      Value.int IntKind.i64 (0 : Int), Value.slice none (0 : Nat) (0 : Nat), Value.int IntKind.i64 (0 : Int), Value.int IntKind.i64 (0 : Int),
      Value.int IntKind.i64 (0 : Int), Value.int IntKind.i64 (0 : Int)],
      Value.int IntKind.i64 (1 : Int)])
      m))
      (ifB (x.round != (0 : Int))
      (Done
      (AcR m (aGrant x nd le ns)
      (Value.tuple
      #[Value.agg
      #[Value.string { data := #[] : ByteArray }, Value.int IntKind.i64 (0 : Int), Value.int IntKind.i64 (0 : Int), Value.int IntKind.i64 (0 : Int),
      Value.int IntKind.i64 (0 : Int), Value.slice none (0 : Nat) (0 : Nat), Value.int IntKind.i64 (0 : Int), Value.int IntKind.i64 (0 : Int),
      Value.int IntKind.i64 (0 : Int), Value.int IntKind.i64 (0 : Int)],
      Value.int IntKind.i64 (152 : Int)])
      m))
      (∃ (b : Bool),
      QSpec Try.prog (100 : Nat)
      [Value.agg
      #[Value.string x.key, Value.int IntKind.i64 x.lo, Value.int IntKind.i64 x.hi, Value.int IntKind.i64 x.base, Value.int IntKind.i64 x.round,
      Value.slice a x.hs.length c, Value.int IntKind.i64 x.lk.cl, Value.int IntKind.i64 x.lk.sq, Value.int IntKind.i64 x.lk.hm,
      Value.int IntKind.i64 x.lk.n]]
      m (Value.bool b) ∧
      ifB b
      (Done
      (AcR m (aGrant x nd le ns)
      (Value.tuple
      #[Value.agg
      #[Value.string { data := #[] : ByteArray }, Value.int IntKind.i64 (0 : Int), Value.int IntKind.i64 (0 : Int), Value.int IntKind.i64 (0 : Int),
      Value.int IntKind.i64 (0 : Int), Value.slice none (0 : Nat) (0 : Nat), Value.int IntKind.i64 (0 : Int), Value.int IntKind.i64 (0 : Int),
      Value.int IntKind.i64 (0 : Int), Value.int IntKind.i64 (0 : Int)],
      Value.int IntKind.i64 (152 : Int)])
      m))
      (∃ (n : Int),
      ∃ (n_1 : Int),
      QSpec Try.prog (101 : Nat)
      [Value.agg
      #[Value.string x.key, Value.int IntKind.i64 x.lo, Value.int IntKind.i64 x.hi, Value.int IntKind.i64 x.base, Value.int IntKind.i64 x.round,
      Value.slice a x.hs.length c, Value.int IntKind.i64 x.lk.cl, Value.int IntKind.i64 x.lk.sq, Value.int IntKind.i64 x.lk.hm,
      Value.int IntKind.i64 x.lk.n]]
      m (Value.tuple #[Value.int IntKind.u64 n, Value.int IntKind.u64 n_1]) ∧
      ∀ (n_2 : Nat),
      m.sz ≤ n_2 →
      Vc.Spec Try.prog (73 : Nat)
      [Value.agg
      #[Value.string x.key, Value.int IntKind.i64 x.lo, Value.int IntKind.i64 x.hi, Value.int IntKind.i64 x.base,
      Value.int IntKind.i64 x.round, Value.slice a x.hs.length c, Value.int IntKind.i64 x.lk.cl, Value.int IntKind.i64 x.lk.sq,
      Value.int IntKind.i64 x.lk.hm, Value.int IntKind.i64 x.lk.n]]
      { π := m.π, sz := n_2, uf := m.uf : M } fun (v : Value) (m' : M) =>
      ∃ (s : ByteArray),
      ∃ (n_3 : Int),
      ∃ (n_4 : Int),
      ∃ (n_5 : Int),
      ∃ (n_6 : Int),
      ∃ (a : Option Addr),
      ∃ (n_7 : Nat),
      ∃ (c : Nat),
      ∃ (n_8 : Int),
      ∃ (n_9 : Int),
      ∃ (n_10 : Int),
      ∃ (n_11 : Int),
      v =
      Value.agg
      #[Value.string s, Value.int IntKind.i64 n_3, Value.int IntKind.i64 n_4, Value.int IntKind.i64 n_5,
      Value.int IntKind.i64 n_6, Value.slice a n_7 c, Value.int IntKind.i64 n_8, Value.int IntKind.i64 n_9,
      Value.int IntKind.i64 n_10, Value.int IntKind.i64 n_11] ∧
      ∃ (n_12 : Int),
      ∃ (b : Bool),
      QSpec Try.prog (102 : Nat)
      [Value.slice a n_7 c, Value.int IntKind.i64 nd, Value.func (Fn.func (103 : Nat)) #[] #[]] m'
      (Value.tuple #[Value.int IntKind.i64 n_12, Value.bool b]) ∧
      ifB (!b)
      (true = true ∧
      ∀ (b : Nat),
      m'.sz ≤ b →
      ∃ (S' : Nat → Prop),
      (∀ (b_1 : Nat),
      S' b_1 →
      (m'.newBlock b
      [Value.int IntKind.i64 nd, Value.int IntKind.i64 le,
      Value.int IntKind.i64 (0 : Int), Value.int IntKind.i64 (0 : Int)]).uf
      b_1 ∧
      (m.sz ≤ b_1 ∨ False)) ∧
      ∀ (n_13 : Nat),
      max m'.sz (b + (1 : Nat)) ≤ n_13 →
      SpecW Try.prog (104 : Nat)
      [Value.slice a n_7 c, Value.int IntKind.i64 n_12,
      Value.slice (some { block := b, off := (0 : Nat) : Addr }) (1 : Nat) (1 : Nat)]
      { π := (m'.newBlock b [Value.int IntKind.i64 nd, Value.int IntKind.i64 le, Value.int IntKind.i64 (0 : Int), Value.int IntKind.i64 (0 : Int)]).π, sz := n_13, uf := (m'.newBlock b [Value.int IntKind.i64 nd, Value.int IntKind.i64 le, Value.int IntKind.i64 (0 : Int), Value.int IntKind.i64 (0 : Int)]).uf : M }
      S' fun (v : Value) (m' : M) =>
      ∃ (a : Option Addr),
      ∃ (n_14 : Nat),
      ∃ (c : Nat),
      v = Value.slice a n_14 c ∧
      ∃ (b : Nat),
      ∃ (off : Nat),
      a = some { block := b, off := off : Addr } ∧
      ((0 : Int) ≤ n_12 ∧ n_12 < (↑n_14 : Int)) ∧
      true = true ∧
      ∃ (n_15 : Int),
      CellsAt m' b (off + n_12.toNat * (4 : Nat) + (2 : Nat))
      [Value.int IntKind.i64 n_15] ∧
      ∃ (n_16 : Int),
      QSpec Try.prog (107 : Nat)
      [Value.int IntKind.u64 n_1,
      Value.int IntKind.i64 (IntKind.i64.wrap (ns + (1 : Int))),
      Value.int IntKind.i64 ns]
      m' (Value.int IntKind.u64 n_16) ∧
      ∃ (n_17 : Int),
      QSpec Try.prog (106 : Nat) [Value.int IntKind.u64 n_16] m'
      (Value.int IntKind.i64 n_17) ∧
      ∃ (n_18 : Int),
      QSpec Try.prog (105 : Nat)
      [Value.int IntKind.i64 n_15,
      Value.int IntKind.i64 n_17]
      m' (Value.int IntKind.i64 n_18) ∧
      (Wr m.sz (fun (x : Nat) => False) m' b
      (off + n_12.toNat * (4 : Nat) + (2 : Nat))
      #[Value.int IntKind.i64 n_18].size ∧
      true = true ∧
      ∃ (n_19 : Int),
      CellsAt
      (m'.setCells b
      (off + n_12.toNat * (4 : Nat) + (2 : Nat))
      [Value.int IntKind.i64 n_18])
      b (off + n_12.toNat * (4 : Nat) + (3 : Nat))
      [Value.int IntKind.i64 n_19] ∧
      ∃ (n_20 : Int),
      QSpec Try.prog (107 : Nat)
      [Value.int IntKind.u64 n,
      Value.int IntKind.i64
      (IntKind.i64.wrap (ns + (1 : Int))),
      Value.int IntKind.i64 ns]
      (m'.setCells b
      (off + n_12.toNat * (4 : Nat) +
      (2 : Nat))
      [Value.int IntKind.i64 n_18])
      (Value.int IntKind.u64 n_20) ∧
      ∃ (n : Int),
      QSpec Try.prog (106 : Nat)
      [Value.int IntKind.u64 n_20]
      (m'.setCells b
      (off + n_12.toNat * (4 : Nat) +
      (2 : Nat))
      [Value.int IntKind.i64 n_18])
      (Value.int IntKind.i64 n) ∧
      ∃ (n_21 : Int),
      QSpec Try.prog (105 : Nat)
      [Value.int IntKind.i64 n_19,
      Value.int IntKind.i64 n]
      (m'.setCells b
      (off +
      n_12.toNat * (4 : Nat) +
      (2 : Nat))
      [Value.int IntKind.i64 n_18])
      (Value.int IntKind.i64 n_21) ∧
      (Wr m.sz (fun (x : Nat) => False)
      (m'.setCells b
      (off +
      n_12.toNat *
      (4 : Nat) +
      (2 : Nat))
      [Value.int IntKind.i64
      n_18])
      b
      (off +
      n_12.toNat * (4 : Nat) +
      (3 : Nat))
      #[Value.int IntKind.i64
      n_21].size ∧
      Done
      (AcR m (aGrant x nd le ns)
      (Value.tuple
      #[Value.agg
      #[Value.string s,
      Value.int
      IntKind.i64 n_3,
      Value.int
      IntKind.i64 n_4,
      Value.int
      IntKind.i64 n_5,
      Value.int
      IntKind.i64 n_6,
      Value.slice a n_14
      c,
      Value.int
      IntKind.i64 n_8,
      Value.int
      IntKind.i64 n_9,
      Value.int
      IntKind.i64
      n_10,
      Value.int
      IntKind.i64
      n_11],
      Value.int IntKind.i64
      (0 : Int)])
      ((m'.setCells b
      (off +
      n_12.toNat *
      (4 : Nat) +
      (2 : Nat))
      [Value.int
      IntKind.i64
      n_18]).setCells
      b
      (off +
      n_12.toNat *
      (4 : Nat) +
      (3 : Nat))
      [Value.int IntKind.i64
      n_21]))) ∧
      True) ∧
      True)
      (∃ (b : Nat),
      ∃ (off : Nat),
      a = some { block := b, off := off : Addr } ∧
      ((0 : Int) ≤ n_12 ∧ n_12 < (↑n_7 : Int)) ∧
      true = true ∧
      ∃ (n_13 : Int),
      CellsAt m' b (off + n_12.toNat * (4 : Nat) + (2 : Nat)) [Value.int IntKind.i64 n_13] ∧
      ∃ (n_14 : Int),
      QSpec Try.prog (107 : Nat)
      [Value.int IntKind.u64 n_1, Value.int IntKind.i64 (IntKind.i64.wrap (ns + (1 : Int))),
      Value.int IntKind.i64 ns]
      m' (Value.int IntKind.u64 n_14) ∧
      ∃ (n_15 : Int),
      QSpec Try.prog (106 : Nat) [Value.int IntKind.u64 n_14] m'
      (Value.int IntKind.i64 n_15) ∧
      ∃ (n_16 : Int),
      QSpec Try.prog (105 : Nat)
      [Value.int IntKind.i64 n_13, Value.int IntKind.i64 n_15] m'
      (Value.int IntKind.i64 n_16) ∧
      (Wr m.sz (fun (x : Nat) => False) m' b
      (off + n_12.toNat * (4 : Nat) + (2 : Nat))
      #[Value.int IntKind.i64 n_16].size ∧
      true = true ∧
      ∃ (n_17 : Int),
      CellsAt
      (m'.setCells b (off + n_12.toNat * (4 : Nat) + (2 : Nat))
      [Value.int IntKind.i64 n_16])
      b (off + n_12.toNat * (4 : Nat) + (3 : Nat))
      [Value.int IntKind.i64 n_17] ∧
      ∃ (n_18 : Int),
      QSpec Try.prog (107 : Nat)
      [Value.int IntKind.u64 n,
      Value.int IntKind.i64 (IntKind.i64.wrap (ns + (1 : Int))),
      Value.int IntKind.i64 ns]
      (m'.setCells b (off + n_12.toNat * (4 : Nat) + (2 : Nat))
      [Value.int IntKind.i64 n_16])
      (Value.int IntKind.u64 n_18) ∧
      ∃ (n : Int),
      QSpec Try.prog (106 : Nat) [Value.int IntKind.u64 n_18]
      (m'.setCells b (off + n_12.toNat * (4 : Nat) + (2 : Nat))
      [Value.int IntKind.i64 n_16])
      (Value.int IntKind.i64 n) ∧
      ∃ (n_19 : Int),
      QSpec Try.prog (105 : Nat)
      [Value.int IntKind.i64 n_17, Value.int IntKind.i64 n]
      (m'.setCells b
      (off + n_12.toNat * (4 : Nat) + (2 : Nat))
      [Value.int IntKind.i64 n_16])
      (Value.int IntKind.i64 n_19) ∧
      (Wr m.sz (fun (x : Nat) => False)
      (m'.setCells b
      (off + n_12.toNat * (4 : Nat) + (2 : Nat))
      [Value.int IntKind.i64 n_16])
      b (off + n_12.toNat * (4 : Nat) + (3 : Nat))
      #[Value.int IntKind.i64 n_19].size ∧
      Done
      (AcR m (aGrant x nd le ns)
      (Value.tuple
      #[Value.agg
      #[Value.string s, Value.int IntKind.i64 n_3,
      Value.int IntKind.i64 n_4,
      Value.int IntKind.i64 n_5,
      Value.int IntKind.i64 n_6,
      Value.slice a n_7 c,
      Value.int IntKind.i64 n_8,
      Value.int IntKind.i64 n_9,
      Value.int IntKind.i64 n_10,
      Value.int IntKind.i64 n_11],
      Value.int IntKind.i64 (0 : Int)])
      ((m'.setCells b
      (off + n_12.toNat * (4 : Nat) + (2 : Nat))
      [Value.int IntKind.i64 n_16]).setCells
      b (off + n_12.toNat * (4 : Nat) + (3 : Nat))
      [Value.int IntKind.i64 n_19]))) ∧
      True) ∧
      True))))))))))) (by kernel_rfl) ?_
  refine ⟨rfl, _, right_q x a c hx _ h, ?_⟩
  cases hr : rightB x
  · exact ifB_true (fail_d (by simp [aGrant, hr]))
  refine ifB_false ?_
  refine ifB_intro (fun h1 => fail_d ?_) (fun h1 => ifB_intro (fun h2 => fail_d ?_) (fun h2 => ifB_intro (fun h3 => fail_d ?_) (fun h3 => ifB_intro (fun h4 => fail_d ?_) (fun h4 => ifB_intro (fun h5 => fail_d ?_) (fun h5 => ifB_intro (fun h6 => fail_d ?_) (fun h6 => ifB_intro (fun h7 => fail_d ?_) (fun h7 => ⟨_, locked_q x a c _, ifB_intro (fun h8 => fail_d ?_) (fun h8 => ⟨_, _, room_q x a c hx _ h, fun N hN => ?_⟩)⟩)))))))
  · simp at h1; simp [aGrant, hr, h1]
  · simp at h2; simp [aGrant, hr, h2]
  · simp at h3; simp [aGrant, hr, h3]
  · simp at h4; simp [aGrant, hr, h4]
  · simp at h5; simp [aGrant, hr, h5]
  · simp at h6; simp [aGrant, hr, h6]
  all_goals
    have harg : ¬ (ns < 1 ∨ 5 < ns ∨ nd < 1 ∨ ns < nd ∨ le < 1 ∨ 4611686018427387904 < le) := by simp at h1 h2 h3 h4 h5 h6; omega
  · simp at h7; simp [aGrant, hr, harg, h7]
  · simp at h8; simp [aGrant, hr, harg, h8]
  have h7 : x.round = 0 := by simpa using h7
  have h8 : x.lk.cl = 0 := by simpa using h8
  have hres : aGrant x nd le ns = ({ x with hs := putH x.hs (grantH x nd le ns) }, 0) := by simp [aGrant, hr, harg, h7, h8]
  have hp := (right_iff x).1 hr
  have hm := hold_mem _ _ hp.hold
  have hb := room_bounds hx hr h8
  have hl5 := right_len hr
  have hlo := hx.lo
  have hhi := hx.hi
  have hsp := hold_split nd hp.hold
  have uU : InU (roomUp x) := by have := hx.base; unfold InU; unfold In64 at *; omega
  have uD : InU (roomDn x) := by have := hx.base; unfold InU; unfold In64 at *; omega
  have w1 : IntKind.i64.wrap (ns + 1) = ns + 1 := by simp [IntKind.wrap_i64]; omega
  have s1 := share_in (roomUp x) (ns + 1) ns uU
  have s2 := share_in (roomDn x) (ns + 1) ns uD
  have i1 : In64 (ns + 1) := by unfold In64; omega
  have i2 : In64 ns := by unfold In64; omega
  have iU1 : InU (shareV (roomUp x) (ns + 1) ns) := by unfold InU at *; omega
  have iU2 : InU (shareV (roomDn x) (ns + 1) ns) := by unfold InU at *; omega
  rw [w1]
  generalize hF : (x.hs.filter fun z => decide (z.nd < nd)) = F at hsp
  generalize hG : (x.hs.filter fun z => decide (nd < z.nd)) = G at hsp
  have hFm : ∀ z ∈ F, z.nd < nd := fun z hz => by rw [← hF] at hz; simpa using (List.mem_filter.1 hz).2
  have hGm : ∀ z ∈ G, nd < z.nd := fun z hz => by rw [← hG] at hz; simpa using (List.mem_filter.1 hz).2
  have hput : ∀ e : Hd, e.nd = nd → putH x.hs e = F ++ e :: G := fun e he => by simp only [putH, he, hF, hG]
  have hEm : ∀ z ∈ (fndH x.hs nd).toList, z.nd = nd := fun z hz => by
    rw [Option.mem_toList] at hz
    have := List.find?_some hz
    simpa using this
  have hFl : F.length ≤ x.hs.length := by rw [← hF]; exact List.length_filter_le _ _
  refine (copied_q x a c (by omega) h0 _ (h.sz hN)).mono fun v m' hag ⟨a', c', hv, hr'⟩ => ⟨_, _, _, _, _, _, _, _, _, _, _, _, hv, ?_⟩
  have hmag := hag.2.2
  simp only at hmag
  have hpos : ∀ k (hk : k < x.hs.length), (k < F.length → x.hs[k].nd < nd) ∧ (F.length ≤ k → nd ≤ x.hs[k].nd) := fun k hk => by
    have hk' : k < (F ++ ((fndH x.hs nd).toList ++ G)).length := by rw [← hsp]; exact hk
    have he : x.hs[k] = (F ++ ((fndH x.hs nd).toList ++ G))[k] := by congr 1
    rw [he]
    refine ⟨fun hkF => ?_, fun hkF => ?_⟩
    · rw [List.getElem_append_left hkF]; exact hFm _ (List.getElem_mem _)
    · rw [List.getElem_append_right hkF]
      have hm2 := List.getElem_mem (l := (fndH x.hs nd).toList ++ G) (n := k - F.length) (by simp at hk' ⊢; omega)
      rcases List.mem_append.1 hm2 with h | h
      · have := hEm _ h; omega
      · have := hGm _ h; omega
  have hndb : ∀ k (hk : k < x.hs.length), 0 < x.hs[k].nd ∧ x.hs[k].nd ≤ 5 := fun k hk => by have := hm _ (List.getElem_mem hk); omega
  have hwr : ∀ z : Hd, 0 < z.nd ∧ z.nd ≤ 5 → IntKind.i64.wrap (z.nd - nd) = z.nd - nd := fun z hz => by simp [IntKind.wrap_i64]; omega
  have hbs := hd_bsearch a' c' x.hs nd (fun z => IntKind.i64.wrap (z.nd - nd)) F.length (by omega) m' hr'.row (fun z _ m2 => cmp_q z nd m2) hFl
    (fun k hk hkF => by rw [hwr _ (hndb k hk)]; have := (hpos k hk).1 hkF; omega) (fun k hk hkF => by rw [hwr _ (hndb k hk)]; have := (hpos k hk).2 hkF; omega)
  refine ⟨_, _, hbs, ?_⟩
  -- what is left, where the list holds e at F's end
  have hF0 : x.hs[F.length]? = ((fndH x.hs nd).toList ++ G)[0]? := by
    conv => lhs; rw [hsp]
    rw [List.getElem?_append_right (Nat.le_refl _), Nat.sub_self]
  cases hfnd : fndH x.hs nd with
  | some e =>
    rw [hfnd] at hsp hF0
    simp only [Option.toList_some, List.singleton_append] at hsp hF0
    have hend : e.nd = nd := hEm e (by rw [hfnd]; simp)
    have hany : (x.hs[F.length]?.any fun z => decide (IntKind.i64.wrap (z.nd - nd) = 0)) = true := by
      rw [hF0]; simp [hend, IntKind.wrap_i64]
    rw [hany]
    have hfe : findB x nd = true ∧ findH x nd = e := by simp [findB, findH, hr, hfnd]
    have hin : e ∈ x.hs := by rw [hsp]; simp
    have hwf := hx.hs e hin
    have hme := hm e hin
    have hup : 0 ≤ e.up ∧ e.up ≤ 9223372036854775807 := by have := hwf.2.2.1; unfold In64 at this; omega
    have hdn : 0 ≤ e.dn ∧ e.dn ≤ 9223372036854775807 := by have := hwf.2.2.2; unfold In64 at this; omega
    have hge : grantH x nd le ns = { nd := e.nd, le := e.le, up := moreI e.up (shareV (roomUp x) (ns + 1) ns), dn := moreI e.dn (shareV (roomDn x) (ns + 1) ns) } := by simp [grantH, hfe]
    have ho3 : OwnB m.sz (fun _ => False) m' 4 a' x.hs.length c' (hds (F ++ e :: G)) := by
      rw [← hsp]
      exact (hr'.toOwn (by rw [hsp]; simp)).lower hN
    have hlen3 : x.hs.length = F.length + 1 + G.length := by rw [hsp]; simp; omega
    refine ifB_false ?_
    simp only [Int.toNat_natCast]
    obtain ⟨b, o, rfl, hcl⟩ := ho3.row.cells (by rw [hds_len]; simp)
    obtain ⟨g1, q1⟩ := own_up ho3 (moreI e.up (fitV (shareV (roomUp x) (ns + 1) ns)))
    obtain ⟨g2, q2⟩ := own_dn q1 (moreI e.dn (fitV (shareV (roomDn x) (ns + 1) ns)))
    obtain ⟨b2, o2, e2, hcl2⟩ := q1.row.cells (by rw [hds_len]; simp)
    cases e2
    have c1 := (up_cell hcl).1
    have c2 := (up_cell hcl2).2
    refine ⟨b, o, rfl, ⟨by omega, by simp only [hlen3]; omega⟩, trivial, e.up, c1, _, share_q _ _ _ uU i1 i2 _, _, fit_q _ iU1 _, _, more_q _ _ (by omega) (by unfold fitV; unfold InU at iU1; omega) _, ⟨g1, trivial, e.dn, c2, _, share_q _ _ _ uD i1 i2 _, _, fit_q _ iU2 _, _, more_q _ _ (by omega) (by unfold fitV; unfold InU at iU2; omega) _, ⟨g2, ?_⟩, trivial⟩, trivial⟩
    rw [hres]
    have ege : putH x.hs (grantH x nd le ns) = F ++ { nd := e.nd, le := e.le, up := moreI e.up (fitV (shareV (roomUp x) (ns + 1) ns)), dn := moreI e.dn (fitV (shareV (roomDn x) (ns + 1) ns)) : Hd } :: G := by
      rw [more_fit _ _ hup.1, more_fit _ _ hdn.1, ← hge]
      exact hput _ (by rw [hge]; exact hend)
    have elen : x.hs.length = (putH x.hs (grantH x nd le ns)).length := by rw [ege, hlen3]; simp; omega
    rw [elen] at q2 ⊢
    refine ok_d (n := m.sz) (z := { x with hs := putH x.hs (grantH x nd le ns) }) rfl (.own ?_) (Nat.le_refl _)
    show OwnB _ _ _ _ _ _ _ (hds (putH x.hs (grantH x nd le ns)))
    rw [ege] at q2 ⊢
    exact q2
  | none =>
    rw [hfnd] at hsp hF0
    simp only [Option.toList_none, List.nil_append] at hsp hF0
    have hany : (x.hs[F.length]?.any fun z => decide (IntKind.i64.wrap (z.nd - nd) = 0)) = false := by
      rw [hF0]
      cases hG0 : G[0]? with
      | none => rfl
      | some g =>
        have hg := hGm g (List.mem_of_getElem? hG0)
        have hgm : g ∈ x.hs := by rw [hsp]; exact List.mem_append_right _ (List.mem_of_getElem? hG0)
        have := hm g hgm
        simp only [Option.any_some, decide_eq_false_iff_not]
        rw [hwr g (by omega)]; omega
    rw [hany]
    have hfe : findB x nd = false := by simp [findB, hfnd]
    have hge : grantH x nd le ns = { nd := nd, le := le, up := moreI 0 (shareV (roomUp x) (ns + 1) ns), dn := moreI 0 (shareV (roomDn x) (ns + 1) ns) } := by simp [grantH, hfe]
    refine ifB_true ⟨rfl, fun b hb => ?_⟩
    have hrN := hr'.newBlock (ds := [I nd, I le, I 0, I 0]) hb
    have hs := hd_insert a' c' x.hs F.length b 0 1 ⟨nd, le, 0, 0⟩ (fun b' => ∃ o, a' = some ⟨b', o, none⟩ ∧ (m'.newBlock b [I nd, I le, I 0, I 0]).uf b' ∧ m.sz ≤ b') (by omega) hFl
    refine ⟨fun b' => ∃ o, a' = some ⟨b', o, none⟩ ∧ (m'.newBlock b [I nd, I le, I 0, I 0]).uf b' ∧ m.sz ≤ b', fun b' ⟨o, e, hu, hlo⟩ => ⟨hu, .inl hlo⟩, fun n hn => ?_⟩
    refine (hs { m'.newBlock b [I nd, I le, I 0, I 0] with sz := n } ((hrN.sz hn).re fun b' o e hu hlo => .inr ⟨o, e, hu, by rcases hlo with h | h; simp only at h; omega; exact h.elim⟩)
      (fun hne b' o e => ?_) (by simp only; omega) (.inl rfl) ⟨(cellsAt_new (m := m') (b := b) (cs := [I nd, I le, I 0, I 0])).out⟩).mono fun v3 m3 hag3 ⟨a3, c3, hv3, hr3⟩ => ⟨a3, _, c3, hv3, ?_⟩
    · have := (hr'.toOwn (fun e => hne (List.eq_nil_of_length_eq_zero e))).lt e
      omega
    have etd : x.hs.take F.length ++ (⟨nd, le, 0, 0⟩ : Hd) :: x.hs.drop F.length = F ++ (⟨nd, le, 0, 0⟩ : Hd) :: G := by
      rw [hsp]; simp
    rw [etd] at hr3
    have ho3 : OwnB m.sz (fun _ => False) m3 4 a3 (x.hs.length + 1) c3 (hds (F ++ (⟨nd, le, 0, 0⟩ : Hd) :: G)) := by
      refine (hr3.toOwn (by omega)).re fun b' o e => .inl ?_
      rcases (hr3.toOwn (by omega)).lo e with h | ⟨o', -, -, h⟩
      · simp only at h; omega
      · exact h
    simp only [Int.toNat_natCast]
    obtain ⟨b, o, rfl, hcl⟩ := ho3.row.cells (by rw [hds_len]; simp)
    obtain ⟨g1, q1⟩ := own_up ho3 (moreI (0 : Int) (fitV (shareV (roomUp x) (ns + 1) ns)))
    obtain ⟨g2, q2⟩ := own_dn q1 (moreI (0 : Int) (fitV (shareV (roomDn x) (ns + 1) ns)))
    obtain ⟨b2, o2, e2, hcl2⟩ := q1.row.cells (by rw [hds_len]; simp)
    cases e2
    have c1 := (up_cell hcl).1
    have c2 := (up_cell hcl2).2
    refine ⟨b, o, rfl, ⟨by omega, by have := congrArg List.length hsp; simp at this; omega⟩, trivial, (0 : Int), c1, _, share_q _ _ _ uU i1 i2 _, _, fit_q _ iU1 _, _, more_q _ _ (by omega) (by unfold fitV; unfold InU at iU1; omega) _, ⟨g1, trivial, (0 : Int), c2, _, share_q _ _ _ uD i1 i2 _, _, fit_q _ iU2 _, _, more_q _ _ (by omega) (by unfold fitV; unfold InU at iU2; omega) _, ⟨g2, ?_⟩, trivial⟩, trivial⟩
    rw [hres]
    have ege : putH x.hs (grantH x nd le ns) = F ++ { nd := nd, le := le, up := moreI (0 : Int) (fitV (shareV (roomUp x) (ns + 1) ns)), dn := moreI (0 : Int) (fitV (shareV (roomDn x) (ns + 1) ns)) : Hd } :: G := by
      rw [more_fit _ _ (Int.le_refl 0), more_fit _ _ (Int.le_refl 0), ← hge]
      exact hput _ (by rw [hge])
    have elen : x.hs.length + 1 = (putH x.hs (grantH x nd le ns)).length := by rw [ege, hsp]; simp; omega
    rw [elen] at q2 ⊢
    refine ok_d (n := m.sz) (z := { x with hs := putH x.hs (grantH x nd le ns) }) rfl (.own ?_) (Nat.le_refl _)
    show OwnB _ _ _ _ _ _ _ (hds (putH x.hs (grantH x nd le ns)))
    rw [ege] at q2 ⊢
    exact q2

end Go.Proofs.Ytfkielfnceeedaa
set_option linter.unusedVariables false
set_option linter.unusedSimpArgs false
namespace Go.Proofs.Ytfkielfnceeedaa
open Go.Vc Go.RowKit
set_option maxRecDepth 100000

theorem fndH_append (F G : List Hd) (nd : Int) : fndH (F ++ G) nd = (fndH F nd).or (fndH G nd) := by
  simp [fndH, List.find?_append]

theorem fndH_cons (h : Hd) (G : List Hd) (nd : Int) : fndH (h :: G) nd = if h.nd = nd then some h else fndH G nd := by
  unfold fndH
  rw [List.find?_cons]
  by_cases hn : h.nd = nd
  · simp [hn]
  · have e : (h.nd == nd) = false := by simpa using hn
    rw [e]; simp [hn]

theorem fndH_none {F : List Hd} {nd : Int} (h : ∀ z ∈ F, z.nd ≠ nd) : fndH F nd = none := by
  unfold fndH
  rw [List.find?_eq_none]
  intro z hz; simpa using h z hz

theorem putH_find {l : List Hd} {h : Hd} {last : Int} (hl : holdB last l = true) (nd : Int) : fndH (putH l h) nd = if nd = h.nd then some h else fndH l nd := by
  have hsp := hold_split h.nd hl
  have hF : ∀ z ∈ (l.filter fun z => decide (z.nd < h.nd)), z.nd < h.nd := fun z hz => by simpa using (List.mem_filter.1 hz).2
  have hG : ∀ z ∈ (l.filter fun z => decide (h.nd < z.nd)), h.nd < z.nd := fun z hz => by simpa using (List.mem_filter.1 hz).2
  by_cases hn : nd = h.nd
  · subst hn
    rw [putH, fndH_append, fndH_none (fun z hz => by have := hF z hz; omega), fndH_cons]
    simp
  · rw [if_neg hn]
    conv => rhs; rw [hsp]
    rw [putH, fndH_append, fndH_append, fndH_append, fndH_cons, if_neg (fun e => hn e.symm)]
    have : fndH (fndH l h.nd).toList nd = none := fndH_none fun z hz => by
      rw [Option.mem_toList] at hz
      have := List.find?_some hz
      simp at this; omega
    rw [this]; simp

theorem putH_sum {l : List Hd} {h : Hd} {last : Int} (hl : holdB last l = true) (f : Hd → Int) : sumI ((putH l h).map f) = sumI (l.map f) + f h - (((fndH l h.nd).map f).getD 0) := by
  have hsp := congrArg (fun z => sumI (List.map f z)) (hold_split h.nd hl)
  simp only [List.map_append, sumI_append] at hsp
  rw [putH, List.map_append, List.map_cons, sumI_append, sumI_cons, hsp]
  cases fndH l h.nd with
  | none => simp [sumI]; omega
  | some e => simp [sumI]; omega

theorem hold_append : ∀ {F : List Hd} {h : Hd} {G : List Hd} {last : Int}, holdB last F = true → (∀ z ∈ F, z.nd < h.nd) → last < h.nd → hdB last h = true → holdB h.nd G = true → holdB last (F ++ h :: G) = true
  | [], h, G, last, _, _, _, hh, hG => by simp only [List.nil_append, holdB, hh, hG, Bool.and_self]
  | z :: r, h, G, last, hF, hlt, hl, hh, hG => by
    simp only [holdB, Bool.and_eq_true] at hF
    have h1 := hlt z (by simp)
    have := hold_append (F := r) (h := h) (G := G) hF.2 (fun w hw => hlt w (by simp [hw])) h1 (by simp only [hdB, Bool.and_eq_true, decide_eq_true_eq] at hh ⊢; omega) hG
    simp only [List.cons_append, holdB, hF.1, this, Bool.and_self]

theorem hold_after {nd : Int} : ∀ {l : List Hd} {last : Int}, holdB last l = true → holdB nd (l.filter fun z => decide (nd < z.nd)) = true
  | [], _, _ => rfl
  | h :: r, last, hb => by
    simp only [holdB, Bool.and_eq_true] at hb
    by_cases hp : nd < h.nd
    · rw [List.filter_cons_of_pos (by simpa using hp)]
      have e2 : (r.filter fun z => decide (nd < z.nd)) = r := List.filter_eq_self.2 fun z hz => by have := hold_mem _ _ hb.2 z hz; simp; omega
      rw [e2]
      simp only [holdB, Bool.and_eq_true]
      refine ⟨?_, hb.2⟩
      have h1 := hb.1
      simp only [hdB, Bool.and_eq_true, decide_eq_true_eq] at h1 ⊢
      omega
    · rw [List.filter_cons_of_neg (by simpa using hp)]
      exact hold_after hb.2

theorem putH_hold {l : List Hd} {h : Hd} (hl : holdB 0 l = true) (hh : hdB 0 h = true) : holdB 0 (putH l h) = true := by
  refine hold_append (hold_filter hl) (fun z hz => by simpa using (List.mem_filter.1 hz).2) ?_ hh (hold_after hl)
  simp only [hdB, Bool.and_eq_true, decide_eq_true_eq] at hh
  omega

/-- what a grant makes of an account -/
def grantA (x : Ac) (nd le ns : Int) : Ac := { x with hs := putH x.hs (grantH x nd le ns) }

theorem aGrant_ok {x : Ac} {nd le ns : Int} (h : (aGrant x nd le ns).2 = 0) : rightB x = true ∧ 1 ≤ ns ∧ ns ≤ 5 ∧ 1 ≤ nd ∧ nd ≤ ns ∧ 1 ≤ le ∧ x.round = 0 ∧ x.lk.cl = 0 ∧ aGrant x nd le ns = (grantA x nd le ns, 0) := by
  unfold aGrant at h ⊢
  split at h
  · simp at h
  split at h
  · simp at h
  split at h
  · simp at h
  rename_i h1 h2 h3
  refine ⟨by simpa using h1, by omega, by omega, by omega, by omega, by omega, ?_, ?_, by simp only [h1, h2, h3, if_false, grantA]; simp⟩
  · exact Classical.byContradiction fun e => h3 (.inl e)
  · exact Classical.byContradiction fun e => h3 (.inr e)

theorem aGrant_err {x : Ac} {nd le ns : Int} (h : (aGrant x nd le ns).2 ≠ 0) : aGrant x nd le ns = (ac0, (aGrant x nd le ns).2) := by
  unfold aGrant at h ⊢
  repeat' split
  all_goals simp_all

structure GrantP (x : Ac) (nd le ns : Int) : Prop where
  right : rightB (grantA x nd le ns) = true
  wf : (grantA x nd le ns).wf
  gnd : (grantH x nd le ns).nd = nd
  gle : (grantH x nd le ns).le = if findB x nd then (findH x nd).le else le
  up : 0 ≤ (findH x nd).up ∧ (findH x nd).up ≤ (grantH x nd le ns).up ∧ (grantH x nd le ns).up ≤ 9223372036854775807 ∧ (grantH x nd le ns).up ≤ (findH x nd).up + roomUp x
  dn : 0 ≤ (findH x nd).dn ∧ (findH x nd).dn ≤ (grantH x nd le ns).dn ∧ (grantH x nd le ns).dn ≤ 9223372036854775807 ∧ (grantH x nd le ns).dn ≤ (findH x nd).dn + roomDn x
  roomU : roomUp (grantA x nd le ns) = roomUp x - ((grantH x nd le ns).up - (findH x nd).up)
  roomD : roomDn (grantA x nd le ns) = roomDn x - ((grantH x nd le ns).dn - (findH x nd).dn)
  find : findB (grantA x nd le ns) nd = true ∧ findH (grantA x nd le ns) nd = grantH x nd le ns
  other : ∀ o, o ≠ nd → findB (grantA x nd le ns) o = findB x o ∧ findH (grantA x nd le ns) o = findH x o

theorem grant_p {x : Ac} {nd le ns : Int} (hx : x.wf) (hr : rightB x = true) (h1 : 1 ≤ ns) (h2 : ns ≤ 5) (h3 : 1 ≤ nd) (h4 : nd ≤ ns) (h5 : 1 ≤ le) (h5' : In64 le) (h6 : x.round = 0) (h7 : x.lk.cl = 0) : GrantP x nd le ns := by
  have hp := (right_iff x).1 hr
  have hm := hold_mem _ _ hp.hold
  have hb := room_bounds hx hr h7
  have hlo := hx.lo
  have hhi := hx.hi
  have hba := hx.base
  have uU : InU (roomUp x) := by unfold InU; unfold In64 at *; omega
  have uD : InU (roomDn x) := by unfold InU; unfold In64 at *; omega
  have s1 := share_in (roomUp x) (ns + 1) ns uU
  have s2 := share_in (roomDn x) (ns + 1) ns uD
  generalize hsU : shareV (roomUp x) (ns + 1) ns = sU at s1
  generalize hsD : shareV (roomDn x) (ns + 1) ns = sD at s2
  have hg0 : 0 ≤ (findH x nd).up ∧ (findH x nd).up ≤ 9223372036854775807 ∧ 0 ≤ (findH x nd).dn ∧ (findH x nd).dn ≤ 9223372036854775807 := by
    cases hf : findB x nd
    · have : fndH x.hs nd = none := by simpa [findB, hr] using hf
      simp [findH, hr, this, hd0]
    · have hmem := (find_mem hf).2.1
      have h8 := hm _ hmem
      have h9 := hx.hs _ hmem
      unfold Hd.wf In64 at h9
      omega
  have gnd : (grantH x nd le ns).nd = nd := by
    unfold grantH
    cases hf : findB x nd
    · simp
    · simp [(find_mem hf).2.2]
  have gle : (grantH x nd le ns).le = if findB x nd then (findH x nd).le else le := by
    unfold grantH
    cases hf : findB x nd <;> simp
  have gup : (grantH x nd le ns).up = moreI (findH x nd).up sU := by
    unfold grantH
    rw [hsU]
    cases hf : findB x nd
    · have : fndH x.hs nd = none := by simpa [findB, hr] using hf
      simp [findH, hr, this, hd0]
    · simp
  have gdn : (grantH x nd le ns).dn = moreI (findH x nd).dn sD := by
    unfold grantH
    rw [hsD]
    cases hf : findB x nd
    · have : fndH x.hs nd = none := by simpa [findB, hr] using hf
      simp [findH, hr, this, hd0]
    · simp
  have hup : 0 ≤ (findH x nd).up ∧ (findH x nd).up ≤ (grantH x nd le ns).up ∧ (grantH x nd le ns).up ≤ 9223372036854775807 ∧ (grantH x nd le ns).up ≤ (findH x nd).up + roomUp x := by
    rw [gup]; unfold moreI; omega
  have hdn : 0 ≤ (findH x nd).dn ∧ (findH x nd).dn ≤ (grantH x nd le ns).dn ∧ (grantH x nd le ns).dn ≤ 9223372036854775807 ∧ (grantH x nd le ns).dn ≤ (findH x nd).dn + roomDn x := by
    rw [gdn]; unfold moreI; omega
  have gle1 : 1 ≤ (grantH x nd le ns).le ∧ In64 (grantH x nd le ns).le := by
    rw [gle]
    cases hf : findB x nd
    · simp; exact ⟨h5, h5'⟩
    · simp only [if_true]
      have hmem := (find_mem hf).2.1
      exact ⟨(hm _ hmem).2.2.1, (hx.hs _ hmem).2.1⟩
  have hhd : hdB 0 (grantH x nd le ns) = true := by simp only [hdB, Bool.and_eq_true, decide_eq_true_eq]; omega
  have hgf : ∀ f : Hd → Int, f hd0 = 0 → ((fndH x.hs nd).map f).getD 0 = f (findH x nd) := fun f hf0 => by
    cases hf : fndH x.hs nd with
    | none => simp [findH, hr, hf, hf0]
    | some e => simp [findH, hr, hf]
  have su := putH_sum (h := grantH x nd le ns) hp.hold (·.up)
  have sd := putH_sum (h := grantH x nd le ns) hp.hold (·.dn)
  rw [gnd, hgf (·.up) rfl] at su
  rw [gnd, hgf (·.dn) rfl] at sd
  have eU : sumI (upsL (grantA x nd le ns)) = sumI (upsL x) + ((grantH x nd le ns).up - (findH x nd).up) := by
    simp only [upsL, grantA, sumI_cons, su]; omega
  have eD : sumI (dnsL (grantA x nd le ns)) = sumI (dnsL x) - ((grantH x nd le ns).dn - (findH x nd).dn) := by
    have n1 := sumI_neg x.hs (·.dn)
    have n2 := sumI_neg (putH x.hs (grantH x nd le ns)) (·.dn)
    simp only [dnsL, grantA, sumI_cons]
    rw [n1, n2, sd]; omega
  have hR : rightB (grantA x nd le ns) = true := by
    refine (right_iff _).2 ⟨hp.key, hp.has, hp.round, putH_hold hp.hold hhd, ?_, ?_, ?_⟩
    · rw [eU]; show _ ≤ x.hi; omega
    · rw [eD]; show x.lo ≤ _; omega
    · have := hp.lock
      simp only [lockB, h7, if_true] at this
      simp only [lockB, grantA, h7, if_true]
      exact this
  have hmemp : ∀ z ∈ putH x.hs (grantH x nd le ns), z = grantH x nd le ns ∨ z ∈ x.hs := fun z hz => by
    simp only [putH, List.mem_append, List.mem_cons, List.mem_filter] at hz
    rcases hz with h | h | h
    · exact .inr h.1
    · exact .inl h
    · exact .inr h.1
  have hW : (grantA x nd le ns).wf := by
    refine ⟨hx.key, hx.lo, hx.hi, hx.base, hx.round, fun z hz => ?_, ?_, hx.lk⟩
    · rcases hmemp z hz with rfl | h
      · refine ⟨by rw [gnd]; unfold In64; omega, gle1.2, ?_, ?_⟩ <;> unfold In64 <;> omega
      · exact hx.hs z h
    · have := right_len hR; omega
  have hl' : (grantA x nd le ns).lk.cl = 0 := h7
  have hb' := room_bounds hW hR hl'
  refine ⟨hR, hW, gnd, gle, hup, hdn, ?_, ?_, ?_, fun o ho => ?_⟩
  · have : (grantA x nd le ns).hi = x.hi := rfl
    omega
  · have : (grantA x nd le ns).lo = x.lo := rfl
    omega
  · have := putH_find (h := grantH x nd le ns) hp.hold nd
    rw [gnd, if_pos rfl] at this
    simp [findB, findH, hR, show (grantA x nd le ns).hs = putH x.hs (grantH x nd le ns) from rfl, this]
  · have := putH_find (h := grantH x nd le ns) hp.hold o
    rw [gnd, if_neg ho] at this
    simp [findB, findH, hR, hr, show (grantA x nd le ns).hs = putH x.hs (grantH x nd le ns) from rfl, this]

end Go.Proofs.Ytfkielfnceeedaa
set_option linter.unusedVariables false
set_option linter.unusedSimpArgs false
namespace Go.Proofs.Ytfkielfnceeedaa
open Go.Vc Go.RowKit
set_option maxRecDepth 100000

theorem aTake_ok {x : Ac} {k : Lk} (h : (aTake x k).2 = 0) : rightB x = true ∧ keeperB k = true ∧ x.lk.cl = 0 ∧ x.hs = [] ∧ fitsB x k = true ∧ aTake x k = ({ x with lk := k }, 0) := by
  unfold aTake at h ⊢
  split at h
  · simp at h
  split at h
  · simp at h
  split at h
  · rename_i h3; exact absurd h h3
  split at h
  · simp at h
  rename_i h1 h2 h3 h4
  have h1 : rightB x = true := by simpa using h1
  have h3 : knownE x = 0 := Classical.byContradiction h3
  have ht : totB x = true := by
    cases ht : totB x
    · simp [knownE, h1, ht] at h3
    · rfl
  simp only [totB, Bool.and_eq_true, decide_eq_true_eq, List.isEmpty_iff] at ht
  have h2' : keeperB k = true := by simpa using h2
  have h4' : fitsB x k = true := by simpa using h4
  exact ⟨h1, h2', ht.1.2, ht.2, h4', by simp [h1, h2', h3, h4']⟩

theorem aTake_err {x : Ac} {k : Lk} (h : (aTake x k).2 ≠ 0) : aTake x k = (ac0, (aTake x k).2) := by
  unfold aTake at h ⊢
  repeat' split
  all_goals simp_all

theorem take_right {x : Ac} {k : Lk} (hx : x.wf) (hk : k.wf) (hr : rightB x = true) (h1 : keeperB k = true) (h2 : x.lk.cl = 0) (h3 : x.hs = []) (h4 : fitsB x k = true) : rightB { x with lk := k } = true ∧ ({ x with lk := k } : Ac).wf ∧ k.cl ≠ 0 := by
  have hp := (right_iff x).1 hr
  have hc : k.cl ≠ 0 := by simp [keeperB] at h1; omega
  refine ⟨(right_iff _).2 ⟨hp.key, hp.has, hp.round, hp.hold, hp.up, hp.dn, ?_⟩, ⟨hx.key, hx.lo, hx.hi, hx.base, hx.round, hx.hs, hx.len, hk⟩, hc⟩
  have hf : fitsB { x with lk := k } k = true := h4
  show (if k.cl = 0 then lkZ k else keeperB k && x.hs.isEmpty && fitsB { x with lk := k } k) = true
  rw [if_neg hc, h1, hf, h3]
  rfl

theorem lk0_wf : lk0.wf := ⟨by decide, by decide, by decide, by decide⟩

theorem free_right {x : Ac} {b : Bool} (hx : x.wf) (hr : rightB x = true) (hc : x.lk.cl ≠ 0) :
    rightB { x with base := if b then x.base + x.lk.n else x.base, lk := lk0 } = true ∧ ({ x with base := if b then x.base + x.lk.n else x.base, lk := lk0 } : Ac).wf := by
  have hp := (right_iff x).1 hr
  have hl := hp.lock
  simp only [lockB] at hl
  rw [if_neg hc] at hl
  simp only [Bool.and_eq_true, List.isEmpty_iff, fitsB, hasB, decide_eq_true_eq] at hl
  obtain ⟨⟨h1, h2⟩, h3⟩ := hl
  have hh := hp.has
  have hlo := hx.lo
  have hhi := hx.hi
  have hb : x.lo ≤ (if b then x.base + x.lk.n else x.base) ∧ (if b then x.base + x.lk.n else x.base) ≤ x.hi := by cases b <;> simp <;> omega
  refine ⟨(right_iff _).2 ⟨hp.key, hb, hp.round, hp.hold, ?_, ?_, ?_⟩, ⟨hx.key, hx.lo, hx.hi, ?_, hx.round, hx.hs, hx.len, lk0_wf⟩⟩
  · simp only [upsL, h2, List.map_nil, sumI_cons]; simp only [sumI, List.foldl_nil]; omega
  · simp only [dnsL, h2, List.map_nil, sumI_cons]; simp only [sumI, List.foldl_nil]; omega
  · simp [lockB, lk0, lkZ]
  · simp only; unfold In64 at *; omega

end Go.Proofs.Ytfkielfnceeedaa
set_option linter.unusedVariables false
set_option linter.unusedSimpArgs false
namespace Go.Proofs.Ytfkielfnceeedaa
open Go.Vc Go.RowKit
set_option maxRecDepth 100000

def oneW (h : Hd) (k : Nat) : List Hd := if ((k + 1 : Nat) : Int) = h.nd then [h] else []

def resW (L : List Hd) (h : Hd) : Nat → List Hd
  | 0 => []
  | k + 1 => resW L h k ++ oneW h k ++ L.filter fun z => decide (z.nd = ((k + 1 : Nat) : Int))

structure WiX where
  k : Nat
  i : Nat
  aL : Option Addr
  cL : Nat
  a : Option Addr
  c : Nat
  m : M
  B : Nat

structure WiI (L : List Hd) (m : M) (y : WiX) (l : List Hd) : Prop where
  B : m.sz ≤ y.B
  Bm : y.B ≤ y.m.sz
  row : Row { y.m with sz := y.B } y.aL (hds L)
  own : NewR y.B (fun _ => False) y.m 4 y.a l.length y.c (hds l)

def inW (L : List Hd) (h : Hd) (y : WiX) : List Hd := resW L h y.k ++ oneW h y.k ++ (L.take y.i).filter fun z => decide (z.nd = ((y.k + 1 : Nat) : Int))

theorem oneW_len (h : Hd) (k : Nat) : (oneW h k).length ≤ 1 := by unfold oneW; split <;> simp

theorem resW_len (L : List Hd) (h : Hd) : ∀ k, (resW L h k).length ≤ k * (L.length + 1)
  | 0 => by simp [resW]
  | k + 1 => by
    have h1 := resW_len L h k
    have h2 := oneW_len h k
    have h3 := List.length_filter_le (fun z : Hd => decide (z.nd = ((k + 1 : Nat) : Int))) L
    simp only [resW, List.length_append, Nat.add_mul, Nat.one_mul]
    omega

theorem inW_len (L : List Hd) (h : Hd) (y : WiX) : (inW L h y).length ≤ (y.k + 1) * (L.length + 1) := by
  have h1 := resW_len L h y.k
  have h2 := oneW_len h y.k
  have h3 := List.length_filter_le (fun z : Hd => decide (z.nd = ((y.k + 1 : Nat) : Int))) (L.take y.i)
  have h4 : (L.take y.i).length ≤ L.length := by simp; omega
  simp only [inW, List.length_append, Nat.add_mul, Nat.one_mul]
  omega

theorem wi_push {L : List Hd} {m : M} {y : WiX} {l : List Hd} (hy : WiI L m y l) (hl : l.length ≤ 100000) (e : Hd) {b : Nat} (hb : y.m.sz ≤ b) :
    AppPre m.sz (fun _ => False) (y.m.newBlock b (encH e)) 4 32 y.a l.length y.c (some ⟨b, 0, none⟩) 1 (hds l) (encH e) ∧
      ∀ a' c' m', AppPost Try.prog 67 (y.m.newBlock b (encH e)) 4 y.a l.length y.c 1 (hds l) (encH e) a' c' m' → ∀ k i l', l' = l ++ [e] → WiI L m ⟨k, i, y.aL, y.cL, a', c', m', y.B⟩ l' := by
  have h1 := hy.B
  have h2 := hy.Bm
  obtain ⟨g1, -⟩ := (hy.own.lower h1).push (P := Try.prog) (e := 67) (bytes := 32) (src := encH e) hb (by omega) rfl rfl (by omega) zr_hd
  obtain ⟨-, g2⟩ := hy.own.push (P := Try.prog) (e := 67) (bytes := 32) (src := encH e) hb h2 rfl rfl (by omega) zr_hd
  refine ⟨g1, fun a' c' m' hp k i l' hl' => ?_⟩
  obtain ⟨g3, g4⟩ := g2 a' c' m' hp
  subst hl'
  refine ⟨h1, (by have := g4.2.2; show y.B ≤ m'.sz; omega), ?_, ?_⟩
  · exact hy.row.of (Nat.le_refl _) fun b' o e' hb' => g4.1 b' hb'
  · have e1 : hds (l ++ [e]) = hds l ++ encH e := by simp [hds]
    have e2 : (l ++ [e]).length = l.length + 1 := by simp
    rw [e1, e2]
    exact g3

def withAnn (x : Ac) (L : List Hd) (h : Hd) (m : M) : Nat → Ann
  | 9 => {
    A := WiX
    inv := fun y => WiI L m y (inW L h y) ∧ y.i ≤ L.length ∧ y.k < 5
    st := fun y => [(7, .val (I y.i)), (6, .val (I ((y.k + 1 : Nat) : Int))), (3, .own 1 0), (2, .own 0 0), (4, .own 2 0), (5, .val (.slice y.a (inW L h y).length y.c))]
    own := fun y => [(0, ⟨46, acc { x with hs := L } y.aL y.cL⟩), (1, ⟨67, encH h⟩), (2, ⟨46, acc ac0 none 0⟩)]
    m := fun y => y.m
    μ := fun y => L.length - y.i
    link := some fun y ctx => ctx = [5 - y.k] }
  | _ => {
    A := WiX
    inv := fun y => WiI L m y (resW L h y.k) ∧ y.k ≤ 5
    st := fun y => [(6, .val (I ((y.k + 1 : Nat) : Int))), (3, .own 1 0), (2, .own 0 0), (4, .own 2 0), (5, .val (.slice y.a (resW L h y.k).length y.c))]
    own := fun y => [(0, ⟨46, acc { x with hs := L } y.aL y.cL⟩), (1, ⟨67, encH h⟩), (2, ⟨46, acc ac0 none 0⟩)]
    m := fun y => y.m
    μ := fun y => 5 - y.k }

end Go.Proofs.Ytfkielfnceeedaa
set_option linter.unusedVariables false
set_option linter.unusedSimpArgs false
namespace Go.Proofs.Ytfkielfnceeedaa
open Go.Vc Go.RowKit
set_option maxRecDepth 100000

theorem hold_step : ∀ {l : List Hd} {last : Int} (k : Int), holdB last l = true → (l.filter fun z => decide (z.nd ≤ k + 1)) = (l.filter fun z => decide (z.nd ≤ k)) ++ l.filter fun z => decide (z.nd = k + 1)
  | [], _, _, _ => rfl
  | h :: r, last, k, hb => by
    simp only [holdB, Bool.and_eq_true] at hb
    have hm := hold_mem _ _ hb.2
    by_cases h1 : h.nd ≤ k
    · rw [List.filter_cons_of_pos (by simp; omega), List.filter_cons_of_pos (by simpa using h1), List.filter_cons_of_neg (by simp; omega), hold_step k hb.2, List.cons_append]
    · have e1 : (r.filter fun z => decide (z.nd ≤ k)) = [] := List.filter_eq_nil_iff.2 fun z hz => by have := hm z hz; simp; omega
      by_cases h2 : h.nd = k + 1
      · have e2 : (r.filter fun z => decide (z.nd ≤ k + 1)) = [] := List.filter_eq_nil_iff.2 fun z hz => by have := hm z hz; simp; omega
        have e3 : (r.filter fun z => decide (z.nd = k + 1)) = [] := List.filter_eq_nil_iff.2 fun z hz => by have := hm z hz; simp; omega
        rw [List.filter_cons_of_pos (by simp; omega), List.filter_cons_of_neg (by simpa using h1), List.filter_cons_of_pos (by simpa using h2), e1, e2, e3]
        rfl
      · rw [List.filter_cons_of_neg (by simp; omega), List.filter_cons_of_neg (by simpa using h1), List.filter_cons_of_neg (by simpa using h2), hold_step k hb.2]

theorem putH_one (l : List Hd) (h : Hd) (k : Nat) : ((putH l h).filter fun z => decide (z.nd = ((k + 1 : Nat) : Int))) = oneW h k ++ (l.filter fun z => decide (z.nd ≠ h.nd)).filter fun z => decide (z.nd = ((k + 1 : Nat) : Int)) := by
  simp only [putH, List.filter_append, List.filter_cons, List.filter_filter]
  by_cases hk : ((k + 1 : Nat) : Int) = h.nd
  · have e1 : (l.filter fun a => decide (a.nd = ((k + 1 : Nat) : Int)) && decide (a.nd < h.nd)) = [] := List.filter_eq_nil_iff.2 fun z _ => by simp; omega
    have e2 : (l.filter fun a => decide (a.nd = ((k + 1 : Nat) : Int)) && decide (h.nd < a.nd)) = [] := List.filter_eq_nil_iff.2 fun z _ => by simp; omega
    have e3 : (l.filter fun a => decide (a.nd = ((k + 1 : Nat) : Int)) && decide (a.nd ≠ h.nd)) = [] := List.filter_eq_nil_iff.2 fun z _ => by simp; omega
    rw [e1, e2, e3, if_pos (by simpa using hk.symm)]
    unfold oneW
    rw [if_pos hk]; rfl
  · have hw : oneW h k = [] := by unfold oneW; rw [if_neg hk]
    rw [hw, if_neg (by simp; omega), List.nil_append]
    rcases (by omega : ((k + 1 : Nat) : Int) < h.nd ∨ h.nd ≤ ((k + 1 : Nat) : Int)) with hlt | hge
    · have e2 : (l.filter fun a => decide (a.nd = ((k + 1 : Nat) : Int)) && decide (h.nd < a.nd)) = [] := List.filter_eq_nil_iff.2 fun z _ => by simp; omega
      rw [e2, List.append_nil]
      exact List.filter_congr fun z _ => by rw [Bool.eq_iff_iff]; simp; omega
    · have e2 : (l.filter fun a => decide (a.nd = ((k + 1 : Nat) : Int)) && decide (a.nd < h.nd)) = [] := List.filter_eq_nil_iff.2 fun z _ => by simp; omega
      rw [e2, List.nil_append]
      exact List.filter_congr fun z _ => by rw [Bool.eq_iff_iff]; simp; omega

theorem resW_put {l : List Hd} {h : Hd} (hl : holdB 0 l = true) (hh : hdB 0 h = true) : resW (l.filter fun z => decide (z.nd ≠ h.nd)) h 5 = putH l h := by
  have hs := putH_hold hl hh
  have key : ∀ k : Nat, resW (l.filter fun z => decide (z.nd ≠ h.nd)) h k = (putH l h).filter fun z => decide (z.nd ≤ (k : Int)) := fun k => by
    induction k with
    | zero =>
      simp only [resW]
      exact (List.filter_eq_nil_iff.2 fun z hz => by have := hold_mem _ _ hs z hz; simp; omega).symm
    | succ k ih =>
      simp only [resW]
      rw [ih, List.append_assoc, ← putH_one]
      exact (hold_step (k : Int) hs).symm
  rw [key 5]
  exact List.filter_eq_self.2 fun z hz => by have := hold_mem _ _ hs z hz; simp; omega

end Go.Proofs.Ytfkielfnceeedaa
set_option linter.unusedVariables false
set_option linter.unusedSimpArgs false
namespace Go.Proofs.Ytfkielfnceeedaa
open Go.Vc Go.RowKit
set_option maxRecDepth 100000

structure OpA where
  kind : Int
  nd : Int
  le : Int
  ro : Int
  n : Int
  lo : Int
  hi : Int
  lk : Lk
  cm : Bool

def OpA.wf (o : OpA) : Prop := In64 o.kind ∧ In64 o.nd ∧ In64 o.le ∧ In64 o.ro ∧ In64 o.n ∧ In64 o.lo ∧ In64 o.hi ∧ o.lk.wf

abbrev encO (o : OpA) : List Value := [I o.kind, I o.nd, I o.le, I o.ro, I o.n, I o.lo, I o.hi, I o.lk.cl, I o.lk.sq, I o.lk.hm, I o.lk.n, .bool o.cm]

abbrev opv (o : OpA) : Value := .agg #[I o.kind, I o.nd, I o.le, I o.ro, I o.n, I o.lo, I o.hi, I o.lk.cl, I o.lk.sq, I o.lk.hm, I o.lk.n, .bool o.cm]

def aCall (x : Ac) (o : OpA) (ns : Int) : Ac × Int :=
  if o.kind = 1 then aGrant x o.nd o.le ns else if o.kind = 2 then aFreeze x o.ro else if o.kind = 3 then aThaw x else
  if o.kind = 4 then aReport x o.nd o.le o.ro o.n else if o.kind = 5 then aBounds x o.lo o.hi else if o.kind = 6 then aTake x o.lk else
  if o.kind = 7 then aFree x o.cm else aAdd x o.n

theorem pass_s {f : FuncId} {args : List Value} {m : M} {N : Nat} {y0 y : Ac × Int} (h : Vc.Spec Try.prog f args { m with sz := N } (AcR { m with sz := N } y)) (hN : m.sz ≤ N) (e : y0 = y) :
    Vc.Spec Try.prog f args { m with sz := N } fun v m' => ∃ (s : ByteArray) (n1 n2 n3 n4 : Int) (a : Option Addr) (n5 c : Nat) (n6 n7 n8 n9 n10 : Int), v = .tuple #[.agg #[.string s, I n1, I n2, I n3, I n4, .slice a n5 c, I n6, I n7, I n8, I n9], I n10] ∧ Done (AcR m y0 (.tuple #[.agg #[.string s, I n1, I n2, I n3, I n4, .slice a n5 c, I n6, I n7, I n8, I n9], I n10]) m') :=
  h.mono fun v m' hag ⟨a', c', hv, hr⟩ => ⟨_, _, _, _, _, _, _, _, _, _, _, _, _, hv, ⟨by subst e; exact ⟨a', c', rfl, hr.lower hN⟩⟩⟩

end Go.Proofs.Ytfkielfnceeedaa
set_option linter.unusedVariables false
set_option linter.unusedSimpArgs false
namespace Go.Proofs.Ytfkielfnceeedaa
open Go.Vc Go.RowKit
set_option maxRecDepth 100000

/-- what an account has become: right, and of the same key -/
structure StayP (x y : Ac) : Prop where
  right : rightB y = true
  wf : y.wf
  key : y.key = x.key

theorem bounds_stay {x : Ac} {lo hi : Int} (hx : x.wf) (h1 : In64 lo) (h2 : In64 hi) (h : (aBounds x lo hi).2 = 0) : rightB x = true ∧ aBounds x lo hi = ({ x with lo := lo, hi := hi }, 0) ∧ StayP x { x with lo := lo, hi := hi } := by
  unfold aBounds at h ⊢
  split at h
  · rename_i hk; exact absurd h hk
  split at h
  · simp at h
  rename_i hk hh
  have hk : knownE x = 0 := Classical.byContradiction hk
  have hr := known_right hk
  have ht : totB x = true := by
    cases ht : totB x
    · simp [knownE, hr, ht] at hk
    · rfl
  simp only [totB, Bool.and_eq_true, decide_eq_true_eq, List.isEmpty_iff] at ht
  have hh : hasB lo hi x.base = true := by simpa using hh
  refine ⟨hr, by simp [hk, hh], ?_⟩
  have hp := (right_iff x).1 hr
  simp only [hasB, Bool.and_eq_true, decide_eq_true_eq] at hh
  refine ⟨(right_iff _).2 ⟨hp.key, hh, hp.round, hp.hold, ?_, ?_, ?_⟩, ⟨hx.key, h1, h2, hx.base, hx.round, hx.hs, hx.len, hx.lk⟩, rfl⟩
  · simp only [upsL, ht.2, List.map_nil, sumI_cons]; simp only [sumI, List.foldl_nil]; omega
  · simp only [dnsL, ht.2, List.map_nil, sumI_cons]; simp only [sumI, List.foldl_nil]; omega
  · have := hp.lock
    simp only [lockB, ht.1.2, if_true] at this ⊢
    exact this

theorem take_stay {x : Ac} {k : Lk} (hx : x.wf) (hk : k.wf) (h : (aTake x k).2 = 0) : rightB x = true ∧ aTake x k = ({ x with lk := k }, 0) ∧ StayP x { x with lk := k } := by
  obtain ⟨h1, h2, h3, h4, h5, h6⟩ := aTake_ok h
  obtain ⟨g1, g2, -⟩ := take_right hx hk h1 h2 h3 h4 h5
  exact ⟨h1, h6, g1, g2, rfl⟩

def freedA (x : Ac) (b : Bool) : Ac := { x with base := if b then x.base + x.lk.n else x.base, lk := lk0 }

theorem free_stay {x : Ac} {b : Bool} (hx : x.wf) (h : (aFree x b).2 = 0) : rightB x = true ∧ aFree x b = (freedA x b, 0) ∧ StayP x (freedA x b) ∧ x.lk.cl ≠ 0 := by
  unfold aFree at h ⊢
  split at h
  · simp at h
  split at h
  · simp at h
  rename_i h1 h2
  have h1 : rightB x = true := by simpa using h1
  obtain ⟨g1, g2⟩ := free_right (b := b) hx h1 h2
  exact ⟨h1, by simp only [h1, h2, if_false, freedA]; simp, ⟨g1, g2, rfl⟩, h2⟩

theorem add_stay {x : Ac} {n : Int} (hx : x.wf) (h : (aAdd x n).2 = 0) : rightB x = true ∧ aAdd x n = (x.by n, 0) ∧ StayP x (x.by n) := by
  obtain ⟨h1, h2, h3, h4, h5⟩ := aAdd_ok h
  obtain ⟨g1, g2, g3, g4⟩ := by_right hx h1 h3 h4
  exact ⟨h1, h5, g1, g2, rfl⟩

theorem freeze_stay {x : Ac} {r : Int} (hx : x.wf) (hr64 : In64 r) (h : (aFreeze x r).2 = 0) : rightB x = true ∧ aFreeze x r = ({ x with round := rndR x r }, 0) ∧ StayP x { x with round := rndR x r } := by
  obtain ⟨h1, h2, h3, h4⟩ := aFreeze_ok h
  have hp := (right_iff x).1 h1
  have hR1 : 0 ≤ rndR x r := by have := hp.round; unfold rndR; split <;> omega
  have hR2 : In64 (rndR x r) := by unfold rndR; split; exact hr64; exact hx.round
  obtain ⟨g1, g2⟩ := round_right hx h1 hR1 hR2
  exact ⟨h1, h4, g1, g2, rfl⟩

theorem thaw_stay {x : Ac} (hx : x.wf) (h : (aThaw x).2 = 0) : rightB x = true ∧ aThaw x = ({ x with round := 0 }, 0) ∧ StayP x { x with round := 0 } := by
  unfold aThaw at h ⊢
  split at h
  · simp at h
  rename_i h1
  have h1 : rightB x = true := by simpa using h1
  obtain ⟨g1, g2⟩ := round_right hx h1 (Int.le_refl 0) (by decide)
  exact ⟨h1, by simp [h1], g1, g2, rfl⟩

def cutA (x : Ac) (nd net : Int) : Ac := { x with base := x.base + net, hs := x.hs.filter fun h => decide (h.nd ≠ nd) }

theorem report_stay {x : Ac} {nd le ro net : Int} (hx : x.wf) (h : (aReport x nd le ro net).2 = 0) : rightB x = true ∧ aReport x nd le ro net = (cutA x nd net, 0) ∧ StayP x (cutA x nd net) := by
  obtain ⟨h1, h2, h3, h4, h5, h6, h7, h8⟩ := aReport_ok h
  obtain ⟨-, hm, hn⟩ := find_mem h2
  obtain ⟨g1, g2⟩ := cut_right hx h1 hm h6 h7
  rw [hn] at g1 g2
  exact ⟨h1, h8, g1, g2, rfl⟩

theorem grant_stay {x : Ac} {nd le ns : Int} (hx : x.wf) (hle : In64 le) (h : (aGrant x nd le ns).2 = 0) : rightB x = true ∧ aGrant x nd le ns = (grantA x nd le ns, 0) ∧ StayP x (grantA x nd le ns) := by
  obtain ⟨h1, h2, h3, h4, h5, h6, h7, h8, h9⟩ := aGrant_ok h
  have P := grant_p hx h1 h2 h3 h4 h5 h6 hle h7 h8
  exact ⟨h1, h9, P.right, P.wf, rfl⟩

theorem call_stay {x : Ac} {o : OpA} {ns : Int} (hx : x.wf) (ho : o.wf) (h : (aCall x o ns).2 = 0) : rightB x = true ∧ StayP x (aCall x o ns).1 := by
  obtain ⟨-, -, h3, h4, h5, h6, h7, h8⟩ := ho
  unfold aCall at h ⊢
  split
  · rename_i h1; rw [if_pos h1] at h; obtain ⟨a, b, c⟩ := grant_stay hx h3 h; rw [b]; exact ⟨a, c⟩
  rename_i h1; rw [if_neg h1] at h
  split
  · rename_i h1; rw [if_pos h1] at h; obtain ⟨a, b, c⟩ := freeze_stay hx h4 h; rw [b]; exact ⟨a, c⟩
  rename_i h1; rw [if_neg h1] at h
  split
  · rename_i h1; rw [if_pos h1] at h; obtain ⟨a, b, c⟩ := thaw_stay hx h; rw [b]; exact ⟨a, c⟩
  rename_i h1; rw [if_neg h1] at h
  split
  · rename_i h1; rw [if_pos h1] at h; obtain ⟨a, b, c⟩ := report_stay hx h; rw [b]; exact ⟨a, c⟩
  rename_i h1; rw [if_neg h1] at h
  split
  · rename_i h1; rw [if_pos h1] at h; obtain ⟨a, b, c⟩ := bounds_stay hx h6 h7 h; rw [b]; exact ⟨a, c⟩
  rename_i h1; rw [if_neg h1] at h
  split
  · rename_i h1; rw [if_pos h1] at h; obtain ⟨a, b, c⟩ := take_stay hx h8 h; rw [b]; exact ⟨a, c⟩
  rename_i h1; rw [if_neg h1] at h
  split
  · rename_i h1; rw [if_pos h1] at h; obtain ⟨a, b, c, -⟩ := free_stay hx h; rw [b]; exact ⟨a, c⟩
  rename_i h1; rw [if_neg h1] at h
  obtain ⟨a, b, c⟩ := add_stay hx h; rw [b]; exact ⟨a, c⟩

theorem thaw_err {x : Ac} (h : (aThaw x).2 ≠ 0) : (aThaw x).1 = ac0 := by
  unfold aThaw at h ⊢
  split <;> simp_all

theorem report_err {x : Ac} {nd le ro net : Int} (h : (aReport x nd le ro net).2 ≠ 0) : (aReport x nd le ro net).1 = ac0 := by
  unfold aReport at h ⊢
  split; rfl
  split; rfl
  split; rfl
  split; rfl
  rename_i h1 h2 h3 h4
  simp only [h1, h2, h3, h4, if_false] at h
  exact absurd rfl h

theorem bounds_err {x : Ac} {lo hi : Int} (h : (aBounds x lo hi).2 ≠ 0) : (aBounds x lo hi).1 = ac0 := by
  unfold aBounds at h ⊢
  split; rfl
  split; rfl
  rename_i h1 h2
  simp only [h1, h2, if_false] at h
  exact absurd rfl h

theorem free_err {x : Ac} {b : Bool} (h : (aFree x b).2 ≠ 0) : (aFree x b).1 = ac0 := by
  unfold aFree at h ⊢
  split; rfl
  split; rfl
  rename_i h1 h2
  simp only [h1, h2, if_false] at h
  exact absurd rfl h

theorem call_err {x : Ac} {o : OpA} {ns : Int} (h : (aCall x o ns).2 ≠ 0) : (aCall x o ns).1 = ac0 := by
  unfold aCall at h ⊢
  split
  · rename_i h1; rw [if_pos h1] at h; rw [aGrant_err h]
  rename_i h1; rw [if_neg h1] at h
  split
  · rename_i h1; rw [if_pos h1] at h; rw [aFreeze_err h]
  rename_i h1; rw [if_neg h1] at h
  split
  · rename_i h1; rw [if_pos h1] at h; exact thaw_err h
  rename_i h1; rw [if_neg h1] at h
  split
  · rename_i h1; rw [if_pos h1] at h; exact report_err h
  rename_i h1; rw [if_neg h1] at h
  split
  · rename_i h1; rw [if_pos h1] at h; exact bounds_err h
  rename_i h1; rw [if_neg h1] at h
  split
  · rename_i h1; rw [if_pos h1] at h; rw [aTake_err h]
  rename_i h1; rw [if_neg h1] at h
  split
  · rename_i h1; rw [if_pos h1] at h; exact free_err h
  rename_i h1; rw [if_neg h1] at h
  rw [aAdd_err h]

theorem call_wf {x : Ac} {o : OpA} {ns : Int} (hx : x.wf) (ho : o.wf) : (aCall x o ns).1.wf := by
  by_cases h : (aCall x o ns).2 = 0
  · exact (call_stay hx ho h).2.wf
  · rw [call_err h]; exact wf_key _ (by decide)

end Go.Proofs.Ytfkielfnceeedaa
set_option linter.unusedVariables false
set_option linter.unusedSimpArgs false
namespace Go.Proofs.Ytfkielfnceeedaa
open Go.Vc Go.RowKit
set_option maxRecDepth 100000

theorem held_find {l : List Rt} {g : Int} {x : Ac} {nd : Int} {z : Bool} (h : heldE l g x nd z = 0) : findB x nd = true := by
  unfold heldE at h
  cases hb : findB x nd with
  | true => rfl
  | false =>
    rw [hb] at h
    split at h
    · simp at h
    · split at h
      · simp at h
      · simp at h

structure OnX where
  i : Nat
  l : List Rt
  a : Option Addr
  c : Nat
  net : Int
  m : M

def oneR (x : Ac) (nd net : Int) : Rt := ⟨2, x.key, (findH x nd).le, net⟩

structure OnP (x : Ac) (nd : Int) (l : List Rt) (net : Int) : Prop where
  shape : (l = [] ∧ net = 0) ∨ (findB x nd = true ∧ l = [oneR x nd net] ∧ inB (findH x nd) net = true)

structure OnI (x : Ac) (a : Option Addr) (nd : Int) (sa : Option Addr) (ss : List Int) (y : OnX) : Prop where
  i : y.i ≤ ss.length
  p : OnP x nd y.l y.net
  rs : Rs y.m [(y.a, rts y.l), (sa, ints ss), (a, hds x.hs)]

theorem one_may {x : Ac} {nd : Int} (hx : x.wf) (hb : findB x nd = true) (net : Int) : rmayB (oneR x nd net) = true := by
  have F := find_fact hx hb
  have hk := ((right_iff x).1 F.right).key
  have := F.le
  simp [rmayB, oneR, hk, this]

theorem OnP.led {x : Ac} {nd : Int} {l : List Rt} {net : Int} (P : OnP x nd l net) (hx : x.wf) : ledB none l = true := by
  rcases P.shape with ⟨rfl, -⟩ | ⟨hb, rfl, -⟩
  · rfl
  · exact led_cons.2 ⟨fun q e => (by cases e), one_may hx hb net, rfl⟩

theorem OnP.net {x : Ac} {nd : Int} {l : List Rt} {net : Int} (P : OnP x nd l net) (hx : x.wf) : netR l 2 x.key (findH x nd).le = net := by
  rcases P.shape with ⟨rfl, rfl⟩ | ⟨hb, rfl, -⟩
  · simp [netR]
  · have h : ledB none [oneR x nd net] = true := led_cons.2 ⟨fun q e => (by cases e), one_may hx hb net, rfl⟩
    rw [netR, h, if_pos rfl]
    simp [isN, oneR]

theorem OnP.put {x : Ac} {nd : Int} {l : List Rt} {net : Int} (P : OnP x nd l net) (hx : x.wf) (hb : findB x nd = true) (n : Int) : putE l (oneR x nd n) = ([oneR x nd n], 0) := by
  have hm := one_may hx hb n
  have hl := P.led hx
  have e : putL l (oneR x nd n) = [oneR x nd n] := by
    rcases P.shape with ⟨rfl, rfl⟩ | ⟨-, rfl, -⟩
    · rfl
    · have hs : sameK (oneR x nd net) (oneR x nd n) = true := by simp [sameK, oneR]
      have := bel_same hs
      simp [putL, this.1, this.2]
  simp [putE, hl, hm, e]

theorem OnP.wf {x : Ac} {nd : Int} {l : List Rt} {net : Int} (P : OnP x nd l net) (hx : x.wf) : ∀ r ∈ l, r.wf := by
  rcases P.shape with ⟨rfl, -⟩ | ⟨hb, rfl, hi⟩
  · intro r hr; simp at hr
  · intro r hr
    have hr : r = oneR x nd net := by simpa using hr
    subst hr
    have F := find_fact hx hb
    have h1 := F.up
    have h2 := F.dn
    simp [inB] at hi
    exact ⟨by simp [oneR, In64], hx.key, F.wf.2.1, by show In64 net; unfold In64; omega⟩

/-- what a spending makes of it -/
theorem OnP.spend {x : Ac} {nd : Int} {l : List Rt} {net : Int} (P : OnP x nd l net) (hx : x.wf) (s : Int) (he : (spendE l 2 x nd s).2 = 0) :
    findB x nd = true ∧ inB (findH x nd) (net + s) = true ∧ spendE l 2 x nd s = (oneR x nd (net + s), 0) := by
  unfold spendE at he ⊢
  split at he
  · rename_i h; exact absurd he h
  · rename_i h
    have h : heldE l 2 x nd (decide (s = 0)) = 0 := Decidable.not_not.1 h
    have hb : findB x nd = true := held_find h
    rw [P.net hx] at he ⊢
    split at he
    · simp at he
    · rename_i h2
      rw [if_neg (by simpa using h), if_neg h2]
      exact ⟨hb, by simpa using h2, rfl⟩

theorem hd_none {B : List Hd} {a : Option Addr} {m : M} (h : Row m a (hds B)) (e : a = none) : B = [] := by
  cases B with
  | nil => rfl
  | cons x xs =>
    obtain ⟨b, o, e2, -⟩ := h.cells (by rw [hds_len]; simp)
    rw [e] at e2; simp at e2

set_option maxHeartbeats 2000000 in
theorem ledgeronce (x : Ac) (a : Option Addr) (c : Nat) (nd : Int) (sa : Option Addr) (cs : Nat) (ss : List Int) (ro : Int) (hx : x.wf) (hss : ∀ s ∈ ss, In64 s) (hsl : ss.length ≤ 9223372036854775807) (hro : In64 ro) (h0 : a = none → x.hs = []) (m : M) (h : Row m a (hds x.hs)) (h2 : Row m sa (ints ss)) :
    QSpec Try.prog 7 [acv x a c, I nd, .slice sa ss.length cs, I ro] m (.bool true) := by
  refine QSpec.of_vc Try.func7 (ann := fun n _ => { A := OnX, inv := OnI x a nd sa ss, st := fun y => [(13, .val (I y.i)), (2, .val (.slice sa ss.length cs)), (11, .val (.slice y.a y.l.length y.c)), (4, .own 0 0), (1, .val (I nd)), (10, .val (.bool (findB x nd))), (12, .val (I y.net)), (9, .own 20 0), (3, .val (I ro))], own := fun _ => [(0, ⟨46, [.string x.key, I x.lo, I x.hi, I x.base, I x.round, .slice a x.hs.length c, I x.lk.cl, I x.lk.sq, I x.lk.hm, I x.lk.n]⟩), (20, ⟨67, encH (findH x nd)⟩)], m := fun y => y.m, μ := fun y => ss.length - y.i }) fun N hN => ?_
  refine vc_by (X :=
      true = true ∧
      ∃ (b : Bool),
      QSpec Try.prog (13 : Nat) [] { π := m.π, sz := N, uf := m.uf : M } (Value.bool b) ∧
      ifB (!b) (∃ (b : Bool), QSpec Try.prog (13 : Nat) [] { π := m.π, sz := N, uf := m.uf : M } (Value.bool b) ∧ Done (Value.bool b = Value.bool true))
      (∃ (b : Bool),
      QSpec Try.prog (32 : Nat)
      [Value.agg
      #[Value.string x.key, Value.int IntKind.i64 x.lo, Value.int IntKind.i64 x.hi, Value.int IntKind.i64 x.base, Value.int IntKind.i64 x.round,
      Value.slice a x.hs.length c, Value.int IntKind.i64 x.lk.cl, Value.int IntKind.i64 x.lk.sq, Value.int IntKind.i64 x.lk.hm, Value.int IntKind.i64 x.lk.n]]
      { π := m.π, sz := N, uf := m.uf : M } (Value.bool b) ∧
      ifB (!b) (∃ (b : Bool), QSpec Try.prog (13 : Nat) [] { π := m.π, sz := N, uf := m.uf : M } (Value.bool b) ∧ Done (Value.bool b = Value.bool true))
      (ifB (x.round != (0 : Int)) (∃ (b : Bool), QSpec Try.prog (13 : Nat) [] { π := m.π, sz := N, uf := m.uf : M } (Value.bool b) ∧ Done (Value.bool b = Value.bool true))
      (∃ (n : Int),
      ∃ (n_1 : Int),
      ∃ (n_2 : Int),
      ∃ (n_3 : Int),
      ∃ (b : Bool),
      QSpec Try.prog (33 : Nat)
      [Value.agg
      #[Value.string x.key, Value.int IntKind.i64 x.lo, Value.int IntKind.i64 x.hi, Value.int IntKind.i64 x.base, Value.int IntKind.i64 x.round,
      Value.slice a x.hs.length c, Value.int IntKind.i64 x.lk.cl, Value.int IntKind.i64 x.lk.sq, Value.int IntKind.i64 x.lk.hm,
      Value.int IntKind.i64 x.lk.n],
      Value.int IntKind.i64 nd]
      { π := m.π, sz := N, uf := m.uf : M }
      (Value.tuple #[Value.agg #[Value.int IntKind.i64 n, Value.int IntKind.i64 n_1, Value.int IntKind.i64 n_2, Value.int IntKind.i64 n_3], Value.bool b]) ∧
      (∃ (a_1 : OnX),
      OnI x a nd sa ss a_1 ∧
      { π := m.π, sz := N, uf := m.uf : M } = a_1.m ∧
      ((SV.val (Value.int IntKind.i64 (0 : Int)) = SV.val (Value.int IntKind.i64 (↑a_1.i : Int)) ∧ true = true) ∧
      (SV.val (Value.slice sa ss.length cs) = SV.val (Value.slice sa ss.length cs) ∧ true = true) ∧
      (SV.val (Value.slice none (0 : Nat) (0 : Nat)) = SV.val (Value.slice a_1.a a_1.l.length a_1.c) ∧ true = true) ∧
      (SV.own ((0 : Nat) + (0 : Nat)) (0 : Nat) = SV.own (0 : Nat) (0 : Nat) ∧ true = true) ∧
      (SV.val (Value.int IntKind.i64 nd) = SV.val (Value.int IntKind.i64 nd) ∧ true = true) ∧
      (SV.val (Value.bool b) = SV.val (Value.bool (findB x nd)) ∧ true = true) ∧
      (SV.val (Value.int IntKind.i64 (0 : Int)) = SV.val (Value.int IntKind.i64 a_1.net) ∧ true = true) ∧
      (SV.own ((0 : Nat) + (2 : Nat) + (12 : Nat) + (6 : Nat)) (0 : Nat) = SV.own (20 : Nat) (0 : Nat) ∧ true = true) ∧
      (SV.val (Value.int IntKind.i64 ro) = SV.val (Value.int IntKind.i64 ro) ∧ true = true) ∧ True) ∧
      (some
      { ty := (46 : Nat), cs := [Value.string x.key, Value.int IntKind.i64 x.lo, Value.int IntKind.i64 x.hi, Value.int IntKind.i64 x.base, Value.int IntKind.i64 x.round, Value.slice a x.hs.length c, Value.int IntKind.i64 x.lk.cl, Value.int IntKind.i64 x.lk.sq, Value.int IntKind.i64 x.lk.hm, Value.int IntKind.i64 x.lk.n] : Bx } =
      some
      { ty := (46 : TypeId), cs := [Value.string x.key, Value.int IntKind.i64 x.lo, Value.int IntKind.i64 x.hi, Value.int IntKind.i64 x.base, Value.int IntKind.i64 x.round, Value.slice a x.hs.length c, Value.int IntKind.i64 x.lk.cl, Value.int IntKind.i64 x.lk.sq, Value.int IntKind.i64 x.lk.hm, Value.int IntKind.i64 x.lk.n] : Bx } ∧
      true = true) ∧
      (some
      { ty := (67 : Nat), cs := [Value.int IntKind.i64 n, Value.int IntKind.i64 n_1, Value.int IntKind.i64 n_2, Value.int IntKind.i64 n_3] : Bx } =
      some
      { ty := (67 : TypeId), cs := [Value.int IntKind.i64 (findH x nd).nd, Value.int IntKind.i64 (findH x nd).le, Value.int IntKind.i64 (findH x nd).up, Value.int IntKind.i64 (findH x nd).dn] : Bx } ∧
      true = true) ∧
      True) ∧
      ∀ (a_1 : OnX),
      OnI x a nd sa ss a_1 →
      ifB (decide ((↑a_1.i : Int) < (↑ss.length : Int)))
      (true = true ∧
      ∃ (b : Nat),
      ∃ (off : Nat),
      sa = some { block := b, off := off : Addr } ∧
      ((0 : Int) ≤ (↑a_1.i : Int) ∧ (↑a_1.i : Int) < (↑ss.length : Int)) ∧
      ∃ (n : Int),
      CellsAt a_1.m b (off + (↑a_1.i : Int).toNat * (1 : Nat)) [Value.int IntKind.i64 n] ∧
      ∃ (n_4 : Int),
      ∃ (s : ByteArray),
      ∃ (n_5 : Int),
      ∃ (n_6 : Int),
      ∃ (n_7 : Int),
      QSpec Try.prog (24 : Nat)
      [Value.slice a_1.a a_1.l.length a_1.c, Value.int IntKind.i64 (2 : Int),
      Value.agg
      #[Value.string x.key, Value.int IntKind.i64 x.lo, Value.int IntKind.i64 x.hi, Value.int IntKind.i64 x.base,
      Value.int IntKind.i64 x.round, Value.slice a x.hs.length c, Value.int IntKind.i64 x.lk.cl,
      Value.int IntKind.i64 x.lk.sq, Value.int IntKind.i64 x.lk.hm, Value.int IntKind.i64 x.lk.n],
      Value.int IntKind.i64 nd, Value.int IntKind.i64 n]
      a_1.m
      (Value.tuple
      #[Value.agg #[Value.int IntKind.i64 n_4, Value.string s, Value.int IntKind.i64 n_5, Value.int IntKind.i64 n_6],
      Value.int IntKind.i64 n_7]) ∧
      ifB (n_7 != (0 : Int))
      (∃ (a' : OnX),
      (OnI x a nd sa ss a' ∧
      a_1.m = a'.m ∧
      ((SV.val (Value.int IntKind.i64 (IntKind.i64.wrap ((↑a_1.i : Int) + (1 : Int)))) =
      SV.val (Value.int IntKind.i64 (↑a'.i : Int)) ∧
      true = true) ∧
      (SV.val (Value.slice sa ss.length cs) = SV.val (Value.slice sa ss.length cs) ∧ true = true) ∧
      (SV.val (Value.slice a_1.a a_1.l.length a_1.c) = SV.val (Value.slice a'.a a'.l.length a'.c) ∧
      true = true) ∧
      (SV.own (0 : Nat) (0 : Nat) = SV.own (0 : Nat) (0 : Nat) ∧ true = true) ∧
      (SV.val (Value.int IntKind.i64 nd) = SV.val (Value.int IntKind.i64 nd) ∧ true = true) ∧
      (SV.val (Value.bool (findB x nd)) = SV.val (Value.bool (findB x nd)) ∧ true = true) ∧
      (SV.val (Value.int IntKind.i64 a_1.net) = SV.val (Value.int IntKind.i64 a'.net) ∧
      true = true) ∧
      (SV.own (20 : Nat) (0 : Nat) = SV.own (20 : Nat) (0 : Nat) ∧ true = true) ∧
      (SV.val (Value.int IntKind.i64 ro) = SV.val (Value.int IntKind.i64 ro) ∧ true = true) ∧
      True) ∧
      (some
      { ty := (46 : TypeId), cs := [Value.string x.key, Value.int IntKind.i64 x.lo, Value.int IntKind.i64 x.hi, Value.int IntKind.i64 x.base, Value.int IntKind.i64 x.round, Value.slice a x.hs.length c, Value.int IntKind.i64 x.lk.cl, Value.int IntKind.i64 x.lk.sq, Value.int IntKind.i64 x.lk.hm, Value.int IntKind.i64 x.lk.n] : Bx } =
      some
      { ty := (46 : TypeId), cs := [Value.string x.key, Value.int IntKind.i64 x.lo, Value.int IntKind.i64 x.hi, Value.int IntKind.i64 x.base, Value.int IntKind.i64 x.round, Value.slice a x.hs.length c, Value.int IntKind.i64 x.lk.cl, Value.int IntKind.i64 x.lk.sq, Value.int IntKind.i64 x.lk.hm, Value.int IntKind.i64 x.lk.n] : Bx } ∧
      true = true) ∧
      (some
      { ty := (67 : TypeId), cs := [Value.int IntKind.i64 (findH x nd).nd, Value.int IntKind.i64 (findH x nd).le, Value.int IntKind.i64 (findH x nd).up, Value.int IntKind.i64 (findH x nd).dn] : Bx } =
      some
      { ty := (67 : TypeId), cs := [Value.int IntKind.i64 (findH x nd).nd, Value.int IntKind.i64 (findH x nd).le, Value.int IntKind.i64 (findH x nd).up, Value.int IntKind.i64 (findH x nd).dn] : Bx } ∧
      true = true) ∧
      True) ∧
      ss.length - a'.i < ss.length - a_1.i)
      (ifB (!findB x nd) (Done (Value.bool false = Value.bool true))
      (∃ (S' : Nat → Prop),
      (∀ (b : Nat), S' b → a_1.m.uf b ∧ (N ≤ b ∨ False)) ∧
      ∀ (n : Nat),
      a_1.m.sz ≤ n →
      SpecW Try.prog (11 : Nat)
      [Value.slice a_1.a a_1.l.length a_1.c,
      Value.agg
      #[Value.int IntKind.i64 n_4, Value.string s, Value.int IntKind.i64 n_5, Value.int IntKind.i64 n_6]]
      { π := a_1.m.π, sz := n, uf := a_1.m.uf : M } S' fun (v : Value) (m' : M) =>
      ∃ (a_4 : Option Addr),
      ∃ (n : Nat),
      ∃ (c_1 : Nat),
      ∃ (n_8 : Int),
      v = Value.tuple #[Value.slice a_4 n c_1, Value.int IntKind.i64 n_8] ∧
      ∃ (b : Nat),
      ∃ (off : Nat),
      sa = some { block := b, off := off : Addr } ∧
      ((0 : Int) ≤ (↑a_1.i : Int) ∧ (↑a_1.i : Int) < (↑ss.length : Int)) ∧
      ∃ (n_9 : Int),
      CellsAt m' b (off + (↑a_1.i : Int).toNat * (1 : Nat)) [Value.int IntKind.i64 n_9] ∧
      ifB (n_8 != (0 : Int)) (Done (Value.bool false = Value.bool true))
      (ifB (n_6 != IntKind.i64.wrap (a_1.net + n_9))
      (Done (Value.bool false = Value.bool true))
      (ifB (n_5 != (findH x nd).le) (Done (Value.bool false = Value.bool true))
      (ifB (decide (IntKind.i64.wrap (a_1.net + n_9) > (findH x nd).up))
      (Done (Value.bool false = Value.bool true))
      (ifB
      (decide
      (IntKind.i64.wrap (a_1.net + n_9) <
      IntKind.i64.wrap ((0 : Int) - (findH x nd).dn)))
      (Done (Value.bool false = Value.bool true))
      (∃ (a' : OnX),
      (OnI x a nd sa ss a' ∧
      m' = a'.m ∧
      ((SV.val
      (Value.int IntKind.i64
      (IntKind.i64.wrap ((↑a_1.i : Int) + (1 : Int)))) =
      SV.val (Value.int IntKind.i64 (↑a'.i : Int)) ∧
      true = true) ∧
      (SV.val (Value.slice sa ss.length cs) =
      SV.val (Value.slice sa ss.length cs) ∧
      true = true) ∧
      (SV.val (Value.slice a_4 n c_1) =
      SV.val (Value.slice a'.a a'.l.length a'.c) ∧
      true = true) ∧
      (SV.own (0 : Nat) (0 : Nat) =
      SV.own (0 : Nat) (0 : Nat) ∧
      true = true) ∧
      (SV.val (Value.int IntKind.i64 nd) =
      SV.val (Value.int IntKind.i64 nd) ∧
      true = true) ∧
      (SV.val (Value.bool (findB x nd)) =
      SV.val (Value.bool (findB x nd)) ∧
      true = true) ∧
      (SV.val
      (Value.int IntKind.i64
      (IntKind.i64.wrap (a_1.net + n_9))) =
      SV.val (Value.int IntKind.i64 a'.net) ∧
      true = true) ∧
      (SV.own (20 : Nat) (0 : Nat) =
      SV.own (20 : Nat) (0 : Nat) ∧
      true = true) ∧
      (SV.val (Value.int IntKind.i64 ro) =
      SV.val (Value.int IntKind.i64 ro) ∧
      true = true) ∧
      True) ∧
      (some
      { ty := (46 : TypeId), cs := [Value.string x.key, Value.int IntKind.i64 x.lo, Value.int IntKind.i64 x.hi, Value.int IntKind.i64 x.base, Value.int IntKind.i64 x.round, Value.slice a x.hs.length c, Value.int IntKind.i64 x.lk.cl, Value.int IntKind.i64 x.lk.sq, Value.int IntKind.i64 x.lk.hm, Value.int IntKind.i64 x.lk.n] : Bx } =
      some
      { ty := (46 : TypeId), cs := [Value.string x.key, Value.int IntKind.i64 x.lo, Value.int IntKind.i64 x.hi, Value.int IntKind.i64 x.base, Value.int IntKind.i64 x.round, Value.slice a x.hs.length c, Value.int IntKind.i64 x.lk.cl, Value.int IntKind.i64 x.lk.sq, Value.int IntKind.i64 x.lk.hm, Value.int IntKind.i64 x.lk.n] : Bx } ∧
      true = true) ∧
      (some
      { ty := (67 : TypeId), cs := [Value.int IntKind.i64 (findH x nd).nd, Value.int IntKind.i64 (findH x nd).le, Value.int IntKind.i64 (findH x nd).up, Value.int IntKind.i64 (findH x nd).dn] : Bx } =
      some
      { ty := (67 : TypeId), cs := [Value.int IntKind.i64 (findH x nd).nd, Value.int IntKind.i64 (findH x nd).le, Value.int IntKind.i64 (findH x nd).up, Value.int IntKind.i64 (findH x nd).dn] : Bx } ∧
      true = true) ∧
      True) ∧
      ss.length - a'.i < ss.length - a_1.i))))))))
      (∀ (n : Nat),
      a_1.m.sz ≤ n →
      Vc.Spec Try.prog (34 : Nat)
      [Value.agg
      #[Value.string x.key, Value.int IntKind.i64 x.lo, Value.int IntKind.i64 x.hi, Value.int IntKind.i64 x.base,
      Value.int IntKind.i64 x.round, Value.slice a x.hs.length c, Value.int IntKind.i64 x.lk.cl, Value.int IntKind.i64 x.lk.sq,
      Value.int IntKind.i64 x.lk.hm, Value.int IntKind.i64 x.lk.n],
      Value.int IntKind.i64 ro]
      { π := a_1.m.π, sz := n, uf := a_1.m.uf : M } fun (v : Value) (m' : M) =>
      ∃ (s : ByteArray),
      ∃ (n : Int),
      ∃ (n_4 : Int),
      ∃ (n_5 : Int),
      ∃ (n_6 : Int),
      ∃ (a : Option Addr),
      ∃ (n_7 : Nat),
      ∃ (c : Nat),
      ∃ (n_8 : Int),
      ∃ (n_9 : Int),
      ∃ (n_10 : Int),
      ∃ (n_11 : Int),
      ∃ (n_12 : Int),
      v =
      Value.tuple
      #[Value.agg
      #[Value.string s, Value.int IntKind.i64 n, Value.int IntKind.i64 n_4, Value.int IntKind.i64 n_5,
      Value.int IntKind.i64 n_6, Value.slice a n_7 c, Value.int IntKind.i64 n_8,
      Value.int IntKind.i64 n_9, Value.int IntKind.i64 n_10, Value.int IntKind.i64 n_11],
      Value.int IntKind.i64 n_12] ∧
      ifB (n_12 != (0 : Int))
      (ifB (n_12 != (0 : Int)) (Done (Value.bool true = Value.bool true))
      (Done (Value.bool ((↑a_1.l.length : Int) == (0 : Int)) = Value.bool true)))
      (ifB (!findB x nd)
      (ifB (n_12 != (0 : Int)) (Done (Value.bool true = Value.bool true))
      (Done (Value.bool ((↑a_1.l.length : Int) == (0 : Int)) = Value.bool true)))
      (∃ (n_13 : Int),
      ∃ (s_1 : ByteArray),
      ∃ (n_14 : Int),
      ∃ (n_15 : Int),
      ∃ (n_16 : Int),
      QSpec Try.prog (24 : Nat)
      [Value.slice a_1.a a_1.l.length a_1.c, Value.int IntKind.i64 (2 : Int),
      Value.agg
      #[Value.string s, Value.int IntKind.i64 n, Value.int IntKind.i64 n_4,
      Value.int IntKind.i64 n_5, Value.int IntKind.i64 n_6, Value.slice a n_7 c,
      Value.int IntKind.i64 n_8, Value.int IntKind.i64 n_9, Value.int IntKind.i64 n_10,
      Value.int IntKind.i64 n_11],
      Value.int IntKind.i64 nd, Value.int IntKind.i64 (1 : Int)]
      m'
      (Value.tuple
      #[Value.agg
      #[Value.int IntKind.i64 n_13, Value.string s_1, Value.int IntKind.i64 n_14,
      Value.int IntKind.i64 n_15],
      Value.int IntKind.i64 n_16]) ∧
      ∃ (S' : Nat → Prop),
      (∀ (b : Nat), S' b → m'.uf b ∧ (N ≤ b ∨ False)) ∧
      ∀ (n_17 : Nat),
      m'.sz ≤ n_17 →
      SpecW Try.prog (28 : Nat)
      [Value.slice a_1.a a_1.l.length a_1.c, Value.int IntKind.i64 (2 : Int),
      Value.agg
      #[Value.string s, Value.int IntKind.i64 n, Value.int IntKind.i64 n_4,
      Value.int IntKind.i64 n_5, Value.int IntKind.i64 n_6, Value.slice a n_7 c,
      Value.int IntKind.i64 n_8, Value.int IntKind.i64 n_9,
      Value.int IntKind.i64 n_10, Value.int IntKind.i64 n_11],
      Value.int IntKind.i64 nd]
      { π := m'.π, sz := n_17, uf := m'.uf : M } S' fun (v : Value) (m' : M) =>
      ∃ (n_18 : Int),
      ∃ (n_19 : Int),
      ∃ (n_20 : Int),
      ∃ (n_21 : Int),
      ∃ (n_22 : Int),
      ∃ (n_23 : Int),
      ∃ (s_2 : ByteArray),
      ∃ (n_24 : Int),
      ∃ (n_25 : Int),
      ∃ (n_26 : Int),
      ∃ (b : Bool),
      ∃ (n_27 : Int),
      ∃ (s_3 : ByteArray),
      ∃ (s_4 : ByteArray),
      ∃ (n_28 : Int),
      ∃ (n_29 : Int),
      ∃ (n_30 : Int),
      ∃ (n_31 : Int),
      ∃ (n_32 : Int),
      ∃ (n_33 : Int),
      ∃ (s_5 : ByteArray),
      ∃ (s_6 : ByteArray),
      ∃ (n_34 : Int),
      ∃ (n_35 : Int),
      ∃ (a_5 : Option Addr),
      ∃ (n_36 : Nat),
      ∃ (c_1 : Nat),
      ∃ (b_1 : Bool),
      v =
      Value.tuple
      #[Value.agg
      #[Value.int
      IntKind.i64
      n_18,
      Value.int
      IntKind.i64
      n_19,
      Value.int
      IntKind.i64
      n_20,
      Value.int
      IntKind.i64
      n_21,
      Value.int
      IntKind.i64
      n_22,
      Value.int
      IntKind.i64
      n_23,
      Value.string
      s_2,
      Value.int
      IntKind.i64
      n_24,
      Value.int
      IntKind.i64
      n_25,
      Value.int
      IntKind.i64
      n_26,
      Value.bool b,
      Value.int
      IntKind.i64
      n_27,
      Value.string
      s_3,
      Value.string
      s_4,
      Value.int
      IntKind.i64
      n_28,
      Value.int
      IntKind.i64
      n_29,
      Value.int
      IntKind.i64
      n_30,
      Value.int
      IntKind.i64
      n_31,
      Value.int
      IntKind.i64
      n_32,
      Value.int
      IntKind.i64
      n_33,
      Value.string
      s_5,
      Value.string
      s_6,
      Value.int
      IntKind.i64
      n_34,
      Value.int
      IntKind.i64
      n_35,
      Value.slice a_5
      n_36 c_1],
      Value.bool b_1] ∧
      ∀ (n_37 : Nat),
      m'.sz ≤ n_37 →
      Vc.Spec Try.prog
      (35 : Nat)
      [Value.agg
      #[Value.string
      s,
      Value.int
      IntKind.i64
      n,
      Value.int
      IntKind.i64
      n_4,
      Value.int
      IntKind.i64
      n_5,
      Value.int
      IntKind.i64
      n_6,
      Value.slice a
      n_7 c,
      Value.int
      IntKind.i64
      n_8,
      Value.int
      IntKind.i64
      n_9,
      Value.int
      IntKind.i64
      n_10,
      Value.int
      IntKind.i64
      n_11],
      Value.int
      IntKind.i64
      n_22,
      Value.int
      IntKind.i64
      n_24,
      Value.int
      IntKind.i64
      n_25,
      Value.int
      IntKind.i64
      n_26]
      { π := m'.π, sz := n_37, uf := m'.uf : M }
      fun (v : Value)
      (m' : M) =>
      ∃ (s : ByteArray),
      ∃ (n : Int),
      ∃ (n_38 : Int),
      ∃ (n_39 :
      Int),
      ∃ (n_40 :
      Int),
      ∃ (a :
      Option
      Addr),
      ∃ (n_41
      :
      Nat),
      ∃ (c :
      Nat),
      ∃
      (n_42
      :
      Int),
      ∃
      (n_43
      :
      Int),
      ∃
      (n_44
      :
      Int),
      ∃
      (n_45
      :
      Int),
      ∃
      (n_46
      :
      Int),
      v =
      Value.tuple
      #[Value.agg
      #[Value.string
      s,
      Value.int
      IntKind.i64
      n,
      Value.int
      IntKind.i64
      n_38,
      Value.int
      IntKind.i64
      n_39,
      Value.int
      IntKind.i64
      n_40,
      Value.slice
      a
      n_41
      c,
      Value.int
      IntKind.i64
      n_42,
      Value.int
      IntKind.i64
      n_43,
      Value.int
      IntKind.i64
      n_44,
      Value.int
      IntKind.i64
      n_45],
      Value.int
      IntKind.i64
      n_46] ∧
      ∃
      (S'
      :
      Nat →
      Prop),
      (∀
      (b :
      Nat),
      S'
      b →
      m'.uf
      b ∧
      (N ≤
      b ∨
      False)) ∧
      ∀
      (n_47 :
      Nat),
      m'.sz ≤
      n_47 →
      SpecW
      Try.prog
      (28 :
      Nat)
      [Value.slice
      a_1.a
      a_1.l.length
      a_1.c,
      Value.int
      IntKind.i64
      (2 :
      Int),
      Value.agg
      #[Value.string
      s,
      Value.int
      IntKind.i64
      n,
      Value.int
      IntKind.i64
      n_38,
      Value.int
      IntKind.i64
      n_39,
      Value.int
      IntKind.i64
      n_40,
      Value.slice
      a
      n_41
      c,
      Value.int
      IntKind.i64
      n_42,
      Value.int
      IntKind.i64
      n_43,
      Value.int
      IntKind.i64
      n_44,
      Value.int
      IntKind.i64
      n_45],
      Value.int
      IntKind.i64
      nd]
      { π := m'.π, sz := n_47, uf := m'.uf : M }
      S'
      fun
      (v :
      Value)
      (m' :
      M) =>
      ∃
      (n_48
      :
      Int),
      ∃
      (n_49
      :
      Int),
      ∃
      (n_50
      :
      Int),
      ∃
      (n_51
      :
      Int),
      ∃
      (n_52
      :
      Int),
      ∃
      (n_53
      :
      Int),
      ∃
      (s_7
      :
      ByteArray),
      ∃
      (n_54
      :
      Int),
      ∃
      (n_55
      :
      Int),
      ∃
      (n_56
      :
      Int),
      ∃
      (b
      :
      Bool),
      ∃
      (n_57
      :
      Int),
      ∃
      (s_8
      :
      ByteArray),
      ∃
      (s_9
      :
      ByteArray),
      ∃
      (n_58
      :
      Int),
      ∃
      (n_59
      :
      Int),
      ∃
      (n_60
      :
      Int),
      ∃
      (n_61
      :
      Int),
      ∃
      (n_62
      :
      Int),
      ∃
      (n_63
      :
      Int),
      ∃
      (s_10
      :
      ByteArray),
      ∃
      (s_11
      :
      ByteArray),
      ∃
      (n_64
      :
      Int),
      ∃
      (n_65
      :
      Int),
      ∃
      (a_8
      :
      Option
      Addr),
      ∃
      (n_66
      :
      Nat),
      ∃
      (c_2
      :
      Nat),
      ∃
      (b_2
      :
      Bool),
      v =
      Value.tuple
      #[Value.agg
      #[Value.int
      IntKind.i64
      n_48,
      Value.int
      IntKind.i64
      n_49,
      Value.int
      IntKind.i64
      n_50,
      Value.int
      IntKind.i64
      n_51,
      Value.int
      IntKind.i64
      n_52,
      Value.int
      IntKind.i64
      n_53,
      Value.string
      s_7,
      Value.int
      IntKind.i64
      n_54,
      Value.int
      IntKind.i64
      n_55,
      Value.int
      IntKind.i64
      n_56,
      Value.bool
      b,
      Value.int
      IntKind.i64
      n_57,
      Value.string
      s_8,
      Value.string
      s_9,
      Value.int
      IntKind.i64
      n_58,
      Value.int
      IntKind.i64
      n_59,
      Value.int
      IntKind.i64
      n_60,
      Value.int
      IntKind.i64
      n_61,
      Value.int
      IntKind.i64
      n_62,
      Value.int
      IntKind.i64
      n_63,
      Value.string
      s_10,
      Value.string
      s_11,
      Value.int
      IntKind.i64
      n_64,
      Value.int
      IntKind.i64
      n_65,
      Value.slice
      a_8
      n_66
      c_2],
      Value.bool
      b_2] ∧
      ∀
      (n_67 :
      Nat),
      m'.sz ≤
      n_67 →
      Vc.Spec
      Try.prog
      (36 :
      Nat)
      [Value.agg
      #[Value.string
      s,
      Value.int
      IntKind.i64
      n,
      Value.int
      IntKind.i64
      n_38,
      Value.int
      IntKind.i64
      n_39,
      Value.int
      IntKind.i64
      n_40,
      Value.slice
      a
      n_41
      c,
      Value.int
      IntKind.i64
      n_42,
      Value.int
      IntKind.i64
      n_43,
      Value.int
      IntKind.i64
      n_44,
      Value.int
      IntKind.i64
      n_45]]
      { π := m'.π, sz := n_67, uf := m'.uf : M }
      fun
      (v :
      Value)
      (m' :
      M) =>
      ∃
      (s
      :
      ByteArray),
      ∃
      (n
      :
      Int),
      ∃
      (n_68
      :
      Int),
      ∃
      (n_69
      :
      Int),
      ∃
      (n_70
      :
      Int),
      ∃
      (a
      :
      Option
      Addr),
      ∃
      (n_71
      :
      Nat),
      ∃
      (c
      :
      Nat),
      ∃
      (n_72
      :
      Int),
      ∃
      (n_73
      :
      Int),
      ∃
      (n_74
      :
      Int),
      ∃
      (n_75
      :
      Int),
      ∃
      (n_76
      :
      Int),
      v =
      Value.tuple
      #[Value.agg
      #[Value.string
      s,
      Value.int
      IntKind.i64
      n,
      Value.int
      IntKind.i64
      n_68,
      Value.int
      IntKind.i64
      n_69,
      Value.int
      IntKind.i64
      n_70,
      Value.slice
      a
      n_71
      c,
      Value.int
      IntKind.i64
      n_72,
      Value.int
      IntKind.i64
      n_73,
      Value.int
      IntKind.i64
      n_74,
      Value.int
      IntKind.i64
      n_75],
      Value.int
      IntKind.i64
      n_76] ∧
      ∃
      (n_77
      :
      Int),
      ∃
      (s_12
      :
      ByteArray),
      ∃
      (n_78
      :
      Int),
      ∃
      (n_79
      :
      Int),
      ∃
      (n_80
      :
      Int),
      QSpec
      Try.prog
      (24 :
      Nat)
      [Value.slice
      a_1.a
      a_1.l.length
      a_1.c,
      Value.int
      IntKind.i64
      (2 :
      Int),
      Value.agg
      #[Value.string
      s,
      Value.int
      IntKind.i64
      n,
      Value.int
      IntKind.i64
      n_68,
      Value.int
      IntKind.i64
      n_69,
      Value.int
      IntKind.i64
      n_70,
      Value.slice
      a
      n_71
      c,
      Value.int
      IntKind.i64
      n_72,
      Value.int
      IntKind.i64
      n_73,
      Value.int
      IntKind.i64
      n_74,
      Value.int
      IntKind.i64
      n_75],
      Value.int
      IntKind.i64
      nd,
      Value.int
      IntKind.i64
      (1 :
      Int)]
      m'
      (Value.tuple
      #[Value.agg
      #[Value.int
      IntKind.i64
      n_77,
      Value.string
      s_12,
      Value.int
      IntKind.i64
      n_78,
      Value.int
      IntKind.i64
      n_79],
      Value.int
      IntKind.i64
      n_80]) ∧
      ifB
      (n_16 ==
      (152 :
      Int))
      (ifB
      b_1
      (ifB
      (n_26 ==
      a_1.net)
      (ifB
      (n_46 ==
      (0 :
      Int))
      (ifB
      (!b_2)
      (ifB
      (n_76 ==
      (0 :
      Int))
      (ifB
      (n_69 ==
      IntKind.i64.wrap
      (x.base +
      a_1.net))
      (Done
      (Value.bool
      (n_80 ==
      (151 :
      Int)) =
      Value.bool
      true))
      (Done
      (Value.bool
      false =
      Value.bool
      true)))
      (Done
      (Value.bool
      false =
      Value.bool
      true)))
      (Done
      (Value.bool
      false =
      Value.bool
      true)))
      (Done
      (Value.bool
      false =
      Value.bool
      true)))
      (Done
      (Value.bool
      false =
      Value.bool
      true)))
      (Done
      (Value.bool
      false =
      Value.bool
      true)))
      (Done
      (Value.bool
      false =
      Value.bool
      true))))))))) (by kernel_rfl) ?_
  have R : Rs { m with sz := N } [(sa, ints ss), (a, hds x.hs)] := ⟨h2.sz hN, h.sz hN, trivial⟩
  refine ⟨rfl, _, lawake_q _, ifB_false ⟨_, rright_q x a c hx _ R.2.1, ?_⟩⟩
  cases hr : rightB x
  · exact ifB_true ⟨_, lawake_q _, ⟨rfl⟩⟩
  refine ifB_false (ifB_intro (fun q => ⟨_, lawake_q _, ⟨rfl⟩⟩) (fun q => ⟨_, _, _, _, _, find_q x a c nd hx _ R.2.1, ⟨⟨0, [], none, 0, 0, { m with sz := N }⟩, ⟨Nat.zero_le _, ⟨.inl ⟨rfl, rfl⟩⟩, .nil _, R⟩, rfl, by simp⟩, fun y Y => ifB_intro (fun h1 => ?_) (fun h1 => ?_)⟩))
  · have hk2 : y.i < ss.length := by simpa using h1
    have q : x.round = 0 := by simpa using q
    obtain ⟨b, o, rfl, hc⟩ := Y.rs.2.1.cells (by rw [ints_len]; omega)
    have w1 : IntKind.i64.wrap ((y.i : Int) + 1) = ((y.i + 1 : Nat) : Int) := by simp [IntKind.wrap_i64]; omega
    have hs := hss _ (List.getElem_mem hk2)
    have hled := Y.p.led hx
    have hlen : y.l.length ≤ 1 := by rcases Y.p.shape with ⟨e, -⟩ | ⟨-, e, -⟩ <;> simp [e]
    have c0 : CellsAt y.m b (o + y.i * 1) [I ss[y.i]] := CellsAt.elem (k := 1) (enc := fun n : Int => [I n]) (fun _ => rfl) ss o y.i hk2 hc
    refine ⟨rfl, b, o, rfl, by omega, _, by simpa using c0, _, _, _, _, _, lspend_q y.a y.c y.l 2 x a c nd ss[y.i] (by omega) (Y.p.wf hx) hx hs _ Y.rs.1 Y.rs.2.2.1, ifB_intro (fun q1 => ?_) (fun q1 => ?_)⟩
    · exact ⟨⟨y.i + 1, y.l, y.a, y.c, y.net, y.m⟩, ⟨⟨hk2, Y.p, Y.rs⟩, rfl, by simp [w1]⟩, by simp only; omega⟩
    have q1 : (spendE y.l 2 x nd ss[y.i]).2 = 0 := by simpa using q1
    obtain ⟨hb, hi, hsp⟩ := Y.p.spend hx _ q1
    have F := find_fact hx hb
    have hup := F.up
    have hdn := F.dn
    have hput := Y.p.put hx hb (y.net + ss[y.i])
    rw [hsp, hb]
    refine ifB_false ⟨_, noS, fun N1 hN1 => (lput_s y.a y.c y.l (oneR x nd (y.net + ss[y.i])) (by omega) _ (Y.rs.sz hN1).1).monoW fun v1 m1 ag1 q2 => ?_⟩
    obtain ⟨a1, c1, e1, r1⟩ := q2
    rw [hput] at r1 e1
    have R1 := Rs.cons r1 (Rs.step Y.rs hN1 ag1).2
    obtain ⟨b', o', e', hc'⟩ := R1.2.1.cells (by rw [ints_len]; omega)
    cases e'
    have c1' : CellsAt m1 b (o + y.i * 1) [I ss[y.i]] := CellsAt.elem (k := 1) (enc := fun n : Int => [I n]) (fun _ => rfl) ss o y.i hk2 hc'
    have hi2 := hi
    simp only [inB, Bool.and_eq_true, decide_eq_true_eq] at hi2
    have wn : IntKind.i64.wrap (y.net + ss[y.i]) = y.net + ss[y.i] := by simp [IntKind.wrap_i64]; omega
    have wd : IntKind.i64.wrap (0 - (findH x nd).dn) = -(findH x nd).dn := by simp [IntKind.wrap_i64]; omega
    refine ⟨_, _, _, _, e1, b, o, rfl, by omega, _, by simpa using c1', ?_⟩
    rw [wn, wd]
    have d1 : (decide (y.net + ss[y.i] > (findH x nd).up)) = false := by simp; omega
    have d2 : (decide (y.net + ss[y.i] < -(findH x nd).dn)) = false := by simp; omega
    have d3 : ((oneR x nd (y.net + ss[y.i])).ne != y.net + ss[y.i]) = false := by simp [oneR]
    have d4 : ((oneR x nd (y.net + ss[y.i])).le != (findH x nd).le) = false := by simp [oneR]
    rw [d1, d2]
    refine ifB_false ?_
    rw [d3, d4]
    refine ifB_false (ifB_false (ifB_false (ifB_false ⟨⟨y.i + 1, [oneR x nd (y.net + ss[y.i])], a1, c1, y.net + ss[y.i], m1⟩, ⟨⟨hk2, ⟨.inr ⟨hb, rfl, hi⟩⟩, R1⟩, rfl, by simp [w1]⟩, by simp only; omega⟩)))
  · have q : x.round = 0 := by simpa using q
    intro N1 hN1
    refine (afreeze_s x a c ro hx h0 _ (Y.rs.sz hN1).2.2.1).mono fun v1 m1 ag1 q1 => ?_
    obtain ⟨a1, c1, e1, r1⟩ := q1
    refine ⟨_, _, _, _, _, _, _, _, _, _, _, _, _, e1, ?_⟩
    have R1 := Rs.cons r1.row (Rs.step Y.rs hN1 ag1)
    by_cases hE : (aFreeze x ro).2 = 0
    rotate_left
    · have : ((aFreeze x ro).2 != 0) = true := by simpa using hE
      rw [this]; exact ifB_true (ifB_true ⟨rfl⟩)
    obtain ⟨-, o1, o2, hF⟩ := aFreeze_ok hE
    have er : rndR x ro = ro := by simp [rndR, q]
    rw [er] at hF
    obtain ⟨X1, hX1⟩ : ∃ X1 : Ac, X1 = { x with round := ro } := ⟨_, rfl⟩
    rw [← hX1] at hF
    rw [hF] at R1 ⊢
    obtain ⟨r1', w1'⟩ := round_right (r := ro) hx hr (by omega) hro
    rw [← hX1] at r1' w1'
    have hled := Y.p.led hx
    have hlen : y.l.length ≤ 1 := by rcases Y.p.shape with ⟨e, -⟩ | ⟨-, e, -⟩ <;> simp [e]
    cases hb : findB x nd
    · have hl : y.l = [] := by
        rcases Y.p.shape with ⟨e, -⟩ | ⟨e, -⟩
        · exact e
        · rw [hb] at e; cases e
      rw [hl]
      exact ifB_false (ifB_true (ifB_false ⟨rfl⟩))
    have F := find_fact hx hb
    have hup := F.up
    have hdn := F.dn
    have hnet := Y.p.net hx
    have hi2 : -(findH x nd).dn ≤ y.net ∧ y.net ≤ (findH x nd).up := by
      rcases Y.p.shape with ⟨-, e⟩ | ⟨-, -, e⟩
      · omega
      · simp only [inB, Bool.and_eq_true, decide_eq_true_eq] at e; omega
    have eh : X1.hs = x.hs := by rw [hX1]
    have ek : X1.key = x.key := by rw [hX1]
    have ero : X1.round = ro := by rw [hX1]
    have eb : X1.base = x.base := by rw [hX1]
    have fB1 : findB X1 nd = true := by
      have := hb
      simp only [findB, hr, Bool.true_and] at this
      simp only [findB, r1', eh, this, Bool.and_self]
    have fH1 : findH X1 nd = findH x nd := by simp only [findH, r1', hr, if_true, eh]
    have hh1 : heldE y.l 2 X1 nd (decide ((1 : Int) = 0)) = 152 := by
      have : ro ≠ 0 := by omega
      simp [heldE, hled, r1', fB1, ero, groupB, this]
    have s1 : (spendE y.l 2 X1 nd 1).2 = 152 := by simp only [spendE, hh1]; rfl
    have hrb : repB y.l 2 X1 nd = true := by
      have : ro ≠ 0 := by omega
      simp [repB, hled, fB1, ero, groupB, this]
    have hrc : repC y.l 2 X1 nd = ⟨2, nd, X1.key, (findH x nd).le, ro, y.net⟩ := by
      rw [repC, hrb, if_pos rfl, fH1, ero, ek, hnet]
    obtain ⟨Y1, hY1⟩ : ∃ Y1 : Ac, Y1 = cutA X1 nd y.net := ⟨_, rfl⟩
    have hrp : aReport X1 nd (findH x nd).le ro y.net = (Y1, 0) := by
      have hro0 : ¬ (X1.round = 0 ∨ X1.round ≠ ro) := by rw [ero]; simp; omega
      have h3 : ¬ ((findH X1 nd).up < y.net ∨ y.net < -(findH X1 nd).dn) := by rw [fH1]; omega
      have h2 : ¬ (findB X1 nd = false ∨ (findH X1 nd).le ≠ (findH x nd).le) := by rw [fB1, fH1]; simp
      rw [aReport, if_neg (by rw [r1']; simp), if_neg h2, if_neg hro0, if_neg h3, hY1]; rfl
    obtain ⟨-, hm1, hn1⟩ := find_mem fB1
    have hi3 : y.net ≤ (findH X1 nd).up ∧ -(findH X1 nd).dn ≤ y.net := by rw [fH1]; omega
    obtain ⟨g1, g2⟩ := cut_right w1' r1' hm1 hi3.1 hi3.2
    rw [hn1] at g1 g2
    have rY : rightB Y1 = true := by rw [hY1]; exact g1
    have wY : Y1.wf := by rw [hY1]; exact g2
    have fBY : findB Y1 nd = false := by
      have : fndH Y1.hs nd = none := by
        rw [hY1]
        exact List.find?_eq_none.2 fun z hz => by
          have := (List.mem_filter.1 hz).2
          simpa using this
      simp [findB, this]
    have hrb2 : repB y.l 2 Y1 nd = false := by simp [repB, fBY]
    have hth : aThaw Y1 = ({ Y1 with round := 0 }, 0) := by simp [aThaw, rY]
    obtain ⟨Z1, hZ1⟩ : ∃ Z1 : Ac, Z1 = { Y1 with round := 0 } := ⟨_, rfl⟩
    rw [← hZ1] at hth
    obtain ⟨rZ, wZ⟩ := round_right (r := 0) wY rY (by omega) (by simp [In64])
    rw [← hZ1] at rZ wZ
    have fBZ : findB Z1 nd = false := by
      rw [findB, rZ, Bool.true_and]
      rw [findB, rY, Bool.true_and] at fBY
      rw [hZ1]; exact fBY
    have hh2 : heldE y.l 2 Z1 nd (decide ((1 : Int) = 0)) = 151 := by simp [heldE, hled, rZ, fBZ, groupB]
    have s2 : (spendE y.l 2 Z1 nd 1).2 = 151 := by simp only [spendE, hh2]; rfl
    have ebz : Z1.base = x.base + y.net := by rw [hZ1, hY1]; simp [cutA, eb]
    have fhi := F.hi
    have flo := F.lo
    have hlo := hx.lo
    have hhi := hx.hi
    have wb : IntKind.i64.wrap (x.base + y.net) = x.base + y.net := by unfold In64 at *; simp [IntKind.wrap_i64]; omega
    have hwf := Y.p.wf hx
    refine ifB_false (ifB_false ?_)
    refine ⟨_, _, _, _, _, lspend_q y.a y.c y.l 2 X1 a1 c1 nd 1 (by omega) hwf w1' (by simp [In64]) _ R1.2.1 R1.1, ?_⟩
    refine ⟨_, noS, fun N2 hN2 => ((lreport_q y.a y.c y.l 2 X1 a1 c1 nd (by omega) w1' _ (R1.sz hN2).2.1 (R1.sz hN2).1).spec).monoW fun v2 m2 ag2 q2 => ?_⟩
    refine ⟨_, _, _, _, _, _, _, _, _, _, _, _, _, _, _, _, _, _, _, _, _, _, _, _, _, _, _, _, q2.1, ?_⟩
    have R2 := Rs.step R1 hN2 ag2
    rw [hrb, hrc, s1]
    intro N3 hN3
    refine (areport_s X1 a1 c1 nd (findH x nd).le ro y.net w1' (by unfold In64; omega) (hd_none (R2.sz hN3).1) _ (R2.sz hN3).1).mono fun v3 m3 ag3 q3 => ?_
    obtain ⟨a3, c3, e3, r3⟩ := q3
    refine ⟨_, _, _, _, _, _, _, _, _, _, _, _, _, e3, ?_⟩
    have R3 := Rs.cons r3.row (Rs.step R2 hN3 ag3)
    rw [hrp] at R3 ⊢
    refine ⟨_, noS, fun N4 hN4 => ((lreport_q y.a y.c y.l 2 Y1 a3 c3 nd (by omega) wY _ (R3.sz hN4).2.2.1 (R3.sz hN4).1).spec).monoW fun v4 m4 ag4 q4 => ?_⟩
    refine ⟨_, _, _, _, _, _, _, _, _, _, _, _, _, _, _, _, _, _, _, _, _, _, _, _, _, _, _, _, q4.1, ?_⟩
    have R4 := Rs.step R3 hN4 ag4
    rw [hrb2]
    intro N5 hN5
    refine (athaw_s Y1 a3 c3 wY (hd_none (R4.sz hN5).1) _ (R4.sz hN5).1).mono fun v5 m5 ag5 q5 => ?_
    obtain ⟨a5, c5, e5, r5⟩ := q5
    refine ⟨_, _, _, _, _, _, _, _, _, _, _, _, _, e5, ?_⟩
    have R5 := Rs.cons r5.row (Rs.step R4 hN5 ag5)
    rw [hth] at R5 ⊢
    refine ⟨_, _, _, _, _, lspend_q y.a y.c y.l 2 Z1 a5 c5 nd 1 (by omega) hwf wZ (by simp [In64]) _ R5.2.2.2.1 R5.1, ?_⟩
    rw [s2]
    simp only [ebz, wb, beq_self_eq_true, Bool.not_false]
    exact ifB_true (ifB_true (ifB_true (ifB_true (ifB_true (ifB_true (ifB_true ⟨by trivial⟩))))))

end Go.Proofs.Ytfkielfnceeedaa
set_option linter.unusedVariables false
set_option linter.unusedSimpArgs false
namespace Go.Proofs.Ytfkielfnceeedaa
open Go.Vc Go.RowKit
set_option maxRecDepth 100000

/-- the key of the account -/
def kK : ByteArray := ⟨#[107]⟩

/-- what a node's book holds: nothing, or one right -/
def bkL : Option (Int × Int) → List Rt
  | none => []
  | some p => [⟨1, kK, p.1, p.2⟩]

/-- what was spent of a lease -/
def ntO (o : Option (Int × Int)) (le : Int) : Int := match o with | some p => if p.1 = le then p.2 else 0 | none => 0

/-- an account, what nodes last saw of it, their books, reports under way -/
structure Nw where
  a : Ac
  s : Int → Ac
  bk : Int → Option (Int × Int)
  rp : List Cm
  nx : Int

def Nw.look (w : Nw) (n : Int) : Nw := { w with s := fun k => if k = n then w.a else w.s k }
def Nw.put (w : Nw) (n : Int) (p : Int × Int) : Nw := { w with bk := fun k => if k = n then some p else w.bk k }

structure NwI (w : Nw) : Prop where
  r : rightB w.a = true
  wf : w.a.wf
  key : w.a.key = kK
  nx : 0 ≤ w.nx
  hd : ∀ n, findB w.a n = true → n ≤ 3 ∧ (findH w.a n).le ≤ w.nx ∧ inB (findH w.a n) (ntO (w.bk n) (findH w.a n).le) = true
  ro : w.a.round ≤ w.nx
  sr : ∀ n, rightB (w.s n) = true ∧ (w.s n).wf ∧ (w.s n).key = kK ∧ (w.s n).round ≤ w.nx
  sl : ∀ n, (w.s n).round = 0 → findB (w.s n) n = true → (w.s n).lo = w.a.lo ∧ (w.s n).hi = w.a.hi ∧ findB w.a n = true ∧ (findH w.a n).le = (findH (w.s n) n).le ∧ (findH (w.s n) n).up ≤ (findH w.a n).up ∧ (findH (w.s n) n).dn ≤ (findH w.a n).dn
  bk : ∀ n p, w.bk n = some p → 1 ≤ p.1 ∧ p.1 ≤ w.nx ∧ In64 p.2
  rp : ∀ c ∈ w.rp, 1 ≤ c.ro ∧ c.ro ≤ w.nx ∧ In64 c.ne ∧ (w.a.round = c.ro → findB w.a c.nd = true → (findH w.a c.nd).le = c.le → (w.s c.nd).round ≠ 0)

theorem NwI.up {w : Nw} (h : NwI w) {k : Int} (hk : w.nx ≤ k) : NwI { w with nx := k } :=
  ⟨h.r, h.wf, h.key, by have := h.nx; simp only; omega, fun n hn => by obtain ⟨a, b, c⟩ := h.hd n hn; exact ⟨a, by simp only; omega, c⟩, by have := h.ro; simp only; omega,
    fun n => by obtain ⟨a, b, c, d⟩ := h.sr n; exact ⟨a, b, c, by simp only; omega⟩, h.sl, fun n p hp => by obtain ⟨a, b, c⟩ := h.bk n p hp; exact ⟨a, by simp only; omega, c⟩,
    fun c hc => by obtain ⟨a, b, d, e⟩ := h.rp c hc; exact ⟨a, by simp only; omega, d, e⟩⟩

theorem same_find {x y : Ac} (h1 : rightB x = true) (h2 : rightB y = true) (hs : y.hs = x.hs) (n : Int) : findB y n = findB x n ∧ findH y n = findH x n := by
  unfold findB findH
  rw [h1, h2, hs]
  exact ⟨rfl, rfl⟩

/-- other rounds, bases, locks, bounds -/
theorem NwI.same {w : Nw} (h : NwI w) {y : Ac} (st : StayP w.a y) (hs : y.hs = w.a.hs) (sp : w.a.hs = [] ∨ (y.lo = w.a.lo ∧ y.hi = w.a.hi)) (rn : y.round ≤ w.nx) (ro : y.round = w.a.round ∨ ∀ c ∈ w.rp, y.round ≠ c.ro) : NwI { w with a := y } := by
  have hf := same_find h.r st.right hs
  refine ⟨st.right, st.wf, by rw [← h.key]; exact st.key, h.nx, fun n hn => ?_, rn, h.sr, fun n h0 h1 => ?_, h.bk, fun c hc => ?_⟩
  · simp only at hn ⊢
    rw [(hf n).1] at hn
    rw [(hf n).2]
    exact h.hd n hn
  · obtain ⟨a1, a2, a3, a4, a5, a6⟩ := h.sl n h0 h1
    simp only
    rw [(hf n).1, (hf n).2]
    rcases sp with sp | ⟨e1, e2⟩
    · simp only [findB, fndH, sp, List.find?_nil] at a3
      simp at a3
    · exact ⟨by rw [e1]; exact a1, by rw [e2]; exact a2, a3, a4, a5, a6⟩
  · obtain ⟨b1, b2, b3, b4⟩ := h.rp c hc
    refine ⟨b1, b2, b3, fun e1 e2 e3 => ?_⟩
    simp only at e1 e2 e3
    rw [(hf c.nd).1] at e2
    rw [(hf c.nd).2] at e3
    rcases ro with ro | ro
    · exact b4 (by rw [← ro]; exact e1) e2 e3
    · exact absurd e1 (ro c hc)

theorem NwI.look {w : Nw} (h : NwI w) (n : Int) : NwI (w.look n) := by
  refine ⟨h.r, h.wf, h.key, h.nx, h.hd, h.ro, fun k => ?_, fun k h0 h1 => ?_, h.bk, fun c hc => ?_⟩
  · simp only [Nw.look]
    split
    · exact ⟨h.r, h.wf, h.key, h.ro⟩
    · exact h.sr k
  · simp only [Nw.look] at h0 h1 ⊢
    by_cases e : k = n
    · simp only [if_pos e] at h0 h1 ⊢
      exact ⟨trivial, trivial, h1, trivial, Int.le_refl _, Int.le_refl _⟩
    · simp only [if_neg e] at h0 h1 ⊢
      exact h.sl k h0 h1
  · obtain ⟨b1, b2, b3, b4⟩ := h.rp c hc
    refine ⟨b1, b2, b3, fun e1 e2 e3 => ?_⟩
    simp only [Nw.look] at e1 e2 e3 ⊢
    split
    · omega
    · exact b4 e1 e2 e3

/-- a spending by what was seen -/
theorem NwI.put {w : Nw} (h : NwI w) {n v : Int} (h0 : (w.s n).round = 0) (h1 : findB (w.s n) n = true) (hv : inB (findH (w.s n) n) v = true) : NwI (w.put n ((findH (w.s n) n).le, v)) := by
  obtain ⟨a1, a2, a3, a4, a5, a6⟩ := h.sl n h0 h1
  have hw := find_fact (h.sr n).2.1 h1
  have hb : v ≤ (findH (w.s n) n).up ∧ -(findH (w.s n) n).dn ≤ v := by simpa [inB] using hv
  have hwa := find_fact h.wf a3
  refine ⟨h.r, h.wf, h.key, h.nx, fun k hk => ?_, h.ro, h.sr, h.sl, fun k p hp => ?_, h.rp⟩
  · obtain ⟨b1, b2, b3⟩ := h.hd k hk
    refine ⟨b1, b2, ?_⟩
    simp only [Nw.put]
    by_cases e : k = n
    · subst e
      simp only [if_true, ntO, a4]
      simp [inB]; omega
    · simp only [if_neg e]; exact b3
  · simp only [Nw.put] at hp
    by_cases e : k = n
    · rw [if_pos e] at hp
      cases hp
      have h2 := (h.hd n a3).2.1
      have hu := hw.up
      have hd := hw.dn
      have hwf := hw.wf
      refine ⟨hw.le, by show _ ≤ w.nx; simp only; omega, by simp only; unfold In64; omega⟩
    · rw [if_neg e] at hp
      exact h.bk k p hp

theorem cut_find {l : List Hd} (nd k : Int) : fndH (l.filter fun h => decide (h.nd ≠ nd)) k = if k = nd then none else fndH l k := by
  induction l with
  | nil => simp [fndH]
  | cons h r ih =>
    by_cases e : h.nd = nd
    · rw [List.filter_cons_of_neg (by simp [e]), ih]
      by_cases e2 : k = nd
      · rw [if_pos e2, if_pos e2]
      · rw [if_neg e2, if_neg e2, fndH_cons, if_neg (by omega)]
    · rw [List.filter_cons_of_pos (by simp [e]), fndH_cons, fndH_cons, ih]
      by_cases e2 : h.nd = k
      · rw [if_pos e2, if_pos e2, if_neg (by omega)]
      · rw [if_neg e2, if_neg e2]

/-- a report that counts -/
theorem NwI.count {w : Nw} (h : NwI w) {c : Cm} (hc : c ∈ w.rp) (h0 : (aReport w.a c.nd c.le c.ro c.ne).2 = 0) : NwI { w with a := (aReport w.a c.nd c.le c.ro c.ne).1 } := by
  obtain ⟨-, e, st⟩ := report_stay h.wf h0
  obtain ⟨-, g2, g3, g4, g5, g6, g7, -⟩ := aReport_ok h0
  rw [e]
  simp only
  have hs : ∀ k, findB (cutA w.a c.nd c.ne) k = (if k = c.nd then false else findB w.a k) ∧ (k ≠ c.nd → findH (cutA w.a c.nd c.ne) k = findH w.a k) := fun k => by
    unfold findB findH
    rw [st.right, h.r]
    simp only [cutA, cut_find]
    by_cases e2 : k = c.nd
    · simp [e2]
    · simp [e2]
  have hno := (h.rp c hc).2.2.2 g4 g2 g3
  refine ⟨st.right, st.wf, by rw [← h.key]; exact st.key, h.nx, fun n hn => ?_, h.ro, h.sr, fun n n0 n1 => ?_, h.bk, fun d hd => ?_⟩
  · simp only at hn ⊢
    by_cases e2 : n = c.nd
    · rw [(hs n).1, if_pos e2] at hn; cases hn
    · rw [(hs n).1, if_neg e2] at hn
      rw [(hs n).2 e2]
      exact h.hd n hn
  · by_cases e2 : n = c.nd
    · subst e2; exact absurd n0 hno
    · simp only
      rw [(hs n).1, if_neg e2, (hs n).2 e2]
      exact h.sl n n0 n1
  · obtain ⟨b1, b2, b3, b4⟩ := h.rp d hd
    refine ⟨b1, b2, b3, fun e1 e2 e3 => ?_⟩
    simp only at e1 e2 e3
    by_cases e4 : d.nd = c.nd
    · rw [(hs d.nd).1, if_pos e4] at e2; cases e2
    · rw [(hs d.nd).1, if_neg e4] at e2
      rw [(hs d.nd).2 e4] at e3
      exact b4 e1 e2 e3

/-- a report is kept -/
theorem NwI.keep {w : Nw} (h : NwI w) {c : Cm} {n : Int} (hn : c.nd = n) (hr : c.ro = (w.s n).round) (h0 : (w.s n).round ≠ 0) (hi : In64 c.ne) : NwI { w with rp := w.rp ++ [c] } := by
  refine ⟨h.r, h.wf, h.key, h.nx, h.hd, h.ro, h.sr, h.sl, h.bk, fun d hd => ?_⟩
  rcases List.mem_append.1 hd with hd | hd
  · exact h.rp d hd
  · have hd : d = c := by simpa using hd
    subst hd
    obtain ⟨s1, s2, s3, s4⟩ := h.sr n
    have hp := ((right_iff _).1 s1).round
    exact ⟨by omega, by rw [hr]; exact s4, hi, fun _ _ _ => by rw [hn]; exact h0⟩

/-- a new lease -/
theorem NwI.grant {w : Nw} (h : NwI w) {nd : Int} (h1 : 1 ≤ nd) (h3 : nd ≤ 3) (hx : w.nx + 1 ≤ 4611686018427387904) (h0 : (aGrant w.a nd (w.nx + 1) 3).2 = 0) : NwI { w with a := (aGrant w.a nd (w.nx + 1) 3).1, nx := w.nx + 1 } := by
  have hnx := h.nx
  obtain ⟨-, e, st⟩ := grant_stay h.wf (by unfold In64; omega) h0
  obtain ⟨-, -, -, -, -, -, g7, g8, -⟩ := aGrant_ok h0
  have P := grant_p (ns := 3) h.wf h.r (by omega) (by omega) h1 h3 (by omega : 1 ≤ w.nx + 1) (by unfold In64; omega) g7 g8
  rw [e]
  simp only
  obtain ⟨f1, f2⟩ := P.find
  refine ⟨st.right, st.wf, by rw [← h.key]; exact st.key, by simp only; omega, fun n hn => ?_, by have := h.ro; simp only [grantA]; omega, fun n => ?_, fun n n0 n1 => ?_, fun n p hp => ?_, fun c hc => ?_⟩
  · simp only at hn ⊢
    by_cases e2 : n = nd
    · subst e2
      rw [f2, P.gle]
      by_cases hb : findB w.a n = true
      · obtain ⟨b1, b2, b3⟩ := h.hd n hb
        rw [if_pos hb]
        have := P.up
        have := P.dn
        simp only [inB, Bool.and_eq_true, decide_eq_true_eq] at b3 ⊢
        exact ⟨b1, by omega, by omega, by omega⟩
      · rw [if_neg hb]
        have := P.up
        have := P.dn
        have hz : ntO (w.bk n) (w.nx + 1) = 0 := by
          unfold ntO
          cases hp : w.bk n with
          | none => rfl
          | some p =>
            have := (h.bk n p hp).2.1
            simp only
            rw [if_neg (by omega)]
        rw [hz]
        simp only [inB, Bool.and_eq_true, decide_eq_true_eq]
        exact ⟨h3, Int.le_refl _, by omega, by omega⟩
    · obtain ⟨o1, o2⟩ := P.other n e2
      rw [o1] at hn
      rw [o2]
      obtain ⟨b1, b2, b3⟩ := h.hd n hn
      exact ⟨b1, by omega, b3⟩
  · obtain ⟨s1, s2, s3, s4⟩ := h.sr n
    exact ⟨s1, s2, s3, by simp only; omega⟩
  · obtain ⟨a1, a2, a3, a4, a5, a6⟩ := h.sl n n0 n1
    simp only
    by_cases e2 : n = nd
    · subst e2
      rw [f1, f2, P.gle, if_pos a3]
      have := P.up
      have := P.dn
      exact ⟨a1, a2, rfl, a4, by omega, by omega⟩
    · obtain ⟨o1, o2⟩ := P.other n e2
      rw [o1, o2]
      exact ⟨a1, a2, a3, a4, a5, a6⟩
  · obtain ⟨b1, b2, b3⟩ := h.bk n p hp
    exact ⟨b1, by simp only; omega, b3⟩
  · obtain ⟨b1, b2, b3, b4⟩ := h.rp c hc
    refine ⟨b1, by simp only; omega, b3, fun e1 => ?_⟩
    have e1 : w.a.round = c.ro := e1
    omega

end Go.Proofs.Ytfkielfnceeedaa
set_option linter.unusedVariables false
set_option linter.unusedSimpArgs false
namespace Go.Proofs.Ytfkielfnceeedaa
open Go.Vc Go.RowKit
set_option maxRecDepth 100000

theorem hold_fnd : ∀ {l : List Hd} {last : Int}, holdB last l = true → ∀ h ∈ l, fndH l h.nd = some h
  | x :: r, last, hb, h, hm => by
    have hb' := hb
    simp only [holdB, Bool.and_eq_true] at hb'
    rw [fndH_cons]
    rcases List.mem_cons.1 hm with rfl | hm
    · rw [if_pos rfl]
    · have := hold_mem _ _ hb'.2 h hm
      rw [if_neg (by omega)]
      exact hold_fnd hb'.2 h hm

theorem mem_findH {x : Ac} (hr : rightB x = true) {h : Hd} (hm : h ∈ x.hs) : findB x h.nd = true ∧ findH x h.nd = h := by
  have := hold_fnd ((right_iff x).1 hr).hold h hm
  unfold findB findH
  rw [hr, this]
  exact ⟨rfl, rfl⟩

theorem sumI_map_add (f g : Hd → Int) : ∀ l : List Hd, sumI (l.map fun h => f h + g h) = sumI (l.map f) + sumI (l.map g)
  | [] => rfl
  | x :: r => by
    have := sumI_map_add f g r
    simp only [List.map_cons, sumI_cons, this]; omega

def ntH (w : Nw) (h : Hd) : Int := ntO (w.bk h.nd) h.le

/-- what the account and its holders' spending are together -/
def Nw.tot (w : Nw) : Int := w.a.base + sumI (w.a.hs.map (ntH w))

theorem nt_in {w : Nw} (h : NwI w) {z : Hd} (hz : z ∈ w.a.hs) : 0 ≤ ntH w z + z.dn ∧ 0 ≤ z.up + -ntH w z := by
  obtain ⟨f1, f2⟩ := mem_findH h.r hz
  have := (h.hd z.nd f1).2.2
  rw [f2] at this
  simp only [inB, Bool.and_eq_true, decide_eq_true_eq] at this
  unfold ntH
  omega

theorem tot_sums {w : Nw} (h : NwI w) : w.tot = sumI (dnsL w.a) + sumI (w.a.hs.map fun z => ntH w z + z.dn) ∧ w.tot = sumI (upsL w.a) - sumI (w.a.hs.map fun z => z.up + -ntH w z) := by
  have e1 := sumI_map_add (ntH w) (·.dn) w.a.hs
  have e2 := sumI_map_add (·.up) (fun z => -ntH w z) w.a.hs
  have e3 := sumI_neg w.a.hs (·.dn)
  have e4 := sumI_neg w.a.hs (ntH w)
  unfold Nw.tot
  simp only [upsL, dnsL, sumI_cons, e1, e2, e3, e4]
  omega

theorem sum_nn {f : Hd → Int} : ∀ {l : List Hd}, (∀ z ∈ l, 0 ≤ f z) → 0 ≤ sumI (l.map f) := fun h => sumI_nonneg _ fun z hz => by obtain ⟨y, hy, rfl⟩ := List.mem_map.1 hz; exact h y hy

theorem sum_one {f : Hd → Int} {l : List Hd} {z : Hd} (h : ∀ z ∈ l, 0 ≤ f z) (hz : z ∈ l) : f z ≤ sumI (l.map f) := sumI_mem _ _ (List.mem_map.2 ⟨z, hz, rfl⟩) fun y hy => by obtain ⟨u, hu, rfl⟩ := List.mem_map.1 hy; exact h u hu

/-- the total never leaves the bounds -/
theorem tot_in {w : Nw} (h : NwI w) : w.a.lo ≤ w.tot ∧ w.tot ≤ w.a.hi := by
  obtain ⟨t1, t2⟩ := tot_sums h
  have s1 := sum_nn fun z hz => (nt_in h hz).1
  have s2 := sum_nn fun z hz => (nt_in h hz).2
  have hp := (right_iff _).1 h.r
  have := hp.up
  have := hp.dn
  omega

/-- a bracket holds the total -/
theorem brack_in {w : Nw} (h : NwI w) {n : Int} (h0 : (w.s n).round = 0) (h1 : findB (w.s n) n = true) (hb : inB (findH (w.s n) n) (ntO (w.bk n) (findH (w.s n) n).le) = true) :
    (w.s n).lo + (findH (w.s n) n).dn + ntO (w.bk n) (findH (w.s n) n).le ≤ w.tot ∧ w.tot ≤ (w.s n).hi - (findH (w.s n) n).up + ntO (w.bk n) (findH (w.s n) n).le ∧
    w.a.lo ≤ (w.s n).lo + (findH (w.s n) n).dn + ntO (w.bk n) (findH (w.s n) n).le ∧ (w.s n).hi - (findH (w.s n) n).up + ntO (w.bk n) (findH (w.s n) n).le ≤ w.a.hi := by
  obtain ⟨a1, a2, a3, a4, a5, a6⟩ := h.sl n h0 h1
  obtain ⟨-, m1, m2⟩ := find_mem a3
  obtain ⟨t1, t2⟩ := tot_sums h
  have s1 := sum_one (fun z hz => (nt_in h hz).1) m1
  have s2 := sum_one (fun z hz => (nt_in h hz).2) m1
  have hp := (right_iff _).1 h.r
  have u1 := hp.up
  have u2 := hp.dn
  simp only [inB, Bool.and_eq_true, decide_eq_true_eq] at hb
  have e : ntH w (findH w.a n) = ntO (w.bk n) (findH (w.s n) n).le := by unfold ntH; rw [m2, a4]
  rw [e] at s1 s2
  omega

/-- a call of the account -/
def callE (a : Ac) (nx way nd n lo hi : Int) (cm : Bool) : Ac × Int :=
  if way = 1 then aGrant a nd nx 3 else if way = 2 then aFreeze a nx else if way = 3 then aThaw a else if way = 4 then aBounds a lo hi
  else if way = 5 then aTake a ⟨1, nx, 1, n⟩ else if way = 6 then aFree a cm else aAdd a n

def Nw.call (w : Nw) (way nd n lo hi : Int) (cm : Bool) : Nw :=
  { w with nx := w.nx + 1, a := if (callE w.a (w.nx + 1) way nd n lo hi cm).2 = 0 then (callE w.a (w.nx + 1) way nd n lo hi cm).1 else w.a }

theorem NwI.call {w : Nw} (h : NwI w) {way nd n lo hi : Int} {cm : Bool} (h1 : 1 ≤ nd) (h3 : nd ≤ 3) (hn : In64 n) (hlo : In64 lo) (hhi : In64 hi) (hx : w.nx + 1 ≤ 4611686018427387904) : NwI (w.call way nd n lo hi cm) := by
  unfold Nw.call
  have hnx := h.nx
  have U := h.up (k := w.nx + 1) (by omega)
  have hro := h.ro
  by_cases h0 : (callE w.a (w.nx + 1) way nd n lo hi cm).2 = 0
  · rw [if_pos h0]
    unfold callE at h0 ⊢
    split at h0
    · rename_i g; rw [if_pos g]; exact h.grant h1 h3 hx h0
    rename_i g1; rw [if_neg g1]
    split at h0
    · rename_i g; rw [if_pos g]
      obtain ⟨-, e, st⟩ := freeze_stay h.wf (by unfold In64; omega) h0
      rw [e]
      refine U.same st rfl (.inr ⟨rfl, rfl⟩) (by simp only [rndR]; split <;> omega) ?_
      simp only [rndR]
      split
      · exact .inr fun c hc => by have := (h.rp c hc).2.1; omega
      · exact .inl rfl
    rename_i g2; rw [if_neg g2]
    split at h0
    · rename_i g; rw [if_pos g]
      obtain ⟨-, e, st⟩ := thaw_stay h.wf h0
      rw [e]
      exact U.same st rfl (.inr ⟨rfl, rfl⟩) (by simp only; omega) (.inr fun c hc => by have := (h.rp c hc).1; simp only; omega)
    rename_i g3; rw [if_neg g3]
    split at h0
    · rename_i g; rw [if_pos g]
      obtain ⟨-, e, st⟩ := bounds_stay h.wf hlo hhi h0
      have hs : w.a.hs = [] := by
        unfold aBounds at h0
        split at h0
        · rename_i hk; exact absurd h0 hk
        rename_i hk
        have hk : knownE w.a = 0 := Classical.byContradiction hk
        have hr := known_right hk
        have ht : totB w.a = true := by
          cases ht : totB w.a
          · simp [knownE, hr, ht] at hk
          · rfl
        simp only [totB, Bool.and_eq_true, decide_eq_true_eq, List.isEmpty_iff] at ht
        exact ht.2
      rw [e]
      exact U.same st rfl (.inl hs) (by simp only; omega) (.inl rfl)
    rename_i g4; rw [if_neg g4]
    split at h0
    · rename_i g; rw [if_pos g]
      obtain ⟨-, e, st⟩ := take_stay h.wf (k := ⟨1, w.nx + 1, 1, n⟩) ⟨by show In64 1; decide, by simp only; unfold In64; omega, by show In64 1; decide, hn⟩ h0
      rw [e]
      exact U.same st rfl (.inr ⟨rfl, rfl⟩) (by simp only; omega) (.inl rfl)
    rename_i g5; rw [if_neg g5]
    split at h0
    · rename_i g; rw [if_pos g]
      obtain ⟨-, e, st, -⟩ := free_stay h.wf h0
      rw [e]
      exact U.same st rfl (.inr ⟨rfl, rfl⟩) (by simp only [freedA]; omega) (.inl rfl)
    rename_i g6; rw [if_neg g6]
    obtain ⟨-, e, st⟩ := add_stay h.wf h0
    rw [e]
    exact U.same st rfl (.inr ⟨rfl, rfl⟩) (by simp only [Ac.by]; omega) (.inl rfl)
  · rw [if_neg h0]
    exact U

end Go.Proofs.Ytfkielfnceeedaa
set_option linter.unusedVariables false
set_option linter.unusedSimpArgs false
namespace Go.Proofs.Ytfkielfnceeedaa
open Go.Vc Go.RowKit
set_option maxRecDepth 100000

theorem ifB_false' {b : Bool} {X Y : Prop} (h : b = false) (hy : Y) : ifB b X Y := by subst h; exact hy

theorem ifB_true' {b : Bool} {X Y : Prop} (h : b = true) (hx : X) : ifB b X Y := by subst h; exact hx

/-- where the lists of the world stand -/
structure Nq where
  a : Option Addr
  ca : Nat
  s : Int → Option Addr
  cs : Int → Nat
  b : Int → Option Addr
  cb : Int → Nat
  r : Option Addr
  cr : Nat

abbrev encCm (c : Cm) : List Value := [I c.k, I 0, I 0, I 0, I c.nd, I 0, .string c.ky, I c.le, I c.ro, I c.ne, .bool false, I 0, .string .empty, .string .empty, I 0, I 0, I 0, I 0, I 0, I 0, .string .empty, .string .empty, I 0, I 0, .slice none 0 0]
abbrev cms (l : List Cm) : List Value := l.flatMap encCm
theorem cm_k (x : Cm) : (encCm x).length = 25 := rfl
theorem cm_len (l : List Cm) : (cms l).length = l.length * 25 := flat_len cm_k l
theorem cm_at {m : M} {b o i : Nat} {l : List Cm} (h : CellsAt m b o (cms l)) (hi : i < l.length) : CellsAt m b (o + i * 25) (encCm l[i]) := CellsAt.elem cm_k l o i hi h

abbrev encBk (w : Nw) (q : Nq) : List Value := [.slice (q.b 0) (bkL (w.bk 0)).length (q.cb 0), .slice (q.b 1) (bkL (w.bk 1)).length (q.cb 1), .slice (q.b 2) (bkL (w.bk 2)).length (q.cb 2), .slice (q.b 3) (bkL (w.bk 3)).length (q.cb 3)]

abbrev encNw (w : Nw) (q : Nq) : List Value := acc w.a q.a q.ca ++ (acc (w.s 0) (q.s 0) (q.cs 0) ++ (acc (w.s 1) (q.s 1) (q.cs 1) ++ (acc (w.s 2) (q.s 2) (q.cs 2) ++ (acc (w.s 3) (q.s 3) (q.cs 3) ++ (encBk w q ++ [.slice q.r w.rp.length q.cr, I w.nx])))))

/-- a row that does not stand in a block -/
structure RowA (b : Nat) (m : M) (a : Option Addr) (cs : List Value) : Prop where
  row : Row m a cs
  aw : cs ≠ [] → ∀ b' o', a = some ⟨b', o', none⟩ → b' ≠ b

/-- no list of the world but the reports stands in a block -/
structure AwX (z : Nat) (w : Nw) (q : Nq) : Prop where
  a : hds w.a.hs ≠ [] → ∀ b' o', q.a = some ⟨b', o', none⟩ → b' ≠ z
  s : ∀ n, 0 ≤ n → n ≤ 3 → hds (w.s n).hs ≠ [] → ∀ b' o', q.s n = some ⟨b', o', none⟩ → b' ≠ z
  b : ∀ n, 0 ≤ n → n ≤ 3 → rts (bkL (w.bk n)) ≠ [] → ∀ b' o', q.b n = some ⟨b', o', none⟩ → b' ≠ z

structure PtN (b : Nat) (w : Nw) (q : Nq) (m : M) : Prop where
  cells : CellsAt m b 0 (encNw w q)
  full : ∀ j, 56 ≤ j → m.π b j = none
  uf : m.uf b
  lt : b < m.sz
  a : RowA b m q.a (hds w.a.hs)
  s : ∀ n, 0 ≤ n → n ≤ 3 → RowA b m (q.s n) (hds (w.s n).hs)
  bk : ∀ n, 0 ≤ n → n ≤ 3 → RowA b m (q.b n) (rts (bkL (w.bk n)))
  rp : NewR 0 (fun _ => False) m 25 q.r w.rp.length q.cr (cms w.rp)
  ra : ∀ b' o', q.r = some ⟨b', o', none⟩ → b' ≠ b
  rx : ∀ z o, q.r = some ⟨z, o, none⟩ → q.cr ≠ 0 → z < m.sz ∧ AwX z w q
  ru : ∀ z o, q.r = some ⟨z, o, none⟩ → m.uf z ∧ z < m.sz

section
variable {b : Nat} {w w' : Nw} {q q' : Nq} {m m' : M}

theorem RowA.of {a : Option Addr} {cs : List Value} (h : RowA b m a cs) (e : Row m a cs → Row m' a cs) : RowA b m' a cs := ⟨e h.row, h.aw⟩

theorem PtN.sz (h : PtN b w q m) {n : Nat} (hn : m.sz ≤ n) : PtN b w q { m with sz := n } :=
  ⟨⟨h.cells.out⟩, h.full, h.uf, Nat.lt_of_lt_of_le h.lt hn, h.a.of fun r => r.sz hn, fun n h0 h1 => (h.s n h0 h1).of fun r => r.sz hn, fun n h0 h1 => (h.bk n h0 h1).of fun r => r.sz hn, h.rp.sz hn, h.ra, fun z o e hc => ⟨Nat.lt_of_lt_of_le (h.rx z o e hc).1 hn, (h.rx z o e hc).2⟩, fun z o e => ⟨(h.ru z o e).1, Nat.lt_of_lt_of_le (h.ru z o e).2 hn⟩⟩

theorem PtN.step (h : PtN b w q m) {N : Nat} (hN : m.sz ≤ N) (hag : Agree N { m with sz := N } m') : PtN b w q m' := by
  have hb := Nat.lt_of_lt_of_le h.lt hN
  have e := hag.1 b hb
  exact ⟨h.cells.of e, fun j hj => by rw [e]; exact h.full j hj, (hag.2.1 b hb).2 h.uf, Nat.lt_of_lt_of_le hb hag.2.2, h.a.of fun r => (r.sz hN).agree hag, fun n h0 h1 => (h.s n h0 h1).of fun r => (r.sz hN).agree hag, fun n h0 h1 => (h.bk n h0 h1).of fun r => (r.sz hN).agree hag, (h.rp.sz hN).agree hag, h.ra, fun z o e hc => ⟨Nat.lt_of_lt_of_le (h.rx z o e hc).1 (Nat.le_trans hN hag.2.2), (h.rx z o e hc).2⟩, fun z o e => ⟨(hag.2.1 z (Nat.lt_of_lt_of_le (h.ru z o e).2 hN)).2 (h.ru z o e).1, Nat.lt_of_lt_of_le (h.ru z o e).2 (Nat.le_trans hN hag.2.2)⟩⟩

theorem PtN.newBlock (h : PtN b w q m) {b2 : Nat} {ds : List Value} (hb : m.sz ≤ b2) : PtN b w q (m.newBlock b2 ds) := by
  have e : (m.newBlock b2 ds).π b = m.π b := newBlock_other (by have := h.lt; omega)
  exact ⟨h.cells.of e, fun j hj => by rw [e]; exact h.full j hj, .inr h.uf, by have := h.lt; simp only [M.newBlock]; omega, h.a.of fun r => r.newBlock hb, fun n h0 h1 => (h.s n h0 h1).of fun r => r.newBlock hb, fun n h0 h1 => (h.bk n h0 h1).of fun r => r.newBlock hb, h.rp.newBlock hb, h.ra, fun z o e hc => ⟨by have := (h.rx z o e hc).1; simp only [M.newBlock]; omega, (h.rx z o e hc).2⟩, fun z o e => ⟨.inr (h.ru z o e).1, by have := (h.ru z o e).2; simp only [M.newBlock]; omega⟩⟩

theorem PtN.cell (h : PtN b w q m) (j : Nat) (v : Value) (e : (encNw w q)[j]? = some v) : CellsAt m b j [v] := ⟨fun i hi => by
  have hi : i = 0 := by simpa using hi
  subst hi
  have hj : j < (encNw w q).length := by
    rcases Nat.lt_or_ge j (encNw w q).length with h | h
    · exact h
    · rw [List.getElem?_eq_none h] at e; cases e
  have := h.cells.out j hj
  rw [Nat.zero_add, e] at this
  simpa using this⟩
end

theorem led_bk {w : Nw} (hw : NwI w) (n : Int) : ledB none (bkL (w.bk n)) = true := by
  cases hp : w.bk n with
  | none => rfl
  | some p =>
    have h1 := (hw.bk n p hp).1
    have hk : keyB kK = true := rfl
    simp [bkL, ledB, rmayB, okP, hk, h1]

theorem net_bk {w : Nw} (hw : NwI w) (n le : Int) : netR (bkL (w.bk n)) 1 kK le = ntO (w.bk n) le := by
  unfold netR
  rw [if_pos (led_bk hw n)]
  cases hp : w.bk n with
  | none => rfl
  | some p =>
    simp only [bkL, ntO, List.find?_cons, isN]
    by_cases e : p.1 = le
    · simp [e]
    · simp [e]

theorem nt_in64 {w : Nw} (hw : NwI w) (n le : Int) : In64 (ntO (w.bk n) le) := by
  unfold ntO
  cases hp : w.bk n with
  | none => show In64 0; decide
  | some p =>
    simp only
    split
    · exact (hw.bk n p hp).2.2
    · decide

theorem bk_len (o : Option (Int × Int)) : (bkL o).length ≤ 1 := by cases o <;> simp [bkL]

theorem three {n : Int} (h1 : 1 ≤ n) (h3 : n ≤ 3) : n = 1 ∨ n = 2 ∨ n = 3 := by omega

theorem PtN.bkc {b : Nat} {w : Nw} {q : Nq} {m : M} (h : PtN b w q m) {n : Int} (h1 : 1 ≤ n) (h3 : n ≤ 3) : CellsAt m b (50 + n.toNat * 1) [.slice (q.b n) (bkL (w.bk n)).length (q.cb n)] := by
  rcases three h1 h3 with rfl | rfl | rfl
  · exact h.cell 51 _ rfl
  · exact h.cell 52 _ rfl
  · exact h.cell 53 _ rfl

theorem wtotal_q (b : Nat) (w : Nw) (q : Nq) (hw : NwI w) (m : M) (h : PtN b w q m) : QSpec Try.prog 76 [.pointer (some ⟨b, 0, none⟩)] m (.tuple #[I w.tot, .bool true]) := by
  refine QSpec.of_vc Try.func76 (ann := fun n _ => { A := Nat × M, inv := fun k => k.1 ≤ w.a.hs.length ∧ PtN b w q k.2, st := fun k => [(5, .val (I k.1)), (0, .val (.pointer (some ⟨b, 0, none⟩))), (4, .own 9 0)], own := fun k => [(9, ⟨108, [I (wideHi (w.a.base + sumI ((w.a.hs.map (ntH w)).take k.1))), U (wideLo (w.a.base + sumI ((w.a.hs.map (ntH w)).take k.1)))]⟩)], m := fun k => k.2, μ := fun k => w.a.hs.length - k.1 }) fun N hN => ?_
  refine vc_by (X :=
      true = true ∧
      ∃ (n : Int),
      CellsAt { π := m.π, sz := N, uf := m.uf : M } b (3 : Nat) [Value.int IntKind.i64 n] ∧
      true = true ∧
      ∀ (b_1 : Nat),
      N ≤ b_1 →
      ∃ (n_1 : Int),
      ∃ (n_2 : Int),
      QSpec Try.prog (60 : Nat) [Value.slice (some { block := b_1, off := (0 : Nat) : Addr }) (1 : Nat) (1 : Nat)]
      ({ π := m.π, sz := N, uf := m.uf : M }.newBlock b_1 [Value.int IntKind.i64 n]) (Value.agg #[Value.int IntKind.i64 n_1, Value.int IntKind.u64 n_2]) ∧
      (∃ (a : Nat × M),
      (a.fst ≤ w.a.hs.length ∧ PtN b w q a.snd) ∧
      { π := m.π, sz := N, uf := m.uf : M }.newBlock b_1 [Value.int IntKind.i64 n] = a.snd ∧
      ((SV.val (Value.int IntKind.i64 (0 : Int)) = SV.val (Value.int IntKind.i64 (↑a.fst : Int)) ∧ true = true) ∧
      (SV.val (Value.pointer (some { block := b, off := (0 : Nat) : Addr })) = SV.val (Value.pointer (some { block := b, off := (0 : Nat) : Addr })) ∧
      true = true) ∧
      (SV.own ((0 : Nat) + (2 : Nat) + (7 : Nat)) (0 : Nat) = SV.own (9 : Nat) (0 : Nat) ∧ true = true) ∧ True) ∧
      (some { ty := (108 : Nat), cs := [Value.int IntKind.i64 n_1, Value.int IntKind.u64 n_2] : Bx } =
      some
      { ty := (108 : TypeId), cs := [Value.int IntKind.i64 (wideHi (w.a.base + sumI (List.take a.fst (List.map (ntH w) w.a.hs)))), Value.int IntKind.u64 (wideLo (w.a.base + sumI (List.take a.fst (List.map (ntH w) w.a.hs))))] : Bx } ∧
      true = true) ∧
      True) ∧
      ∀ (a : Nat × M),
      a.fst ≤ w.a.hs.length ∧ PtN b w q a.snd →
      ∃ (a_2 : Option Addr),
      ∃ (n : Nat),
      ∃ (c : Nat),
      CellsAt a.snd b (5 : Nat) [Value.slice a_2 n c] ∧
      ifB (decide ((↑a.fst : Int) < (↑n : Int)))
      (∃ (a_3 : Option Addr),
      ∃ (n : Nat),
      ∃ (c : Nat),
      CellsAt a.snd b (5 : Nat) [Value.slice a_3 n c] ∧
      ∃ (b_2 : Nat),
      ∃ (off : Nat),
      a_3 = some { block := b_2, off := off : Addr } ∧
      ((0 : Int) ≤ (↑a.fst : Int) ∧ (↑a.fst : Int) < (↑n : Int)) ∧
      ∃ (n : Int),
      ∃ (n_3 : Int),
      ∃ (n_4 : Int),
      ∃ (n_5 : Int),
      CellsAt a.snd b_2 (off + (↑a.fst : Int).toNat * (4 : Nat))
      [Value.int IntKind.i64 n, Value.int IntKind.i64 n_3, Value.int IntKind.i64 n_4, Value.int IntKind.i64 n_5] ∧
      true = true ∧
      ((0 : Int) ≤ n ∧ n < (↑(4 : Nat) : Int)) ∧
      ∃ (a_4 : Option Addr),
      ∃ (n_6 : Nat),
      ∃ (c : Nat),
      CellsAt a.snd b ((50 : Nat) + n.toNat * (1 : Nat)) [Value.slice a_4 n_6 c] ∧
      ∃ (s : ByteArray),
      CellsAt a.snd b (0 : Nat) [Value.string s] ∧
      ∃ (n : Int),
      QSpec Try.prog (17 : Nat)
      [Value.slice a_4 n_6 c, Value.int IntKind.i64 (1 : Int), Value.string s,
      Value.int IntKind.i64 n_3]
      a.snd (Value.int IntKind.i64 n) ∧
      ∃ (n_7 : Int),
      ∃ (n_8 : Int),
      QSpec Try.prog (83 : Nat)
      [Value.agg
      #[Value.int IntKind.i64
      (wideHi (w.a.base + sumI (List.take a.fst (List.map (ntH w) w.a.hs)))),
      Value.int IntKind.u64
      (wideLo (w.a.base + sumI (List.take a.fst (List.map (ntH w) w.a.hs))))],
      Value.int IntKind.i64 n]
      a.snd (Value.agg #[Value.int IntKind.i64 n_7, Value.int IntKind.u64 n_8]) ∧
      ∃ (a' : Nat × M),
      ((a'.fst ≤ w.a.hs.length ∧ PtN b w q a'.snd) ∧
      a.snd = a'.snd ∧
      ((SV.val (Value.int IntKind.i64 (IntKind.i64.wrap ((↑a.fst : Int) + (1 : Int)))) =
      SV.val (Value.int IntKind.i64 (↑a'.fst : Int)) ∧
      true = true) ∧
      (SV.val (Value.pointer (some { block := b, off := (0 : Nat) : Addr })) =
      SV.val (Value.pointer (some { block := b, off := (0 : Nat) : Addr })) ∧
      true = true) ∧
      (SV.own (9 : Nat) (0 : Nat) = SV.own (9 : Nat) (0 : Nat) ∧ true = true) ∧
      True) ∧
      (some
      { ty := (108 : TypeId), cs := [Value.int IntKind.i64 n_7, Value.int IntKind.u64 n_8] : Bx } =
      some
      { ty := (108 : TypeId), cs := [Value.int IntKind.i64 (wideHi (w.a.base + sumI (List.take a'.fst (List.map (ntH w) w.a.hs)))), Value.int IntKind.u64 (wideLo (w.a.base + sumI (List.take a'.fst (List.map (ntH w) w.a.hs))))] : Bx } ∧
      true = true) ∧
      True) ∧
      w.a.hs.length - a'.fst < w.a.hs.length - a.fst)
      (∃ (n : Int),
      ∃ (b_2 : Bool),
      QSpec Try.prog (61 : Nat)
      [Value.agg
      #[Value.int IntKind.i64 (wideHi (w.a.base + sumI (List.take a.fst (List.map (ntH w) w.a.hs)))),
      Value.int IntKind.u64 (wideLo (w.a.base + sumI (List.take a.fst (List.map (ntH w) w.a.hs))))]]
      a.snd (Value.tuple #[Value.int IntKind.i64 n, Value.bool b_2]) ∧
      true = true ∧
      ifB b_2
      (∃ (n_3 : Int),
      CellsAt a.snd b (1 : Nat) [Value.int IntKind.i64 n_3] ∧
      ifB (decide (n ≥ n_3))
      (∃ (n_4 : Int),
      CellsAt a.snd b (2 : Nat) [Value.int IntKind.i64 n_4] ∧
      Done
      (Value.tuple #[Value.int IntKind.i64 n, Value.bool (decide (n ≤ n_4))] =
      Value.tuple #[Value.int IntKind.i64 w.tot, Value.bool true]))
      (Done (Value.tuple #[Value.int IntKind.i64 n, Value.bool false] = Value.tuple #[Value.int IntKind.i64 w.tot, Value.bool true])))
      (Done (Value.tuple #[Value.int IntKind.i64 n, Value.bool false] = Value.tuple #[Value.int IntKind.i64 w.tot, Value.bool true])))) (by kernel_rfl) ?_
  have h0 := h.sz hN
  refine ⟨rfl, _, h0.cell 3 _ rfl, rfl, fun b1 hb1 => ?_⟩
  have hof : QSpec Try.prog 60 [.slice (some ⟨b1, 0, none⟩) 1 1] (({ m with sz := N } : M).newBlock b1 [I w.a.base]) (wide w.a.base) := by
    have := of_q (some ⟨b1, 0, none⟩) 1 [w.a.base] (by simpa using hw.wf.base) (by simp) _ (row1 (m := { m with sz := N }) (b := b1) w.a.base)
    rw [show sumI [w.a.base] = w.a.base by simp [sumI]] at this
    exact this
  have h1 := h0.newBlock (ds := [I w.a.base]) hb1
  have hr5 := right_len hw.r
  refine ⟨_, _, hof, ⟨⟨0, _⟩, ⟨Nat.zero_le _, h1⟩, rfl, by simp [sumI]⟩, ?_⟩
  rintro ⟨k, mx⟩ ⟨hk, P⟩
  simp only at hk P ⊢
  refine ⟨_, _, _, P.cell 5 _ rfl, ifB_intro (fun g => ?_) (fun g => ?_)⟩
  · have hk2 : k < w.a.hs.length := by simpa using g
    have wk : IntKind.i64.wrap ((k : Int) + 1) = ((k + 1 : Nat) : Int) := by simp [IntKind.wrap_i64]; omega
    obtain ⟨bh, oh, eh, hh⟩ := P.a.row.cells (by rw [hds_len]; omega)
    have hm := List.getElem_mem hk2
    obtain ⟨f1, f2⟩ := mem_findH hw.r hm
    have n1 := (hold_mem _ _ ((right_iff _).1 hw.r).hold _ hm).1
    have n3 := (hw.hd _ f1).1
    have hnt := rnet_q (q.b w.a.hs[k].nd) (q.cb w.a.hs[k].nd) (bkL (w.bk w.a.hs[k].nd)) 1 w.a.key w.a.hs[k].le (by have := bk_len (w.bk w.a.hs[k].nd); omega) mx (P.bk _ (by omega) n3).row
    rw [hw.key, net_bk hw] at hnt
    refine ⟨_, _, _, P.cell 5 _ rfl, bh, oh, eh, by omega, _, _, _, _, by simpa using hd_at hh hk2, trivial, by omega, _, _, _, P.bkc (by omega) n3, _, P.cell 0 _ rfl, _, by rw [hw.key]; exact hnt, _, _, plus_q _ _ (nt_in64 hw _ _) _, ⟨k + 1, mx⟩, ⟨⟨hk2, P⟩, rfl, by rw [wk]; simp, ?_, trivial⟩, by simp only; omega⟩
    have e : sumI ((w.a.hs.map (ntH w)).take (k + 1)) = sumI ((w.a.hs.map (ntH w)).take k) + ntO (w.bk w.a.hs[k].nd) w.a.hs[k].le := by
      rw [sumI_take _ _ (by simpa using hk2), List.getElem_map]; rfl
    simp only
    rw [e, Int.add_assoc]
    exact ⟨rfl, trivial⟩
  · have hk2 : k = w.a.hs.length := by simp at g; omega
    subst hk2
    have ht : w.a.base + sumI ((w.a.hs.map (ntH w)).take w.a.hs.length) = w.tot := by rw [List.take_of_length_le (by simp)]; rfl
    obtain ⟨t1, t2⟩ := tot_in hw
    have l1 := hw.wf.lo
    have l2 := hw.wf.hi
    have hi : In64 w.tot := by unfold In64 at *; omega
    have hq := int_q w.tot (by unfold In64 at *; omega) (by unfold In64 at *; omega) mx
    have wt : IntKind.i64.wrap w.tot = w.tot := by unfold In64 at hi; simp [IntKind.wrap_i64]; omega
    rw [wt, decide_eq_true hi] at hq
    rw [ht]
    exact ⟨_, _, hq, trivial, ifB_true ⟨_, P.cell 1 _ rfl, ifB_true' (by simpa using t1) ⟨_, P.cell 2 _ rfl, ⟨by simp [t2]⟩⟩⟩⟩

end Go.Proofs.Ytfkielfnceeedaa
set_option linter.unusedVariables false
set_option linter.unusedSimpArgs false
namespace Go.Proofs.Ytfkielfnceeedaa
open Go.Vc Go.RowKit
set_option maxRecDepth 100000

abbrev stpv (kd way nd n lo hi : Int) (cm : Bool) : Value := .agg #[I kd, I way, I nd, I n, I lo, I hi, .bool cm]

theorem RowA.set {b : Nat} {m : M} {a : Option Addr} {cs : List Value} (h : RowA b m a cs) (j : Nat) (ds : List Value) : RowA b (m.setCells b j ds) a cs := by
  refine ⟨?_, h.aw⟩
  by_cases e : cs = []
  · subst e; exact .nil _
  · exact h.row.of (Nat.le_refl _) fun b' o' e2 _ => setCells_other (h.aw e b' o' e2)

/-- some cells of the world are written -/
theorem PtN.set {b : Nat} {w w' : Nw} {q q' : Nq} {m : M} (h : PtN b w q m) {p old new r : List Value} {j : Nat} (e1 : encNw w q = p ++ (old ++ r)) (e2 : encNw w' q' = p ++ (new ++ r)) (hl : new.length = old.length) (hp : p.length = j)
    (ha : RowA b m q'.a (hds w'.a.hs)) (hs : ∀ n, 0 ≤ n → n ≤ 3 → RowA b m (q'.s n) (hds (w'.s n).hs)) (hb : ∀ n, 0 ≤ n → n ≤ 3 → RowA b m (q'.b n) (rts (bkL (w'.bk n))))
    (hr1 : w'.rp = w.rp) (hr2 : q'.r = q.r) (hr3 : q'.cr = q.cr) (hx : ∀ z o, q.r = some ⟨z, o, none⟩ → q.cr ≠ 0 → AwX z w' q') {B : Nat} {S : Nat → Prop} (hS : B ≤ b ∨ S b) :
    Wr B S m b j new.length ∧ PtN b w' q' (m.setCells b j new) := by
  have hc := h.cells
  rw [e1] at hc
  have h56 : j + new.length ≤ 56 := by
    have := congrArg List.length e2
    simp at this; omega
  refine ⟨⟨hS, h.uf, fun i hi => ?_⟩, ⟨?_, fun i hi => ?_, h.uf, h.lt, ha.set _ _, fun n h0 h3 => (hs n h0 h3).set _ _, fun n h0 h3 => (hb n h0 h3).set _ _, ?_, ?_, ?_, by rw [hr2]; exact h.ru⟩⟩
  · have := hc.drop.take.out i (by omega)
    rw [hp, Nat.zero_add] at this
    exact ⟨old[i]'(by omega), by rw [this, List.getElem?_eq_getElem]⟩
  · have := CellsAt.set hc hl
    rw [hp, Nat.zero_add, ← e2] at this
    exact this
  · simp only [M.setCells]
    rw [if_neg (by omega)]
    exact h.full i hi
  · rw [hr1, hr2, hr3]
    exact h.rp.of (Nat.le_refl _) fun b' o' e _ => ⟨setCells_other (h.ra b' o' e), id⟩
  · rw [hr2]; exact h.ra
  · rw [hr2, hr3]; exact fun z o e hc => ⟨(h.rx z o e hc).1, hx z o e hc⟩

theorem PtN.setNx {b : Nat} {w : Nw} {q : Nq} {m : M} (h : PtN b w q m) (k : Int) {B : Nat} {S : Nat → Prop} (hS : B ≤ b ∨ S b) : Wr B S m b 55 1 ∧ PtN b { w with nx := k } q (m.setCells b 55 [I k]) :=
  h.set (w' := { w with nx := k }) (q' := q) (j := 55) (p := (encNw w q).take 55) (old := [I w.nx]) (new := [I k]) (r := []) rfl rfl rfl rfl h.a h.s h.bk rfl rfl rfl (fun z o e hc => ⟨(h.rx z o e hc).2.a, (h.rx z o e hc).2.s, (h.rx z o e hc).2.b⟩) hS

theorem PtN.setA {b : Nat} {w : Nw} {q : Nq} {m : M} (h : PtN b w q m) (y : Ac) (a' : Option Addr) (c' : Nat) (ha : RowA b m a' (hds y.hs)) (hx : ∀ z o, q.r = some ⟨z, o, none⟩ → q.cr ≠ 0 → hds y.hs ≠ [] → ∀ b' o', a' = some ⟨b', o', none⟩ → b' ≠ z) {B : Nat} {S : Nat → Prop} (hS : B ≤ b ∨ S b) : Wr B S m b 0 10 ∧ PtN b { w with a := y } { q with a := a', ca := c' } (m.setCells b 0 (acc y a' c')) :=
  h.set (w' := { w with a := y }) (q' := { q with a := a', ca := c' }) (p := []) (old := acc w.a q.a q.ca) (new := acc y a' c') (r := (encNw w q).drop 10) rfl rfl rfl rfl ha h.s h.bk rfl rfl rfl (fun z o e hc => ⟨hx z o e hc, (h.rx z o e hc).2.s, (h.rx z o e hc).2.b⟩) hS

theorem PtN.freshA {b : Nat} {w : Nw} {q : Nq} {m m' : M} (h : PtN b w q m) {n size len c' : Nat} {a' : Option Addr} {cs : List Value} (hn : m.sz ≤ n) (R : NewR n (fun _ => False) m' size a' len c' cs) (hs : 0 < size) : RowA b m' a' cs := by
  refine ⟨R.row, fun hne b' o' e => ?_⟩
  have hl := R.leng
  have hlen : len ≠ 0 := fun e => hne (List.eq_nil_of_length_eq_zero (by rw [hl, e, Nat.zero_mul]))
  have := (R.toOwn hlen).lo e
  have := h.lt
  rcases (R.toOwn hlen).lo e with h1 | h1
  · omega
  · exact h1.elim

theorem fresh_x {n size len c' : Nat} {m' : M} {a' : Option Addr} {cs : List Value} (R : NewR n (fun _ => False) m' size a' len c' cs) (hne : cs ≠ []) {b' o' : Nat} (e : a' = some ⟨b', o', none⟩) : n ≤ b' := by
  have hl := R.leng
  have hlen : len ≠ 0 := fun e => hne (List.eq_nil_of_length_eq_zero (by rw [hl, e, Nat.zero_mul]))
  rcases (R.toOwn hlen).lo e with h1 | h1
  · exact h1
  · exact h1.elim

theorem call_tail {b : Nat} {w : Nw} {q : Nq} {m m' : M} (h : PtN b w q m) {n : Nat} (hn : m.sz ≤ n) (hag : Agree n { m with sz := n } m') {y : Ac × Int} {a' : Option Addr} {c' : Nat} (R : NewR n (fun _ => False) m' 4 a' y.1.hs.length c' (hds y.1.hs)) (B : Nat) :
    ifB (y.2 == 0) (Wr B (fun z => z = b) m' b 0 10 ∧ Done ((Value.tuple #[] = Value.tuple #[]) ∧ ∃ q', PtN b { w with a := if y.2 = 0 then y.1 else w.a } q' (m'.setCells b 0 (acc y.1 a' c')) ∧ q'.r = q.r)) (Done ((Value.tuple #[] = Value.tuple #[]) ∧ ∃ q', PtN b { w with a := if y.2 = 0 then y.1 else w.a } q' m' ∧ q'.r = q.r)) := by
  have h2 := h.step hn hag
  refine ifB_intro (fun g => ?_) (fun g => ⟨?_⟩)
  · have g : y.2 = 0 := by simpa using g
    obtain ⟨w1, h3⟩ := h2.setA y.1 a' c' (h.freshA hn R (by decide)) (fun z o e hc hne b' o' e2 => by have h1 := fresh_x R hne e2; have h2 := (h.rx z o e hc).1; omega) (B := B) (S := fun z => z = b) (.inr rfl)
    rw [if_pos g]
    exact ⟨w1, ⟨⟨rfl, _, h3, rfl⟩⟩⟩
  · have g : y.2 ≠ 0 := by simpa using g
    rw [if_neg g]
    exact ⟨rfl, q, h2, rfl⟩

theorem wcall_s (b : Nat) (w : Nw) (q : Nq) (kd way nd' n lo hi nd : Int) (cm : Bool) (hw : NwI w) (hn : In64 n) (h1 : In64 lo) (h2 : In64 hi) (hx : w.nx + 1 ≤ 4611686018427387904) (m : M) (h : PtN b w q m) :
    SpecW Try.prog 77 [.pointer (some ⟨b, 0, none⟩), stpv kd way nd' n lo hi cm, I nd] m (fun z => z = b) (fun v m' => v = .tuple #[] ∧ ∃ q', PtN b (w.call way nd n lo hi cm) q' m' ∧ q'.r = q.r) := by
  refine SpecW.of_vc Try.func77 (ann := fun _ => noAnn 0) ?_
  refine vc_by (X :=
      true = true ∧
      ∃ (n_1 : Int),
      CellsAt m b (55 : Nat) [Value.int IntKind.i64 n_1] ∧
      Wr m.sz (fun (z : Nat) => z = b) m b (55 : Nat) #[Value.int IntKind.i64 (IntKind.i64.wrap (n_1 + (1 : Int)))].size ∧
      ifB (way == (1 : Int))
      (true = true ∧
      ∃ (s : ByteArray),
      ∃ (n_2 : Int),
      ∃ (n_3 : Int),
      ∃ (n_4 : Int),
      ∃ (n_5 : Int),
      ∃ (a : Option Addr),
      ∃ (n_6 : Nat),
      ∃ (c : Nat),
      ∃ (n_7 : Int),
      ∃ (n_8 : Int),
      ∃ (n_9 : Int),
      ∃ (n_10 : Int),
      CellsAt (m.setCells b (55 : Nat) [Value.int IntKind.i64 (IntKind.i64.wrap (n_1 + (1 : Int)))]) b (0 : Nat)
      [Value.string s, Value.int IntKind.i64 n_2, Value.int IntKind.i64 n_3, Value.int IntKind.i64 n_4, Value.int IntKind.i64 n_5,
      Value.slice a n_6 c, Value.int IntKind.i64 n_7, Value.int IntKind.i64 n_8, Value.int IntKind.i64 n_9, Value.int IntKind.i64 n_10] ∧
      ∃ (n_11 : Int),
      CellsAt (m.setCells b (55 : Nat) [Value.int IntKind.i64 (IntKind.i64.wrap (n_1 + (1 : Int)))]) b (55 : Nat) [Value.int IntKind.i64 n_11] ∧
      (∀ (n_12 : Nat),
      m.sz ≤ n_12 →
      Vc.Spec Try.prog (93 : Nat)
      [Value.agg
      #[Value.string s, Value.int IntKind.i64 n_2, Value.int IntKind.i64 n_3, Value.int IntKind.i64 n_4, Value.int IntKind.i64 n_5,
      Value.slice a n_6 c, Value.int IntKind.i64 n_7, Value.int IntKind.i64 n_8, Value.int IntKind.i64 n_9,
      Value.int IntKind.i64 n_10],
      Value.int IntKind.i64 nd, Value.int IntKind.i64 n_11, Value.int IntKind.i64 (3 : Int)]
      { π := (m.setCells b (55 : Nat) [Value.int IntKind.i64 (IntKind.i64.wrap (n_1 + (1 : Int)))]).π, sz := n_12, uf := (m.setCells b (55 : Nat) [Value.int IntKind.i64 (IntKind.i64.wrap (n_1 + (1 : Int)))]).uf : M }
      fun (v : Value) (m' : M) =>
      ∃ (s : ByteArray),
      ∃ (n_13 : Int),
      ∃ (n_14 : Int),
      ∃ (n_15 : Int),
      ∃ (n_16 : Int),
      ∃ (a : Option Addr),
      ∃ (n_17 : Nat),
      ∃ (c : Nat),
      ∃ (n_18 : Int),
      ∃ (n_19 : Int),
      ∃ (n_20 : Int),
      ∃ (n_21 : Int),
      ∃ (n_22 : Int),
      v =
      Value.tuple
      #[Value.agg
      #[Value.string s, Value.int IntKind.i64 n_13, Value.int IntKind.i64 n_14,
      Value.int IntKind.i64 n_15, Value.int IntKind.i64 n_16, Value.slice a n_17 c,
      Value.int IntKind.i64 n_18, Value.int IntKind.i64 n_19, Value.int IntKind.i64 n_20,
      Value.int IntKind.i64 n_21],
      Value.int IntKind.i64 n_22] ∧
      ifB (n_22 == (0 : Int))
      (Wr m.sz (fun (z : Nat) => z = b) m' b (0 : Nat)
      #[Value.string s, Value.int IntKind.i64 n_13, Value.int IntKind.i64 n_14,
      Value.int IntKind.i64 n_15, Value.int IntKind.i64 n_16, Value.slice a n_17 c,
      Value.int IntKind.i64 n_18, Value.int IntKind.i64 n_19, Value.int IntKind.i64 n_20,
      Value.int IntKind.i64 n_21].size ∧
      Done
      (Value.tuple #[] = Value.tuple #[] ∧
      ∃ (q' : Nq),
      PtN b (w.call way nd n lo hi cm) q'
      (m'.setCells b (0 : Nat)
      [Value.string s, Value.int IntKind.i64 n_13, Value.int IntKind.i64 n_14,
      Value.int IntKind.i64 n_15, Value.int IntKind.i64 n_16, Value.slice a n_17 c,
      Value.int IntKind.i64 n_18, Value.int IntKind.i64 n_19, Value.int IntKind.i64 n_20,
      Value.int IntKind.i64 n_21]) ∧
      q'.r = q.r))
      (Done
      (Value.tuple #[] = Value.tuple #[] ∧
      ∃ (q' : Nq), PtN b (w.call way nd n lo hi cm) q' m' ∧ q'.r = q.r))) ∧
      True)
      (ifB (way == (2 : Int))
      (true = true ∧
      ∃ (s : ByteArray),
      ∃ (n_2 : Int),
      ∃ (n_3 : Int),
      ∃ (n_4 : Int),
      ∃ (n_5 : Int),
      ∃ (a : Option Addr),
      ∃ (n_6 : Nat),
      ∃ (c : Nat),
      ∃ (n_7 : Int),
      ∃ (n_8 : Int),
      ∃ (n_9 : Int),
      ∃ (n_10 : Int),
      CellsAt (m.setCells b (55 : Nat) [Value.int IntKind.i64 (IntKind.i64.wrap (n_1 + (1 : Int)))]) b (0 : Nat)
      [Value.string s, Value.int IntKind.i64 n_2, Value.int IntKind.i64 n_3, Value.int IntKind.i64 n_4, Value.int IntKind.i64 n_5,
      Value.slice a n_6 c, Value.int IntKind.i64 n_7, Value.int IntKind.i64 n_8, Value.int IntKind.i64 n_9, Value.int IntKind.i64 n_10] ∧
      ∃ (n_11 : Int),
      CellsAt (m.setCells b (55 : Nat) [Value.int IntKind.i64 (IntKind.i64.wrap (n_1 + (1 : Int)))]) b (55 : Nat) [Value.int IntKind.i64 n_11] ∧
      (∀ (n_12 : Nat),
      m.sz ≤ n_12 →
      Vc.Spec Try.prog (34 : Nat)
      [Value.agg
      #[Value.string s, Value.int IntKind.i64 n_2, Value.int IntKind.i64 n_3, Value.int IntKind.i64 n_4,
      Value.int IntKind.i64 n_5, Value.slice a n_6 c, Value.int IntKind.i64 n_7, Value.int IntKind.i64 n_8,
      Value.int IntKind.i64 n_9, Value.int IntKind.i64 n_10],
      Value.int IntKind.i64 n_11]
      { π := (m.setCells b (55 : Nat) [Value.int IntKind.i64 (IntKind.i64.wrap (n_1 + (1 : Int)))]).π, sz := n_12, uf := (m.setCells b (55 : Nat) [Value.int IntKind.i64 (IntKind.i64.wrap (n_1 + (1 : Int)))]).uf : M }
      fun (v : Value) (m' : M) =>
      ∃ (s : ByteArray),
      ∃ (n_13 : Int),
      ∃ (n_14 : Int),
      ∃ (n_15 : Int),
      ∃ (n_16 : Int),
      ∃ (a : Option Addr),
      ∃ (n_17 : Nat),
      ∃ (c : Nat),
      ∃ (n_18 : Int),
      ∃ (n_19 : Int),
      ∃ (n_20 : Int),
      ∃ (n_21 : Int),
      ∃ (n_22 : Int),
      v =
      Value.tuple
      #[Value.agg
      #[Value.string s, Value.int IntKind.i64 n_13, Value.int IntKind.i64 n_14,
      Value.int IntKind.i64 n_15, Value.int IntKind.i64 n_16, Value.slice a n_17 c,
      Value.int IntKind.i64 n_18, Value.int IntKind.i64 n_19, Value.int IntKind.i64 n_20,
      Value.int IntKind.i64 n_21],
      Value.int IntKind.i64 n_22] ∧
      ifB (n_22 == (0 : Int))
      (Wr m.sz (fun (z : Nat) => z = b) m' b (0 : Nat)
      #[Value.string s, Value.int IntKind.i64 n_13, Value.int IntKind.i64 n_14,
      Value.int IntKind.i64 n_15, Value.int IntKind.i64 n_16, Value.slice a n_17 c,
      Value.int IntKind.i64 n_18, Value.int IntKind.i64 n_19, Value.int IntKind.i64 n_20,
      Value.int IntKind.i64 n_21].size ∧
      Done
      (Value.tuple #[] = Value.tuple #[] ∧
      ∃ (q' : Nq),
      PtN b (w.call way nd n lo hi cm) q'
      (m'.setCells b (0 : Nat)
      [Value.string s, Value.int IntKind.i64 n_13, Value.int IntKind.i64 n_14,
      Value.int IntKind.i64 n_15, Value.int IntKind.i64 n_16, Value.slice a n_17 c,
      Value.int IntKind.i64 n_18, Value.int IntKind.i64 n_19,
      Value.int IntKind.i64 n_20, Value.int IntKind.i64 n_21]) ∧
      q'.r = q.r))
      (Done
      (Value.tuple #[] = Value.tuple #[] ∧
      ∃ (q' : Nq), PtN b (w.call way nd n lo hi cm) q' m' ∧ q'.r = q.r))) ∧
      True)
      (ifB (way == (3 : Int))
      (∃ (s : ByteArray),
      ∃ (n_2 : Int),
      ∃ (n_3 : Int),
      ∃ (n_4 : Int),
      ∃ (n_5 : Int),
      ∃ (a : Option Addr),
      ∃ (n_6 : Nat),
      ∃ (c : Nat),
      ∃ (n_7 : Int),
      ∃ (n_8 : Int),
      ∃ (n_9 : Int),
      ∃ (n_10 : Int),
      CellsAt (m.setCells b (55 : Nat) [Value.int IntKind.i64 (IntKind.i64.wrap (n_1 + (1 : Int)))]) b (0 : Nat)
      [Value.string s, Value.int IntKind.i64 n_2, Value.int IntKind.i64 n_3, Value.int IntKind.i64 n_4, Value.int IntKind.i64 n_5,
      Value.slice a n_6 c, Value.int IntKind.i64 n_7, Value.int IntKind.i64 n_8, Value.int IntKind.i64 n_9, Value.int IntKind.i64 n_10] ∧
      ∀ (n_11 : Nat),
      m.sz ≤ n_11 →
      Vc.Spec Try.prog (36 : Nat)
      [Value.agg
      #[Value.string s, Value.int IntKind.i64 n_2, Value.int IntKind.i64 n_3, Value.int IntKind.i64 n_4, Value.int IntKind.i64 n_5,
      Value.slice a n_6 c, Value.int IntKind.i64 n_7, Value.int IntKind.i64 n_8, Value.int IntKind.i64 n_9,
      Value.int IntKind.i64 n_10]]
      { π := (m.setCells b (55 : Nat) [Value.int IntKind.i64 (IntKind.i64.wrap (n_1 + (1 : Int)))]).π, sz := n_11, uf := (m.setCells b (55 : Nat) [Value.int IntKind.i64 (IntKind.i64.wrap (n_1 + (1 : Int)))]).uf : M }
      fun (v : Value) (m' : M) =>
      ∃ (s : ByteArray),
      ∃ (n_12 : Int),
      ∃ (n_13 : Int),
      ∃ (n_14 : Int),
      ∃ (n_15 : Int),
      ∃ (a : Option Addr),
      ∃ (n_16 : Nat),
      ∃ (c : Nat),
      ∃ (n_17 : Int),
      ∃ (n_18 : Int),
      ∃ (n_19 : Int),
      ∃ (n_20 : Int),
      ∃ (n_21 : Int),
      v =
      Value.tuple
      #[Value.agg
      #[Value.string s, Value.int IntKind.i64 n_12, Value.int IntKind.i64 n_13,
      Value.int IntKind.i64 n_14, Value.int IntKind.i64 n_15, Value.slice a n_16 c,
      Value.int IntKind.i64 n_17, Value.int IntKind.i64 n_18, Value.int IntKind.i64 n_19,
      Value.int IntKind.i64 n_20],
      Value.int IntKind.i64 n_21] ∧
      ifB (n_21 == (0 : Int))
      (Wr m.sz (fun (z : Nat) => z = b) m' b (0 : Nat)
      #[Value.string s, Value.int IntKind.i64 n_12, Value.int IntKind.i64 n_13,
      Value.int IntKind.i64 n_14, Value.int IntKind.i64 n_15, Value.slice a n_16 c,
      Value.int IntKind.i64 n_17, Value.int IntKind.i64 n_18, Value.int IntKind.i64 n_19,
      Value.int IntKind.i64 n_20].size ∧
      Done
      (Value.tuple #[] = Value.tuple #[] ∧
      ∃ (q' : Nq),
      PtN b (w.call way nd n lo hi cm) q'
      (m'.setCells b (0 : Nat)
      [Value.string s, Value.int IntKind.i64 n_12, Value.int IntKind.i64 n_13,
      Value.int IntKind.i64 n_14, Value.int IntKind.i64 n_15, Value.slice a n_16 c,
      Value.int IntKind.i64 n_17, Value.int IntKind.i64 n_18, Value.int IntKind.i64 n_19,
      Value.int IntKind.i64 n_20]) ∧
      q'.r = q.r))
      (Done
      (Value.tuple #[] = Value.tuple #[] ∧
      ∃ (q' : Nq), PtN b (w.call way nd n lo hi cm) q' m' ∧ q'.r = q.r)))
      (ifB (way == (4 : Int))
      (true = true ∧
      ∃ (s : ByteArray),
      ∃ (n_2 : Int),
      ∃ (n_3 : Int),
      ∃ (n_4 : Int),
      ∃ (n_5 : Int),
      ∃ (a : Option Addr),
      ∃ (n_6 : Nat),
      ∃ (c : Nat),
      ∃ (n_7 : Int),
      ∃ (n_8 : Int),
      ∃ (n_9 : Int),
      ∃ (n_10 : Int),
      CellsAt (m.setCells b (55 : Nat) [Value.int IntKind.i64 (IntKind.i64.wrap (n_1 + (1 : Int)))]) b (0 : Nat)
      [Value.string s, Value.int IntKind.i64 n_2, Value.int IntKind.i64 n_3, Value.int IntKind.i64 n_4, Value.int IntKind.i64 n_5,
      Value.slice a n_6 c, Value.int IntKind.i64 n_7, Value.int IntKind.i64 n_8, Value.int IntKind.i64 n_9, Value.int IntKind.i64 n_10] ∧
      (∀ (n_11 : Nat),
      m.sz ≤ n_11 →
      Vc.Spec Try.prog (94 : Nat)
      [Value.agg
      #[Value.string s, Value.int IntKind.i64 n_2, Value.int IntKind.i64 n_3, Value.int IntKind.i64 n_4,
      Value.int IntKind.i64 n_5, Value.slice a n_6 c, Value.int IntKind.i64 n_7, Value.int IntKind.i64 n_8,
      Value.int IntKind.i64 n_9, Value.int IntKind.i64 n_10],
      Value.agg #[Value.int IntKind.i64 lo, Value.int IntKind.i64 hi]]
      { π := (m.setCells b (55 : Nat) [Value.int IntKind.i64 (IntKind.i64.wrap (n_1 + (1 : Int)))]).π, sz := n_11, uf := (m.setCells b (55 : Nat) [Value.int IntKind.i64 (IntKind.i64.wrap (n_1 + (1 : Int)))]).uf : M }
      fun (v : Value) (m' : M) =>
      ∃ (s : ByteArray),
      ∃ (n_12 : Int),
      ∃ (n_13 : Int),
      ∃ (n_14 : Int),
      ∃ (n_15 : Int),
      ∃ (a : Option Addr),
      ∃ (n_16 : Nat),
      ∃ (c : Nat),
      ∃ (n_17 : Int),
      ∃ (n_18 : Int),
      ∃ (n_19 : Int),
      ∃ (n_20 : Int),
      ∃ (n_21 : Int),
      v =
      Value.tuple
      #[Value.agg
      #[Value.string s, Value.int IntKind.i64 n_12, Value.int IntKind.i64 n_13,
      Value.int IntKind.i64 n_14, Value.int IntKind.i64 n_15, Value.slice a n_16 c,
      Value.int IntKind.i64 n_17, Value.int IntKind.i64 n_18, Value.int IntKind.i64 n_19,
      Value.int IntKind.i64 n_20],
      Value.int IntKind.i64 n_21] ∧
      ifB (n_21 == (0 : Int))
      (Wr m.sz (fun (z : Nat) => z = b) m' b (0 : Nat)
      #[Value.string s, Value.int IntKind.i64 n_12, Value.int IntKind.i64 n_13,
      Value.int IntKind.i64 n_14, Value.int IntKind.i64 n_15, Value.slice a n_16 c,
      Value.int IntKind.i64 n_17, Value.int IntKind.i64 n_18, Value.int IntKind.i64 n_19,
      Value.int IntKind.i64 n_20].size ∧
      Done
      (Value.tuple #[] = Value.tuple #[] ∧
      ∃ (q' : Nq),
      PtN b (w.call way nd n lo hi cm) q'
      (m'.setCells b (0 : Nat)
      [Value.string s, Value.int IntKind.i64 n_12, Value.int IntKind.i64 n_13,
      Value.int IntKind.i64 n_14, Value.int IntKind.i64 n_15, Value.slice a n_16 c,
      Value.int IntKind.i64 n_17, Value.int IntKind.i64 n_18,
      Value.int IntKind.i64 n_19, Value.int IntKind.i64 n_20]) ∧
      q'.r = q.r))
      (Done
      (Value.tuple #[] = Value.tuple #[] ∧
      ∃ (q' : Nq), PtN b (w.call way nd n lo hi cm) q' m' ∧ q'.r = q.r))) ∧
      True)
      (ifB (way == (5 : Int))
      (true = true ∧
      ∃ (s : ByteArray),
      ∃ (n_2 : Int),
      ∃ (n_3 : Int),
      ∃ (n_4 : Int),
      ∃ (n_5 : Int),
      ∃ (a : Option Addr),
      ∃ (n_6 : Nat),
      ∃ (c : Nat),
      ∃ (n_7 : Int),
      ∃ (n_8 : Int),
      ∃ (n_9 : Int),
      ∃ (n_10 : Int),
      CellsAt (m.setCells b (55 : Nat) [Value.int IntKind.i64 (IntKind.i64.wrap (n_1 + (1 : Int)))]) b (0 : Nat)
      [Value.string s, Value.int IntKind.i64 n_2, Value.int IntKind.i64 n_3, Value.int IntKind.i64 n_4, Value.int IntKind.i64 n_5,
      Value.slice a n_6 c, Value.int IntKind.i64 n_7, Value.int IntKind.i64 n_8, Value.int IntKind.i64 n_9,
      Value.int IntKind.i64 n_10] ∧
      ∃ (n_11 : Int),
      CellsAt (m.setCells b (55 : Nat) [Value.int IntKind.i64 (IntKind.i64.wrap (n_1 + (1 : Int)))]) b (55 : Nat)
      [Value.int IntKind.i64 n_11] ∧
      (∀ (n_12 : Nat),
      m.sz ≤ n_12 →
      Vc.Spec Try.prog (95 : Nat)
      [Value.agg
      #[Value.string s, Value.int IntKind.i64 n_2, Value.int IntKind.i64 n_3, Value.int IntKind.i64 n_4,
      Value.int IntKind.i64 n_5, Value.slice a n_6 c, Value.int IntKind.i64 n_7, Value.int IntKind.i64 n_8,
      Value.int IntKind.i64 n_9, Value.int IntKind.i64 n_10],
      Value.agg
      #[Value.int IntKind.i64 (1 : Int), Value.int IntKind.i64 n_11, Value.int IntKind.i64 (1 : Int),
      Value.int IntKind.i64 n]]
      { π := (m.setCells b (55 : Nat) [Value.int IntKind.i64 (IntKind.i64.wrap (n_1 + (1 : Int)))]).π, sz := n_12, uf := (m.setCells b (55 : Nat) [Value.int IntKind.i64 (IntKind.i64.wrap (n_1 + (1 : Int)))]).uf : M }
      fun (v : Value) (m' : M) =>
      ∃ (s : ByteArray),
      ∃ (n_13 : Int),
      ∃ (n_14 : Int),
      ∃ (n_15 : Int),
      ∃ (n_16 : Int),
      ∃ (a : Option Addr),
      ∃ (n_17 : Nat),
      ∃ (c : Nat),
      ∃ (n_18 : Int),
      ∃ (n_19 : Int),
      ∃ (n_20 : Int),
      ∃ (n_21 : Int),
      ∃ (n_22 : Int),
      v =
      Value.tuple
      #[Value.agg
      #[Value.string s, Value.int IntKind.i64 n_13, Value.int IntKind.i64 n_14,
      Value.int IntKind.i64 n_15, Value.int IntKind.i64 n_16, Value.slice a n_17 c,
      Value.int IntKind.i64 n_18, Value.int IntKind.i64 n_19, Value.int IntKind.i64 n_20,
      Value.int IntKind.i64 n_21],
      Value.int IntKind.i64 n_22] ∧
      ifB (n_22 == (0 : Int))
      (Wr m.sz (fun (z : Nat) => z = b) m' b (0 : Nat)
      #[Value.string s, Value.int IntKind.i64 n_13, Value.int IntKind.i64 n_14,
      Value.int IntKind.i64 n_15, Value.int IntKind.i64 n_16, Value.slice a n_17 c,
      Value.int IntKind.i64 n_18, Value.int IntKind.i64 n_19, Value.int IntKind.i64 n_20,
      Value.int IntKind.i64 n_21].size ∧
      Done
      (Value.tuple #[] = Value.tuple #[] ∧
      ∃ (q' : Nq),
      PtN b (w.call way nd n lo hi cm) q'
      (m'.setCells b (0 : Nat)
      [Value.string s, Value.int IntKind.i64 n_13, Value.int IntKind.i64 n_14,
      Value.int IntKind.i64 n_15, Value.int IntKind.i64 n_16,
      Value.slice a n_17 c, Value.int IntKind.i64 n_18,
      Value.int IntKind.i64 n_19, Value.int IntKind.i64 n_20,
      Value.int IntKind.i64 n_21]) ∧
      q'.r = q.r))
      (Done
      (Value.tuple #[] = Value.tuple #[] ∧
      ∃ (q' : Nq), PtN b (w.call way nd n lo hi cm) q' m' ∧ q'.r = q.r))) ∧
      True)
      (ifB (way == (6 : Int))
      (true = true ∧
      ∃ (s : ByteArray),
      ∃ (n_2 : Int),
      ∃ (n_3 : Int),
      ∃ (n_4 : Int),
      ∃ (n_5 : Int),
      ∃ (a : Option Addr),
      ∃ (n_6 : Nat),
      ∃ (c : Nat),
      ∃ (n_7 : Int),
      ∃ (n_8 : Int),
      ∃ (n_9 : Int),
      ∃ (n_10 : Int),
      CellsAt (m.setCells b (55 : Nat) [Value.int IntKind.i64 (IntKind.i64.wrap (n_1 + (1 : Int)))]) b (0 : Nat)
      [Value.string s, Value.int IntKind.i64 n_2, Value.int IntKind.i64 n_3, Value.int IntKind.i64 n_4, Value.int IntKind.i64 n_5,
      Value.slice a n_6 c, Value.int IntKind.i64 n_7, Value.int IntKind.i64 n_8, Value.int IntKind.i64 n_9,
      Value.int IntKind.i64 n_10] ∧
      (∀ (n_11 : Nat),
      m.sz ≤ n_11 →
      Vc.Spec Try.prog (96 : Nat)
      [Value.agg
      #[Value.string s, Value.int IntKind.i64 n_2, Value.int IntKind.i64 n_3, Value.int IntKind.i64 n_4,
      Value.int IntKind.i64 n_5, Value.slice a n_6 c, Value.int IntKind.i64 n_7, Value.int IntKind.i64 n_8,
      Value.int IntKind.i64 n_9, Value.int IntKind.i64 n_10],
      Value.bool cm]
      { π := (m.setCells b (55 : Nat) [Value.int IntKind.i64 (IntKind.i64.wrap (n_1 + (1 : Int)))]).π, sz := n_11, uf := (m.setCells b (55 : Nat) [Value.int IntKind.i64 (IntKind.i64.wrap (n_1 + (1 : Int)))]).uf : M }
      fun (v : Value) (m' : M) =>
      ∃ (s : ByteArray),
      ∃ (n_12 : Int),
      ∃ (n_13 : Int),
      ∃ (n_14 : Int),
      ∃ (n_15 : Int),
      ∃ (a : Option Addr),
      ∃ (n_16 : Nat),
      ∃ (c : Nat),
      ∃ (n_17 : Int),
      ∃ (n_18 : Int),
      ∃ (n_19 : Int),
      ∃ (n_20 : Int),
      ∃ (n_21 : Int),
      v =
      Value.tuple
      #[Value.agg
      #[Value.string s, Value.int IntKind.i64 n_12, Value.int IntKind.i64 n_13,
      Value.int IntKind.i64 n_14, Value.int IntKind.i64 n_15, Value.slice a n_16 c,
      Value.int IntKind.i64 n_17, Value.int IntKind.i64 n_18, Value.int IntKind.i64 n_19,
      Value.int IntKind.i64 n_20],
      Value.int IntKind.i64 n_21] ∧
      ifB (n_21 == (0 : Int))
      (Wr m.sz (fun (z : Nat) => z = b) m' b (0 : Nat)
      #[Value.string s, Value.int IntKind.i64 n_12, Value.int IntKind.i64 n_13,
      Value.int IntKind.i64 n_14, Value.int IntKind.i64 n_15, Value.slice a n_16 c,
      Value.int IntKind.i64 n_17, Value.int IntKind.i64 n_18, Value.int IntKind.i64 n_19,
      Value.int IntKind.i64 n_20].size ∧
      Done
      (Value.tuple #[] = Value.tuple #[] ∧
      ∃ (q' : Nq),
      PtN b (w.call way nd n lo hi cm) q'
      (m'.setCells b (0 : Nat)
      [Value.string s, Value.int IntKind.i64 n_12, Value.int IntKind.i64 n_13,
      Value.int IntKind.i64 n_14, Value.int IntKind.i64 n_15, Value.slice a n_16 c,
      Value.int IntKind.i64 n_17, Value.int IntKind.i64 n_18,
      Value.int IntKind.i64 n_19, Value.int IntKind.i64 n_20]) ∧
      q'.r = q.r))
      (Done
      (Value.tuple #[] = Value.tuple #[] ∧
      ∃ (q' : Nq), PtN b (w.call way nd n lo hi cm) q' m' ∧ q'.r = q.r))) ∧
      True)
      (true = true ∧
      ∃ (s : ByteArray),
      ∃ (n_2 : Int),
      ∃ (n_3 : Int),
      ∃ (n_4 : Int),
      ∃ (n_5 : Int),
      ∃ (a : Option Addr),
      ∃ (n_6 : Nat),
      ∃ (c : Nat),
      ∃ (n_7 : Int),
      ∃ (n_8 : Int),
      ∃ (n_9 : Int),
      ∃ (n_10 : Int),
      CellsAt (m.setCells b (55 : Nat) [Value.int IntKind.i64 (IntKind.i64.wrap (n_1 + (1 : Int)))]) b (0 : Nat)
      [Value.string s, Value.int IntKind.i64 n_2, Value.int IntKind.i64 n_3, Value.int IntKind.i64 n_4, Value.int IntKind.i64 n_5,
      Value.slice a n_6 c, Value.int IntKind.i64 n_7, Value.int IntKind.i64 n_8, Value.int IntKind.i64 n_9,
      Value.int IntKind.i64 n_10] ∧
      (∀ (n_11 : Nat),
      m.sz ≤ n_11 →
      Vc.Spec Try.prog (97 : Nat)
      [Value.agg
      #[Value.string s, Value.int IntKind.i64 n_2, Value.int IntKind.i64 n_3, Value.int IntKind.i64 n_4,
      Value.int IntKind.i64 n_5, Value.slice a n_6 c, Value.int IntKind.i64 n_7, Value.int IntKind.i64 n_8,
      Value.int IntKind.i64 n_9, Value.int IntKind.i64 n_10],
      Value.int IntKind.i64 n]
      { π := (m.setCells b (55 : Nat) [Value.int IntKind.i64 (IntKind.i64.wrap (n_1 + (1 : Int)))]).π, sz := n_11, uf := (m.setCells b (55 : Nat) [Value.int IntKind.i64 (IntKind.i64.wrap (n_1 + (1 : Int)))]).uf : M }
      fun (v : Value) (m' : M) =>
      ∃ (s : ByteArray),
      ∃ (n_12 : Int),
      ∃ (n_13 : Int),
      ∃ (n_14 : Int),
      ∃ (n_15 : Int),
      ∃ (a : Option Addr),
      ∃ (n_16 : Nat),
      ∃ (c : Nat),
      ∃ (n_17 : Int),
      ∃ (n_18 : Int),
      ∃ (n_19 : Int),
      ∃ (n_20 : Int),
      ∃ (n_21 : Int),
      v =
      Value.tuple
      #[Value.agg
      #[Value.string s, Value.int IntKind.i64 n_12, Value.int IntKind.i64 n_13,
      Value.int IntKind.i64 n_14, Value.int IntKind.i64 n_15, Value.slice a n_16 c,
      Value.int IntKind.i64 n_17, Value.int IntKind.i64 n_18, Value.int IntKind.i64 n_19,
      Value.int IntKind.i64 n_20],
      Value.int IntKind.i64 n_21] ∧
      ifB (n_21 == (0 : Int))
      (Wr m.sz (fun (z : Nat) => z = b) m' b (0 : Nat)
      #[Value.string s, Value.int IntKind.i64 n_12, Value.int IntKind.i64 n_13,
      Value.int IntKind.i64 n_14, Value.int IntKind.i64 n_15, Value.slice a n_16 c,
      Value.int IntKind.i64 n_17, Value.int IntKind.i64 n_18, Value.int IntKind.i64 n_19,
      Value.int IntKind.i64 n_20].size ∧
      Done
      (Value.tuple #[] = Value.tuple #[] ∧
      ∃ (q' : Nq),
      PtN b (w.call way nd n lo hi cm) q'
      (m'.setCells b (0 : Nat)
      [Value.string s, Value.int IntKind.i64 n_12, Value.int IntKind.i64 n_13,
      Value.int IntKind.i64 n_14, Value.int IntKind.i64 n_15, Value.slice a n_16 c,
      Value.int IntKind.i64 n_17, Value.int IntKind.i64 n_18,
      Value.int IntKind.i64 n_19, Value.int IntKind.i64 n_20]) ∧
      q'.r = q.r))
      (Done
      (Value.tuple #[] = Value.tuple #[] ∧
      ∃ (q' : Nq), PtN b (w.call way nd n lo hi cm) q' m' ∧ q'.r = q.r))) ∧
      True))))))) (by kernel_rfl) ?_
  have hnx := hw.nx
  have wx : IntKind.i64.wrap (w.nx + 1) = w.nx + 1 := by simp [IntKind.wrap_i64]; omega
  refine ⟨rfl, _, h.cell 55 _ rfl, ?_⟩
  rw [wx]
  obtain ⟨w1, P⟩ := h.setNx (w.nx + 1) (B := m.sz) (S := fun z => z = b) (.inr rfl)
  refine ⟨w1, ?_⟩
  generalize hm1 : m.setCells b 55 [I (w.nx + 1)] = m1 at *
  have hsz : m1.sz = m.sz := by rw [← hm1]; rfl
  have h0 := hd_none P.a.row
  have hwf := hw.wf
  have e0 : ∀ y, callE w.a (w.nx + 1) way nd n lo hi cm = y → w.call way nd n lo hi cm = { ({ w with nx := w.nx + 1 } : Nw) with a := if y.2 = 0 then y.1 else w.a } := fun y e => by unfold Nw.call; rw [e]
  have ca : CellsAt m1 b 0 (acc w.a q.a q.ca) := (show CellsAt m1 b 0 (acc w.a q.a q.ca ++ _) from P.cells).take
  have cn : CellsAt m1 b 55 [I (w.nx + 1)] := P.cell 55 _ rfl
  refine ifB_intro (fun g => ?_) (fun g1 => ifB_intro (fun g => ?_) (fun g2 => ifB_intro (fun g => ?_) (fun g3 => ifB_intro (fun g => ?_) (fun g4 => ifB_intro (fun g => ?_) (fun g5 => ifB_intro (fun g => ?_) (fun g6 => ?_))))))
  · have e := e0 (aGrant w.a nd (w.nx + 1) 3) (by unfold callE; rw [if_pos (by simpa using g)])
    rw [e]
    refine ⟨rfl, _, _, _, _, _, _, _, _, _, _, _, _, ca, _, cn, fun N hN => (agrant_s w.a q.a q.ca nd (w.nx + 1) 3 hwf h0 _ (P.a.row.sz (by omega))).mono fun v m' ag R => ?_, trivial⟩
    obtain ⟨a', c', hv, hr⟩ := R.out
    exact ⟨_, _, _, _, _, _, _, _, _, _, _, _, _, hv, call_tail (n := N) P (by omega) ag hr _⟩
  · have e := e0 (aFreeze w.a (w.nx + 1)) (by unfold callE; rw [if_neg (by simpa using g1)]; rw [if_pos (by simpa using g)])
    rw [e]
    refine ⟨rfl, _, _, _, _, _, _, _, _, _, _, _, _, ca, _, cn, fun N hN => (afreeze_s w.a q.a q.ca (w.nx + 1) hwf h0 _ (P.a.row.sz (by omega))).mono fun v m' ag R => ?_, trivial⟩
    obtain ⟨a', c', hv, hr⟩ := R.out
    exact ⟨_, _, _, _, _, _, _, _, _, _, _, _, _, hv, call_tail (n := N) P (by omega) ag hr _⟩
  · have e := e0 (aThaw w.a) (by unfold callE; rw [if_neg (by simpa using g1)]; rw [if_neg (by simpa using g2)]; rw [if_pos (by simpa using g)])
    rw [e]
    refine ⟨_, _, _, _, _, _, _, _, _, _, _, _, ca, fun N hN => (athaw_s w.a q.a q.ca hwf h0 _ (P.a.row.sz (by omega))).mono fun v m' ag R => ?_⟩
    obtain ⟨a', c', hv, hr⟩ := R.out
    exact ⟨_, _, _, _, _, _, _, _, _, _, _, _, _, hv, call_tail (n := N) P (by omega) ag hr _⟩
  · have e := e0 (aBounds w.a lo hi) (by unfold callE; rw [if_neg (by simpa using g1)]; rw [if_neg (by simpa using g2)]; rw [if_neg (by simpa using g3)]; rw [if_pos (by simpa using g)])
    rw [e]
    refine ⟨rfl, _, _, _, _, _, _, _, _, _, _, _, _, ca, fun N hN => (abounds_s w.a q.a q.ca lo hi hwf h0 _ (P.a.row.sz (by omega))).mono fun v m' ag R => ?_, trivial⟩
    obtain ⟨a', c', hv, hr⟩ := R.out
    exact ⟨_, _, _, _, _, _, _, _, _, _, _, _, _, hv, call_tail (n := N) P (by omega) ag hr _⟩
  · have e := e0 (aTake w.a ⟨1, w.nx + 1, 1, n⟩) (by unfold callE; rw [if_neg (by simpa using g1)]; rw [if_neg (by simpa using g2)]; rw [if_neg (by simpa using g3)]; rw [if_neg (by simpa using g4)]; rw [if_pos (by simpa using g)])
    rw [e]
    refine ⟨rfl, _, _, _, _, _, _, _, _, _, _, _, _, ca, _, cn, fun N hN => (atake_s w.a q.a q.ca ⟨1, w.nx + 1, 1, n⟩ hwf ⟨by show In64 1; decide, by simp only; unfold In64; omega, by show In64 1; decide, hn⟩ h0 _ (P.a.row.sz (by omega))).mono fun v m' ag R => ?_, trivial⟩
    obtain ⟨a', c', hv, hr⟩ := R.out
    exact ⟨_, _, _, _, _, _, _, _, _, _, _, _, _, hv, call_tail (n := N) P (by omega) ag hr _⟩
  · have e := e0 (aFree w.a cm) (by unfold callE; rw [if_neg (by simpa using g1)]; rw [if_neg (by simpa using g2)]; rw [if_neg (by simpa using g3)]; rw [if_neg (by simpa using g4)]; rw [if_neg (by simpa using g5)]; rw [if_pos (by simpa using g)])
    rw [e]
    refine ⟨rfl, _, _, _, _, _, _, _, _, _, _, _, _, ca, fun N hN => (afree_s w.a q.a q.ca cm hwf h0 _ (P.a.row.sz (by omega))).mono fun v m' ag R => ?_, trivial⟩
    obtain ⟨a', c', hv, hr⟩ := R.out
    exact ⟨_, _, _, _, _, _, _, _, _, _, _, _, _, hv, call_tail (n := N) P (by omega) ag hr _⟩
  · have e := e0 (aAdd w.a n) (by unfold callE; rw [if_neg (by simpa using g1)]; rw [if_neg (by simpa using g2)]; rw [if_neg (by simpa using g3)]; rw [if_neg (by simpa using g4)]; rw [if_neg (by simpa using g5)]; rw [if_neg (by simpa using g6)])
    rw [e]
    refine ⟨rfl, _, _, _, _, _, _, _, _, _, _, _, _, ca, fun N hN => (aadd_s w.a q.a q.ca n hwf hn h0 _ (P.a.row.sz (by omega))).mono fun v m' ag R => ?_, trivial⟩
    obtain ⟨a', c', hv, hr⟩ := R.out
    exact ⟨_, _, _, _, _, _, _, _, _, _, _, _, _, hv, call_tail (n := N) P (by omega) ag hr _⟩

end Go.Proofs.Ytfkielfnceeedaa
