/-
  Contracts of functions of this seat: what each hands back, and what it leaves of memory (deal9). Nothing here is trusted: Lean checks it.
-/
import Derived.Test.YtoilbbfidnhekaaDeal8
set_option linter.unusedVariables false
set_option linter.unusedSimpArgs false
namespace Go.Proofs.Ytoilbbfidnhekaa
open Go.Vc Go.RowKit Go.ChangeShapes Go.WideShapes Go.ChangeAt
set_option maxRecDepth 100000

theorem okWide_cap {P : Program} {w : World} {r : Reach} {base : Nat} {t e : TypeId} {a : Option Addr} {len cap : Nat} (ht : P.underlying t = some (.slice e)) (h : Value.okWide P w r base t (.slice a len cap)) : len ≤ cap := by
  simp only [Value.okWide, ht, Cell.okWide] at h
  cases a
  · cases len
    · exact Nat.zero_le _
    · cases cap <;> simp_all [Cell.ok]
  · simp_all [Cell.ok]

theorem open_dlc {H : Type} {enc : TypeId × Value → H} {W : World} {r : Reach} {b0 : Nat} {v : Value} {d : DataW H} {p : List MemPlace} {N : Nat} {Bd : DataW H → Prop} (B : Bound N Bd) (hN : N ≤ 9223372036854775807) (hv : Value.okWide Try.prog W r b0 22 v) (h : DataW.Trod enc Try.prog W 0 (fun _ => true) true 22 v d p) (hb : Bd d) :
    ∃ (a : Option Addr) (c : Nat) (z : List Dl), v = .slice a z.length c ∧ z.length ≤ N ∧ z.length ≤ c ∧ Row (M.all W) a (dls z) := by
  obtain ⟨a, c, z, rfl, h1, -, -, h2⟩ := open_dls B hN hv h hb
  exact ⟨a, c, z, rfl, h1, okWide_cap Try.underlying22 hv, h2⟩

structure PlP (a : Option Addr) (l : List Dl) (b : Nat) (m : M) : Prop where
  row : Row m a (dls l)
  cells : CellsAt m b 0 (dls l ++ (encDl mk71 ++ encDl mk71))
  lt : b < m.sz

theorem PlP.own {a : Option Addr} {l : List Dl} {b : Nat} {m : M} (h : PlP a l b m) : Row m (some ⟨b, 0, none⟩) (dls l) := .at _ _ _ h.lt h.cells.take

theorem PlP.step {a : Option Addr} {l : List Dl} {b : Nat} {m m' : M} {N : Nat} (h : PlP a l b m) (hN : m.sz ≤ N) (hag : Agree N { m with sz := N } m') : PlP a l b m' :=
  ⟨(h.row.sz hN).agree hag, CellsAt.of (m := { m with sz := N }) ⟨h.cells.out⟩ (hag.1 b (Nat.lt_of_lt_of_le h.lt hN)), Nat.lt_of_lt_of_le h.lt (Nat.le_trans hN hag.2.2)⟩

theorem open_len (l : List Dl) (d : Dl) : (openD l d).1.length ≤ l.length + 1 := by
  unfold openD
  repeat' split
  all_goals simp

theorem dealplays (a : Option Addr) (cp : Nat) (l : List Dl) (d : Dl) (c s : Int) (mine is : Bool) (hn : l.length ≤ 1048576) (hcp : l.length ≤ cp) (m : M) (h : Row m a (dls l)) :
    QSpec Try.prog 3 [.slice a l.length cp, dlv d, I c, I s, .bool mine, .bool is] m (.bool true) := by
  refine QSpec.of_vc Try.func3 (ann := fun _ => noAnn) fun N hN => ?_
  refine vc_by (X :=
      true = true ∧
      ∃ (S' : Nat → Prop),
      (∀ (b : Nat), S' b → m.uf b ∧ (N ≤ b ∨ False)) ∧
      ∀ (n : Nat),
      N ≤ n →
      SpecW Try.prog (9 : Nat) [Value.slice a l.length cp] { π := m.π, sz := n, uf := m.uf : M } S' fun (v : Value) (m' : M) =>
      ∃ (a_2 : Option Addr),
      ∃ (n : Nat),
      ∃ (c_1 : Nat),
      v = Value.slice a_2 n c_1 ∧
      ∃ (b : Bool),
      QSpec Try.prog (10 : Nat) [Value.slice a l.length cp] m' (Value.bool b) ∧
      ifB (!b)
      (∃ (n_1 : Int),
      ∃ (n_2 : Int),
      ∃ (s_1 : ByteArray),
      ∃ (s_2 : ByteArray),
      ∃ (n_3 : Int),
      ∃ (n_4 : Int),
      ∃ (n_5 : Int),
      ∃ (n_6 : Int),
      ∃ (b : Bool),
      QSpec Try.prog (11 : Nat) [Value.slice a_2 n c_1, Value.int IntKind.i64 c, Value.int IntKind.i64 s] m'
      (Value.tuple
      #[Value.agg
      #[Value.int IntKind.i64 n_1, Value.int IntKind.i64 n_2, Value.string s_1, Value.string s_2, Value.int IntKind.i64 n_3,
      Value.int IntKind.i64 n_4, Value.int IntKind.i64 n_5, Value.int IntKind.i64 n_6],
      Value.bool b]) ∧
      ∃ (n_7 : Int),
      ∃ (n_8 : Int),
      ∃ (s_3 : ByteArray),
      ∃ (s_4 : ByteArray),
      ∃ (n_9 : Int),
      ∃ (n_10 : Int),
      ∃ (n_11 : Int),
      ∃ (n_12 : Int),
      ∃ (b_1 : Bool),
      QSpec Try.prog (12 : Nat) [Value.slice a l.length cp, Value.int IntKind.i64 c, Value.int IntKind.i64 s] m'
      (Value.tuple
      #[Value.agg
      #[Value.int IntKind.i64 n_7, Value.int IntKind.i64 n_8, Value.string s_3, Value.string s_4,
      Value.int IntKind.i64 n_9, Value.int IntKind.i64 n_10, Value.int IntKind.i64 n_11,
      Value.int IntKind.i64 n_12],
      Value.bool b_1]) ∧
      ∃ (S' : Nat → Prop),
      (∀ (b : Nat), S' b → m'.uf b ∧ (N ≤ b ∨ False)) ∧
      ∀ (n_13 : Nat),
      m'.sz ≤ n_13 →
      SpecW Try.prog (13 : Nat)
      [Value.slice a_2 n c_1,
      Value.agg
      #[Value.int IntKind.i64 d.cl, Value.int IntKind.i64 d.sq, Value.string d.ky, Value.string d.ot,
      Value.int IntKind.i64 d.n, Value.int IntKind.i64 d.mi, Value.int IntKind.i64 d.th,
      Value.int IntKind.i64 d.ft]]
      { π := m'.π, sz := n_13, uf := m'.uf : M } S' fun (v : Value) (m' : M) =>
      ∃ (a_4 : Option Addr),
      ∃ (n_14 : Nat),
      ∃ (c_2 : Nat),
      ∃ (n_15 : Int),
      v = Value.tuple #[Value.slice a_4 n_14 c_2, Value.int IntKind.i64 n_15] ∧
      ∃ (S' : Nat → Prop),
      (∀ (b : Nat), S' b → m'.uf b ∧ (N ≤ b ∨ False)) ∧
      ∀ (n_16 : Nat),
      m'.sz ≤ n_16 →
      SpecW Try.prog (14 : Nat)
      [Value.slice a l.length cp,
      Value.agg
      #[Value.int IntKind.i64 d.cl, Value.int IntKind.i64 d.sq, Value.string d.ky,
      Value.string d.ot, Value.int IntKind.i64 d.n, Value.int IntKind.i64 d.mi,
      Value.int IntKind.i64 d.th, Value.int IntKind.i64 d.ft]]
      { π := m'.π, sz := n_16, uf := m'.uf : M } S' fun (v : Value) (m' : M) =>
      ∃ (a_6 : Option Addr),
      ∃ (n_17 : Nat),
      ∃ (c_3 : Nat),
      ∃ (n_18 : Int),
      v = Value.tuple #[Value.slice a_6 n_17 c_3, Value.int IntKind.i64 n_18] ∧
      ∃ (b_2 : Bool),
      QSpec Try.prog (15 : Nat) [] m' (Value.bool b_2) ∧
      ifB (!b_2) (Done (Value.bool false = Value.bool true))
      (∃ (n_19 : Int),
      QSpec Try.prog (16 : Nat) [Value.slice a_2 n c_1] m'
      (Value.int IntKind.i64 n_19) ∧
      ifB (n_19 != (21 : Int))
      (Done (Value.bool false = Value.bool true))
      (ifB
      (!(n_1 == n_7 &&
      (n_2 == n_8 &&
      (s_1.toList == s_3.toList &&
      (s_2.toList == s_4.toList &&
      (n_3 == n_9 &&
      (n_4 == n_10 &&
      (n_5 == n_11 && (n_6 == n_12 && true)))))))))
      (Done (Value.bool false = Value.bool true))
      (ifB (!b == b_1) (Done (Value.bool false = Value.bool true))
      (∃ (b : Bool),
      QSpec Try.prog (17 : Nat)
      [Value.slice a_4 n_14 c_2, Value.slice a_6 n_17 c_3]
      m' (Value.bool b) ∧
      ifB (!b) (Done (Value.bool false = Value.bool true))
      (ifB (n_15 != n_18)
      (Done (Value.bool false = Value.bool true))
      (∃ (S' : Nat → Prop),
      (∀ (b : Nat),
      S' b → m'.uf b ∧ (N ≤ b ∨ False)) ∧
      ∀ (n_20 : Nat),
      m'.sz ≤ n_20 →
      SpecW Try.prog (18 : Nat)
      [Value.slice a_2 n c_1,
      Value.int IntKind.i64 c,
      Value.int IntKind.i64 s,
      Value.bool mine, Value.bool is]
      { π := m'.π, sz := n_20, uf := m'.uf : M }
      S' fun (v : Value) (m' : M) =>
      ∃ (a_8 : Option Addr),
      ∃ (n_21 : Nat),
      ∃ (c_4 : Nat),
      ∃ (b : Bool),
      ∃ (n_22 : Int),
      v =
      Value.tuple
      #[Value.slice a_8 n_21
      c_4,
      Value.bool b,
      Value.int IntKind.i64
      n_22] ∧
      ∃ (S' : Nat → Prop),
      (∀ (b : Nat),
      S' b →
      m'.uf b ∧
      (N ≤ b ∨ False)) ∧
      ∀ (n_23 : Nat),
      m'.sz ≤ n_23 →
      SpecW Try.prog
      (19 : Nat)
      [Value.slice a
      l.length cp,
      Value.int
      IntKind.i64 c,
      Value.int
      IntKind.i64 s,
      Value.bool mine,
      Value.bool is]
      { π := m'.π, sz := n_23, uf := m'.uf : M }
      S'
      fun (v : Value)
      (m' : M) =>
      ∃ (a_10 :
      Option Addr),
      ∃ (n_24 : Nat),
      ∃ (c_5 : Nat),
      ∃ (b_3 :
      Bool),
      ∃ (n_25 :
      Int),
      v =
      Value.tuple
      #[Value.slice
      a_10
      n_24
      c_5,
      Value.bool
      b_3,
      Value.int
      IntKind.i64
      n_25] ∧
      ∃ (b_4
      :
      Bool),
      QSpec
      Try.prog
      (17 :
      Nat)
      [Value.slice
      a_8
      n_21
      c_4,
      Value.slice
      a_10
      n_24
      c_5]
      m'
      (Value.bool
      b_4) ∧
      ifB
      (!b_4)
      (Done
      (Value.bool
      false =
      Value.bool
      true))
      (ifB
      (!b ==
      b_3)
      (Done
      (Value.bool
      false =
      Value.bool
      true))
      (ifB
      (n_22 !=
      n_25)
      (Done
      (Value.bool
      false =
      Value.bool
      true))
      (∃
      (S'
      :
      Nat →
      Prop),
      (∀
      (b :
      Nat),
      S'
      b →
      m'.uf
      b ∧
      (N ≤
      b ∨
      False)) ∧
      ∀
      (n_26 :
      Nat),
      m'.sz ≤
      n_26 →
      SpecW
      Try.prog
      (20 :
      Nat)
      [Value.slice
      a_2
      n
      c_1,
      Value.int
      IntKind.i64
      c,
      Value.int
      IntKind.i64
      s]
      { π := m'.π, sz := n_26, uf := m'.uf : M }
      S'
      fun
      (v :
      Value)
      (m' :
      M) =>
      ∃
      (a_12
      :
      Option
      Addr),
      ∃
      (n_27
      :
      Nat),
      ∃
      (c_6
      :
      Nat),
      ∃
      (b
      :
      Bool),
      ∃
      (n_28
      :
      Int),
      v =
      Value.tuple
      #[Value.slice
      a_12
      n_27
      c_6,
      Value.bool
      b,
      Value.int
      IntKind.i64
      n_28] ∧
      ∃
      (S'
      :
      Nat →
      Prop),
      (∀
      (b :
      Nat),
      S'
      b →
      m'.uf
      b ∧
      (N ≤
      b ∨
      False)) ∧
      ∀
      (n_29 :
      Nat),
      m'.sz ≤
      n_29 →
      SpecW
      Try.prog
      (21 :
      Nat)
      [Value.slice
      a
      l.length
      cp,
      Value.int
      IntKind.i64
      c,
      Value.int
      IntKind.i64
      s]
      { π := m'.π, sz := n_29, uf := m'.uf : M }
      S'
      fun
      (v :
      Value)
      (m' :
      M) =>
      ∃
      (a_14
      :
      Option
      Addr),
      ∃
      (n_30
      :
      Nat),
      ∃
      (c_7
      :
      Nat),
      ∃
      (b_5
      :
      Bool),
      ∃
      (n_31
      :
      Int),
      v =
      Value.tuple
      #[Value.slice
      a_14
      n_30
      c_7,
      Value.bool
      b_5,
      Value.int
      IntKind.i64
      n_31] ∧
      ∃
      (b_6
      :
      Bool),
      QSpec
      Try.prog
      (17 :
      Nat)
      [Value.slice
      a_12
      n_27
      c_6,
      Value.slice
      a_14
      n_30
      c_7]
      m'
      (Value.bool
      b_6) ∧
      ifB
      (!b_6)
      (Done
      (Value.bool
      false =
      Value.bool
      true))
      (ifB
      (!b ==
      b_5)
      (Done
      (Value.bool
      false =
      Value.bool
      true))
      (ifB
      (n_28 !=
      n_31)
      (Done
      (Value.bool
      false =
      Value.bool
      true))
      (∃
      (S'
      :
      Nat →
      Prop),
      (∀
      (b :
      Nat),
      S'
      b →
      m'.uf
      b ∧
      (N ≤
      b ∨
      False)) ∧
      ∀
      (n_32 :
      Nat),
      m'.sz ≤
      n_32 →
      SpecW
      Try.prog
      (22 :
      Nat)
      [Value.slice
      a_2
      n
      c_1,
      Value.int
      IntKind.i64
      c,
      Value.int
      IntKind.i64
      s]
      { π := m'.π, sz := n_32, uf := m'.uf : M }
      S'
      fun
      (v :
      Value)
      (m' :
      M) =>
      ∃
      (a_16
      :
      Option
      Addr),
      ∃
      (n_33
      :
      Nat),
      ∃
      (c_8
      :
      Nat),
      ∃
      (n_34
      :
      Int),
      v =
      Value.tuple
      #[Value.slice
      a_16
      n_33
      c_8,
      Value.int
      IntKind.i64
      n_34] ∧
      ∃
      (S'
      :
      Nat →
      Prop),
      (∀
      (b :
      Nat),
      S'
      b →
      m'.uf
      b ∧
      (N ≤
      b ∨
      False)) ∧
      ∀
      (n_35 :
      Nat),
      m'.sz ≤
      n_35 →
      SpecW
      Try.prog
      (23 :
      Nat)
      [Value.slice
      a
      l.length
      cp,
      Value.int
      IntKind.i64
      c,
      Value.int
      IntKind.i64
      s]
      { π := m'.π, sz := n_35, uf := m'.uf : M }
      S'
      fun
      (v :
      Value)
      (m' :
      M) =>
      ∃
      (a_18
      :
      Option
      Addr),
      ∃
      (n_36
      :
      Nat),
      ∃
      (c
      :
      Nat),
      ∃
      (n_37
      :
      Int),
      v =
      Value.tuple
      #[Value.slice
      a_18
      n_36
      c,
      Value.int
      IntKind.i64
      n_37] ∧
      ∃
      (b
      :
      Bool),
      QSpec
      Try.prog
      (17 :
      Nat)
      [Value.slice
      a_16
      n_33
      c_8,
      Value.slice
      a_18
      n_36
      c]
      m'
      (Value.bool
      b) ∧
      ifB
      b
      (ifB
      (n_34 ==
      n_37)
      (∃
      (b
      :
      Bool),
      QSpec
      Try.prog
      (24 :
      Nat)
      [Value.slice
      a_2
      n
      c_1,
      Value.slice
      a
      l.length
      cp]
      m'
      (Value.bool
      b) ∧
      Done
      (Value.bool
      b =
      Value.bool
      true))
      (Done
      (Value.bool
      false =
      Value.bool
      true)))
      (Done
      (Value.bool
      false =
      Value.bool
      true)))))))))))))))
      (∃ (n_1 : Int),
      ∃ (n_2 : Int),
      ∃ (s_1 : ByteArray),
      ∃ (s_2 : ByteArray),
      ∃ (n_3 : Int),
      ∃ (n_4 : Int),
      ∃ (n_5 : Int),
      ∃ (n_6 : Int),
      ∃ (b : Bool),
      QSpec Try.prog (11 : Nat) [Value.slice a_2 n c_1, Value.int IntKind.i64 c, Value.int IntKind.i64 s] m'
      (Value.tuple
      #[Value.agg
      #[Value.int IntKind.i64 n_1, Value.int IntKind.i64 n_2, Value.string s_1, Value.string s_2, Value.int IntKind.i64 n_3,
      Value.int IntKind.i64 n_4, Value.int IntKind.i64 n_5, Value.int IntKind.i64 n_6],
      Value.bool b]) ∧
      ∃ (n_7 : Int),
      ∃ (n_8 : Int),
      ∃ (s_3 : ByteArray),
      ∃ (s_4 : ByteArray),
      ∃ (n_9 : Int),
      ∃ (n_10 : Int),
      ∃ (n_11 : Int),
      ∃ (n_12 : Int),
      ∃ (b_1 : Bool),
      QSpec Try.prog (12 : Nat) [Value.slice a l.length cp, Value.int IntKind.i64 c, Value.int IntKind.i64 s] m'
      (Value.tuple
      #[Value.agg
      #[Value.int IntKind.i64 n_7, Value.int IntKind.i64 n_8, Value.string s_3, Value.string s_4,
      Value.int IntKind.i64 n_9, Value.int IntKind.i64 n_10, Value.int IntKind.i64 n_11,
      Value.int IntKind.i64 n_12],
      Value.bool b_1]) ∧
      ∃ (S' : Nat → Prop),
      (∀ (b : Nat), S' b → m'.uf b ∧ (N ≤ b ∨ False)) ∧
      ∀ (n_13 : Nat),
      m'.sz ≤ n_13 →
      SpecW Try.prog (13 : Nat)
      [Value.slice a_2 n c_1,
      Value.agg
      #[Value.int IntKind.i64 d.cl, Value.int IntKind.i64 d.sq, Value.string d.ky, Value.string d.ot,
      Value.int IntKind.i64 d.n, Value.int IntKind.i64 d.mi, Value.int IntKind.i64 d.th,
      Value.int IntKind.i64 d.ft]]
      { π := m'.π, sz := n_13, uf := m'.uf : M } S' fun (v : Value) (m' : M) =>
      ∃ (a_4 : Option Addr),
      ∃ (n_14 : Nat),
      ∃ (c_2 : Nat),
      ∃ (n_15 : Int),
      v = Value.tuple #[Value.slice a_4 n_14 c_2, Value.int IntKind.i64 n_15] ∧
      ∃ (S' : Nat → Prop),
      (∀ (b : Nat), S' b → m'.uf b ∧ (N ≤ b ∨ False)) ∧
      ∀ (n_16 : Nat),
      m'.sz ≤ n_16 →
      SpecW Try.prog (14 : Nat)
      [Value.slice a l.length cp,
      Value.agg
      #[Value.int IntKind.i64 d.cl, Value.int IntKind.i64 d.sq, Value.string d.ky,
      Value.string d.ot, Value.int IntKind.i64 d.n, Value.int IntKind.i64 d.mi,
      Value.int IntKind.i64 d.th, Value.int IntKind.i64 d.ft]]
      { π := m'.π, sz := n_16, uf := m'.uf : M } S' fun (v : Value) (m' : M) =>
      ∃ (a_6 : Option Addr),
      ∃ (n_17 : Nat),
      ∃ (c_3 : Nat),
      ∃ (n_18 : Int),
      v = Value.tuple #[Value.slice a_6 n_17 c_3, Value.int IntKind.i64 n_18] ∧
      ∃ (b_2 : Bool),
      QSpec Try.prog (15 : Nat) [] m' (Value.bool b_2) ∧
      ifB (!b_2) (Done (Value.bool false = Value.bool true))
      (∃ (n_19 : Int),
      QSpec Try.prog (16 : Nat) [Value.slice a_2 n c_1] m'
      (Value.int IntKind.i64 n_19) ∧
      ifB (n_19 != (0 : Int))
      (Done (Value.bool false = Value.bool true))
      (ifB
      (!(n_1 == n_7 &&
      (n_2 == n_8 &&
      (s_1.toList == s_3.toList &&
      (s_2.toList == s_4.toList &&
      (n_3 == n_9 &&
      (n_4 == n_10 &&
      (n_5 == n_11 && (n_6 == n_12 && true)))))))))
      (Done (Value.bool false = Value.bool true))
      (ifB (!b == b_1) (Done (Value.bool false = Value.bool true))
      (∃ (b : Bool),
      QSpec Try.prog (17 : Nat)
      [Value.slice a_4 n_14 c_2, Value.slice a_6 n_17 c_3]
      m' (Value.bool b) ∧
      ifB (!b) (Done (Value.bool false = Value.bool true))
      (ifB (n_15 != n_18)
      (Done (Value.bool false = Value.bool true))
      (∃ (S' : Nat → Prop),
      (∀ (b : Nat),
      S' b → m'.uf b ∧ (N ≤ b ∨ False)) ∧
      ∀ (n_20 : Nat),
      m'.sz ≤ n_20 →
      SpecW Try.prog (18 : Nat)
      [Value.slice a_2 n c_1,
      Value.int IntKind.i64 c,
      Value.int IntKind.i64 s,
      Value.bool mine, Value.bool is]
      { π := m'.π, sz := n_20, uf := m'.uf : M }
      S' fun (v : Value) (m' : M) =>
      ∃ (a_8 : Option Addr),
      ∃ (n_21 : Nat),
      ∃ (c_4 : Nat),
      ∃ (b : Bool),
      ∃ (n_22 : Int),
      v =
      Value.tuple
      #[Value.slice a_8 n_21
      c_4,
      Value.bool b,
      Value.int IntKind.i64
      n_22] ∧
      ∃ (S' : Nat → Prop),
      (∀ (b : Nat),
      S' b →
      m'.uf b ∧
      (N ≤ b ∨ False)) ∧
      ∀ (n_23 : Nat),
      m'.sz ≤ n_23 →
      SpecW Try.prog
      (19 : Nat)
      [Value.slice a
      l.length cp,
      Value.int
      IntKind.i64 c,
      Value.int
      IntKind.i64 s,
      Value.bool mine,
      Value.bool is]
      { π := m'.π, sz := n_23, uf := m'.uf : M }
      S'
      fun (v : Value)
      (m' : M) =>
      ∃ (a_10 :
      Option Addr),
      ∃ (n_24 : Nat),
      ∃ (c_5 : Nat),
      ∃ (b_3 :
      Bool),
      ∃ (n_25 :
      Int),
      v =
      Value.tuple
      #[Value.slice
      a_10
      n_24
      c_5,
      Value.bool
      b_3,
      Value.int
      IntKind.i64
      n_25] ∧
      ∃ (b_4
      :
      Bool),
      QSpec
      Try.prog
      (17 :
      Nat)
      [Value.slice
      a_8
      n_21
      c_4,
      Value.slice
      a_10
      n_24
      c_5]
      m'
      (Value.bool
      b_4) ∧
      ifB
      (!b_4)
      (Done
      (Value.bool
      false =
      Value.bool
      true))
      (ifB
      (!b ==
      b_3)
      (Done
      (Value.bool
      false =
      Value.bool
      true))
      (ifB
      (n_22 !=
      n_25)
      (Done
      (Value.bool
      false =
      Value.bool
      true))
      (∃
      (S'
      :
      Nat →
      Prop),
      (∀
      (b :
      Nat),
      S'
      b →
      m'.uf
      b ∧
      (N ≤
      b ∨
      False)) ∧
      ∀
      (n_26 :
      Nat),
      m'.sz ≤
      n_26 →
      SpecW
      Try.prog
      (20 :
      Nat)
      [Value.slice
      a_2
      n
      c_1,
      Value.int
      IntKind.i64
      c,
      Value.int
      IntKind.i64
      s]
      { π := m'.π, sz := n_26, uf := m'.uf : M }
      S'
      fun
      (v :
      Value)
      (m' :
      M) =>
      ∃
      (a_12
      :
      Option
      Addr),
      ∃
      (n_27
      :
      Nat),
      ∃
      (c_6
      :
      Nat),
      ∃
      (b
      :
      Bool),
      ∃
      (n_28
      :
      Int),
      v =
      Value.tuple
      #[Value.slice
      a_12
      n_27
      c_6,
      Value.bool
      b,
      Value.int
      IntKind.i64
      n_28] ∧
      ∃
      (S'
      :
      Nat →
      Prop),
      (∀
      (b :
      Nat),
      S'
      b →
      m'.uf
      b ∧
      (N ≤
      b ∨
      False)) ∧
      ∀
      (n_29 :
      Nat),
      m'.sz ≤
      n_29 →
      SpecW
      Try.prog
      (21 :
      Nat)
      [Value.slice
      a
      l.length
      cp,
      Value.int
      IntKind.i64
      c,
      Value.int
      IntKind.i64
      s]
      { π := m'.π, sz := n_29, uf := m'.uf : M }
      S'
      fun
      (v :
      Value)
      (m' :
      M) =>
      ∃
      (a_14
      :
      Option
      Addr),
      ∃
      (n_30
      :
      Nat),
      ∃
      (c_7
      :
      Nat),
      ∃
      (b_5
      :
      Bool),
      ∃
      (n_31
      :
      Int),
      v =
      Value.tuple
      #[Value.slice
      a_14
      n_30
      c_7,
      Value.bool
      b_5,
      Value.int
      IntKind.i64
      n_31] ∧
      ∃
      (b_6
      :
      Bool),
      QSpec
      Try.prog
      (17 :
      Nat)
      [Value.slice
      a_12
      n_27
      c_6,
      Value.slice
      a_14
      n_30
      c_7]
      m'
      (Value.bool
      b_6) ∧
      ifB
      (!b_6)
      (Done
      (Value.bool
      false =
      Value.bool
      true))
      (ifB
      (!b ==
      b_5)
      (Done
      (Value.bool
      false =
      Value.bool
      true))
      (ifB
      (n_28 !=
      n_31)
      (Done
      (Value.bool
      false =
      Value.bool
      true))
      (∃
      (S'
      :
      Nat →
      Prop),
      (∀
      (b :
      Nat),
      S'
      b →
      m'.uf
      b ∧
      (N ≤
      b ∨
      False)) ∧
      ∀
      (n_32 :
      Nat),
      m'.sz ≤
      n_32 →
      SpecW
      Try.prog
      (22 :
      Nat)
      [Value.slice
      a_2
      n
      c_1,
      Value.int
      IntKind.i64
      c,
      Value.int
      IntKind.i64
      s]
      { π := m'.π, sz := n_32, uf := m'.uf : M }
      S'
      fun
      (v :
      Value)
      (m' :
      M) =>
      ∃
      (a_16
      :
      Option
      Addr),
      ∃
      (n_33
      :
      Nat),
      ∃
      (c_8
      :
      Nat),
      ∃
      (n_34
      :
      Int),
      v =
      Value.tuple
      #[Value.slice
      a_16
      n_33
      c_8,
      Value.int
      IntKind.i64
      n_34] ∧
      ∃
      (S'
      :
      Nat →
      Prop),
      (∀
      (b :
      Nat),
      S'
      b →
      m'.uf
      b ∧
      (N ≤
      b ∨
      False)) ∧
      ∀
      (n_35 :
      Nat),
      m'.sz ≤
      n_35 →
      SpecW
      Try.prog
      (23 :
      Nat)
      [Value.slice
      a
      l.length
      cp,
      Value.int
      IntKind.i64
      c,
      Value.int
      IntKind.i64
      s]
      { π := m'.π, sz := n_35, uf := m'.uf : M }
      S'
      fun
      (v :
      Value)
      (m' :
      M) =>
      ∃
      (a_18
      :
      Option
      Addr),
      ∃
      (n_36
      :
      Nat),
      ∃
      (c
      :
      Nat),
      ∃
      (n_37
      :
      Int),
      v =
      Value.tuple
      #[Value.slice
      a_18
      n_36
      c,
      Value.int
      IntKind.i64
      n_37] ∧
      ∃
      (b
      :
      Bool),
      QSpec
      Try.prog
      (17 :
      Nat)
      [Value.slice
      a_16
      n_33
      c_8,
      Value.slice
      a_18
      n_36
      c]
      m'
      (Value.bool
      b) ∧
      ifB
      b
      (ifB
      (n_34 ==
      n_37)
      (∃
      (b
      :
      Bool),
      QSpec
      Try.prog
      (24 :
      Nat)
      [Value.slice
      a_2
      n
      c_1,
      Value.slice
      a
      l.length
      cp]
      m'
      (Value.bool
      b) ∧
      Done
      (Value.bool
      b =
      Value.bool
      true))
      (Done
      (Value.bool
      false =
      Value.bool
      true)))
      (Done
      (Value.bool
      false =
      Value.bool
      true)))))))))))))))) (by kernel_rfl) ?_
  have hh : l.length ≤ 9223372036854775807 := by omega
  have l0 := open_len l d
  have l1 := say_len l c s mine is
  have l2 := give_len l c s
  have l3 := forget_len l c s
  refine ⟨rfl, _, noS, fun N1 hN1 => (own_s a cp l hn _ (h.sz (by omega))).monoW fun v1 m1 ag1 ⟨b, e1, k1, k2, _, k4⟩ => ⟨_, _, _, e1, _, rright_q a cp l hh _ ((h.sz (n := N1) (by omega)).agree ag1), ?_⟩⟩
  have p1 : PlP a l b m1 := ⟨(h.sz (n := N1) (by omega)).agree ag1, k4, k2⟩
  cases hb : booksB l
  · refine ifB_true ?_
    refine ⟨_, _, _, _, _, _, _, _, _, find_q _ _ l c s hh _ p1.own, _, _, _, _, _, _, _, _, _, rfind_q _ _ l c s hh _ p1.row, _, noS, fun N2 hN2 => (dopen_s _ _ l d hh (fun e => by simp at e) _ (p1.own.sz hN2)).monoW fun v2 m2 ag2 ⟨a2, c2, e2, r2⟩ => ⟨_, _, _, _, e2, ?_⟩⟩
    have p2 := p1.step hN2 ag2
    refine ⟨_, noS, fun N3 hN3 => (ropen_s _ _ l d hn _ (p2.row.sz hN3)).monoW fun v3 m3 ag3 ⟨a3, c3, e3, r3⟩ => ⟨_, _, _, _, e3, _, awake_q _, ifB_false ⟨_, check_q _ _ l hh _ (p2.step hN3 ag3).own, ?_⟩⟩⟩
    have p3 := p2.step hN3 ag3
    rw [hb]
    simp only [beq_self_eq_true, Bool.and_self, Bool.not_true]
    refine ifB_false (ifB_false (ifB_false ⟨_, dl_plain _ _ _ _ _ _ (by omega) _ ((r2.row.sz hN3).agree ag3) r3.row, ?_⟩))
    simp only [beq_self_eq_true, decide_true, bne_self_eq_false, Bool.not_true]
    refine ifB_false (ifB_false ⟨_, noS, fun N4 hN4 => (saying_s _ _ l c s mine is hh (fun e => by simp at e) _ (p3.own.sz hN4)).monoW fun v4 m4 ag4 ⟨a4, c4, e4, r4⟩ => ⟨_, _, _, _, _, e4, ?_⟩⟩)
    have p4 := p3.step hN4 ag4
    refine ⟨_, noS, fun N5 hN5 => (rsay_s _ _ l c s mine is hn _ (p4.row.sz hN5)).monoW fun v5 m5 ag5 ⟨a5, c5, e5, r5⟩ => ⟨_, _, _, _, _, e5, ?_⟩⟩
    have p5 := p4.step hN5 ag5
    rw [turn_say] at r5 ⊢
    refine ⟨_, dl_plain _ _ _ _ _ _ (by omega) _ ((r4.row.sz hN5).agree ag5) r5.row, ?_⟩
    simp only [beq_self_eq_true, decide_true, bne_self_eq_false, Bool.not_true]
    refine ifB_false (ifB_false (ifB_false ⟨_, noS, fun N6 hN6 => (give_s _ _ l c s hh (fun e => by simp at e) _ (p5.own.sz hN6)).monoW fun v6 m6 ag6 ⟨a6, c6, e6, r6⟩ => ⟨_, _, _, _, _, e6, ?_⟩⟩))
    have p6 := p5.step hN6 ag6
    refine ⟨_, noS, fun N7 hN7 => (rgive_s _ _ l c s hn _ (p6.row.sz hN7)).monoW fun v7 m7 ag7 ⟨a7, c7, e7, r7⟩ => ⟨_, _, _, _, _, e7, ?_⟩⟩
    have p7 := p6.step hN7 ag7
    rw [turn_give] at r7 ⊢
    refine ⟨_, dl_plain _ _ _ _ _ _ (by omega) _ ((r6.row.sz hN7).agree ag7) r7.row, ?_⟩
    simp only [beq_self_eq_true, decide_true, bne_self_eq_false, Bool.not_true]
    refine ifB_false (ifB_false (ifB_false ⟨_, noS, fun N8 hN8 => (forget_s _ _ l c s hh (fun e => by simp at e) _ (p7.own.sz hN8)).monoW fun v8 m8 ag8 ⟨a8, c8, e8, r8⟩ => ⟨_, _, _, _, e8, ?_⟩⟩))
    have p8 := p7.step hN8 ag8
    refine ⟨_, noS, fun N9 hN9 => (rforget_s _ _ l c s hn hcp _ (p8.row.sz hN9)).monoW fun v9 m9 ag9 ⟨a9, c9, e9, r9⟩ => ⟨_, _, _, _, e9, ?_⟩⟩
    have p9 := p8.step hN9 ag9
    refine ⟨_, dl_plain _ _ _ _ _ _ (by omega) _ ((r8.row.sz hN9).agree ag9) r9.row, ?_⟩
    simp only [beq_self_eq_true, decide_true]
    exact ifB_true (ifB_true ⟨_, kept_q b l a cp hn _ p9.lt p9.cells p9.row, ⟨rfl⟩⟩)
  · refine ifB_false ?_
    refine ⟨_, _, _, _, _, _, _, _, _, find_q _ _ l c s hh _ p1.own, _, _, _, _, _, _, _, _, _, rfind_q _ _ l c s hh _ p1.row, _, noS, fun N2 hN2 => (dopen_s _ _ l d hh (fun e => by simp at e) _ (p1.own.sz hN2)).monoW fun v2 m2 ag2 ⟨a2, c2, e2, r2⟩ => ⟨_, _, _, _, e2, ?_⟩⟩
    have p2 := p1.step hN2 ag2
    refine ⟨_, noS, fun N3 hN3 => (ropen_s _ _ l d hn _ (p2.row.sz hN3)).monoW fun v3 m3 ag3 ⟨a3, c3, e3, r3⟩ => ⟨_, _, _, _, e3, _, awake_q _, ifB_false ⟨_, check_q _ _ l hh _ (p2.step hN3 ag3).own, ?_⟩⟩⟩
    have p3 := p2.step hN3 ag3
    rw [hb]
    simp only [beq_self_eq_true, Bool.and_self, Bool.not_true]
    refine ifB_false (ifB_false (ifB_false ⟨_, dl_plain _ _ _ _ _ _ (by omega) _ ((r2.row.sz hN3).agree ag3) r3.row, ?_⟩))
    simp only [beq_self_eq_true, decide_true, bne_self_eq_false, Bool.not_true]
    refine ifB_false (ifB_false ⟨_, noS, fun N4 hN4 => (saying_s _ _ l c s mine is hh (fun e => by simp at e) _ (p3.own.sz hN4)).monoW fun v4 m4 ag4 ⟨a4, c4, e4, r4⟩ => ⟨_, _, _, _, _, e4, ?_⟩⟩)
    have p4 := p3.step hN4 ag4
    refine ⟨_, noS, fun N5 hN5 => (rsay_s _ _ l c s mine is hn _ (p4.row.sz hN5)).monoW fun v5 m5 ag5 ⟨a5, c5, e5, r5⟩ => ⟨_, _, _, _, _, e5, ?_⟩⟩
    have p5 := p4.step hN5 ag5
    rw [turn_say] at r5 ⊢
    refine ⟨_, dl_plain _ _ _ _ _ _ (by omega) _ ((r4.row.sz hN5).agree ag5) r5.row, ?_⟩
    simp only [beq_self_eq_true, decide_true, bne_self_eq_false, Bool.not_true]
    refine ifB_false (ifB_false (ifB_false ⟨_, noS, fun N6 hN6 => (give_s _ _ l c s hh (fun e => by simp at e) _ (p5.own.sz hN6)).monoW fun v6 m6 ag6 ⟨a6, c6, e6, r6⟩ => ⟨_, _, _, _, _, e6, ?_⟩⟩))
    have p6 := p5.step hN6 ag6
    refine ⟨_, noS, fun N7 hN7 => (rgive_s _ _ l c s hn _ (p6.row.sz hN7)).monoW fun v7 m7 ag7 ⟨a7, c7, e7, r7⟩ => ⟨_, _, _, _, _, e7, ?_⟩⟩
    have p7 := p6.step hN7 ag7
    rw [turn_give] at r7 ⊢
    refine ⟨_, dl_plain _ _ _ _ _ _ (by omega) _ ((r6.row.sz hN7).agree ag7) r7.row, ?_⟩
    simp only [beq_self_eq_true, decide_true, bne_self_eq_false, Bool.not_true]
    refine ifB_false (ifB_false (ifB_false ⟨_, noS, fun N8 hN8 => (forget_s _ _ l c s hh (fun e => by simp at e) _ (p7.own.sz hN8)).monoW fun v8 m8 ag8 ⟨a8, c8, e8, r8⟩ => ⟨_, _, _, _, e8, ?_⟩⟩))
    have p8 := p7.step hN8 ag8
    refine ⟨_, noS, fun N9 hN9 => (rforget_s _ _ l c s hn hcp _ (p8.row.sz hN9)).monoW fun v9 m9 ag9 ⟨a9, c9, e9, r9⟩ => ⟨_, _, _, _, e9, ?_⟩⟩
    have p9 := p8.step hN9 ag9
    refine ⟨_, dl_plain _ _ _ _ _ _ (by omega) _ ((r8.row.sz hN9).agree ag9) r9.row, ?_⟩
    simp only [beq_self_eq_true, decide_true]
    exact ifB_true (ifB_true ⟨_, kept_q b l a cp hn _ p9.lt p9.cells p9.row, ⟨rfl⟩⟩)

end Go.Proofs.Ytoilbbfidnhekaa
