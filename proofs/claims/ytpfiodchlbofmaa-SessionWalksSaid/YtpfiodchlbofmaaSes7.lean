/-
  Contracts of functions of this seat: what each hands back, and what it leaves of memory (ses7). Nothing here is trusted: Lean checks it.
-/
import Derived.Test.YtpfiodchlbofmaaSes6
set_option linter.unusedVariables false
set_option linter.unusedSimpArgs false
namespace Go.Proofs.Ytpfiodchlbofmaa
open Go.Vc Go.RowKit
set_option maxRecDepth 100000

theorem awake_q (m : M) : QSpec Try.prog 13 [] m (.bool true) := by
  refine QSpec.of_vc Try.func13 (ann := fun _ => noAnn) fun n hn => ?_
  refine vc_by (X :=
      true = true ∧
      ∃ (S' : Nat → Prop),
      (∀ (b : Nat), S' b → m.uf b ∧ (n ≤ b ∨ False)) ∧
      ∀ (n_1 : Nat),
      n ≤ n_1 →
      SpecW Try.prog (18 : Nat) [Value.slice none (0 : Nat) (0 : Nat), Value.int IntKind.i64 (3 : Int), Value.int IntKind.i64 (1 : Int)] { π := m.π, sz := n_1, uf := m.uf : M }
      S' fun (v : Value) (m' : M) =>
      ∃ (a : Option Addr),
      ∃ (n : Nat),
      ∃ (c : Nat),
      ∃ (b : Bool),
      ∃ (n_2 : Int),
      v = Value.tuple #[Value.slice a n c, Value.bool b, Value.int IntKind.i64 n_2] ∧
      ifB (n_2 == (0 : Int))
      (ifB b
      (ifB ((↑n : Int) == (1 : Int))
      (true = true ∧
      ∀ (b : Nat),
      m'.sz ≤ b →
      ∃ (n : Int),
      QSpec Try.prog (25 : Nat) [Value.slice (some { block := b, off := (0 : Nat) : Addr }) (1 : Nat) (1 : Nat)]
      (m'.newBlock b
      [Value.int IntKind.i64 (-1 : Int), Value.int IntKind.i64 (0 : Int), Value.bool false, Value.int IntKind.i64 (0 : Int),
      Value.int IntKind.i64 (0 : Int), Value.int IntKind.i64 (0 : Int), Value.int IntKind.i64 (0 : Int)])
      (Value.int IntKind.i64 n) ∧
      Done (Value.bool (n == (21 : Int)) = Value.bool true))
      (Done (Value.bool false = Value.bool true)))
      (Done (Value.bool false = Value.bool true)))
      (Done (Value.bool false = Value.bool true))) (by kernel_rfl) ?_
  have e : beginM [] 3 1 = ([opM 3 1], true, 0) := by rfl
  refine ⟨rfl, _, noS, fun N hN => (sbegin_s none 0 [] 3 1 (by simp) _ (.nil _)).monoW fun v m1 hag hq => ?_⟩
  rw [e] at hq
  obtain ⟨a1, c1, hv, hr⟩ := hq
  refine ⟨a1, _, c1, _, _, hv, ?_⟩
  refine ifB_true (ifB_true (ifB_true ⟨rfl, fun b hb => ⟨_, scheck_q (some ⟨b, 0, none⟩) 1 [⟨-1, 0, false, 0, 0, 0, 0⟩] (by simp) _ (.at _ _ _ (by simp only [M.newBlock]; omega) cellsAt_new), ⟨?_⟩⟩⟩))
  rfl

def mk71 : Mk := ⟨71, 0, false, 0, 0, 0, 0⟩

abbrev marks : List Value := encMk mk71 ++ encMk mk71

/-- a list of its own, with marks behind its end -/
structure OwnR (l : List Mk) (v : Value) (m' : M) : Prop where
  out : ∃ b, v = .slice (some ⟨b, 0, none⟩) l.length (l.length + 2) ∧ Row m' (some ⟨b, 0, none⟩) (mks l ++ marks)

theorem own_s (a : Option Addr) (c : Nat) (l : List Mk) (hn : l.length ≤ 1048576) (m : M) (h : Row m a (mks l)) :
    Vc.Spec Try.prog 10 [.slice a l.length c] m (OwnR l) := by
  refine Vc.Spec.of_vc Try.func10 (ann := noAnn) ?_
  refine vc_by (X :=
      true = true ∧
      ∃ (S' : Nat → Prop),
      (∀ (b : Nat), S' b → m.uf b ∧ (m.sz ≤ b ∨ False)) ∧
      ∀ (n : Nat),
      m.sz ≤ n →
      SpecW Try.prog (26 : Nat)
      [Value.slice a l.length c,
      Value.agg
      #[Value.int IntKind.i64 (71 : Int), Value.int IntKind.i64 (0 : Int), Value.bool false, Value.int IntKind.i64 (0 : Int), Value.int IntKind.i64 (0 : Int),
      Value.int IntKind.i64 (0 : Int), Value.int IntKind.i64 (0 : Int)]]
      { π := m.π, sz := n, uf := m.uf : M } S' fun (v : Value) (m' : M) =>
      ∃ (a : Option Addr), ∃ (n : Nat), ∃ (c : Nat), v = Value.slice a n c ∧ Done (OwnR l (Value.slice a n c) m')) (by kernel_rfl) ?_
  exact ⟨rfl, _, noS, fun N hN => (mk_own a c l mk71 hn _ (h.sz hN)).monoW fun v m1 hag hq => by
    obtain ⟨b, e, hr⟩ := hq.row
    exact ⟨_, _, _, e, ⟨⟨b, rfl, hr⟩⟩⟩⟩

theorem kept_q (b : Nat) (l : List Mk) (a2 : Option Addr) (c2 : Nat) (hn : l.length ≤ 1048576) (m : M) (h : Row m (some ⟨b, 0, none⟩) (mks l ++ marks)) (h2 : Row m a2 (mks l)) :
    QSpec Try.prog 15 [.slice (some ⟨b, 0, none⟩) l.length (l.length + 2), .slice a2 l.length c2] m (.bool true) := by
  refine QSpec.of_vc Try.func15 (ann := fun _ => noAnn) fun n hn' => ?_
  refine vc_by (X :=
      true = true ∧
      ∃ (b_1 : Bool),
      QSpec Try.prog (29 : Nat)
      [Value.slice (some { block := b, off := (0 : Nat) : Addr }) l.length (l.length + (2 : Nat)), Value.slice a2 l.length c2,
      Value.agg
      #[Value.int IntKind.i64 (71 : Int), Value.int IntKind.i64 (0 : Int), Value.bool false, Value.int IntKind.i64 (0 : Int), Value.int IntKind.i64 (0 : Int),
      Value.int IntKind.i64 (0 : Int), Value.int IntKind.i64 (0 : Int)]]
      { π := m.π, sz := n, uf := m.uf : M } (Value.bool b_1) ∧
      Done (Value.bool b_1 = Value.bool true)) (by kernel_rfl) ?_
  exact ⟨rfl, _, mk_keptr b l a2 c2 mk71 hn _ (h.sz hn') (h2.sz hn'), ⟨rfl⟩⟩

theorem begin_len (l : List Mk) (c s : Int) : (beginM l c s).1.length ≤ 9 := by
  unfold beginM
  cases ht : tabB 0 l
  · simp
  have := tab8 ht
  simp only [Bool.true_eq_false, if_false]
  split
  · simp
  · have := ins_len (opM c s) l
    split
    · simp only; omega
    · split
      · simp
      · split <;> simp only <;> omega

theorem end_len (l : List Mk) (c s : Int) (an : An) : (endM l c s an).1.length ≤ 9 := by
  unfold endM
  split
  · simp
  · rename_i h
    obtain ⟨ht, -⟩ := openE_zero (Decidable.not_not.1 h)
    have := tab8 ht
    have := ins_len (edM c s an) l
    simp only; omega

theorem lose_len (l : List Mk) (c s : Int) : (loseM l c s).1.length ≤ 9 := by
  unfold loseM
  split
  · simp
  · rename_i h
    obtain ⟨ht, -⟩ := openE_zero (Decidable.not_not.1 h)
    have := tab8 ht
    have := ins_len (loM c s) l
    simp only; omega

theorem join_len (a b : List Mk) : (joinM a b).1.length ≤ 8 := by
  unfold joinM
  split
  · simp
  · rename_i h
    have ha : tabB 0 a = true := by cases h' : tabB 0 a; simp [h'] at h; rfl
    have hb : tabB 0 b = true := by cases h' : tabB 0 b; simp [h'] at h; rfl
    exact tab8 (fold_ok ha hb)

set_option maxHeartbeats 1000000 in
theorem sessionjoins (a a2 : Option Addr) (cp c2 : Nat) (l l2 : List Mk) (hn : l.length ≤ 1048576) (hn2 : l2.length ≤ 1048576) (m : M) (h : Row m a (mks l)) (h2 : Row m a2 (mks l2)) :
    QSpec Try.prog 3 [.slice a l.length cp, .slice a2 l2.length c2] m (.bool true) := by
  refine QSpec.of_vc Try.func3 (ann := fun _ => noAnn) fun N hN => ?_
  refine vc_by (X :=
      true = true ∧
      ∃ (S' : Nat → Prop),
      (∀ (b : Nat), S' b → m.uf b ∧ (N ≤ b ∨ False)) ∧
      ∀ (n : Nat),
      N ≤ n →
      SpecW Try.prog (10 : Nat) [Value.slice a l.length cp] { π := m.π, sz := n, uf := m.uf : M } S' fun (v : Value) (m' : M) =>
      ∃ (a_2 : Option Addr),
      ∃ (n : Nat),
      ∃ (c : Nat),
      v = Value.slice a_2 n c ∧
      ∃ (S' : Nat → Prop),
      (∀ (b : Nat), S' b → m'.uf b ∧ (N ≤ b ∨ False)) ∧
      ∀ (n_1 : Nat),
      m'.sz ≤ n_1 →
      SpecW Try.prog (10 : Nat) [Value.slice a2 l2.length c2] { π := m'.π, sz := n_1, uf := m'.uf : M } S' fun (v : Value) (m' : M) =>
      ∃ (a_4 : Option Addr),
      ∃ (n_2 : Nat),
      ∃ (c_1 : Nat),
      v = Value.slice a_4 n_2 c_1 ∧
      ∃ (S' : Nat → Prop),
      (∀ (b : Nat), S' b → m'.uf b ∧ (N ≤ b ∨ False)) ∧
      ∀ (n_3 : Nat),
      m'.sz ≤ n_3 →
      SpecW Try.prog (11 : Nat) [Value.slice a_2 n c, Value.slice a_4 n_2 c_1] { π := m'.π, sz := n_3, uf := m'.uf : M } S'
      fun (v : Value) (m' : M) =>
      ∃ (a_6 : Option Addr),
      ∃ (n_4 : Nat),
      ∃ (c_2 : Nat),
      ∃ (n_5 : Int),
      v = Value.tuple #[Value.slice a_6 n_4 c_2, Value.int IntKind.i64 n_5] ∧
      ∃ (S' : Nat → Prop),
      (∀ (b : Nat), S' b → m'.uf b ∧ (N ≤ b ∨ False)) ∧
      ∀ (n_6 : Nat),
      m'.sz ≤ n_6 →
      SpecW Try.prog (12 : Nat) [Value.slice a l.length cp, Value.slice a2 l2.length c2]
      { π := m'.π, sz := n_6, uf := m'.uf : M } S' fun (v : Value) (m' : M) =>
      ∃ (a_8 : Option Addr),
      ∃ (n_7 : Nat),
      ∃ (c_3 : Nat),
      ∃ (n_8 : Int),
      v = Value.tuple #[Value.slice a_8 n_7 c_3, Value.int IntKind.i64 n_8] ∧
      ∃ (b : Bool),
      QSpec Try.prog (13 : Nat) [] m' (Value.bool b) ∧
      ifB b
      (∃ (b : Bool),
      QSpec Try.prog (14 : Nat) [Value.slice a_6 n_4 c_2, Value.slice a_8 n_7 c_3] m'
      (Value.bool b) ∧
      ifB b
      (ifB (n_5 == n_8)
      (∃ (b : Bool),
      QSpec Try.prog (15 : Nat) [Value.slice a_2 n c, Value.slice a l.length cp] m'
      (Value.bool b) ∧
      ifB b
      (∃ (b : Bool),
      QSpec Try.prog (15 : Nat) [Value.slice a_4 n_2 c_1, Value.slice a2 l2.length c2]
      m' (Value.bool b) ∧
      Done (Value.bool b = Value.bool true))
      (Done (Value.bool false = Value.bool true)))
      (Done (Value.bool false = Value.bool true)))
      (Done (Value.bool false = Value.bool true)))
      (Done (Value.bool false = Value.bool true))) (by kernel_rfl) ?_
  have R : Rs { m with sz := N } [(a, mks l), (a2, mks l2)] := ⟨h.sz hN, h2.sz hN, trivial⟩
  refine ⟨rfl, ?_⟩
  refine ⟨_, noS, fun N1 hN1 => (own_s a cp l hn _ ((R.sz hN1).1)).monoW fun v1 m1 ag1 q1 => ?_⟩
  obtain ⟨b1, e1, r1⟩ := q1
  refine ⟨_, _, _, e1, ?_⟩
  have R1 := Rs.cons r1 (Rs.step R hN1 ag1)
  refine ⟨_, noS, fun N2 hN2 => (own_s a2 c2 l2 hn2 _ ((R1.sz hN2).2.2.1)).monoW fun v2 m2 ag2 q2 => ?_⟩
  obtain ⟨b2, e2, r2⟩ := q2
  refine ⟨_, _, _, e2, ?_⟩
  have R2 := Rs.cons r2 (Rs.step R1 hN2 ag2)
  refine ⟨_, noS, fun N3 hN3 => (sjoin_s _ _ _ _ l l2 (by omega) (by omega) _ ((R2.sz hN3).2.1.take) ((R2.sz hN3).1.take)).monoW fun v3 m3 ag3 q3 => ?_⟩
  obtain ⟨x3, y3, e3, r3⟩ := q3
  refine ⟨_, _, _, _, e3, ?_⟩
  have R3 := Rs.cons r3 (Rs.step R2 hN3 ag3)
  refine ⟨_, noS, fun N4 hN4 => (rjoin_s _ _ _ _ l l2 (by omega) (by omega) _ ((R3.sz hN4).2.2.2.1) ((R3.sz hN4).2.2.2.2.1)).monoW fun v4 m4 ag4 q4 => ?_⟩
  obtain ⟨x4, y4, e4, r4⟩ := q4
  refine ⟨_, _, _, _, e4, ?_⟩
  have R4 := Rs.cons r4 (Rs.step R3 hN4 ag4)
  have hl := join_len l l2
  refine ⟨_, awake_q _, ifB_true ⟨_, mk_plain _ _ _ _ _ _ (by omega) _ (R4.2.1) (R4.1), ?_⟩⟩
  simp only [decide_true, beq_self_eq_true]
  exact ifB_true (ifB_true ⟨_, kept_q b1 l a cp hn _ (R4.2.2.2.1) (R4.2.2.2.2.1), ifB_true ⟨_, kept_q b2 l2 a2 c2 hn2 _ (R4.2.2.1) (R4.2.2.2.2.2.1), ⟨rfl⟩⟩⟩)

set_option maxHeartbeats 1000000 in
theorem sessionplays (a : Option Addr) (cp : Nat) (l : List Mk) (c s : Int) (an : An) (hn : l.length ≤ 1048576) (m : M) (h : Row m a (mks l)) :
    QSpec Try.prog 7 [.slice a l.length cp, I c, I s, anv an] m (.bool true) := by
  refine QSpec.of_vc Try.func7 (ann := fun _ => noAnn) fun N hN => ?_
  refine vc_by (X :=
      true = true ∧
      ∃ (S' : Nat → Prop),
      (∀ (b : Nat), S' b → m.uf b ∧ (N ≤ b ∨ False)) ∧
      ∀ (n : Nat),
      N ≤ n →
      SpecW Try.prog (10 : Nat) [Value.slice a l.length cp] { π := m.π, sz := n, uf := m.uf : M } S' fun (v : Value) (m' : M) =>
      ∃ (a_2 : Option Addr),
      ∃ (n : Nat),
      ∃ (c_1 : Nat),
      v = Value.slice a_2 n c_1 ∧
      ∃ (b : Bool),
      QSpec Try.prog (16 : Nat) [Value.slice a l.length cp] m' (Value.bool b) ∧
      ifB (!b)
      (∃ (n_1 : Int),
      ∃ (n_2 : Int),
      ∃ (b : Bool),
      ∃ (n_3 : Int),
      ∃ (n_4 : Int),
      ∃ (n_5 : Int),
      ∃ (n_6 : Int),
      ∃ (b_1 : Bool),
      QSpec Try.prog (17 : Nat) [Value.slice a_2 n c_1, Value.int IntKind.i64 c] m'
      (Value.tuple
      #[Value.agg
      #[Value.int IntKind.i64 n_1, Value.int IntKind.i64 n_2, Value.bool b, Value.int IntKind.i64 n_3, Value.int IntKind.i64 n_4,
      Value.int IntKind.i64 n_5, Value.int IntKind.i64 n_6],
      Value.bool b_1]) ∧
      ∃ (n_7 : Int),
      ∃ (n_8 : Int),
      ∃ (b_2 : Bool),
      ∃ (n_9 : Int),
      ∃ (n_10 : Int),
      ∃ (n_11 : Int),
      ∃ (n_12 : Int),
      ∃ (b_3 : Bool),
      QSpec Try.prog (21 : Nat) [Value.slice a l.length cp, Value.int IntKind.i64 c] m'
      (Value.tuple
      #[Value.agg
      #[Value.int IntKind.i64 n_7, Value.int IntKind.i64 n_8, Value.bool b_2, Value.int IntKind.i64 n_9,
      Value.int IntKind.i64 n_10, Value.int IntKind.i64 n_11, Value.int IntKind.i64 n_12],
      Value.bool b_3]) ∧
      ∃ (S' : Nat → Prop),
      (∀ (b : Nat), S' b → m'.uf b ∧ (N ≤ b ∨ False)) ∧
      ∀ (n_13 : Nat),
      m'.sz ≤ n_13 →
      SpecW Try.prog (18 : Nat) [Value.slice a_2 n c_1, Value.int IntKind.i64 c, Value.int IntKind.i64 s]
      { π := m'.π, sz := n_13, uf := m'.uf : M } S' fun (v : Value) (m' : M) =>
      ∃ (a_4 : Option Addr),
      ∃ (n_14 : Nat),
      ∃ (c_2 : Nat),
      ∃ (b_4 : Bool),
      ∃ (n_15 : Int),
      v = Value.tuple #[Value.slice a_4 n_14 c_2, Value.bool b_4, Value.int IntKind.i64 n_15] ∧
      ∃ (S' : Nat → Prop),
      (∀ (b : Nat), S' b → m'.uf b ∧ (N ≤ b ∨ False)) ∧
      ∀ (n_16 : Nat),
      m'.sz ≤ n_16 →
      SpecW Try.prog (22 : Nat)
      [Value.slice a l.length cp, Value.int IntKind.i64 c, Value.int IntKind.i64 s]
      { π := m'.π, sz := n_16, uf := m'.uf : M } S' fun (v : Value) (m' : M) =>
      ∃ (a_6 : Option Addr),
      ∃ (n_17 : Nat),
      ∃ (c_3 : Nat),
      ∃ (b_5 : Bool),
      ∃ (n_18 : Int),
      v =
      Value.tuple
      #[Value.slice a_6 n_17 c_3, Value.bool b_5,
      Value.int IntKind.i64 n_18] ∧
      ∃ (S' : Nat → Prop),
      (∀ (b : Nat), S' b → m'.uf b ∧ (N ≤ b ∨ False)) ∧
      ∀ (n_19 : Nat),
      m'.sz ≤ n_19 →
      SpecW Try.prog (20 : Nat)
      [Value.slice a_2 n c_1, Value.int IntKind.i64 c,
      Value.int IntKind.i64 s,
      Value.agg
      #[Value.int IntKind.i64 an.er, Value.int IntKind.i64 an.va,
      Value.int IntKind.i64 an.le, Value.int IntKind.i64 an.mo]]
      { π := m'.π, sz := n_19, uf := m'.uf : M } S'
      fun (v : Value) (m' : M) =>
      ∃ (a_8 : Option Addr),
      ∃ (n_20 : Nat),
      ∃ (c_4 : Nat),
      ∃ (n_21 : Int),
      v =
      Value.tuple
      #[Value.slice a_8 n_20 c_4,
      Value.int IntKind.i64 n_21] ∧
      ∃ (S' : Nat → Prop),
      (∀ (b : Nat), S' b → m'.uf b ∧ (N ≤ b ∨ False)) ∧
      ∀ (n_22 : Nat),
      m'.sz ≤ n_22 →
      SpecW Try.prog (23 : Nat)
      [Value.slice a l.length cp,
      Value.int IntKind.i64 c,
      Value.int IntKind.i64 s,
      Value.agg
      #[Value.int IntKind.i64 an.er,
      Value.int IntKind.i64 an.va,
      Value.int IntKind.i64 an.le,
      Value.int IntKind.i64 an.mo]]
      { π := m'.π, sz := n_22, uf := m'.uf : M }
      S' fun (v : Value) (m' : M) =>
      ∃ (a_10 : Option Addr),
      ∃ (n_23 : Nat),
      ∃ (c_5 : Nat),
      ∃ (n_24 : Int),
      v =
      Value.tuple
      #[Value.slice a_10 n_23 c_5,
      Value.int IntKind.i64
      n_24] ∧
      ∃ (S' : Nat → Prop),
      (∀ (b : Nat),
      S' b →
      m'.uf b ∧
      (N ≤ b ∨ False)) ∧
      ∀ (n_25 : Nat),
      m'.sz ≤ n_25 →
      SpecW Try.prog (19 : Nat)
      [Value.slice a_2 n c_1,
      Value.int IntKind.i64
      c,
      Value.int IntKind.i64
      s]
      { π := m'.π, sz := n_25, uf := m'.uf : M }
      S'
      fun (v : Value)
      (m' : M) =>
      ∃ (a_12 : Option Addr),
      ∃ (n_26 : Nat),
      ∃ (c_6 : Nat),
      ∃ (n_27 : Int),
      v =
      Value.tuple
      #[Value.slice
      a_12
      n_26
      c_6,
      Value.int
      IntKind.i64
      n_27] ∧
      ∃ (S' :
      Nat → Prop),
      (∀
      (b :
      Nat),
      S' b →
      m'.uf
      b ∧
      (N ≤
      b ∨
      False)) ∧
      ∀
      (n_28 :
      Nat),
      m'.sz ≤
      n_28 →
      SpecW
      Try.prog
      (24 :
      Nat)
      [Value.slice
      a
      l.length
      cp,
      Value.int
      IntKind.i64
      c,
      Value.int
      IntKind.i64
      s]
      { π := m'.π, sz := n_28, uf := m'.uf : M }
      S'
      fun
      (v :
      Value)
      (m' :
      M) =>
      ∃
      (a_14
      :
      Option
      Addr),
      ∃
      (n_29
      :
      Nat),
      ∃
      (c
      :
      Nat),
      ∃
      (n_30
      :
      Int),
      v =
      Value.tuple
      #[Value.slice
      a_14
      n_29
      c,
      Value.int
      IntKind.i64
      n_30] ∧
      ∃
      (b_6
      :
      Bool),
      QSpec
      Try.prog
      (13 :
      Nat)
      []
      m'
      (Value.bool
      b_6) ∧
      ifB
      b_6
      (∃
      (n_31
      :
      Int),
      QSpec
      Try.prog
      (25 :
      Nat)
      [Value.slice
      a_2
      n
      c_1]
      m'
      (Value.int
      IntKind.i64
      n_31) ∧
      ifB
      (n_31 ==
      (21 :
      Int))
      (ifB
      (n_1 ==
      n_7 &&
      (n_2 ==
      n_8 &&
      (b ==
      b_2 &&
      (n_3 ==
      n_9 &&
      (n_4 ==
      n_10 &&
      (n_5 ==
      n_11 &&
      (n_6 ==
      n_12 &&
      true))) &&
      true))))
      (ifB
      (b_1 ==
      b_3)
      (∃
      (b
      :
      Bool),
      QSpec
      Try.prog
      (14 :
      Nat)
      [Value.slice
      a_4
      n_14
      c_2,
      Value.slice
      a_6
      n_17
      c_3]
      m'
      (Value.bool
      b) ∧
      ifB
      b
      (ifB
      (b_4 ==
      b_5)
      (ifB
      (n_15 ==
      n_18)
      (∃
      (b
      :
      Bool),
      QSpec
      Try.prog
      (14 :
      Nat)
      [Value.slice
      a_8
      n_20
      c_4,
      Value.slice
      a_10
      n_23
      c_5]
      m'
      (Value.bool
      b) ∧
      ifB
      b
      (ifB
      (n_21 ==
      n_24)
      (∃
      (b
      :
      Bool),
      QSpec
      Try.prog
      (14 :
      Nat)
      [Value.slice
      a_12
      n_26
      c_6,
      Value.slice
      a_14
      n_29
      c]
      m'
      (Value.bool
      b) ∧
      ifB
      b
      (ifB
      (n_27 ==
      n_30)
      (∃
      (b
      :
      Bool),
      QSpec
      Try.prog
      (15 :
      Nat)
      [Value.slice
      a_2
      n
      c_1,
      Value.slice
      a
      l.length
      cp]
      m'
      (Value.bool
      b) ∧
      Done
      (Value.bool
      b =
      Value.bool
      true))
      (Done
      (Value.bool
      false =
      Value.bool
      true)))
      (Done
      (Value.bool
      false =
      Value.bool
      true)))
      (Done
      (Value.bool
      false =
      Value.bool
      true)))
      (Done
      (Value.bool
      false =
      Value.bool
      true)))
      (Done
      (Value.bool
      false =
      Value.bool
      true)))
      (Done
      (Value.bool
      false =
      Value.bool
      true)))
      (Done
      (Value.bool
      false =
      Value.bool
      true)))
      (Done
      (Value.bool
      false =
      Value.bool
      true)))
      (Done
      (Value.bool
      false =
      Value.bool
      true)))
      (Done
      (Value.bool
      false =
      Value.bool
      true)))
      (Done
      (Value.bool
      false =
      Value.bool
      true)))
      (∃ (n_1 : Int),
      ∃ (n_2 : Int),
      ∃ (b : Bool),
      ∃ (n_3 : Int),
      ∃ (n_4 : Int),
      ∃ (n_5 : Int),
      ∃ (n_6 : Int),
      ∃ (b_1 : Bool),
      QSpec Try.prog (17 : Nat) [Value.slice a_2 n c_1, Value.int IntKind.i64 c] m'
      (Value.tuple
      #[Value.agg
      #[Value.int IntKind.i64 n_1, Value.int IntKind.i64 n_2, Value.bool b, Value.int IntKind.i64 n_3, Value.int IntKind.i64 n_4,
      Value.int IntKind.i64 n_5, Value.int IntKind.i64 n_6],
      Value.bool b_1]) ∧
      ∃ (n_7 : Int),
      ∃ (n_8 : Int),
      ∃ (b_2 : Bool),
      ∃ (n_9 : Int),
      ∃ (n_10 : Int),
      ∃ (n_11 : Int),
      ∃ (n_12 : Int),
      ∃ (b_3 : Bool),
      QSpec Try.prog (21 : Nat) [Value.slice a l.length cp, Value.int IntKind.i64 c] m'
      (Value.tuple
      #[Value.agg
      #[Value.int IntKind.i64 n_7, Value.int IntKind.i64 n_8, Value.bool b_2, Value.int IntKind.i64 n_9,
      Value.int IntKind.i64 n_10, Value.int IntKind.i64 n_11, Value.int IntKind.i64 n_12],
      Value.bool b_3]) ∧
      ∃ (S' : Nat → Prop),
      (∀ (b : Nat), S' b → m'.uf b ∧ (N ≤ b ∨ False)) ∧
      ∀ (n_13 : Nat),
      m'.sz ≤ n_13 →
      SpecW Try.prog (18 : Nat) [Value.slice a_2 n c_1, Value.int IntKind.i64 c, Value.int IntKind.i64 s]
      { π := m'.π, sz := n_13, uf := m'.uf : M } S' fun (v : Value) (m' : M) =>
      ∃ (a_4 : Option Addr),
      ∃ (n_14 : Nat),
      ∃ (c_2 : Nat),
      ∃ (b_4 : Bool),
      ∃ (n_15 : Int),
      v = Value.tuple #[Value.slice a_4 n_14 c_2, Value.bool b_4, Value.int IntKind.i64 n_15] ∧
      ∃ (S' : Nat → Prop),
      (∀ (b : Nat), S' b → m'.uf b ∧ (N ≤ b ∨ False)) ∧
      ∀ (n_16 : Nat),
      m'.sz ≤ n_16 →
      SpecW Try.prog (22 : Nat)
      [Value.slice a l.length cp, Value.int IntKind.i64 c, Value.int IntKind.i64 s]
      { π := m'.π, sz := n_16, uf := m'.uf : M } S' fun (v : Value) (m' : M) =>
      ∃ (a_6 : Option Addr),
      ∃ (n_17 : Nat),
      ∃ (c_3 : Nat),
      ∃ (b_5 : Bool),
      ∃ (n_18 : Int),
      v =
      Value.tuple
      #[Value.slice a_6 n_17 c_3, Value.bool b_5,
      Value.int IntKind.i64 n_18] ∧
      ∃ (S' : Nat → Prop),
      (∀ (b : Nat), S' b → m'.uf b ∧ (N ≤ b ∨ False)) ∧
      ∀ (n_19 : Nat),
      m'.sz ≤ n_19 →
      SpecW Try.prog (20 : Nat)
      [Value.slice a_2 n c_1, Value.int IntKind.i64 c,
      Value.int IntKind.i64 s,
      Value.agg
      #[Value.int IntKind.i64 an.er, Value.int IntKind.i64 an.va,
      Value.int IntKind.i64 an.le, Value.int IntKind.i64 an.mo]]
      { π := m'.π, sz := n_19, uf := m'.uf : M } S'
      fun (v : Value) (m' : M) =>
      ∃ (a_8 : Option Addr),
      ∃ (n_20 : Nat),
      ∃ (c_4 : Nat),
      ∃ (n_21 : Int),
      v =
      Value.tuple
      #[Value.slice a_8 n_20 c_4,
      Value.int IntKind.i64 n_21] ∧
      ∃ (S' : Nat → Prop),
      (∀ (b : Nat), S' b → m'.uf b ∧ (N ≤ b ∨ False)) ∧
      ∀ (n_22 : Nat),
      m'.sz ≤ n_22 →
      SpecW Try.prog (23 : Nat)
      [Value.slice a l.length cp,
      Value.int IntKind.i64 c,
      Value.int IntKind.i64 s,
      Value.agg
      #[Value.int IntKind.i64 an.er,
      Value.int IntKind.i64 an.va,
      Value.int IntKind.i64 an.le,
      Value.int IntKind.i64 an.mo]]
      { π := m'.π, sz := n_22, uf := m'.uf : M }
      S' fun (v : Value) (m' : M) =>
      ∃ (a_10 : Option Addr),
      ∃ (n_23 : Nat),
      ∃ (c_5 : Nat),
      ∃ (n_24 : Int),
      v =
      Value.tuple
      #[Value.slice a_10 n_23 c_5,
      Value.int IntKind.i64
      n_24] ∧
      ∃ (S' : Nat → Prop),
      (∀ (b : Nat),
      S' b →
      m'.uf b ∧
      (N ≤ b ∨ False)) ∧
      ∀ (n_25 : Nat),
      m'.sz ≤ n_25 →
      SpecW Try.prog (19 : Nat)
      [Value.slice a_2 n c_1,
      Value.int IntKind.i64
      c,
      Value.int IntKind.i64
      s]
      { π := m'.π, sz := n_25, uf := m'.uf : M }
      S'
      fun (v : Value)
      (m' : M) =>
      ∃ (a_12 : Option Addr),
      ∃ (n_26 : Nat),
      ∃ (c_6 : Nat),
      ∃ (n_27 : Int),
      v =
      Value.tuple
      #[Value.slice
      a_12
      n_26
      c_6,
      Value.int
      IntKind.i64
      n_27] ∧
      ∃ (S' :
      Nat → Prop),
      (∀
      (b :
      Nat),
      S' b →
      m'.uf
      b ∧
      (N ≤
      b ∨
      False)) ∧
      ∀
      (n_28 :
      Nat),
      m'.sz ≤
      n_28 →
      SpecW
      Try.prog
      (24 :
      Nat)
      [Value.slice
      a
      l.length
      cp,
      Value.int
      IntKind.i64
      c,
      Value.int
      IntKind.i64
      s]
      { π := m'.π, sz := n_28, uf := m'.uf : M }
      S'
      fun
      (v :
      Value)
      (m' :
      M) =>
      ∃
      (a_14
      :
      Option
      Addr),
      ∃
      (n_29
      :
      Nat),
      ∃
      (c
      :
      Nat),
      ∃
      (n_30
      :
      Int),
      v =
      Value.tuple
      #[Value.slice
      a_14
      n_29
      c,
      Value.int
      IntKind.i64
      n_30] ∧
      ∃
      (b_6
      :
      Bool),
      QSpec
      Try.prog
      (13 :
      Nat)
      []
      m'
      (Value.bool
      b_6) ∧
      ifB
      b_6
      (∃
      (n_31
      :
      Int),
      QSpec
      Try.prog
      (25 :
      Nat)
      [Value.slice
      a_2
      n
      c_1]
      m'
      (Value.int
      IntKind.i64
      n_31) ∧
      ifB
      (n_31 ==
      (0 :
      Int))
      (ifB
      (n_1 ==
      n_7 &&
      (n_2 ==
      n_8 &&
      (b ==
      b_2 &&
      (n_3 ==
      n_9 &&
      (n_4 ==
      n_10 &&
      (n_5 ==
      n_11 &&
      (n_6 ==
      n_12 &&
      true))) &&
      true))))
      (ifB
      (b_1 ==
      b_3)
      (∃
      (b
      :
      Bool),
      QSpec
      Try.prog
      (14 :
      Nat)
      [Value.slice
      a_4
      n_14
      c_2,
      Value.slice
      a_6
      n_17
      c_3]
      m'
      (Value.bool
      b) ∧
      ifB
      b
      (ifB
      (b_4 ==
      b_5)
      (ifB
      (n_15 ==
      n_18)
      (∃
      (b
      :
      Bool),
      QSpec
      Try.prog
      (14 :
      Nat)
      [Value.slice
      a_8
      n_20
      c_4,
      Value.slice
      a_10
      n_23
      c_5]
      m'
      (Value.bool
      b) ∧
      ifB
      b
      (ifB
      (n_21 ==
      n_24)
      (∃
      (b
      :
      Bool),
      QSpec
      Try.prog
      (14 :
      Nat)
      [Value.slice
      a_12
      n_26
      c_6,
      Value.slice
      a_14
      n_29
      c]
      m'
      (Value.bool
      b) ∧
      ifB
      b
      (ifB
      (n_27 ==
      n_30)
      (∃
      (b
      :
      Bool),
      QSpec
      Try.prog
      (15 :
      Nat)
      [Value.slice
      a_2
      n
      c_1,
      Value.slice
      a
      l.length
      cp]
      m'
      (Value.bool
      b) ∧
      Done
      (Value.bool
      b =
      Value.bool
      true))
      (Done
      (Value.bool
      false =
      Value.bool
      true)))
      (Done
      (Value.bool
      false =
      Value.bool
      true)))
      (Done
      (Value.bool
      false =
      Value.bool
      true)))
      (Done
      (Value.bool
      false =
      Value.bool
      true)))
      (Done
      (Value.bool
      false =
      Value.bool
      true)))
      (Done
      (Value.bool
      false =
      Value.bool
      true)))
      (Done
      (Value.bool
      false =
      Value.bool
      true)))
      (Done
      (Value.bool
      false =
      Value.bool
      true)))
      (Done
      (Value.bool
      false =
      Value.bool
      true)))
      (Done
      (Value.bool
      false =
      Value.bool
      true)))
      (Done
      (Value.bool
      false =
      Value.bool
      true)))) (by kernel_rfl) ?_
  have R : Rs { m with sz := N } [(a, mks l)] := ⟨h.sz hN, trivial⟩
  refine ⟨rfl, ?_⟩
  refine ⟨_, noS, fun N1 hN1 => (own_s a cp l hn _ ((R.sz hN1).1)).monoW fun v1 m1 ag1 q1 => ?_⟩
  obtain ⟨b1, e1, r1⟩ := q1
  refine ⟨_, _, _, e1, ?_⟩
  have R1 := Rs.cons r1 (Rs.step R hN1 ag1)
  refine ⟨_, rright_q _ _ l (by omega) _ (R1.2.1), ?_⟩
  cases ht : tabB 0 l
  · refine ifB_true ?_
    refine ⟨_, _, _, _, _, _, _, _, find_q _ _ l c (by omega) _ (R1.1.take), _, _, _, _, _, _, _, _, rfind_q _ _ l c (by omega) _ (R1.2.1), ?_⟩
    refine ⟨_, noS, fun N2 hN2 => (sbegin_s _ _ l c s (by omega) _ ((R1.sz hN2).1.take)).monoW fun v2 m2 ag2 q2 => ?_⟩
    obtain ⟨x2, y2, e2, r2⟩ := q2
    refine ⟨_, _, _, _, _, e2, ?_⟩
    have R2 := Rs.cons r2 (Rs.step R1 hN2 ag2)
    refine ⟨_, noS, fun N3 hN3 => (rbegin_s _ _ l c s (by omega) _ ((R2.sz hN3).2.2.1)).monoW fun v3 m3 ag3 q3 => ?_⟩
    obtain ⟨x3, y3, e3, r3⟩ := q3
    refine ⟨_, _, _, _, _, e3, ?_⟩
    have R3 := Rs.cons r3 (Rs.step R2 hN3 ag3)
    refine ⟨_, noS, fun N4 hN4 => (send_s _ _ l c s an (by omega) _ ((R3.sz hN4).2.2.1.take)).monoW fun v4 m4 ag4 q4 => ?_⟩
    obtain ⟨x4, y4, e4, r4⟩ := q4
    refine ⟨_, _, _, _, e4, ?_⟩
    have R4 := Rs.cons r4 (Rs.step R3 hN4 ag4)
    refine ⟨_, noS, fun N5 hN5 => (rend_s _ _ l c s an (by omega) _ ((R4.sz hN5).2.2.2.2.1)).monoW fun v5 m5 ag5 q5 => ?_⟩
    obtain ⟨x5, y5, e5, r5⟩ := q5
    refine ⟨_, _, _, _, e5, ?_⟩
    have R5 := Rs.cons r5 (Rs.step R4 hN5 ag5)
    refine ⟨_, noS, fun N6 hN6 => (slose_s _ _ l c s (by omega) _ ((R5.sz hN6).2.2.2.2.1.take)).monoW fun v6 m6 ag6 q6 => ?_⟩
    obtain ⟨x6, y6, e6, r6⟩ := q6
    refine ⟨_, _, _, _, e6, ?_⟩
    have R6 := Rs.cons r6 (Rs.step R5 hN6 ag6)
    refine ⟨_, noS, fun N7 hN7 => (rlose_s _ _ l c s (by omega) _ ((R6.sz hN7).2.2.2.2.2.2.1)).monoW fun v7 m7 ag7 q7 => ?_⟩
    obtain ⟨x7, y7, e7, r7⟩ := q7
    refine ⟨_, _, _, _, e7, ?_⟩
    have R7 := Rs.cons r7 (Rs.step R6 hN7 ag7)
    have hl1 := begin_len l c s
    have hl2 := end_len l c s an
    have hl3 := lose_len l c s
    refine ⟨_, awake_q _, ifB_true ⟨_, scheck_q _ _ l (by omega) _ (R7.2.2.2.2.2.2.1.take), ?_⟩⟩
    rw [ht]
    simp only [decide_true, beq_self_eq_true, Bool.and_true]
    refine ifB_true (ifB_true (ifB_true ⟨_, mk_plain _ _ _ _ _ _ (by omega) _ (R7.2.2.2.2.2.1) (R7.2.2.2.2.1), ?_⟩))
    simp only [decide_true]
    refine ifB_true (ifB_true (ifB_true ⟨_, mk_plain _ _ _ _ _ _ (by omega) _ (R7.2.2.2.1) (R7.2.2.1), ?_⟩))
    simp only [decide_true]
    refine ifB_true (ifB_true ⟨_, mk_plain _ _ _ _ _ _ (by omega) _ (R7.2.1) (R7.1), ?_⟩)
    simp only [decide_true]
    exact ifB_true (ifB_true ⟨_, kept_q b1 l a cp hn _ (R7.2.2.2.2.2.2.1) (R7.2.2.2.2.2.2.2.1), ⟨rfl⟩⟩)
  · refine ifB_false ?_
    refine ⟨_, _, _, _, _, _, _, _, find_q _ _ l c (by omega) _ (R1.1.take), _, _, _, _, _, _, _, _, rfind_q _ _ l c (by omega) _ (R1.2.1), ?_⟩
    refine ⟨_, noS, fun N2 hN2 => (sbegin_s _ _ l c s (by omega) _ ((R1.sz hN2).1.take)).monoW fun v2 m2 ag2 q2 => ?_⟩
    obtain ⟨x2, y2, e2, r2⟩ := q2
    refine ⟨_, _, _, _, _, e2, ?_⟩
    have R2 := Rs.cons r2 (Rs.step R1 hN2 ag2)
    refine ⟨_, noS, fun N3 hN3 => (rbegin_s _ _ l c s (by omega) _ ((R2.sz hN3).2.2.1)).monoW fun v3 m3 ag3 q3 => ?_⟩
    obtain ⟨x3, y3, e3, r3⟩ := q3
    refine ⟨_, _, _, _, _, e3, ?_⟩
    have R3 := Rs.cons r3 (Rs.step R2 hN3 ag3)
    refine ⟨_, noS, fun N4 hN4 => (send_s _ _ l c s an (by omega) _ ((R3.sz hN4).2.2.1.take)).monoW fun v4 m4 ag4 q4 => ?_⟩
    obtain ⟨x4, y4, e4, r4⟩ := q4
    refine ⟨_, _, _, _, e4, ?_⟩
    have R4 := Rs.cons r4 (Rs.step R3 hN4 ag4)
    refine ⟨_, noS, fun N5 hN5 => (rend_s _ _ l c s an (by omega) _ ((R4.sz hN5).2.2.2.2.1)).monoW fun v5 m5 ag5 q5 => ?_⟩
    obtain ⟨x5, y5, e5, r5⟩ := q5
    refine ⟨_, _, _, _, e5, ?_⟩
    have R5 := Rs.cons r5 (Rs.step R4 hN5 ag5)
    refine ⟨_, noS, fun N6 hN6 => (slose_s _ _ l c s (by omega) _ ((R5.sz hN6).2.2.2.2.1.take)).monoW fun v6 m6 ag6 q6 => ?_⟩
    obtain ⟨x6, y6, e6, r6⟩ := q6
    refine ⟨_, _, _, _, e6, ?_⟩
    have R6 := Rs.cons r6 (Rs.step R5 hN6 ag6)
    refine ⟨_, noS, fun N7 hN7 => (rlose_s _ _ l c s (by omega) _ ((R6.sz hN7).2.2.2.2.2.2.1)).monoW fun v7 m7 ag7 q7 => ?_⟩
    obtain ⟨x7, y7, e7, r7⟩ := q7
    refine ⟨_, _, _, _, e7, ?_⟩
    have R7 := Rs.cons r7 (Rs.step R6 hN7 ag7)
    have hl1 := begin_len l c s
    have hl2 := end_len l c s an
    have hl3 := lose_len l c s
    refine ⟨_, awake_q _, ifB_true ⟨_, scheck_q _ _ l (by omega) _ (R7.2.2.2.2.2.2.1.take), ?_⟩⟩
    rw [ht]
    simp only [decide_true, beq_self_eq_true, Bool.and_true]
    refine ifB_true (ifB_true (ifB_true ⟨_, mk_plain _ _ _ _ _ _ (by omega) _ (R7.2.2.2.2.2.1) (R7.2.2.2.2.1), ?_⟩))
    simp only [decide_true]
    refine ifB_true (ifB_true (ifB_true ⟨_, mk_plain _ _ _ _ _ _ (by omega) _ (R7.2.2.2.1) (R7.2.2.1), ?_⟩))
    simp only [decide_true]
    refine ifB_true (ifB_true ⟨_, mk_plain _ _ _ _ _ _ (by omega) _ (R7.2.1) (R7.1), ?_⟩)
    simp only [decide_true]
    exact ifB_true (ifB_true ⟨_, kept_q b1 l a cp hn _ (R7.2.2.2.2.2.2.1) (R7.2.2.2.2.2.2.2.1), ⟨rfl⟩⟩)

end Go.Proofs.Ytpfiodchlbofmaa
