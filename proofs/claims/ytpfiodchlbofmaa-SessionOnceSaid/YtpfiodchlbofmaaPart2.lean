/-
  Contracts of functions of this seat: what each hands back, and what it leaves of memory (ses7, ses8, ses9). Nothing here is trusted: Lean checks it.
-/
import Derived.Test.YtpfiodchlbofmaaPart1
set_option linter.unusedVariables false
set_option linter.unusedSimpArgs false
namespace Go.Proofs.Ytpfiodchlbofmaa
open Go.Vc Go.RowKit
set_option maxRecDepth 100000

theorem awake_q (m : M) : QSpec Try.prog 13 [] m (.bool true) := by
  refine QSpec.of_vc Try.func13 (ann := fun _ => noAnn) fun n hn => ?_
  refine vc_by (X :=
      true = true ∧
      ∃ (S' : Nat → Prop),
      (∀ (b : Nat), S' b → m.uf b ∧ (n ≤ b ∨ False)) ∧
      ∀ (n_1 : Nat),
      n ≤ n_1 →
      SpecW Try.prog (18 : Nat) [Value.slice none (0 : Nat) (0 : Nat), Value.int IntKind.i64 (3 : Int), Value.int IntKind.i64 (1 : Int)] { π := m.π, sz := n_1, uf := m.uf : M }
      S' fun (v : Value) (m' : M) =>
      ∃ (a : Option Addr),
      ∃ (n : Nat),
      ∃ (c : Nat),
      ∃ (b : Bool),
      ∃ (n_2 : Int),
      v = Value.tuple #[Value.slice a n c, Value.bool b, Value.int IntKind.i64 n_2] ∧
      ifB (n_2 == (0 : Int))
      (ifB b
      (ifB ((↑n : Int) == (1 : Int))
      (true = true ∧
      ∀ (b : Nat),
      m'.sz ≤ b →
      ∃ (n : Int),
      QSpec Try.prog (25 : Nat) [Value.slice (some { block := b, off := (0 : Nat) : Addr }) (1 : Nat) (1 : Nat)]
      (m'.newBlock b
      [Value.int IntKind.i64 (-1 : Int), Value.int IntKind.i64 (0 : Int), Value.bool false, Value.int IntKind.i64 (0 : Int),
      Value.int IntKind.i64 (0 : Int), Value.int IntKind.i64 (0 : Int), Value.int IntKind.i64 (0 : Int)])
      (Value.int IntKind.i64 n) ∧
      Done (Value.bool (n == (21 : Int)) = Value.bool true))
      (Done (Value.bool false = Value.bool true)))
      (Done (Value.bool false = Value.bool true)))
      (Done (Value.bool false = Value.bool true))) (by kernel_rfl) ?_
  have e : beginM [] 3 1 = ([opM 3 1], true, 0) := by rfl
  refine ⟨rfl, _, noS, fun N hN => (sbegin_s none 0 [] 3 1 (by simp) _ (.nil _)).monoW fun v m1 hag hq => ?_⟩
  rw [e] at hq
  obtain ⟨a1, c1, hv, hr⟩ := hq
  refine ⟨a1, _, c1, _, _, hv, ?_⟩
  refine ifB_true (ifB_true (ifB_true ⟨rfl, fun b hb => ⟨_, scheck_q (some ⟨b, 0, none⟩) 1 [⟨-1, 0, false, 0, 0, 0, 0⟩] (by simp) _ (.at _ _ _ (by simp only [M.newBlock]; omega) cellsAt_new), ⟨?_⟩⟩⟩))
  rfl

def mk71 : Mk := ⟨71, 0, false, 0, 0, 0, 0⟩

abbrev marks : List Value := encMk mk71 ++ encMk mk71

/-- a list of its own, with marks behind its end -/
structure OwnR (l : List Mk) (v : Value) (m' : M) : Prop where
  out : ∃ b, v = .slice (some ⟨b, 0, none⟩) l.length (l.length + 2) ∧ Row m' (some ⟨b, 0, none⟩) (mks l ++ marks)

theorem own_s (a : Option Addr) (c : Nat) (l : List Mk) (hn : l.length ≤ 2513169434860) (m : M) (h : Row m a (mks l)) :
    Vc.Spec Try.prog 10 [.slice a l.length c] m (OwnR l) := by
  refine Vc.Spec.of_vc Try.func10 (ann := noAnn) ?_
  refine vc_by (X :=
      true = true ∧
      ∃ (S' : Nat → Prop),
      (∀ (b : Nat), S' b → m.uf b ∧ (m.sz ≤ b ∨ False)) ∧
      ∀ (n : Nat),
      m.sz ≤ n →
      SpecW Try.prog (26 : Nat)
      [Value.slice a l.length c,
      Value.agg
      #[Value.int IntKind.i64 (71 : Int), Value.int IntKind.i64 (0 : Int), Value.bool false, Value.int IntKind.i64 (0 : Int), Value.int IntKind.i64 (0 : Int),
      Value.int IntKind.i64 (0 : Int), Value.int IntKind.i64 (0 : Int)]]
      { π := m.π, sz := n, uf := m.uf : M } S' fun (v : Value) (m' : M) =>
      ∃ (a : Option Addr), ∃ (n : Nat), ∃ (c : Nat), v = Value.slice a n c ∧ Done (OwnR l (Value.slice a n c) m')) (by kernel_rfl) ?_
  exact ⟨rfl, _, noS, fun N hN => (mk_own a c l mk71 hn _ (h.sz hN)).monoW fun v m1 hag hq => by
    obtain ⟨b, e, hr⟩ := hq.row
    exact ⟨_, _, _, e, ⟨⟨b, rfl, hr⟩⟩⟩⟩

theorem kept_q (b : Nat) (l : List Mk) (a2 : Option Addr) (c2 : Nat) (hn : l.length ≤ 2513169434860) (m : M) (h : Row m (some ⟨b, 0, none⟩) (mks l ++ marks)) (h2 : Row m a2 (mks l)) :
    QSpec Try.prog 15 [.slice (some ⟨b, 0, none⟩) l.length (l.length + 2), .slice a2 l.length c2] m (.bool true) := by
  refine QSpec.of_vc Try.func15 (ann := fun _ => noAnn) fun n hn' => ?_
  refine vc_by (X :=
      true = true ∧
      ∃ (b_1 : Bool),
      QSpec Try.prog (29 : Nat)
      [Value.slice (some { block := b, off := (0 : Nat) : Addr }) l.length (l.length + (2 : Nat)), Value.slice a2 l.length c2,
      Value.agg
      #[Value.int IntKind.i64 (71 : Int), Value.int IntKind.i64 (0 : Int), Value.bool false, Value.int IntKind.i64 (0 : Int), Value.int IntKind.i64 (0 : Int),
      Value.int IntKind.i64 (0 : Int), Value.int IntKind.i64 (0 : Int)]]
      { π := m.π, sz := n, uf := m.uf : M } (Value.bool b_1) ∧
      Done (Value.bool b_1 = Value.bool true)) (by kernel_rfl) ?_
  exact ⟨rfl, _, mk_keptr b l a2 c2 mk71 hn _ (h.sz hn') (h2.sz hn'), ⟨rfl⟩⟩

theorem begin_len (l : List Mk) (c s : Int) : (beginM l c s).1.length ≤ 9 := by
  unfold beginM
  cases ht : tabB 0 l
  · simp
  have := tab8 ht
  simp only [Bool.true_eq_false, if_false]
  split
  · simp
  · have := mins_len (opM c s) l
    split
    · simp only; omega
    · split
      · simp
      · split <;> simp only <;> omega

theorem end_len (l : List Mk) (c s : Int) (an : An) : (endM l c s an).1.length ≤ 9 := by
  unfold endM
  split
  · simp
  · rename_i h
    obtain ⟨ht, -⟩ := openE_zero (Decidable.not_not.1 h)
    have := tab8 ht
    have := mins_len (edM c s an) l
    simp only; omega

theorem lose_len (l : List Mk) (c s : Int) : (loseM l c s).1.length ≤ 9 := by
  unfold loseM
  split
  · simp
  · rename_i h
    obtain ⟨ht, -⟩ := openE_zero (Decidable.not_not.1 h)
    have := tab8 ht
    have := mins_len (loM c s) l
    simp only; omega

theorem join_len (a b : List Mk) : (joinM a b).1.length ≤ 8 := by
  unfold joinM
  split
  · simp
  · rename_i h
    have ha : tabB 0 a = true := by cases h' : tabB 0 a; simp [h'] at h; rfl
    have hb : tabB 0 b = true := by cases h' : tabB 0 b; simp [h'] at h; rfl
    exact tab8 (fold_ok ha hb)

set_option maxHeartbeats 1000000 in
theorem sessionjoins (a a2 : Option Addr) (cp c2 : Nat) (l l2 : List Mk) (hn : l.length ≤ 2513169434860) (hn2 : l2.length ≤ 2513169434860) (m : M) (h : Row m a (mks l)) (h2 : Row m a2 (mks l2)) :
    QSpec Try.prog 3 [.slice a l.length cp, .slice a2 l2.length c2] m (.bool true) := by
  refine QSpec.of_vc Try.func3 (ann := fun _ => noAnn) fun N hN => ?_
  refine vc_by (X :=
      true = true ∧
      ∃ (S' : Nat → Prop),
      (∀ (b : Nat), S' b → m.uf b ∧ (N ≤ b ∨ False)) ∧
      ∀ (n : Nat),
      N ≤ n →
      SpecW Try.prog (10 : Nat) [Value.slice a l.length cp] { π := m.π, sz := n, uf := m.uf : M } S' fun (v : Value) (m' : M) =>
      ∃ (a_2 : Option Addr),
      ∃ (n : Nat),
      ∃ (c : Nat),
      v = Value.slice a_2 n c ∧
      ∃ (S' : Nat → Prop),
      (∀ (b : Nat), S' b → m'.uf b ∧ (N ≤ b ∨ False)) ∧
      ∀ (n_1 : Nat),
      m'.sz ≤ n_1 →
      SpecW Try.prog (10 : Nat) [Value.slice a2 l2.length c2] { π := m'.π, sz := n_1, uf := m'.uf : M } S' fun (v : Value) (m' : M) =>
      ∃ (a_4 : Option Addr),
      ∃ (n_2 : Nat),
      ∃ (c_1 : Nat),
      v = Value.slice a_4 n_2 c_1 ∧
      ∃ (S' : Nat → Prop),
      (∀ (b : Nat), S' b → m'.uf b ∧ (N ≤ b ∨ False)) ∧
      ∀ (n_3 : Nat),
      m'.sz ≤ n_3 →
      SpecW Try.prog (11 : Nat) [Value.slice a_2 n c, Value.slice a_4 n_2 c_1] { π := m'.π, sz := n_3, uf := m'.uf : M } S'
      fun (v : Value) (m' : M) =>
      ∃ (a_6 : Option Addr),
      ∃ (n_4 : Nat),
      ∃ (c_2 : Nat),
      ∃ (n_5 : Int),
      v = Value.tuple #[Value.slice a_6 n_4 c_2, Value.int IntKind.i64 n_5] ∧
      ∃ (S' : Nat → Prop),
      (∀ (b : Nat), S' b → m'.uf b ∧ (N ≤ b ∨ False)) ∧
      ∀ (n_6 : Nat),
      m'.sz ≤ n_6 →
      SpecW Try.prog (12 : Nat) [Value.slice a l.length cp, Value.slice a2 l2.length c2]
      { π := m'.π, sz := n_6, uf := m'.uf : M } S' fun (v : Value) (m' : M) =>
      ∃ (a_8 : Option Addr),
      ∃ (n_7 : Nat),
      ∃ (c_3 : Nat),
      ∃ (n_8 : Int),
      v = Value.tuple #[Value.slice a_8 n_7 c_3, Value.int IntKind.i64 n_8] ∧
      ∃ (b : Bool),
      QSpec Try.prog (13 : Nat) [] m' (Value.bool b) ∧
      ifB b
      (∃ (b : Bool),
      QSpec Try.prog (14 : Nat) [Value.slice a_6 n_4 c_2, Value.slice a_8 n_7 c_3] m'
      (Value.bool b) ∧
      ifB b
      (ifB (n_5 == n_8)
      (∃ (b : Bool),
      QSpec Try.prog (15 : Nat) [Value.slice a_2 n c, Value.slice a l.length cp] m'
      (Value.bool b) ∧
      ifB b
      (∃ (b : Bool),
      QSpec Try.prog (15 : Nat) [Value.slice a_4 n_2 c_1, Value.slice a2 l2.length c2]
      m' (Value.bool b) ∧
      Done (Value.bool b = Value.bool true))
      (Done (Value.bool false = Value.bool true)))
      (Done (Value.bool false = Value.bool true)))
      (Done (Value.bool false = Value.bool true)))
      (Done (Value.bool false = Value.bool true))) (by kernel_rfl) ?_
  have R : Rs { m with sz := N } [(a, mks l), (a2, mks l2)] := ⟨h.sz hN, h2.sz hN, trivial⟩
  refine ⟨rfl, ?_⟩
  refine ⟨_, noS, fun N1 hN1 => (own_s a cp l hn _ ((R.sz hN1).1)).monoW fun v1 m1 ag1 q1 => ?_⟩
  obtain ⟨b1, e1, r1⟩ := q1
  refine ⟨_, _, _, e1, ?_⟩
  have R1 := Rs.cons r1 (Rs.step R hN1 ag1)
  refine ⟨_, noS, fun N2 hN2 => (own_s a2 c2 l2 hn2 _ ((R1.sz hN2).2.2.1)).monoW fun v2 m2 ag2 q2 => ?_⟩
  obtain ⟨b2, e2, r2⟩ := q2
  refine ⟨_, _, _, e2, ?_⟩
  have R2 := Rs.cons r2 (Rs.step R1 hN2 ag2)
  refine ⟨_, noS, fun N3 hN3 => (sjoin_s _ _ _ _ l l2 (by omega) (by omega) _ ((R2.sz hN3).2.1.take) ((R2.sz hN3).1.take)).monoW fun v3 m3 ag3 q3 => ?_⟩
  obtain ⟨x3, y3, e3, r3⟩ := q3
  refine ⟨_, _, _, _, e3, ?_⟩
  have R3 := Rs.cons r3 (Rs.step R2 hN3 ag3)
  refine ⟨_, noS, fun N4 hN4 => (rjoin_s _ _ _ _ l l2 (by omega) (by omega) _ ((R3.sz hN4).2.2.2.1) ((R3.sz hN4).2.2.2.2.1)).monoW fun v4 m4 ag4 q4 => ?_⟩
  obtain ⟨x4, y4, e4, r4⟩ := q4
  refine ⟨_, _, _, _, e4, ?_⟩
  have R4 := Rs.cons r4 (Rs.step R3 hN4 ag4)
  have hl := join_len l l2
  refine ⟨_, awake_q _, ifB_true ⟨_, mk_plain _ _ _ _ _ _ (by omega) _ (R4.2.1) (R4.1), ?_⟩⟩
  simp only [decide_true, beq_self_eq_true]
  exact ifB_true (ifB_true ⟨_, kept_q b1 l a cp hn _ (R4.2.2.2.1) (R4.2.2.2.2.1), ifB_true ⟨_, kept_q b2 l2 a2 c2 hn2 _ (R4.2.2.1) (R4.2.2.2.2.2.1), ⟨rfl⟩⟩⟩)

set_option maxHeartbeats 1000000 in
theorem sessionplays (a : Option Addr) (cp : Nat) (l : List Mk) (c s : Int) (an : An) (hn : l.length ≤ 2513169434860) (m : M) (h : Row m a (mks l)) :
    QSpec Try.prog 7 [.slice a l.length cp, I c, I s, anv an] m (.bool true) := by
  refine QSpec.of_vc Try.func7 (ann := fun _ => noAnn) fun N hN => ?_
  refine vc_by (X :=
      true = true ∧
      ∃ (S' : Nat → Prop),
      (∀ (b : Nat), S' b → m.uf b ∧ (N ≤ b ∨ False)) ∧
      ∀ (n : Nat),
      N ≤ n →
      SpecW Try.prog (10 : Nat) [Value.slice a l.length cp] { π := m.π, sz := n, uf := m.uf : M } S' fun (v : Value) (m' : M) =>
      ∃ (a_2 : Option Addr),
      ∃ (n : Nat),
      ∃ (c_1 : Nat),
      v = Value.slice a_2 n c_1 ∧
      ∃ (b : Bool),
      QSpec Try.prog (16 : Nat) [Value.slice a l.length cp] m' (Value.bool b) ∧
      ifB (!b)
      (∃ (n_1 : Int),
      ∃ (n_2 : Int),
      ∃ (b : Bool),
      ∃ (n_3 : Int),
      ∃ (n_4 : Int),
      ∃ (n_5 : Int),
      ∃ (n_6 : Int),
      ∃ (b_1 : Bool),
      QSpec Try.prog (17 : Nat) [Value.slice a_2 n c_1, Value.int IntKind.i64 c] m'
      (Value.tuple
      #[Value.agg
      #[Value.int IntKind.i64 n_1, Value.int IntKind.i64 n_2, Value.bool b, Value.int IntKind.i64 n_3, Value.int IntKind.i64 n_4,
      Value.int IntKind.i64 n_5, Value.int IntKind.i64 n_6],
      Value.bool b_1]) ∧
      ∃ (n_7 : Int),
      ∃ (n_8 : Int),
      ∃ (b_2 : Bool),
      ∃ (n_9 : Int),
      ∃ (n_10 : Int),
      ∃ (n_11 : Int),
      ∃ (n_12 : Int),
      ∃ (b_3 : Bool),
      QSpec Try.prog (21 : Nat) [Value.slice a l.length cp, Value.int IntKind.i64 c] m'
      (Value.tuple
      #[Value.agg
      #[Value.int IntKind.i64 n_7, Value.int IntKind.i64 n_8, Value.bool b_2, Value.int IntKind.i64 n_9,
      Value.int IntKind.i64 n_10, Value.int IntKind.i64 n_11, Value.int IntKind.i64 n_12],
      Value.bool b_3]) ∧
      ∃ (S' : Nat → Prop),
      (∀ (b : Nat), S' b → m'.uf b ∧ (N ≤ b ∨ False)) ∧
      ∀ (n_13 : Nat),
      m'.sz ≤ n_13 →
      SpecW Try.prog (18 : Nat) [Value.slice a_2 n c_1, Value.int IntKind.i64 c, Value.int IntKind.i64 s]
      { π := m'.π, sz := n_13, uf := m'.uf : M } S' fun (v : Value) (m' : M) =>
      ∃ (a_4 : Option Addr),
      ∃ (n_14 : Nat),
      ∃ (c_2 : Nat),
      ∃ (b_4 : Bool),
      ∃ (n_15 : Int),
      v = Value.tuple #[Value.slice a_4 n_14 c_2, Value.bool b_4, Value.int IntKind.i64 n_15] ∧
      ∃ (S' : Nat → Prop),
      (∀ (b : Nat), S' b → m'.uf b ∧ (N ≤ b ∨ False)) ∧
      ∀ (n_16 : Nat),
      m'.sz ≤ n_16 →
      SpecW Try.prog (22 : Nat)
      [Value.slice a l.length cp, Value.int IntKind.i64 c, Value.int IntKind.i64 s]
      { π := m'.π, sz := n_16, uf := m'.uf : M } S' fun (v : Value) (m' : M) =>
      ∃ (a_6 : Option Addr),
      ∃ (n_17 : Nat),
      ∃ (c_3 : Nat),
      ∃ (b_5 : Bool),
      ∃ (n_18 : Int),
      v =
      Value.tuple
      #[Value.slice a_6 n_17 c_3, Value.bool b_5,
      Value.int IntKind.i64 n_18] ∧
      ∃ (S' : Nat → Prop),
      (∀ (b : Nat), S' b → m'.uf b ∧ (N ≤ b ∨ False)) ∧
      ∀ (n_19 : Nat),
      m'.sz ≤ n_19 →
      SpecW Try.prog (20 : Nat)
      [Value.slice a_2 n c_1, Value.int IntKind.i64 c,
      Value.int IntKind.i64 s,
      Value.agg
      #[Value.int IntKind.i64 an.er, Value.int IntKind.i64 an.va,
      Value.int IntKind.i64 an.le, Value.int IntKind.i64 an.mo]]
      { π := m'.π, sz := n_19, uf := m'.uf : M } S'
      fun (v : Value) (m' : M) =>
      ∃ (a_8 : Option Addr),
      ∃ (n_20 : Nat),
      ∃ (c_4 : Nat),
      ∃ (n_21 : Int),
      v =
      Value.tuple
      #[Value.slice a_8 n_20 c_4,
      Value.int IntKind.i64 n_21] ∧
      ∃ (S' : Nat → Prop),
      (∀ (b : Nat), S' b → m'.uf b ∧ (N ≤ b ∨ False)) ∧
      ∀ (n_22 : Nat),
      m'.sz ≤ n_22 →
      SpecW Try.prog (23 : Nat)
      [Value.slice a l.length cp,
      Value.int IntKind.i64 c,
      Value.int IntKind.i64 s,
      Value.agg
      #[Value.int IntKind.i64 an.er,
      Value.int IntKind.i64 an.va,
      Value.int IntKind.i64 an.le,
      Value.int IntKind.i64 an.mo]]
      { π := m'.π, sz := n_22, uf := m'.uf : M }
      S' fun (v : Value) (m' : M) =>
      ∃ (a_10 : Option Addr),
      ∃ (n_23 : Nat),
      ∃ (c_5 : Nat),
      ∃ (n_24 : Int),
      v =
      Value.tuple
      #[Value.slice a_10 n_23 c_5,
      Value.int IntKind.i64
      n_24] ∧
      ∃ (S' : Nat → Prop),
      (∀ (b : Nat),
      S' b →
      m'.uf b ∧
      (N ≤ b ∨ False)) ∧
      ∀ (n_25 : Nat),
      m'.sz ≤ n_25 →
      SpecW Try.prog (19 : Nat)
      [Value.slice a_2 n c_1,
      Value.int IntKind.i64
      c,
      Value.int IntKind.i64
      s]
      { π := m'.π, sz := n_25, uf := m'.uf : M }
      S'
      fun (v : Value)
      (m' : M) =>
      ∃ (a_12 : Option Addr),
      ∃ (n_26 : Nat),
      ∃ (c_6 : Nat),
      ∃ (n_27 : Int),
      v =
      Value.tuple
      #[Value.slice
      a_12
      n_26
      c_6,
      Value.int
      IntKind.i64
      n_27] ∧
      ∃ (S' :
      Nat → Prop),
      (∀
      (b :
      Nat),
      S' b →
      m'.uf
      b ∧
      (N ≤
      b ∨
      False)) ∧
      ∀
      (n_28 :
      Nat),
      m'.sz ≤
      n_28 →
      SpecW
      Try.prog
      (24 :
      Nat)
      [Value.slice
      a
      l.length
      cp,
      Value.int
      IntKind.i64
      c,
      Value.int
      IntKind.i64
      s]
      { π := m'.π, sz := n_28, uf := m'.uf : M }
      S'
      fun
      (v :
      Value)
      (m' :
      M) =>
      ∃
      (a_14
      :
      Option
      Addr),
      ∃
      (n_29
      :
      Nat),
      ∃
      (c
      :
      Nat),
      ∃
      (n_30
      :
      Int),
      v =
      Value.tuple
      #[Value.slice
      a_14
      n_29
      c,
      Value.int
      IntKind.i64
      n_30] ∧
      ∃
      (b_6
      :
      Bool),
      QSpec
      Try.prog
      (13 :
      Nat)
      []
      m'
      (Value.bool
      b_6) ∧
      ifB
      b_6
      (∃
      (n_31
      :
      Int),
      QSpec
      Try.prog
      (25 :
      Nat)
      [Value.slice
      a_2
      n
      c_1]
      m'
      (Value.int
      IntKind.i64
      n_31) ∧
      ifB
      (n_31 ==
      (21 :
      Int))
      (ifB
      (n_1 ==
      n_7 &&
      (n_2 ==
      n_8 &&
      (b ==
      b_2 &&
      (n_3 ==
      n_9 &&
      (n_4 ==
      n_10 &&
      (n_5 ==
      n_11 &&
      (n_6 ==
      n_12 &&
      true))) &&
      true))))
      (ifB
      (b_1 ==
      b_3)
      (∃
      (b
      :
      Bool),
      QSpec
      Try.prog
      (14 :
      Nat)
      [Value.slice
      a_4
      n_14
      c_2,
      Value.slice
      a_6
      n_17
      c_3]
      m'
      (Value.bool
      b) ∧
      ifB
      b
      (ifB
      (b_4 ==
      b_5)
      (ifB
      (n_15 ==
      n_18)
      (∃
      (b
      :
      Bool),
      QSpec
      Try.prog
      (14 :
      Nat)
      [Value.slice
      a_8
      n_20
      c_4,
      Value.slice
      a_10
      n_23
      c_5]
      m'
      (Value.bool
      b) ∧
      ifB
      b
      (ifB
      (n_21 ==
      n_24)
      (∃
      (b
      :
      Bool),
      QSpec
      Try.prog
      (14 :
      Nat)
      [Value.slice
      a_12
      n_26
      c_6,
      Value.slice
      a_14
      n_29
      c]
      m'
      (Value.bool
      b) ∧
      ifB
      b
      (ifB
      (n_27 ==
      n_30)
      (∃
      (b
      :
      Bool),
      QSpec
      Try.prog
      (15 :
      Nat)
      [Value.slice
      a_2
      n
      c_1,
      Value.slice
      a
      l.length
      cp]
      m'
      (Value.bool
      b) ∧
      Done
      (Value.bool
      b =
      Value.bool
      true))
      (Done
      (Value.bool
      false =
      Value.bool
      true)))
      (Done
      (Value.bool
      false =
      Value.bool
      true)))
      (Done
      (Value.bool
      false =
      Value.bool
      true)))
      (Done
      (Value.bool
      false =
      Value.bool
      true)))
      (Done
      (Value.bool
      false =
      Value.bool
      true)))
      (Done
      (Value.bool
      false =
      Value.bool
      true)))
      (Done
      (Value.bool
      false =
      Value.bool
      true)))
      (Done
      (Value.bool
      false =
      Value.bool
      true)))
      (Done
      (Value.bool
      false =
      Value.bool
      true)))
      (Done
      (Value.bool
      false =
      Value.bool
      true)))
      (Done
      (Value.bool
      false =
      Value.bool
      true)))
      (∃ (n_1 : Int),
      ∃ (n_2 : Int),
      ∃ (b : Bool),
      ∃ (n_3 : Int),
      ∃ (n_4 : Int),
      ∃ (n_5 : Int),
      ∃ (n_6 : Int),
      ∃ (b_1 : Bool),
      QSpec Try.prog (17 : Nat) [Value.slice a_2 n c_1, Value.int IntKind.i64 c] m'
      (Value.tuple
      #[Value.agg
      #[Value.int IntKind.i64 n_1, Value.int IntKind.i64 n_2, Value.bool b, Value.int IntKind.i64 n_3, Value.int IntKind.i64 n_4,
      Value.int IntKind.i64 n_5, Value.int IntKind.i64 n_6],
      Value.bool b_1]) ∧
      ∃ (n_7 : Int),
      ∃ (n_8 : Int),
      ∃ (b_2 : Bool),
      ∃ (n_9 : Int),
      ∃ (n_10 : Int),
      ∃ (n_11 : Int),
      ∃ (n_12 : Int),
      ∃ (b_3 : Bool),
      QSpec Try.prog (21 : Nat) [Value.slice a l.length cp, Value.int IntKind.i64 c] m'
      (Value.tuple
      #[Value.agg
      #[Value.int IntKind.i64 n_7, Value.int IntKind.i64 n_8, Value.bool b_2, Value.int IntKind.i64 n_9,
      Value.int IntKind.i64 n_10, Value.int IntKind.i64 n_11, Value.int IntKind.i64 n_12],
      Value.bool b_3]) ∧
      ∃ (S' : Nat → Prop),
      (∀ (b : Nat), S' b → m'.uf b ∧ (N ≤ b ∨ False)) ∧
      ∀ (n_13 : Nat),
      m'.sz ≤ n_13 →
      SpecW Try.prog (18 : Nat) [Value.slice a_2 n c_1, Value.int IntKind.i64 c, Value.int IntKind.i64 s]
      { π := m'.π, sz := n_13, uf := m'.uf : M } S' fun (v : Value) (m' : M) =>
      ∃ (a_4 : Option Addr),
      ∃ (n_14 : Nat),
      ∃ (c_2 : Nat),
      ∃ (b_4 : Bool),
      ∃ (n_15 : Int),
      v = Value.tuple #[Value.slice a_4 n_14 c_2, Value.bool b_4, Value.int IntKind.i64 n_15] ∧
      ∃ (S' : Nat → Prop),
      (∀ (b : Nat), S' b → m'.uf b ∧ (N ≤ b ∨ False)) ∧
      ∀ (n_16 : Nat),
      m'.sz ≤ n_16 →
      SpecW Try.prog (22 : Nat)
      [Value.slice a l.length cp, Value.int IntKind.i64 c, Value.int IntKind.i64 s]
      { π := m'.π, sz := n_16, uf := m'.uf : M } S' fun (v : Value) (m' : M) =>
      ∃ (a_6 : Option Addr),
      ∃ (n_17 : Nat),
      ∃ (c_3 : Nat),
      ∃ (b_5 : Bool),
      ∃ (n_18 : Int),
      v =
      Value.tuple
      #[Value.slice a_6 n_17 c_3, Value.bool b_5,
      Value.int IntKind.i64 n_18] ∧
      ∃ (S' : Nat → Prop),
      (∀ (b : Nat), S' b → m'.uf b ∧ (N ≤ b ∨ False)) ∧
      ∀ (n_19 : Nat),
      m'.sz ≤ n_19 →
      SpecW Try.prog (20 : Nat)
      [Value.slice a_2 n c_1, Value.int IntKind.i64 c,
      Value.int IntKind.i64 s,
      Value.agg
      #[Value.int IntKind.i64 an.er, Value.int IntKind.i64 an.va,
      Value.int IntKind.i64 an.le, Value.int IntKind.i64 an.mo]]
      { π := m'.π, sz := n_19, uf := m'.uf : M } S'
      fun (v : Value) (m' : M) =>
      ∃ (a_8 : Option Addr),
      ∃ (n_20 : Nat),
      ∃ (c_4 : Nat),
      ∃ (n_21 : Int),
      v =
      Value.tuple
      #[Value.slice a_8 n_20 c_4,
      Value.int IntKind.i64 n_21] ∧
      ∃ (S' : Nat → Prop),
      (∀ (b : Nat), S' b → m'.uf b ∧ (N ≤ b ∨ False)) ∧
      ∀ (n_22 : Nat),
      m'.sz ≤ n_22 →
      SpecW Try.prog (23 : Nat)
      [Value.slice a l.length cp,
      Value.int IntKind.i64 c,
      Value.int IntKind.i64 s,
      Value.agg
      #[Value.int IntKind.i64 an.er,
      Value.int IntKind.i64 an.va,
      Value.int IntKind.i64 an.le,
      Value.int IntKind.i64 an.mo]]
      { π := m'.π, sz := n_22, uf := m'.uf : M }
      S' fun (v : Value) (m' : M) =>
      ∃ (a_10 : Option Addr),
      ∃ (n_23 : Nat),
      ∃ (c_5 : Nat),
      ∃ (n_24 : Int),
      v =
      Value.tuple
      #[Value.slice a_10 n_23 c_5,
      Value.int IntKind.i64
      n_24] ∧
      ∃ (S' : Nat → Prop),
      (∀ (b : Nat),
      S' b →
      m'.uf b ∧
      (N ≤ b ∨ False)) ∧
      ∀ (n_25 : Nat),
      m'.sz ≤ n_25 →
      SpecW Try.prog (19 : Nat)
      [Value.slice a_2 n c_1,
      Value.int IntKind.i64
      c,
      Value.int IntKind.i64
      s]
      { π := m'.π, sz := n_25, uf := m'.uf : M }
      S'
      fun (v : Value)
      (m' : M) =>
      ∃ (a_12 : Option Addr),
      ∃ (n_26 : Nat),
      ∃ (c_6 : Nat),
      ∃ (n_27 : Int),
      v =
      Value.tuple
      #[Value.slice
      a_12
      n_26
      c_6,
      Value.int
      IntKind.i64
      n_27] ∧
      ∃ (S' :
      Nat → Prop),
      (∀
      (b :
      Nat),
      S' b →
      m'.uf
      b ∧
      (N ≤
      b ∨
      False)) ∧
      ∀
      (n_28 :
      Nat),
      m'.sz ≤
      n_28 →
      SpecW
      Try.prog
      (24 :
      Nat)
      [Value.slice
      a
      l.length
      cp,
      Value.int
      IntKind.i64
      c,
      Value.int
      IntKind.i64
      s]
      { π := m'.π, sz := n_28, uf := m'.uf : M }
      S'
      fun
      (v :
      Value)
      (m' :
      M) =>
      ∃
      (a_14
      :
      Option
      Addr),
      ∃
      (n_29
      :
      Nat),
      ∃
      (c
      :
      Nat),
      ∃
      (n_30
      :
      Int),
      v =
      Value.tuple
      #[Value.slice
      a_14
      n_29
      c,
      Value.int
      IntKind.i64
      n_30] ∧
      ∃
      (b_6
      :
      Bool),
      QSpec
      Try.prog
      (13 :
      Nat)
      []
      m'
      (Value.bool
      b_6) ∧
      ifB
      b_6
      (∃
      (n_31
      :
      Int),
      QSpec
      Try.prog
      (25 :
      Nat)
      [Value.slice
      a_2
      n
      c_1]
      m'
      (Value.int
      IntKind.i64
      n_31) ∧
      ifB
      (n_31 ==
      (0 :
      Int))
      (ifB
      (n_1 ==
      n_7 &&
      (n_2 ==
      n_8 &&
      (b ==
      b_2 &&
      (n_3 ==
      n_9 &&
      (n_4 ==
      n_10 &&
      (n_5 ==
      n_11 &&
      (n_6 ==
      n_12 &&
      true))) &&
      true))))
      (ifB
      (b_1 ==
      b_3)
      (∃
      (b
      :
      Bool),
      QSpec
      Try.prog
      (14 :
      Nat)
      [Value.slice
      a_4
      n_14
      c_2,
      Value.slice
      a_6
      n_17
      c_3]
      m'
      (Value.bool
      b) ∧
      ifB
      b
      (ifB
      (b_4 ==
      b_5)
      (ifB
      (n_15 ==
      n_18)
      (∃
      (b
      :
      Bool),
      QSpec
      Try.prog
      (14 :
      Nat)
      [Value.slice
      a_8
      n_20
      c_4,
      Value.slice
      a_10
      n_23
      c_5]
      m'
      (Value.bool
      b) ∧
      ifB
      b
      (ifB
      (n_21 ==
      n_24)
      (∃
      (b
      :
      Bool),
      QSpec
      Try.prog
      (14 :
      Nat)
      [Value.slice
      a_12
      n_26
      c_6,
      Value.slice
      a_14
      n_29
      c]
      m'
      (Value.bool
      b) ∧
      ifB
      b
      (ifB
      (n_27 ==
      n_30)
      (∃
      (b
      :
      Bool),
      QSpec
      Try.prog
      (15 :
      Nat)
      [Value.slice
      a_2
      n
      c_1,
      Value.slice
      a
      l.length
      cp]
      m'
      (Value.bool
      b) ∧
      Done
      (Value.bool
      b =
      Value.bool
      true))
      (Done
      (Value.bool
      false =
      Value.bool
      true)))
      (Done
      (Value.bool
      false =
      Value.bool
      true)))
      (Done
      (Value.bool
      false =
      Value.bool
      true)))
      (Done
      (Value.bool
      false =
      Value.bool
      true)))
      (Done
      (Value.bool
      false =
      Value.bool
      true)))
      (Done
      (Value.bool
      false =
      Value.bool
      true)))
      (Done
      (Value.bool
      false =
      Value.bool
      true)))
      (Done
      (Value.bool
      false =
      Value.bool
      true)))
      (Done
      (Value.bool
      false =
      Value.bool
      true)))
      (Done
      (Value.bool
      false =
      Value.bool
      true)))
      (Done
      (Value.bool
      false =
      Value.bool
      true)))) (by kernel_rfl) ?_
  have R : Rs { m with sz := N } [(a, mks l)] := ⟨h.sz hN, trivial⟩
  refine ⟨rfl, ?_⟩
  refine ⟨_, noS, fun N1 hN1 => (own_s a cp l hn _ ((R.sz hN1).1)).monoW fun v1 m1 ag1 q1 => ?_⟩
  obtain ⟨b1, e1, r1⟩ := q1
  refine ⟨_, _, _, e1, ?_⟩
  have R1 := Rs.cons r1 (Rs.step R hN1 ag1)
  refine ⟨_, rright_q _ _ l (by omega) _ (R1.2.1), ?_⟩
  cases ht : tabB 0 l
  · refine ifB_true ?_
    refine ⟨_, _, _, _, _, _, _, _, find_q _ _ l c (by omega) _ (R1.1.take), _, _, _, _, _, _, _, _, rfind_q _ _ l c (by omega) _ (R1.2.1), ?_⟩
    refine ⟨_, noS, fun N2 hN2 => (sbegin_s _ _ l c s (by omega) _ ((R1.sz hN2).1.take)).monoW fun v2 m2 ag2 q2 => ?_⟩
    obtain ⟨x2, y2, e2, r2⟩ := q2
    refine ⟨_, _, _, _, _, e2, ?_⟩
    have R2 := Rs.cons r2 (Rs.step R1 hN2 ag2)
    refine ⟨_, noS, fun N3 hN3 => (rbegin_s _ _ l c s (by omega) _ ((R2.sz hN3).2.2.1)).monoW fun v3 m3 ag3 q3 => ?_⟩
    obtain ⟨x3, y3, e3, r3⟩ := q3
    refine ⟨_, _, _, _, _, e3, ?_⟩
    have R3 := Rs.cons r3 (Rs.step R2 hN3 ag3)
    refine ⟨_, noS, fun N4 hN4 => (send_s _ _ l c s an (by omega) _ ((R3.sz hN4).2.2.1.take)).monoW fun v4 m4 ag4 q4 => ?_⟩
    obtain ⟨x4, y4, e4, r4⟩ := q4
    refine ⟨_, _, _, _, e4, ?_⟩
    have R4 := Rs.cons r4 (Rs.step R3 hN4 ag4)
    refine ⟨_, noS, fun N5 hN5 => (rend_s _ _ l c s an (by omega) _ ((R4.sz hN5).2.2.2.2.1)).monoW fun v5 m5 ag5 q5 => ?_⟩
    obtain ⟨x5, y5, e5, r5⟩ := q5
    refine ⟨_, _, _, _, e5, ?_⟩
    have R5 := Rs.cons r5 (Rs.step R4 hN5 ag5)
    refine ⟨_, noS, fun N6 hN6 => (slose_s _ _ l c s (by omega) _ ((R5.sz hN6).2.2.2.2.1.take)).monoW fun v6 m6 ag6 q6 => ?_⟩
    obtain ⟨x6, y6, e6, r6⟩ := q6
    refine ⟨_, _, _, _, e6, ?_⟩
    have R6 := Rs.cons r6 (Rs.step R5 hN6 ag6)
    refine ⟨_, noS, fun N7 hN7 => (rlose_s _ _ l c s (by omega) _ ((R6.sz hN7).2.2.2.2.2.2.1)).monoW fun v7 m7 ag7 q7 => ?_⟩
    obtain ⟨x7, y7, e7, r7⟩ := q7
    refine ⟨_, _, _, _, e7, ?_⟩
    have R7 := Rs.cons r7 (Rs.step R6 hN7 ag7)
    have hl1 := begin_len l c s
    have hl2 := end_len l c s an
    have hl3 := lose_len l c s
    refine ⟨_, awake_q _, ifB_true ⟨_, scheck_q _ _ l (by omega) _ (R7.2.2.2.2.2.2.1.take), ?_⟩⟩
    rw [ht]
    simp only [decide_true, beq_self_eq_true, Bool.and_true]
    refine ifB_true (ifB_true (ifB_true ⟨_, mk_plain _ _ _ _ _ _ (by omega) _ (R7.2.2.2.2.2.1) (R7.2.2.2.2.1), ?_⟩))
    simp only [decide_true]
    refine ifB_true (ifB_true (ifB_true ⟨_, mk_plain _ _ _ _ _ _ (by omega) _ (R7.2.2.2.1) (R7.2.2.1), ?_⟩))
    simp only [decide_true]
    refine ifB_true (ifB_true ⟨_, mk_plain _ _ _ _ _ _ (by omega) _ (R7.2.1) (R7.1), ?_⟩)
    simp only [decide_true]
    exact ifB_true (ifB_true ⟨_, kept_q b1 l a cp hn _ (R7.2.2.2.2.2.2.1) (R7.2.2.2.2.2.2.2.1), ⟨rfl⟩⟩)
  · refine ifB_false ?_
    refine ⟨_, _, _, _, _, _, _, _, find_q _ _ l c (by omega) _ (R1.1.take), _, _, _, _, _, _, _, _, rfind_q _ _ l c (by omega) _ (R1.2.1), ?_⟩
    refine ⟨_, noS, fun N2 hN2 => (sbegin_s _ _ l c s (by omega) _ ((R1.sz hN2).1.take)).monoW fun v2 m2 ag2 q2 => ?_⟩
    obtain ⟨x2, y2, e2, r2⟩ := q2
    refine ⟨_, _, _, _, _, e2, ?_⟩
    have R2 := Rs.cons r2 (Rs.step R1 hN2 ag2)
    refine ⟨_, noS, fun N3 hN3 => (rbegin_s _ _ l c s (by omega) _ ((R2.sz hN3).2.2.1)).monoW fun v3 m3 ag3 q3 => ?_⟩
    obtain ⟨x3, y3, e3, r3⟩ := q3
    refine ⟨_, _, _, _, _, e3, ?_⟩
    have R3 := Rs.cons r3 (Rs.step R2 hN3 ag3)
    refine ⟨_, noS, fun N4 hN4 => (send_s _ _ l c s an (by omega) _ ((R3.sz hN4).2.2.1.take)).monoW fun v4 m4 ag4 q4 => ?_⟩
    obtain ⟨x4, y4, e4, r4⟩ := q4
    refine ⟨_, _, _, _, e4, ?_⟩
    have R4 := Rs.cons r4 (Rs.step R3 hN4 ag4)
    refine ⟨_, noS, fun N5 hN5 => (rend_s _ _ l c s an (by omega) _ ((R4.sz hN5).2.2.2.2.1)).monoW fun v5 m5 ag5 q5 => ?_⟩
    obtain ⟨x5, y5, e5, r5⟩ := q5
    refine ⟨_, _, _, _, e5, ?_⟩
    have R5 := Rs.cons r5 (Rs.step R4 hN5 ag5)
    refine ⟨_, noS, fun N6 hN6 => (slose_s _ _ l c s (by omega) _ ((R5.sz hN6).2.2.2.2.1.take)).monoW fun v6 m6 ag6 q6 => ?_⟩
    obtain ⟨x6, y6, e6, r6⟩ := q6
    refine ⟨_, _, _, _, e6, ?_⟩
    have R6 := Rs.cons r6 (Rs.step R5 hN6 ag6)
    refine ⟨_, noS, fun N7 hN7 => (rlose_s _ _ l c s (by omega) _ ((R6.sz hN7).2.2.2.2.2.2.1)).monoW fun v7 m7 ag7 q7 => ?_⟩
    obtain ⟨x7, y7, e7, r7⟩ := q7
    refine ⟨_, _, _, _, e7, ?_⟩
    have R7 := Rs.cons r7 (Rs.step R6 hN7 ag7)
    have hl1 := begin_len l c s
    have hl2 := end_len l c s an
    have hl3 := lose_len l c s
    refine ⟨_, awake_q _, ifB_true ⟨_, scheck_q _ _ l (by omega) _ (R7.2.2.2.2.2.2.1.take), ?_⟩⟩
    rw [ht]
    simp only [decide_true, beq_self_eq_true, Bool.and_true]
    refine ifB_true (ifB_true (ifB_true ⟨_, mk_plain _ _ _ _ _ _ (by omega) _ (R7.2.2.2.2.2.1) (R7.2.2.2.2.1), ?_⟩))
    simp only [decide_true]
    refine ifB_true (ifB_true (ifB_true ⟨_, mk_plain _ _ _ _ _ _ (by omega) _ (R7.2.2.2.1) (R7.2.2.1), ?_⟩))
    simp only [decide_true]
    refine ifB_true (ifB_true ⟨_, mk_plain _ _ _ _ _ _ (by omega) _ (R7.2.1) (R7.1), ?_⟩)
    simp only [decide_true]
    exact ifB_true (ifB_true ⟨_, kept_q b1 l a cp hn _ (R7.2.2.2.2.2.2.1) (R7.2.2.2.2.2.2.2.1), ⟨rfl⟩⟩)

end Go.Proofs.Ytpfiodchlbofmaa
set_option linter.unusedVariables false
set_option linter.unusedSimpArgs false
namespace Go.Proofs.Ytpfiodchlbofmaa
open Go.Vc Go.RowKit
set_option maxRecDepth 100000

theorem begin_cases (l : List Mk) (c s : Int) : ((beginM l c s).2.1 = false ∧ ((beginM l c s).2.2 = 0 → (beginM l c s).1 = l ∧ tabB 0 l = true) ∧ ((beginM l c s).2.2 ≠ 0 → (beginM l c s).1 = [])) ∨
    (tabB 0 l = true ∧ argB c s = true ∧ beginM l c s = (insM l (opM c s), true, 0) ∧ ∀ z, ofM l c = some z → z.sq < s) := by
  unfold beginM
  cases ht : tabB 0 l
  · left; simp
  cases ha : argB c s
  · left; simp
  simp only [Bool.true_eq_false, if_false]
  cases ho : ofM l c with
  | none => right; simp
  | some x =>
    simp only
    split
    · left; simp
    · split
      · left; simp
      · right; simp; omega

/-- behind a fresh beginning -/
structure Fr (l : List Mk) (c s : Int) (b : List Mk) : Prop where
  tab : tabB 0 l = true
  arg : 1 ≤ c ∧ c ≤ 8 ∧ 1 ≤ s ∧ s ≤ 4611686018427387904
  eq : b = insM l (opM c s)
  old : ∀ z, ofM l c = some z → z.sq < s
  btab : tabB 0 b = true
  own : ofM b c = some (opM c s)
  other : ∀ c', c' ≠ c → ofM b c' = ofM l c'

theorem fresh_of {l : List Mk} {c s : Int} (ht : tabB 0 l = true) (ha : argB c s = true) (ho : ∀ z, ofM l c = some z → z.sq < s) : Fr l c s (insM l (opM c s)) := by
  obtain ⟨o1, o2⟩ := opM_ok ha
  refine ⟨ht, by simp [argB] at ha; omega, rfl, ho, ins_tab o1 o2 ht, ?_, fun c' hc => ?_⟩
  · rw [ins_of c ht]; exact if_pos rfl
  · rw [ins_of c' ht]; exact if_neg (fun e => hc e.symm)

theorem open_fresh {l b : List Mk} {c s : Int} (h : Fr l c s b) : openE b c s = 0 := by
  simp [openE, h.btab, h.own, opM]

theorem begin_at {l : List Mk} {c s : Int} {x : Mk} (ht : tabB 0 l = true) (hx : ofM l c = some x) (hs : s ≤ x.sq) : (beginM l c s).2.1 = false := by
  rcases begin_cases l c s with h | ⟨-, -, -, h⟩
  · exact h.1
  · have := h x hx; omega

theorem begin_eq {l : List Mk} {c s : Int} {x : Mk} (ht : tabB 0 l = true) (ha : argB c s = true) (hx : ofM l c = some x) (hs : x.sq = s) : beginM l c s = (l, false, 0) := by
  simp [beginM, ht, ha, hx, hs]

theorem begin_up {l : List Mk} {c s : Int} {x : Mk} (ht : tabB 0 l = true) (ha : argB c s = true) (hx : ofM l c = some x) (hs : x.sq < s) : beginM l c s = (insM l (opM c s), true, 0) := by
  simp [beginM, ht, ha, hx, show ¬ s < x.sq by omega, show ¬ x.sq = s by omega]

theorem fr_arg {l b : List Mk} {c s : Int} (h : Fr l c s b) : argB c s = true := by
  have := h.arg; simp [argB]; omega

theorem ins_same_len {l : List Mk} {m : Mk} (ht : tabB 0 l = true) (h : (ofM l m.cl).isSome = true) : (insM l m).length = l.length := by
  rw [ins_set ht h, List.length_set]

/-- what a lost number leaves -/
theorem lose_law {l b : List Mk} {c s : Int} (h : Fr l c s b) : loseM b c s = (insM b (loM c s), 0) ∧ tabB 0 (insM b (loM c s)) = true ∧ beginM (insM b (loM c s)) c s = (b, true, 0) ∧
    ∀ w, (beginM (insM b (loM c s)) c w).2.1 = true → s ≤ w := by
  have h0 := open_fresh h
  obtain ⟨o1, o2⟩ := loM_ok h0
  have ht : tabB 0 (insM b (loM c s)) = true := ins_tab o1 o2 h.btab
  have hx : ofM (insM b (loM c s)) c = some (loM c s) := by rw [ins_of c h.btab]; exact if_pos rfl
  refine ⟨by simp [loseM, h0], ht, ?_, fun w hw => ?_⟩
  · rw [begin_up ht (fr_arg h) hx (by show s - 1 < s; omega)]
    obtain ⟨p1, p2⟩ := opM_ok (fr_arg h)
    have e : insM (insM b (loM c s)) (opM c s) = b := by
      refine tab_ext (ins_tab p1 p2 ht) h.btab fun c' => ?_
      rw [ins_of c' ht, ins_of c' h.btab]
      show (if c = c' then _ else if c = c' then _ else _) = _
      by_cases e : c = c'
      · subst e; rw [if_pos rfl, h.own]
      · rw [if_neg e, if_neg e]
    rw [e]
  · rcases begin_cases (insM b (loM c s)) c w with g | ⟨-, -, -, g⟩
    · rw [g.1] at hw; cases hw
    · have := g _ hx
      have e : (loM c s).sq = s - 1 := rfl
      omega

/-- what has ended -/
theorem end_law {l b : List Mk} {c s : Int} {an : An} (h : Fr l c s b) : endM b c s an = (insM b (edM c s an), 0) ∧ tabB 0 (insM b (edM c s an)) = true ∧ ofM (insM b (edM c s an)) c = some (edM c s an) ∧
    beginM (insM b (edM c s an)) c s = (insM b (edM c s an), false, 0) := by
  have h0 := open_fresh h
  obtain ⟨o1, o2⟩ := edM_ok (an := an) h0
  have ht : tabB 0 (insM b (edM c s an)) = true := ins_tab o1 o2 h.btab
  have hx : ofM (insM b (edM c s an)) c = some (edM c s an) := by rw [ins_of c h.btab]; exact if_pos rfl
  exact ⟨by simp [endM, h0], ht, hx, begin_eq ht (fr_arg h) hx rfl⟩

theorem joinO_up {x : Mk} {y : Option Mk} : ∃ z, joinO (some x) y = some z ∧ x.sq ≤ z.sq := by
  cases y with
  | none => exact ⟨x, rfl, Int.le_refl _⟩
  | some y =>
    simp only [joinO]
    split
    · rename_i h; exact ⟨y, rfl, by omega⟩
    · exact ⟨x, rfl, Int.le_refl _⟩

theorem joinO_up2 {x : Mk} {y : Option Mk} : ∃ z, joinO y (some x) = some z ∧ x.sq ≤ z.sq := by
  cases y with
  | none => exact ⟨x, rfl, Int.le_refl _⟩
  | some y =>
    simp only [joinO]
    split
    · exact ⟨x, rfl, Int.le_refl _⟩
    · rename_i h; exact ⟨y, rfl, by omega⟩

theorem once_law {a b : List Mk} {c s : Int} {x : Mk} (ha : tabB 0 a = true) (hb : tabB 0 b = true) (hx : ofM a c = some x) (hs : x.sq = s) :
    (beginM (foldM a b) c s).2.1 = false ∧ (beginM (foldM b a) c s).2.1 = false := by
  constructor
  · obtain ⟨z, h1, h2⟩ := joinO_up (x := x) (y := ofM b c)
    exact begin_at (fold_ok ha hb) (by rw [fold_at ha hb, hx]; exact h1) (by omega)
  · obtain ⟨z, h1, h2⟩ := joinO_up2 (x := x) (y := ofM b c)
    exact begin_at (fold_ok hb ha) (by rw [fold_at hb ha, hx]; exact h1) (by omega)

theorem find_other {l : List Mk} {m : Mk} (ht : tabB 0 l = true) (hm : mkB m = true) (hc : 0 < m.cl) {o : Int} (ho : o ≠ m.cl) : findO (insM l m) o = findO l o := by
  simp only [findO, ht, ins_tab hm hc ht, if_true]
  rw [ins_of o ht, if_neg (fun e => ho e.symm)]

/-- what is done for one client -/
theorem others_law (l : List Mk) (c s o : Int) (an : An) (hne : c ≠ o) (h0 : (beginM l c s).2.2 = 0) : findO (beginM l c s).1 o = findO l o ∧
    ((endM (beginM l c s).1 c s an).2 ≠ 0 → (endM (beginM l c s).1 c s an).1 = []) ∧
    ((endM (beginM l c s).1 c s an).2 = 0 → findO (endM (beginM l c s).1 c s an).1 o = findO l o ∧ (endM (beginM l c s).1 c s an).1.length = (beginM l c s).1.length) := by
  have hb : findO (beginM l c s).1 o = findO l o := by
    rcases begin_cases l c s with ⟨-, h, -⟩ | ⟨h1, h2, h3, -⟩
    · rw [(h h0).1]
    · rw [h3]
      obtain ⟨o1, o2⟩ := opM_ok h2
      exact find_other h1 o1 o2 (fun e => hne e.symm)
  refine ⟨hb, fun h => ?_, fun h => ?_⟩
  · unfold endM at h ⊢
    split
    · rfl
    · rename_i g; rw [if_neg g] at h; exact absurd rfl h
  · unfold endM at h ⊢
    split
    · rename_i g; rw [if_pos g] at h; exact absurd h g
    · rename_i g
      have g : openE (beginM l c s).1 c s = 0 := Decidable.not_not.1 g
      obtain ⟨ht, x, hx, -⟩ := openE_zero g
      obtain ⟨o1, o2⟩ := edM_ok (an := an) g
      refine ⟨?_, ins_same_len ht (by show (ofM _ c).isSome = true; rw [hx]; rfl)⟩
      show findO (insM _ _) o = _
      rw [find_other ht o1 o2 (fun e => hne e.symm), hb]

end Go.Proofs.Ytpfiodchlbofmaa
set_option linter.unusedVariables false
set_option linter.unusedSimpArgs false
namespace Go.Proofs.Ytpfiodchlbofmaa
open Go.Vc Go.RowKit
set_option maxRecDepth 100000

set_option maxHeartbeats 1000000 in
theorem sessionloses (a : Option Addr) (cp : Nat) (l : List Mk) (c s w : Int) (hn : l.length ≤ 2513169434860) (m : M) (h : Row m a (mks l)) :
    QSpec Try.prog 5 [.slice a l.length cp, I c, I s, I w] m (.bool true) := by
  refine QSpec.of_vc Try.func5 (ann := fun _ => noAnn) fun N hN => ?_
  refine vc_by (X :=
      true = true ∧
      ∃ (b : Bool),
      QSpec Try.prog (13 : Nat) [] { π := m.π, sz := N, uf := m.uf : M } (Value.bool b) ∧
      ifB (!b) (Done (Value.bool false = Value.bool true))
      (∃ (S' : Nat → Prop),
      (∀ (b : Nat), S' b → m.uf b ∧ (N ≤ b ∨ False)) ∧
      ∀ (n : Nat),
      N ≤ n →
      SpecW Try.prog (10 : Nat) [Value.slice a l.length cp] { π := m.π, sz := n, uf := m.uf : M } S' fun (v : Value) (m' : M) =>
      ∃ (a : Option Addr),
      ∃ (n : Nat),
      ∃ (c_1 : Nat),
      v = Value.slice a n c_1 ∧
      ∃ (S' : Nat → Prop),
      (∀ (b : Nat), S' b → m'.uf b ∧ (N ≤ b ∨ False)) ∧
      ∀ (n_1 : Nat),
      m'.sz ≤ n_1 →
      SpecW Try.prog (18 : Nat) [Value.slice a n c_1, Value.int IntKind.i64 c, Value.int IntKind.i64 s] { π := m'.π, sz := n_1, uf := m'.uf : M } S'
      fun (v : Value) (m' : M) =>
      ∃ (a : Option Addr),
      ∃ (n : Nat),
      ∃ (c_2 : Nat),
      ∃ (b : Bool),
      ∃ (n_2 : Int),
      v = Value.tuple #[Value.slice a n c_2, Value.bool b, Value.int IntKind.i64 n_2] ∧
      ifB (n_2 != (0 : Int)) (Done ((Value.bool !b) = Value.bool true))
      (ifB (!b) (Done ((Value.bool !b) = Value.bool true))
      (∃ (S' : Nat → Prop),
      (∀ (b : Nat), S' b → m'.uf b ∧ (N ≤ b ∨ False)) ∧
      ∀ (n_3 : Nat),
      m'.sz ≤ n_3 →
      SpecW Try.prog (19 : Nat) [Value.slice a n c_2, Value.int IntKind.i64 c, Value.int IntKind.i64 s]
      { π := m'.π, sz := n_3, uf := m'.uf : M } S' fun (v : Value) (m' : M) =>
      ∃ (a_4 : Option Addr),
      ∃ (n_4 : Nat),
      ∃ (c_3 : Nat),
      ∃ (n_5 : Int),
      v = Value.tuple #[Value.slice a_4 n_4 c_3, Value.int IntKind.i64 n_5] ∧
      ∃ (S' : Nat → Prop),
      (∀ (b : Nat), S' b → m'.uf b ∧ (N ≤ b ∨ False)) ∧
      ∀ (n_6 : Nat),
      m'.sz ≤ n_6 →
      SpecW Try.prog (18 : Nat)
      [Value.slice a_4 n_4 c_3, Value.int IntKind.i64 c, Value.int IntKind.i64 s]
      { π := m'.π, sz := n_6, uf := m'.uf : M } S' fun (v : Value) (m' : M) =>
      ∃ (a_6 : Option Addr),
      ∃ (n_7 : Nat),
      ∃ (c_4 : Nat),
      ∃ (b : Bool),
      ∃ (n_8 : Int),
      v = Value.tuple #[Value.slice a_6 n_7 c_4, Value.bool b, Value.int IntKind.i64 n_8] ∧
      ifB (n_5 != (0 : Int)) (Done (Value.bool false = Value.bool true))
      (ifB (!b) (Done (Value.bool false = Value.bool true))
      (ifB (n_8 != (0 : Int)) (Done (Value.bool false = Value.bool true))
      (∃ (b : Bool),
      QSpec Try.prog (14 : Nat) [Value.slice a_6 n_7 c_4, Value.slice a n c_2] m'
      (Value.bool b) ∧
      ifB (!b) (Done (Value.bool false = Value.bool true))
      (∃ (S' : Nat → Prop),
      (∀ (b : Nat), S' b → m'.uf b ∧ (N ≤ b ∨ False)) ∧
      ∀ (n : Nat),
      m'.sz ≤ n →
      SpecW Try.prog (18 : Nat)
      [Value.slice a_4 n_4 c_3, Value.int IntKind.i64 c,
      Value.int IntKind.i64 w]
      { π := m'.π, sz := n, uf := m'.uf : M } S'
      fun (v : Value) (m' : M) =>
      ∃ (a : Option Addr),
      ∃ (n : Nat),
      ∃ (c : Nat),
      ∃ (b : Bool),
      ∃ (n_9 : Int),
      v =
      Value.tuple
      #[Value.slice a n c, Value.bool b,
      Value.int IntKind.i64 n_9] ∧
      ifB (!b) (Done (Value.bool true = Value.bool true))
      (Done
      (Value.bool (decide (w ≥ s)) =
      Value.bool true)))))))))) (by kernel_rfl) ?_
  have R : Rs { m with sz := N } [(a, mks l)] := ⟨h.sz hN, trivial⟩
  refine ⟨rfl, _, awake_q _, ifB_false ?_⟩
  refine ⟨_, noS, fun N1 hN1 => (own_s a cp l hn _ ((R.sz hN1).1)).monoW fun v1 m1 ag1 q1 => ?_⟩
  obtain ⟨b1, e1, r1⟩ := q1
  refine ⟨_, _, _, e1, ?_⟩
  have R1 := Rs.cons r1 (Rs.step R hN1 ag1)
  refine ⟨_, noS, fun N2 hN2 => (sbegin_s _ _ l c s (by omega) _ ((R1.sz hN2).1.take)).monoW fun v2 m2 ag2 q2 => ?_⟩
  obtain ⟨x2, y2, e2, r2⟩ := q2
  refine ⟨_, _, _, _, _, e2, ?_⟩
  have R2 := Rs.cons r2 (Rs.step R1 hN2 ag2)
  rcases begin_cases l c s with ⟨g1, -, -⟩ | ⟨ht, ha, hbq, ho⟩
  · rw [g1]; exact ifB_intro (fun _ => ⟨rfl⟩) (fun _ => ifB_true ⟨rfl⟩)
  have F := fresh_of ht ha ho
  generalize hb : insM l (opM c s) = b at F hbq
  rw [hbq] at R2 ⊢
  simp only [bne_self_eq_false, beq_self_eq_true, Bool.not_true, Bool.not_false, Bool.and_self, Bool.and_true, decide_true]
  obtain ⟨q1, q2, q3, q4⟩ := lose_law F
  have h8b := tab8 F.btab
  have h8c := tab8 q2
  refine ifB_false (ifB_false ?_)
  refine ⟨_, noS, fun N3 hN3 => (slose_s _ _ b c s (by omega) _ ((R2.sz hN3).1)).monoW fun v3 m3 ag3 q3 => ?_⟩
  obtain ⟨x3, y3, e3, r3⟩ := q3
  refine ⟨_, _, _, _, e3, ?_⟩
  have R3 := Rs.cons r3 (Rs.step R2 hN3 ag3)
  rw [q1] at R3 ⊢
  refine ⟨_, noS, fun N4 hN4 => (sbegin_s _ _ (insM b (loM c s)) c s (by omega) _ ((R3.sz hN4).1)).monoW fun v4 m4 ag4 q4 => ?_⟩
  obtain ⟨x4, y4, e4, r4⟩ := q4
  refine ⟨_, _, _, _, _, e4, ?_⟩
  have R4 := Rs.cons r4 (Rs.step R3 hN4 ag4)
  rw [q3] at R4 ⊢
  simp only [bne_self_eq_false, beq_self_eq_true, Bool.not_true, Bool.not_false, Bool.and_self, Bool.and_true, decide_true]
  refine ifB_false (ifB_false (ifB_false ⟨_, mk_plain _ _ _ _ _ _ (by omega) _ (R4.1) (R4.2.2.1), ?_⟩))
  simp only [bne_self_eq_false, beq_self_eq_true, Bool.not_true, Bool.not_false, Bool.and_self, Bool.and_true, decide_true]
  refine ifB_false ?_
  refine ⟨_, noS, fun N5 hN5 => (sbegin_s _ _ (insM b (loM c s)) c w (by omega) _ ((R4.sz hN5).2.1)).monoW fun v5 m5 ag5 q5 => ?_⟩
  obtain ⟨x5, y5, e5, r5⟩ := q5
  refine ⟨_, _, _, _, _, e5, ?_⟩
  have R5 := Rs.cons r5 (Rs.step R4 hN5 ag5)
  exact ifB_intro (fun _ => ⟨by trivial⟩) (fun hh => ⟨by have := q4 w (by simpa using hh); simp; omega⟩)

set_option maxHeartbeats 1000000 in
theorem sessionothers (a : Option Addr) (cp : Nat) (l : List Mk) (c s o : Int) (an : An) (hn : l.length ≤ 2513169434860) (m : M) (h : Row m a (mks l)) :
    QSpec Try.prog 6 [.slice a l.length cp, I c, I s, I o, anv an] m (.bool true) := by
  refine QSpec.of_vc Try.func6 (ann := fun _ => noAnn) fun N hN => ?_
  refine vc_by (X :=
      true = true ∧
      ∃ (b : Bool),
      QSpec Try.prog (13 : Nat) [] { π := m.π, sz := N, uf := m.uf : M } (Value.bool b) ∧
      ifB (!b) (∃ (b : Bool), QSpec Try.prog (13 : Nat) [] { π := m.π, sz := N, uf := m.uf : M } (Value.bool b) ∧ Done (Value.bool b = Value.bool true))
      (ifB (c == o) (∃ (b : Bool), QSpec Try.prog (13 : Nat) [] { π := m.π, sz := N, uf := m.uf : M } (Value.bool b) ∧ Done (Value.bool b = Value.bool true))
      (∃ (S' : Nat → Prop),
      (∀ (b : Nat), S' b → m.uf b ∧ (N ≤ b ∨ False)) ∧
      ∀ (n : Nat),
      N ≤ n →
      SpecW Try.prog (10 : Nat) [Value.slice a l.length cp] { π := m.π, sz := n, uf := m.uf : M } S' fun (v : Value) (m' : M) =>
      ∃ (a_2 : Option Addr),
      ∃ (n : Nat),
      ∃ (c_1 : Nat),
      v = Value.slice a_2 n c_1 ∧
      ∃ (n_1 : Int),
      ∃ (n_2 : Int),
      ∃ (b : Bool),
      ∃ (n_3 : Int),
      ∃ (n_4 : Int),
      ∃ (n_5 : Int),
      ∃ (n_6 : Int),
      ∃ (b_1 : Bool),
      QSpec Try.prog (17 : Nat) [Value.slice a_2 n c_1, Value.int IntKind.i64 o] m'
      (Value.tuple
      #[Value.agg
      #[Value.int IntKind.i64 n_1, Value.int IntKind.i64 n_2, Value.bool b, Value.int IntKind.i64 n_3, Value.int IntKind.i64 n_4,
      Value.int IntKind.i64 n_5, Value.int IntKind.i64 n_6],
      Value.bool b_1]) ∧
      ∃ (S' : Nat → Prop),
      (∀ (b : Nat), S' b → m'.uf b ∧ (N ≤ b ∨ False)) ∧
      ∀ (n : Nat),
      m'.sz ≤ n →
      SpecW Try.prog (10 : Nat) [Value.slice a l.length cp] { π := m'.π, sz := n, uf := m'.uf : M } S' fun (v : Value) (m' : M) =>
      ∃ (a : Option Addr),
      ∃ (n : Nat),
      ∃ (c_2 : Nat),
      v = Value.slice a n c_2 ∧
      ∃ (S' : Nat → Prop),
      (∀ (b : Nat), S' b → m'.uf b ∧ (N ≤ b ∨ False)) ∧
      ∀ (n_7 : Nat),
      m'.sz ≤ n_7 →
      SpecW Try.prog (18 : Nat) [Value.slice a n c_2, Value.int IntKind.i64 c, Value.int IntKind.i64 s]
      { π := m'.π, sz := n_7, uf := m'.uf : M } S' fun (v : Value) (m' : M) =>
      ∃ (a : Option Addr),
      ∃ (n : Nat),
      ∃ (c_3 : Nat),
      ∃ (b_2 : Bool),
      ∃ (n_8 : Int),
      v = Value.tuple #[Value.slice a n c_3, Value.bool b_2, Value.int IntKind.i64 n_8] ∧
      ifB (n_8 != (0 : Int)) (Done (Value.bool ((↑n : Int) == (0 : Int)) = Value.bool true))
      (∃ (S' : Nat → Prop),
      (∀ (b : Nat), S' b → m'.uf b ∧ (N ≤ b ∨ False)) ∧
      ∀ (n_9 : Nat),
      m'.sz ≤ n_9 →
      SpecW Try.prog (20 : Nat)
      [Value.slice a n c_3, Value.int IntKind.i64 c, Value.int IntKind.i64 s,
      Value.agg
      #[Value.int IntKind.i64 an.er, Value.int IntKind.i64 an.va,
      Value.int IntKind.i64 an.le, Value.int IntKind.i64 an.mo]]
      { π := m'.π, sz := n_9, uf := m'.uf : M } S' fun (v : Value) (m' : M) =>
      ∃ (a_6 : Option Addr),
      ∃ (n_10 : Nat),
      ∃ (c : Nat),
      ∃ (n_11 : Int),
      v = Value.tuple #[Value.slice a_6 n_10 c, Value.int IntKind.i64 n_11] ∧
      ∃ (n_12 : Int),
      ∃ (n_13 : Int),
      ∃ (b_3 : Bool),
      ∃ (n_14 : Int),
      ∃ (n_15 : Int),
      ∃ (n_16 : Int),
      ∃ (n_17 : Int),
      ∃ (b_4 : Bool),
      QSpec Try.prog (17 : Nat)
      [Value.slice a n c_3, Value.int IntKind.i64 o] m'
      (Value.tuple
      #[Value.agg
      #[Value.int IntKind.i64 n_12,
      Value.int IntKind.i64 n_13, Value.bool b_3,
      Value.int IntKind.i64 n_14,
      Value.int IntKind.i64 n_15,
      Value.int IntKind.i64 n_16,
      Value.int IntKind.i64 n_17],
      Value.bool b_4]) ∧
      ifB
      (!(n_12 == n_1 &&
      (n_13 == n_2 &&
      (b_3 == b &&
      (n_14 == n_3 &&
      (n_15 == n_4 &&
      (n_16 == n_5 &&
      (n_17 == n_6 && true))) &&
      true)))))
      (Done (Value.bool false = Value.bool true))
      (ifB (!b_4 == b_1)
      (Done (Value.bool false = Value.bool true))
      (ifB (n_11 != (0 : Int))
      (Done
      (Value.bool ((↑n_10 : Int) == (0 : Int)) =
      Value.bool true))
      (∃ (n_18 : Int),
      ∃ (n_19 : Int),
      ∃ (b_5 : Bool),
      ∃ (n_20 : Int),
      ∃ (n_21 : Int),
      ∃ (n_22 : Int),
      ∃ (n_23 : Int),
      ∃ (b_6 : Bool),
      QSpec Try.prog (17 : Nat)
      [Value.slice a_6 n_10 c,
      Value.int IntKind.i64 o]
      m'
      (Value.tuple
      #[Value.agg
      #[Value.int
      IntKind.i64 n_18,
      Value.int
      IntKind.i64 n_19,
      Value.bool b_5,
      Value.int
      IntKind.i64 n_20,
      Value.int
      IntKind.i64 n_21,
      Value.int
      IntKind.i64 n_22,
      Value.int
      IntKind.i64 n_23],
      Value.bool b_6]) ∧
      ifB
      (n_18 == n_1 &&
      (n_19 == n_2 &&
      (b_5 == b &&
      (n_20 == n_3 &&
      (n_21 == n_4 &&
      (n_22 == n_5 &&
      (n_23 ==
      n_6 &&
      true))) &&
      true))))
      (ifB (b_6 == b_1)
      (Done
      (Value.bool
      ((↑n_10 : Int) ==
      (↑n : Int)) =
      Value.bool true))
      (Done
      (Value.bool false =
      Value.bool true)))
      (Done
      (Value.bool false =
      Value.bool true))))))))) (by kernel_rfl) ?_
  have R : Rs { m with sz := N } [(a, mks l)] := ⟨h.sz hN, trivial⟩
  refine ⟨rfl, _, awake_q _, ifB_false (ifB_intro (fun _ => ⟨_, awake_q _, ⟨rfl⟩⟩) (fun hne => ?_))⟩
  have hne : c ≠ o := by simpa using hne
  refine ⟨_, noS, fun N1 hN1 => (own_s a cp l hn _ ((R.sz hN1).1)).monoW fun v1 m1 ag1 q1 => ?_⟩
  obtain ⟨b1, e1, r1⟩ := q1
  refine ⟨_, _, _, e1, ?_⟩
  have R1 := Rs.cons r1 (Rs.step R hN1 ag1)
  refine ⟨_, _, _, _, _, _, _, _, find_q _ _ l o (by omega) _ (R1.1.take), ?_⟩
  refine ⟨_, noS, fun N2 hN2 => (own_s a cp l hn _ ((R1.sz hN2).2.1)).monoW fun v2 m2 ag2 q2 => ?_⟩
  obtain ⟨b2, e2, r2⟩ := q2
  refine ⟨_, _, _, e2, ?_⟩
  have R2 := Rs.cons r2 (Rs.step R1 hN2 ag2)
  refine ⟨_, noS, fun N3 hN3 => (sbegin_s _ _ l c s (by omega) _ ((R2.sz hN3).1.take)).monoW fun v3 m3 ag3 q3 => ?_⟩
  obtain ⟨x3, y3, e3, r3⟩ := q3
  refine ⟨_, _, _, _, _, e3, ?_⟩
  have R3 := Rs.cons r3 (Rs.step R2 hN3 ag3)
  have hlb := begin_len l c s
  refine ifB_intro (fun h0 => ⟨?_⟩) (fun h0 => ?_)
  · have h0 : (beginM l c s).2.2 ≠ 0 := by simpa using h0
    have : (beginM l c s).1 = [] := by
      rcases begin_cases l c s with ⟨-, -, g⟩ | ⟨-, -, g, -⟩
      · exact g h0
      · rw [g] at h0; exact absurd rfl h0
    simp [this]
  have h0 : (beginM l c s).2.2 = 0 := by simpa using h0
  obtain ⟨o1, o2, o3⟩ := others_law l c s o an hne h0
  refine ⟨_, noS, fun N4 hN4 => (send_s _ _ (beginM l c s).1 c s an (by omega) _ ((R3.sz hN4).1)).monoW fun v4 m4 ag4 q4 => ?_⟩
  obtain ⟨x4, y4, e4, r4⟩ := q4
  refine ⟨_, _, _, _, e4, ?_⟩
  have R4 := Rs.cons r4 (Rs.step R3 hN4 ag4)
  refine ⟨_, _, _, _, _, _, _, _, find_q _ _ (beginM l c s).1 o (by omega) _ (R4.2.1), ?_⟩
  rw [o1]
  simp only [bne_self_eq_false, beq_self_eq_true, Bool.not_true, Bool.not_false, Bool.and_self, Bool.and_true, decide_true]
  have hle := end_len (beginM l c s).1 c s an
  refine ifB_false (ifB_false (ifB_intro (fun h1 => ⟨?_⟩) (fun h1 => ?_)))
  · have h1 := o2 (by simpa using h1)
    simp [h1]
  obtain ⟨o4, o5⟩ := o3 (by simpa using h1)
  refine ⟨_, _, _, _, _, _, _, _, find_q _ _ (endM (beginM l c s).1 c s an).1 o (by omega) _ (R4.1), ?_⟩
  rw [o4]
  simp only [bne_self_eq_false, beq_self_eq_true, Bool.not_true, Bool.not_false, Bool.and_self, Bool.and_true, decide_true]
  exact ifB_true (ifB_true ⟨by rw [o5]; simp⟩)

set_option maxHeartbeats 1000000 in
theorem sessiononce (a a2 : Option Addr) (cp c2 : Nat) (l l2 : List Mk) (c s : Int) (an : An) (hn : l.length ≤ 2513169434860) (hn2 : l2.length ≤ 2513169434860) (m : M) (h : Row m a (mks l)) (h2 : Row m a2 (mks l2)) :
    QSpec Try.prog 9 [.slice a l.length cp, I c, I s, anv an, .slice a2 l2.length c2] m (.bool true) := by
  refine QSpec.of_vc Try.func9 (ann := fun _ => noAnn) fun N hN => ?_
  refine vc_by (X :=
      true = true ∧
      ∃ (b : Bool),
      QSpec Try.prog (13 : Nat) [] { π := m.π, sz := N, uf := m.uf : M } (Value.bool b) ∧
      ifB (!b) (Done (Value.bool false = Value.bool true))
      (∃ (S' : Nat → Prop),
      (∀ (b : Nat), S' b → m.uf b ∧ (N ≤ b ∨ False)) ∧
      ∀ (n : Nat),
      N ≤ n →
      SpecW Try.prog (10 : Nat) [Value.slice a l.length cp] { π := m.π, sz := n, uf := m.uf : M } S' fun (v : Value) (m' : M) =>
      ∃ (a : Option Addr),
      ∃ (n : Nat),
      ∃ (c_1 : Nat),
      v = Value.slice a n c_1 ∧
      ∃ (S' : Nat → Prop),
      (∀ (b : Nat), S' b → m'.uf b ∧ (N ≤ b ∨ False)) ∧
      ∀ (n_1 : Nat),
      m'.sz ≤ n_1 →
      SpecW Try.prog (18 : Nat) [Value.slice a n c_1, Value.int IntKind.i64 c, Value.int IntKind.i64 s] { π := m'.π, sz := n_1, uf := m'.uf : M } S'
      fun (v : Value) (m' : M) =>
      ∃ (a : Option Addr),
      ∃ (n : Nat),
      ∃ (c_2 : Nat),
      ∃ (b : Bool),
      ∃ (n_2 : Int),
      v = Value.tuple #[Value.slice a n c_2, Value.bool b, Value.int IntKind.i64 n_2] ∧
      ifB (n_2 != (0 : Int)) (Done ((Value.bool !b) = Value.bool true))
      (ifB (!b) (Done ((Value.bool !b) = Value.bool true))
      (∃ (S' : Nat → Prop),
      (∀ (b : Nat), S' b → m'.uf b ∧ (N ≤ b ∨ False)) ∧
      ∀ (n_3 : Nat),
      m'.sz ≤ n_3 →
      SpecW Try.prog (20 : Nat)
      [Value.slice a n c_2, Value.int IntKind.i64 c, Value.int IntKind.i64 s,
      Value.agg
      #[Value.int IntKind.i64 an.er, Value.int IntKind.i64 an.va, Value.int IntKind.i64 an.le,
      Value.int IntKind.i64 an.mo]]
      { π := m'.π, sz := n_3, uf := m'.uf : M } S' fun (v : Value) (m' : M) =>
      ∃ (a : Option Addr),
      ∃ (n : Nat),
      ∃ (c_3 : Nat),
      ∃ (n_4 : Int),
      v = Value.tuple #[Value.slice a n c_3, Value.int IntKind.i64 n_4] ∧
      ∃ (n_5 : Int),
      ∃ (n_6 : Int),
      ∃ (b : Bool),
      ∃ (n_7 : Int),
      ∃ (n_8 : Int),
      ∃ (n_9 : Int),
      ∃ (n_10 : Int),
      ∃ (b_1 : Bool),
      QSpec Try.prog (17 : Nat) [Value.slice a n c_3, Value.int IntKind.i64 c] m'
      (Value.tuple
      #[Value.agg
      #[Value.int IntKind.i64 n_5, Value.int IntKind.i64 n_6, Value.bool b,
      Value.int IntKind.i64 n_7, Value.int IntKind.i64 n_8, Value.int IntKind.i64 n_9,
      Value.int IntKind.i64 n_10],
      Value.bool b_1]) ∧
      ifB (n_4 != (0 : Int)) (Done (Value.bool false = Value.bool true))
      (ifB (!b_1) (Done (Value.bool false = Value.bool true))
      (ifB b (Done (Value.bool false = Value.bool true))
      (ifB (n_6 != s) (Done (Value.bool false = Value.bool true))
      (ifB
      (!(n_7 == an.er && (n_8 == an.va && (n_9 == an.le && (n_10 == an.mo && true)))))
      (Done (Value.bool false = Value.bool true))
      (∃ (S' : Nat → Prop),
      (∀ (b : Nat), S' b → m'.uf b ∧ (N ≤ b ∨ False)) ∧
      ∀ (n_11 : Nat),
      m'.sz ≤ n_11 →
      SpecW Try.prog (18 : Nat)
      [Value.slice a n c_3, Value.int IntKind.i64 c,
      Value.int IntKind.i64 s]
      { π := m'.π, sz := n_11, uf := m'.uf : M } S'
      fun (v : Value) (m' : M) =>
      ∃ (a_5 : Option Addr),
      ∃ (n_12 : Nat),
      ∃ (c_4 : Nat),
      ∃ (b : Bool),
      ∃ (n_13 : Int),
      v =
      Value.tuple
      #[Value.slice a_5 n_12 c_4, Value.bool b,
      Value.int IntKind.i64 n_13] ∧
      ifB b (Done (Value.bool false = Value.bool true))
      (ifB (n_13 != (0 : Int))
      (Done (Value.bool false = Value.bool true))
      (∃ (S' : Nat → Prop),
      (∀ (b : Nat), S' b → m'.uf b ∧ (N ≤ b ∨ False)) ∧
      ∀ (n_14 : Nat),
      m'.sz ≤ n_14 →
      SpecW Try.prog (10 : Nat)
      [Value.slice a2 l2.length c2]
      { π := m'.π, sz := n_14, uf := m'.uf : M }
      S' fun (v : Value) (m' : M) =>
      ∃ (a_7 : Option Addr),
      ∃ (n_15 : Nat),
      ∃ (c_5 : Nat),
      v = Value.slice a_7 n_15 c_5 ∧
      ∃ (S' : Nat → Prop),
      (∀ (b : Nat),
      S' b →
      m'.uf b ∧ (N ≤ b ∨ False)) ∧
      ∀ (n_16 : Nat),
      m'.sz ≤ n_16 →
      SpecW Try.prog (11 : Nat)
      [Value.slice a n c_3,
      Value.slice a_7 n_15
      c_5]
      { π := m'.π, sz := n_16, uf := m'.uf : M }
      S'
      fun (v : Value)
      (m' : M) =>
      ∃ (a_9 : Option Addr),
      ∃ (n_17 : Nat),
      ∃ (c_6 : Nat),
      ∃ (n_18 : Int),
      v =
      Value.tuple
      #[Value.slice
      a_9 n_17
      c_6,
      Value.int
      IntKind.i64
      n_18] ∧
      ∃ (S' :
      Nat → Prop),
      (∀ (b : Nat),
      S' b →
      m'.uf
      b ∧
      (N ≤
      b ∨
      False)) ∧
      ∀
      (n_19 :
      Nat),
      m'.sz ≤
      n_19 →
      SpecW
      Try.prog
      (10 :
      Nat)
      [Value.slice
      a2
      l2.length
      c2]
      { π := m'.π, sz := n_19, uf := m'.uf : M }
      S'
      fun
      (v :
      Value)
      (m' :
      M) =>
      ∃
      (a_11
      :
      Option
      Addr),
      ∃
      (n_20
      :
      Nat),
      ∃
      (c_7
      :
      Nat),
      v =
      Value.slice
      a_11
      n_20
      c_7 ∧
      ∃
      (S'
      :
      Nat →
      Prop),
      (∀
      (b :
      Nat),
      S'
      b →
      m'.uf
      b ∧
      (N ≤
      b ∨
      False)) ∧
      ∀
      (n_21 :
      Nat),
      m'.sz ≤
      n_21 →
      SpecW
      Try.prog
      (11 :
      Nat)
      [Value.slice
      a_11
      n_20
      c_7,
      Value.slice
      a
      n
      c_3]
      { π := m'.π, sz := n_21, uf := m'.uf : M }
      S'
      fun
      (v :
      Value)
      (m' :
      M) =>
      ∃
      (a
      :
      Option
      Addr),
      ∃
      (n
      :
      Nat),
      ∃
      (c_8
      :
      Nat),
      ∃
      (n_22
      :
      Int),
      v =
      Value.tuple
      #[Value.slice
      a
      n
      c_8,
      Value.int
      IntKind.i64
      n_22] ∧
      ifB
      (n_18 !=
      (0 :
      Int))
      (ifB
      (n_18 ==
      (21 :
      Int))
      (ifB
      (n_22 ==
      n_18)
      (∃
      (b
      :
      Bool),
      QSpec
      Try.prog
      (16 :
      Nat)
      [Value.slice
      a2
      l2.length
      c2]
      m'
      (Value.bool
      b) ∧
      Done
      ((Value.bool
      !b) =
      Value.bool
      true))
      (Done
      (Value.bool
      false =
      Value.bool
      true)))
      (Done
      (Value.bool
      false =
      Value.bool
      true)))
      (ifB
      (n_22 !=
      (0 :
      Int))
      (ifB
      (n_18 ==
      (21 :
      Int))
      (ifB
      (n_22 ==
      n_18)
      (∃
      (b
      :
      Bool),
      QSpec
      Try.prog
      (16 :
      Nat)
      [Value.slice
      a2
      l2.length
      c2]
      m'
      (Value.bool
      b) ∧
      Done
      ((Value.bool
      !b) =
      Value.bool
      true))
      (Done
      (Value.bool
      false =
      Value.bool
      true)))
      (Done
      (Value.bool
      false =
      Value.bool
      true)))
      (∃
      (S'
      :
      Nat →
      Prop),
      (∀
      (b :
      Nat),
      S'
      b →
      m'.uf
      b ∧
      (N ≤
      b ∨
      False)) ∧
      ∀
      (n_23 :
      Nat),
      m'.sz ≤
      n_23 →
      SpecW
      Try.prog
      (18 :
      Nat)
      [Value.slice
      a_9
      n_17
      c_6,
      Value.int
      IntKind.i64
      c,
      Value.int
      IntKind.i64
      s]
      { π := m'.π, sz := n_23, uf := m'.uf : M }
      S'
      fun
      (v :
      Value)
      (m' :
      M) =>
      ∃
      (a_14
      :
      Option
      Addr),
      ∃
      (n_24
      :
      Nat),
      ∃
      (c_9
      :
      Nat),
      ∃
      (b
      :
      Bool),
      ∃
      (n_25
      :
      Int),
      v =
      Value.tuple
      #[Value.slice
      a_14
      n_24
      c_9,
      Value.bool
      b,
      Value.int
      IntKind.i64
      n_25] ∧
      ∃
      (S'
      :
      Nat →
      Prop),
      (∀
      (b :
      Nat),
      S'
      b →
      m'.uf
      b ∧
      (N ≤
      b ∨
      False)) ∧
      ∀
      (n_26 :
      Nat),
      m'.sz ≤
      n_26 →
      SpecW
      Try.prog
      (18 :
      Nat)
      [Value.slice
      a
      n
      c_8,
      Value.int
      IntKind.i64
      c,
      Value.int
      IntKind.i64
      s]
      { π := m'.π, sz := n_26, uf := m'.uf : M }
      S'
      fun
      (v :
      Value)
      (m' :
      M) =>
      ∃
      (a
      :
      Option
      Addr),
      ∃
      (n
      :
      Nat),
      ∃
      (c
      :
      Nat),
      ∃
      (b_2
      :
      Bool),
      ∃
      (n_27
      :
      Int),
      v =
      Value.tuple
      #[Value.slice
      a
      n
      c,
      Value.bool
      b_2,
      Value.int
      IntKind.i64
      n_27] ∧
      ifB
      (!b)
      (Done
      ((Value.bool
      !b_2) =
      Value.bool
      true))
      (Done
      (Value.bool
      false =
      Value.bool
      true))))))))))))))) (by kernel_rfl) ?_
  have R : Rs { m with sz := N } [(a, mks l), (a2, mks l2)] := ⟨h.sz hN, h2.sz hN, trivial⟩
  refine ⟨rfl, _, awake_q _, ifB_false ?_⟩
  refine ⟨_, noS, fun N1 hN1 => (own_s a cp l hn _ ((R.sz hN1).1)).monoW fun v1 m1 ag1 q1 => ?_⟩
  obtain ⟨b1, e1, r1⟩ := q1
  refine ⟨_, _, _, e1, ?_⟩
  have R1 := Rs.cons r1 (Rs.step R hN1 ag1)
  refine ⟨_, noS, fun N2 hN2 => (sbegin_s _ _ l c s (by omega) _ ((R1.sz hN2).1.take)).monoW fun v2 m2 ag2 q2 => ?_⟩
  obtain ⟨x2, y2, e2, r2⟩ := q2
  refine ⟨_, _, _, _, _, e2, ?_⟩
  have R2 := Rs.cons r2 (Rs.step R1 hN2 ag2)
  rcases begin_cases l c s with ⟨g1, -, -⟩ | ⟨ht, ha, hbq, ho⟩
  · rw [g1]; exact ifB_intro (fun _ => ⟨rfl⟩) (fun _ => ifB_true ⟨rfl⟩)
  have F := fresh_of ht ha ho
  generalize hb : insM l (opM c s) = b at F hbq
  rw [hbq] at R2 ⊢
  simp only [bne_self_eq_false, beq_self_eq_true, Bool.not_true, Bool.not_false, Bool.and_self, Bool.and_true, decide_true]
  obtain ⟨q1, q2, q3, q4⟩ := end_law (an := an) F
  have h8b := tab8 F.btab
  have h8c := tab8 q2
  refine ifB_false (ifB_false ?_)
  refine ⟨_, noS, fun N3 hN3 => (send_s _ _ b c s an (by omega) _ ((R2.sz hN3).1)).monoW fun v3 m3 ag3 q3 => ?_⟩
  obtain ⟨x3, y3, e3, r3⟩ := q3
  refine ⟨_, _, _, _, e3, ?_⟩
  have R3 := Rs.cons r3 (Rs.step R2 hN3 ag3)
  rw [q1] at R3 ⊢
  have hf : findO (insM b (edM c s an)) c = some (edM c s an) := by simp only [findO, q2, if_true]; exact q3
  refine ⟨_, _, _, _, _, _, _, _, find_q _ _ (insM b (edM c s an)) c (by omega) _ (R3.1), ?_⟩
  rw [hf]
  simp only [Option.getD_some, Option.isSome_some, edM, bne_self_eq_false, beq_self_eq_true, Bool.not_true, Bool.not_false, Bool.and_self, Bool.and_true, decide_true]
  refine ifB_false (ifB_false (ifB_false (ifB_false (ifB_false ?_))))
  refine ⟨_, noS, fun N4 hN4 => (sbegin_s _ _ (insM b (edM c s an)) c s (by omega) _ ((R3.sz hN4).1)).monoW fun v4 m4 ag4 q4 => ?_⟩
  obtain ⟨x4, y4, e4, r4⟩ := q4
  refine ⟨_, _, _, _, _, e4, ?_⟩
  have R4 := Rs.cons r4 (Rs.step R3 hN4 ag4)
  rw [q4] at R4 ⊢
  simp only [bne_self_eq_false, beq_self_eq_true, Bool.not_true, Bool.not_false, Bool.and_self, Bool.and_true, decide_true]
  refine ifB_false (ifB_false ?_)
  refine ⟨_, noS, fun N5 hN5 => (own_s a2 c2 l2 hn2 _ ((R4.sz hN5).2.2.2.2.2.1)).monoW fun v5 m5 ag5 q5 => ?_⟩
  obtain ⟨b5, e5, r5⟩ := q5
  refine ⟨_, _, _, e5, ?_⟩
  have R5 := Rs.cons r5 (Rs.step R4 hN5 ag5)
  refine ⟨_, noS, fun N6 hN6 => (sjoin_s _ _ _ _ (insM b (edM c s an)) l2 (by omega) (by omega) _ ((R5.sz hN6).2.2.1) ((R5.sz hN6).1.take)).monoW fun v6 m6 ag6 q6 => ?_⟩
  obtain ⟨x6, y6, e6, r6⟩ := q6
  refine ⟨_, _, _, _, e6, ?_⟩
  have R6 := Rs.cons r6 (Rs.step R5 hN6 ag6)
  refine ⟨_, noS, fun N7 hN7 => (own_s a2 c2 l2 hn2 _ ((R6.sz hN7).2.2.2.2.2.2.2.1)).monoW fun v7 m7 ag7 q7 => ?_⟩
  obtain ⟨b7, e7, r7⟩ := q7
  refine ⟨_, _, _, e7, ?_⟩
  have R7 := Rs.cons r7 (Rs.step R6 hN7 ag7)
  refine ⟨_, noS, fun N8 hN8 => (sjoin_s _ _ _ _ l2 (insM b (edM c s an)) (by omega) (by omega) _ ((R7.sz hN8).1.take) ((R7.sz hN8).2.2.2.2.1)).monoW fun v8 m8 ag8 q8 => ?_⟩
  obtain ⟨x8, y8, e8, r8⟩ := q8
  refine ⟨_, _, _, _, e8, ?_⟩
  have R8 := Rs.cons r8 (Rs.step R7 hN8 ag8)
  cases e2 : tabB 0 l2
  · have k1 : joinM (insM b (edM c s an)) l2 = ([], 21) := by simp [joinM, e2]
    have k2 : joinM l2 (insM b (edM c s an)) = ([], 21) := by simp [joinM, e2]
    rw [k1, k2]
    exact ifB_true (ifB_true (ifB_true ⟨_, rright_q _ _ l2 (by omega) _ (R8.2.2.2.2.2.2.2.2.2.1), ⟨by simp [e2]⟩⟩))
  · have k1 : joinM (insM b (edM c s an)) l2 = (foldM (insM b (edM c s an)) l2, 0) := by simp [joinM, e2, q2]
    have k2 : joinM l2 (insM b (edM c s an)) = (foldM l2 (insM b (edM c s an)), 0) := by simp [joinM, e2, q2]
    rw [k1, k2]
    rw [k1, k2] at R8
    simp only [bne_self_eq_false, beq_self_eq_true, Bool.not_true, Bool.not_false, Bool.and_self, Bool.and_true, decide_true]
    have h81 := tab8 (fold_ok q2 e2)
    have h82 := tab8 (fold_ok e2 q2)
    obtain ⟨f1, f2⟩ := once_law q2 e2 q3 rfl
    refine ifB_false (ifB_false ?_)
    refine ⟨_, noS, fun N9 hN9 => (sbegin_s _ _ (foldM (insM b (edM c s an)) l2) c s (by omega) _ ((R8.sz hN9).2.2.1)).monoW fun v9 m9 ag9 q9 => ?_⟩
    obtain ⟨x9, y9, e9, r9⟩ := q9
    refine ⟨_, _, _, _, _, e9, ?_⟩
    have R9 := Rs.cons r9 (Rs.step R8 hN9 ag9)
    refine ⟨_, noS, fun N10 hN10 => (sbegin_s _ _ (foldM l2 (insM b (edM c s an))) c s (by omega) _ ((R9.sz hN10).2.1)).monoW fun v10 m10 ag10 q10 => ?_⟩
    obtain ⟨x10, y10, e10, r10⟩ := q10
    refine ⟨_, _, _, _, _, e10, ?_⟩
    have R10 := Rs.cons r10 (Rs.step R9 hN10 ag10)
    have f1 : (beginM (foldM (insM b (edM c s an)) l2) c s).2.1 = false := f1
    have f2 : (beginM (foldM l2 (insM b (edM c s an))) c s).2.1 = false := f2
    rw [f1, f2]
    exact ifB_true ⟨rfl⟩

end Go.Proofs.Ytpfiodchlbofmaa
