/-
  Contracts of functions of this seat: what each hands back, and what it leaves of memory (ses9). Nothing here is trusted: Lean checks it.
-/
import Derived.Test.YtpfiodchlbofmaaSes8
set_option linter.unusedVariables false
set_option linter.unusedSimpArgs false
namespace Go.Proofs.Ytpfiodchlbofmaa
open Go.Vc Go.RowKit
set_option maxRecDepth 100000

set_option maxHeartbeats 1000000 in
theorem sessionloses (a : Option Addr) (cp : Nat) (l : List Mk) (c s w : Int) (hn : l.length ≤ 1048576) (m : M) (h : Row m a (mks l)) :
    QSpec Try.prog 5 [.slice a l.length cp, I c, I s, I w] m (.bool true) := by
  refine QSpec.of_vc Try.func5 (ann := fun _ => noAnn) fun N hN => ?_
  refine vc_by (X :=
      true = true ∧
      ∃ (b : Bool),
      QSpec Try.prog (13 : Nat) [] { π := m.π, sz := N, uf := m.uf : M } (Value.bool b) ∧
      ifB (!b) (Done (Value.bool false = Value.bool true))
      (∃ (S' : Nat → Prop),
      (∀ (b : Nat), S' b → m.uf b ∧ (N ≤ b ∨ False)) ∧
      ∀ (n : Nat),
      N ≤ n →
      SpecW Try.prog (10 : Nat) [Value.slice a l.length cp] { π := m.π, sz := n, uf := m.uf : M } S' fun (v : Value) (m' : M) =>
      ∃ (a : Option Addr),
      ∃ (n : Nat),
      ∃ (c_1 : Nat),
      v = Value.slice a n c_1 ∧
      ∃ (S' : Nat → Prop),
      (∀ (b : Nat), S' b → m'.uf b ∧ (N ≤ b ∨ False)) ∧
      ∀ (n_1 : Nat),
      m'.sz ≤ n_1 →
      SpecW Try.prog (18 : Nat) [Value.slice a n c_1, Value.int IntKind.i64 c, Value.int IntKind.i64 s] { π := m'.π, sz := n_1, uf := m'.uf : M } S'
      fun (v : Value) (m' : M) =>
      ∃ (a : Option Addr),
      ∃ (n : Nat),
      ∃ (c_2 : Nat),
      ∃ (b : Bool),
      ∃ (n_2 : Int),
      v = Value.tuple #[Value.slice a n c_2, Value.bool b, Value.int IntKind.i64 n_2] ∧
      ifB (n_2 != (0 : Int)) (Done ((Value.bool !b) = Value.bool true))
      (ifB (!b) (Done ((Value.bool !b) = Value.bool true))
      (∃ (S' : Nat → Prop),
      (∀ (b : Nat), S' b → m'.uf b ∧ (N ≤ b ∨ False)) ∧
      ∀ (n_3 : Nat),
      m'.sz ≤ n_3 →
      SpecW Try.prog (19 : Nat) [Value.slice a n c_2, Value.int IntKind.i64 c, Value.int IntKind.i64 s]
      { π := m'.π, sz := n_3, uf := m'.uf : M } S' fun (v : Value) (m' : M) =>
      ∃ (a_4 : Option Addr),
      ∃ (n_4 : Nat),
      ∃ (c_3 : Nat),
      ∃ (n_5 : Int),
      v = Value.tuple #[Value.slice a_4 n_4 c_3, Value.int IntKind.i64 n_5] ∧
      ∃ (S' : Nat → Prop),
      (∀ (b : Nat), S' b → m'.uf b ∧ (N ≤ b ∨ False)) ∧
      ∀ (n_6 : Nat),
      m'.sz ≤ n_6 →
      SpecW Try.prog (18 : Nat)
      [Value.slice a_4 n_4 c_3, Value.int IntKind.i64 c, Value.int IntKind.i64 s]
      { π := m'.π, sz := n_6, uf := m'.uf : M } S' fun (v : Value) (m' : M) =>
      ∃ (a_6 : Option Addr),
      ∃ (n_7 : Nat),
      ∃ (c_4 : Nat),
      ∃ (b : Bool),
      ∃ (n_8 : Int),
      v = Value.tuple #[Value.slice a_6 n_7 c_4, Value.bool b, Value.int IntKind.i64 n_8] ∧
      ifB (n_5 != (0 : Int)) (Done (Value.bool false = Value.bool true))
      (ifB (!b) (Done (Value.bool false = Value.bool true))
      (ifB (n_8 != (0 : Int)) (Done (Value.bool false = Value.bool true))
      (∃ (b : Bool),
      QSpec Try.prog (14 : Nat) [Value.slice a_6 n_7 c_4, Value.slice a n c_2] m'
      (Value.bool b) ∧
      ifB (!b) (Done (Value.bool false = Value.bool true))
      (∃ (S' : Nat → Prop),
      (∀ (b : Nat), S' b → m'.uf b ∧ (N ≤ b ∨ False)) ∧
      ∀ (n : Nat),
      m'.sz ≤ n →
      SpecW Try.prog (18 : Nat)
      [Value.slice a_4 n_4 c_3, Value.int IntKind.i64 c,
      Value.int IntKind.i64 w]
      { π := m'.π, sz := n, uf := m'.uf : M } S'
      fun (v : Value) (m' : M) =>
      ∃ (a : Option Addr),
      ∃ (n : Nat),
      ∃ (c : Nat),
      ∃ (b : Bool),
      ∃ (n_9 : Int),
      v =
      Value.tuple
      #[Value.slice a n c, Value.bool b,
      Value.int IntKind.i64 n_9] ∧
      ifB (!b) (Done (Value.bool true = Value.bool true))
      (Done
      (Value.bool (decide (w ≥ s)) =
      Value.bool true)))))))))) (by kernel_rfl) ?_
  have R : Rs { m with sz := N } [(a, mks l)] := ⟨h.sz hN, trivial⟩
  refine ⟨rfl, _, awake_q _, ifB_false ?_⟩
  refine ⟨_, noS, fun N1 hN1 => (own_s a cp l hn _ ((R.sz hN1).1)).monoW fun v1 m1 ag1 q1 => ?_⟩
  obtain ⟨b1, e1, r1⟩ := q1
  refine ⟨_, _, _, e1, ?_⟩
  have R1 := Rs.cons r1 (Rs.step R hN1 ag1)
  refine ⟨_, noS, fun N2 hN2 => (sbegin_s _ _ l c s (by omega) _ ((R1.sz hN2).1.take)).monoW fun v2 m2 ag2 q2 => ?_⟩
  obtain ⟨x2, y2, e2, r2⟩ := q2
  refine ⟨_, _, _, _, _, e2, ?_⟩
  have R2 := Rs.cons r2 (Rs.step R1 hN2 ag2)
  rcases begin_cases l c s with ⟨g1, -, -⟩ | ⟨ht, ha, hbq, ho⟩
  · rw [g1]; exact ifB_intro (fun _ => ⟨rfl⟩) (fun _ => ifB_true ⟨rfl⟩)
  have F := fresh_of ht ha ho
  generalize hb : insM l (opM c s) = b at F hbq
  rw [hbq] at R2 ⊢
  simp only [bne_self_eq_false, beq_self_eq_true, Bool.not_true, Bool.not_false, Bool.and_self, Bool.and_true, decide_true]
  obtain ⟨q1, q2, q3, q4⟩ := lose_law F
  have h8b := tab8 F.btab
  have h8c := tab8 q2
  refine ifB_false (ifB_false ?_)
  refine ⟨_, noS, fun N3 hN3 => (slose_s _ _ b c s (by omega) _ ((R2.sz hN3).1)).monoW fun v3 m3 ag3 q3 => ?_⟩
  obtain ⟨x3, y3, e3, r3⟩ := q3
  refine ⟨_, _, _, _, e3, ?_⟩
  have R3 := Rs.cons r3 (Rs.step R2 hN3 ag3)
  rw [q1] at R3 ⊢
  refine ⟨_, noS, fun N4 hN4 => (sbegin_s _ _ (insM b (loM c s)) c s (by omega) _ ((R3.sz hN4).1)).monoW fun v4 m4 ag4 q4 => ?_⟩
  obtain ⟨x4, y4, e4, r4⟩ := q4
  refine ⟨_, _, _, _, _, e4, ?_⟩
  have R4 := Rs.cons r4 (Rs.step R3 hN4 ag4)
  rw [q3] at R4 ⊢
  simp only [bne_self_eq_false, beq_self_eq_true, Bool.not_true, Bool.not_false, Bool.and_self, Bool.and_true, decide_true]
  refine ifB_false (ifB_false (ifB_false ⟨_, mk_plain _ _ _ _ _ _ (by omega) _ (R4.1) (R4.2.2.1), ?_⟩))
  simp only [bne_self_eq_false, beq_self_eq_true, Bool.not_true, Bool.not_false, Bool.and_self, Bool.and_true, decide_true]
  refine ifB_false ?_
  refine ⟨_, noS, fun N5 hN5 => (sbegin_s _ _ (insM b (loM c s)) c w (by omega) _ ((R4.sz hN5).2.1)).monoW fun v5 m5 ag5 q5 => ?_⟩
  obtain ⟨x5, y5, e5, r5⟩ := q5
  refine ⟨_, _, _, _, _, e5, ?_⟩
  have R5 := Rs.cons r5 (Rs.step R4 hN5 ag5)
  exact ifB_intro (fun _ => ⟨by trivial⟩) (fun hh => ⟨by have := q4 w (by simpa using hh); simp; omega⟩)

set_option maxHeartbeats 1000000 in
theorem sessionothers (a : Option Addr) (cp : Nat) (l : List Mk) (c s o : Int) (an : An) (hn : l.length ≤ 1048576) (m : M) (h : Row m a (mks l)) :
    QSpec Try.prog 6 [.slice a l.length cp, I c, I s, I o, anv an] m (.bool true) := by
  refine QSpec.of_vc Try.func6 (ann := fun _ => noAnn) fun N hN => ?_
  refine vc_by (X :=
      true = true ∧
      ∃ (b : Bool),
      QSpec Try.prog (13 : Nat) [] { π := m.π, sz := N, uf := m.uf : M } (Value.bool b) ∧
      ifB (!b) (∃ (b : Bool), QSpec Try.prog (13 : Nat) [] { π := m.π, sz := N, uf := m.uf : M } (Value.bool b) ∧ Done (Value.bool b = Value.bool true))
      (ifB (c == o) (∃ (b : Bool), QSpec Try.prog (13 : Nat) [] { π := m.π, sz := N, uf := m.uf : M } (Value.bool b) ∧ Done (Value.bool b = Value.bool true))
      (∃ (S' : Nat → Prop),
      (∀ (b : Nat), S' b → m.uf b ∧ (N ≤ b ∨ False)) ∧
      ∀ (n : Nat),
      N ≤ n →
      SpecW Try.prog (10 : Nat) [Value.slice a l.length cp] { π := m.π, sz := n, uf := m.uf : M } S' fun (v : Value) (m' : M) =>
      ∃ (a_2 : Option Addr),
      ∃ (n : Nat),
      ∃ (c_1 : Nat),
      v = Value.slice a_2 n c_1 ∧
      ∃ (n_1 : Int),
      ∃ (n_2 : Int),
      ∃ (b : Bool),
      ∃ (n_3 : Int),
      ∃ (n_4 : Int),
      ∃ (n_5 : Int),
      ∃ (n_6 : Int),
      ∃ (b_1 : Bool),
      QSpec Try.prog (17 : Nat) [Value.slice a_2 n c_1, Value.int IntKind.i64 o] m'
      (Value.tuple
      #[Value.agg
      #[Value.int IntKind.i64 n_1, Value.int IntKind.i64 n_2, Value.bool b, Value.int IntKind.i64 n_3, Value.int IntKind.i64 n_4,
      Value.int IntKind.i64 n_5, Value.int IntKind.i64 n_6],
      Value.bool b_1]) ∧
      ∃ (S' : Nat → Prop),
      (∀ (b : Nat), S' b → m'.uf b ∧ (N ≤ b ∨ False)) ∧
      ∀ (n : Nat),
      m'.sz ≤ n →
      SpecW Try.prog (10 : Nat) [Value.slice a l.length cp] { π := m'.π, sz := n, uf := m'.uf : M } S' fun (v : Value) (m' : M) =>
      ∃ (a : Option Addr),
      ∃ (n : Nat),
      ∃ (c_2 : Nat),
      v = Value.slice a n c_2 ∧
      ∃ (S' : Nat → Prop),
      (∀ (b : Nat), S' b → m'.uf b ∧ (N ≤ b ∨ False)) ∧
      ∀ (n_7 : Nat),
      m'.sz ≤ n_7 →
      SpecW Try.prog (18 : Nat) [Value.slice a n c_2, Value.int IntKind.i64 c, Value.int IntKind.i64 s]
      { π := m'.π, sz := n_7, uf := m'.uf : M } S' fun (v : Value) (m' : M) =>
      ∃ (a : Option Addr),
      ∃ (n : Nat),
      ∃ (c_3 : Nat),
      ∃ (b_2 : Bool),
      ∃ (n_8 : Int),
      v = Value.tuple #[Value.slice a n c_3, Value.bool b_2, Value.int IntKind.i64 n_8] ∧
      ifB (n_8 != (0 : Int)) (Done (Value.bool ((↑n : Int) == (0 : Int)) = Value.bool true))
      (∃ (S' : Nat → Prop),
      (∀ (b : Nat), S' b → m'.uf b ∧ (N ≤ b ∨ False)) ∧
      ∀ (n_9 : Nat),
      m'.sz ≤ n_9 →
      SpecW Try.prog (20 : Nat)
      [Value.slice a n c_3, Value.int IntKind.i64 c, Value.int IntKind.i64 s,
      Value.agg
      #[Value.int IntKind.i64 an.er, Value.int IntKind.i64 an.va,
      Value.int IntKind.i64 an.le, Value.int IntKind.i64 an.mo]]
      { π := m'.π, sz := n_9, uf := m'.uf : M } S' fun (v : Value) (m' : M) =>
      ∃ (a_6 : Option Addr),
      ∃ (n_10 : Nat),
      ∃ (c : Nat),
      ∃ (n_11 : Int),
      v = Value.tuple #[Value.slice a_6 n_10 c, Value.int IntKind.i64 n_11] ∧
      ∃ (n_12 : Int),
      ∃ (n_13 : Int),
      ∃ (b_3 : Bool),
      ∃ (n_14 : Int),
      ∃ (n_15 : Int),
      ∃ (n_16 : Int),
      ∃ (n_17 : Int),
      ∃ (b_4 : Bool),
      QSpec Try.prog (17 : Nat)
      [Value.slice a n c_3, Value.int IntKind.i64 o] m'
      (Value.tuple
      #[Value.agg
      #[Value.int IntKind.i64 n_12,
      Value.int IntKind.i64 n_13, Value.bool b_3,
      Value.int IntKind.i64 n_14,
      Value.int IntKind.i64 n_15,
      Value.int IntKind.i64 n_16,
      Value.int IntKind.i64 n_17],
      Value.bool b_4]) ∧
      ifB
      (!(n_12 == n_1 &&
      (n_13 == n_2 &&
      (b_3 == b &&
      (n_14 == n_3 &&
      (n_15 == n_4 &&
      (n_16 == n_5 &&
      (n_17 == n_6 && true))) &&
      true)))))
      (Done (Value.bool false = Value.bool true))
      (ifB (!b_4 == b_1)
      (Done (Value.bool false = Value.bool true))
      (ifB (n_11 != (0 : Int))
      (Done
      (Value.bool ((↑n_10 : Int) == (0 : Int)) =
      Value.bool true))
      (∃ (n_18 : Int),
      ∃ (n_19 : Int),
      ∃ (b_5 : Bool),
      ∃ (n_20 : Int),
      ∃ (n_21 : Int),
      ∃ (n_22 : Int),
      ∃ (n_23 : Int),
      ∃ (b_6 : Bool),
      QSpec Try.prog (17 : Nat)
      [Value.slice a_6 n_10 c,
      Value.int IntKind.i64 o]
      m'
      (Value.tuple
      #[Value.agg
      #[Value.int
      IntKind.i64 n_18,
      Value.int
      IntKind.i64 n_19,
      Value.bool b_5,
      Value.int
      IntKind.i64 n_20,
      Value.int
      IntKind.i64 n_21,
      Value.int
      IntKind.i64 n_22,
      Value.int
      IntKind.i64 n_23],
      Value.bool b_6]) ∧
      ifB
      (n_18 == n_1 &&
      (n_19 == n_2 &&
      (b_5 == b &&
      (n_20 == n_3 &&
      (n_21 == n_4 &&
      (n_22 == n_5 &&
      (n_23 ==
      n_6 &&
      true))) &&
      true))))
      (ifB (b_6 == b_1)
      (Done
      (Value.bool
      ((↑n_10 : Int) ==
      (↑n : Int)) =
      Value.bool true))
      (Done
      (Value.bool false =
      Value.bool true)))
      (Done
      (Value.bool false =
      Value.bool true))))))))) (by kernel_rfl) ?_
  have R : Rs { m with sz := N } [(a, mks l)] := ⟨h.sz hN, trivial⟩
  refine ⟨rfl, _, awake_q _, ifB_false (ifB_intro (fun _ => ⟨_, awake_q _, ⟨rfl⟩⟩) (fun hne => ?_))⟩
  have hne : c ≠ o := by simpa using hne
  refine ⟨_, noS, fun N1 hN1 => (own_s a cp l hn _ ((R.sz hN1).1)).monoW fun v1 m1 ag1 q1 => ?_⟩
  obtain ⟨b1, e1, r1⟩ := q1
  refine ⟨_, _, _, e1, ?_⟩
  have R1 := Rs.cons r1 (Rs.step R hN1 ag1)
  refine ⟨_, _, _, _, _, _, _, _, find_q _ _ l o (by omega) _ (R1.1.take), ?_⟩
  refine ⟨_, noS, fun N2 hN2 => (own_s a cp l hn _ ((R1.sz hN2).2.1)).monoW fun v2 m2 ag2 q2 => ?_⟩
  obtain ⟨b2, e2, r2⟩ := q2
  refine ⟨_, _, _, e2, ?_⟩
  have R2 := Rs.cons r2 (Rs.step R1 hN2 ag2)
  refine ⟨_, noS, fun N3 hN3 => (sbegin_s _ _ l c s (by omega) _ ((R2.sz hN3).1.take)).monoW fun v3 m3 ag3 q3 => ?_⟩
  obtain ⟨x3, y3, e3, r3⟩ := q3
  refine ⟨_, _, _, _, _, e3, ?_⟩
  have R3 := Rs.cons r3 (Rs.step R2 hN3 ag3)
  have hlb := begin_len l c s
  refine ifB_intro (fun h0 => ⟨?_⟩) (fun h0 => ?_)
  · have h0 : (beginM l c s).2.2 ≠ 0 := by simpa using h0
    have : (beginM l c s).1 = [] := by
      rcases begin_cases l c s with ⟨-, -, g⟩ | ⟨-, -, g, -⟩
      · exact g h0
      · rw [g] at h0; exact absurd rfl h0
    simp [this]
  have h0 : (beginM l c s).2.2 = 0 := by simpa using h0
  obtain ⟨o1, o2, o3⟩ := others_law l c s o an hne h0
  refine ⟨_, noS, fun N4 hN4 => (send_s _ _ (beginM l c s).1 c s an (by omega) _ ((R3.sz hN4).1)).monoW fun v4 m4 ag4 q4 => ?_⟩
  obtain ⟨x4, y4, e4, r4⟩ := q4
  refine ⟨_, _, _, _, e4, ?_⟩
  have R4 := Rs.cons r4 (Rs.step R3 hN4 ag4)
  refine ⟨_, _, _, _, _, _, _, _, find_q _ _ (beginM l c s).1 o (by omega) _ (R4.2.1), ?_⟩
  rw [o1]
  simp only [bne_self_eq_false, beq_self_eq_true, Bool.not_true, Bool.not_false, Bool.and_self, Bool.and_true, decide_true]
  have hle := end_len (beginM l c s).1 c s an
  refine ifB_false (ifB_false (ifB_intro (fun h1 => ⟨?_⟩) (fun h1 => ?_)))
  · have h1 := o2 (by simpa using h1)
    simp [h1]
  obtain ⟨o4, o5⟩ := o3 (by simpa using h1)
  refine ⟨_, _, _, _, _, _, _, _, find_q _ _ (endM (beginM l c s).1 c s an).1 o (by omega) _ (R4.1), ?_⟩
  rw [o4]
  simp only [bne_self_eq_false, beq_self_eq_true, Bool.not_true, Bool.not_false, Bool.and_self, Bool.and_true, decide_true]
  exact ifB_true (ifB_true ⟨by rw [o5]; simp⟩)

set_option maxHeartbeats 1000000 in
theorem sessiononce (a a2 : Option Addr) (cp c2 : Nat) (l l2 : List Mk) (c s : Int) (an : An) (hn : l.length ≤ 1048576) (hn2 : l2.length ≤ 1048576) (m : M) (h : Row m a (mks l)) (h2 : Row m a2 (mks l2)) :
    QSpec Try.prog 9 [.slice a l.length cp, I c, I s, anv an, .slice a2 l2.length c2] m (.bool true) := by
  refine QSpec.of_vc Try.func9 (ann := fun _ => noAnn) fun N hN => ?_
  refine vc_by (X :=
      true = true ∧
      ∃ (b : Bool),
      QSpec Try.prog (13 : Nat) [] { π := m.π, sz := N, uf := m.uf : M } (Value.bool b) ∧
      ifB (!b) (Done (Value.bool false = Value.bool true))
      (∃ (S' : Nat → Prop),
      (∀ (b : Nat), S' b → m.uf b ∧ (N ≤ b ∨ False)) ∧
      ∀ (n : Nat),
      N ≤ n →
      SpecW Try.prog (10 : Nat) [Value.slice a l.length cp] { π := m.π, sz := n, uf := m.uf : M } S' fun (v : Value) (m' : M) =>
      ∃ (a : Option Addr),
      ∃ (n : Nat),
      ∃ (c_1 : Nat),
      v = Value.slice a n c_1 ∧
      ∃ (S' : Nat → Prop),
      (∀ (b : Nat), S' b → m'.uf b ∧ (N ≤ b ∨ False)) ∧
      ∀ (n_1 : Nat),
      m'.sz ≤ n_1 →
      SpecW Try.prog (18 : Nat) [Value.slice a n c_1, Value.int IntKind.i64 c, Value.int IntKind.i64 s] { π := m'.π, sz := n_1, uf := m'.uf : M } S'
      fun (v : Value) (m' : M) =>
      ∃ (a : Option Addr),
      ∃ (n : Nat),
      ∃ (c_2 : Nat),
      ∃ (b : Bool),
      ∃ (n_2 : Int),
      v = Value.tuple #[Value.slice a n c_2, Value.bool b, Value.int IntKind.i64 n_2] ∧
      ifB (n_2 != (0 : Int)) (Done ((Value.bool !b) = Value.bool true))
      (ifB (!b) (Done ((Value.bool !b) = Value.bool true))
      (∃ (S' : Nat → Prop),
      (∀ (b : Nat), S' b → m'.uf b ∧ (N ≤ b ∨ False)) ∧
      ∀ (n_3 : Nat),
      m'.sz ≤ n_3 →
      SpecW Try.prog (20 : Nat)
      [Value.slice a n c_2, Value.int IntKind.i64 c, Value.int IntKind.i64 s,
      Value.agg
      #[Value.int IntKind.i64 an.er, Value.int IntKind.i64 an.va, Value.int IntKind.i64 an.le,
      Value.int IntKind.i64 an.mo]]
      { π := m'.π, sz := n_3, uf := m'.uf : M } S' fun (v : Value) (m' : M) =>
      ∃ (a : Option Addr),
      ∃ (n : Nat),
      ∃ (c_3 : Nat),
      ∃ (n_4 : Int),
      v = Value.tuple #[Value.slice a n c_3, Value.int IntKind.i64 n_4] ∧
      ∃ (n_5 : Int),
      ∃ (n_6 : Int),
      ∃ (b : Bool),
      ∃ (n_7 : Int),
      ∃ (n_8 : Int),
      ∃ (n_9 : Int),
      ∃ (n_10 : Int),
      ∃ (b_1 : Bool),
      QSpec Try.prog (17 : Nat) [Value.slice a n c_3, Value.int IntKind.i64 c] m'
      (Value.tuple
      #[Value.agg
      #[Value.int IntKind.i64 n_5, Value.int IntKind.i64 n_6, Value.bool b,
      Value.int IntKind.i64 n_7, Value.int IntKind.i64 n_8, Value.int IntKind.i64 n_9,
      Value.int IntKind.i64 n_10],
      Value.bool b_1]) ∧
      ifB (n_4 != (0 : Int)) (Done (Value.bool false = Value.bool true))
      (ifB (!b_1) (Done (Value.bool false = Value.bool true))
      (ifB b (Done (Value.bool false = Value.bool true))
      (ifB (n_6 != s) (Done (Value.bool false = Value.bool true))
      (ifB
      (!(n_7 == an.er && (n_8 == an.va && (n_9 == an.le && (n_10 == an.mo && true)))))
      (Done (Value.bool false = Value.bool true))
      (∃ (S' : Nat → Prop),
      (∀ (b : Nat), S' b → m'.uf b ∧ (N ≤ b ∨ False)) ∧
      ∀ (n_11 : Nat),
      m'.sz ≤ n_11 →
      SpecW Try.prog (18 : Nat)
      [Value.slice a n c_3, Value.int IntKind.i64 c,
      Value.int IntKind.i64 s]
      { π := m'.π, sz := n_11, uf := m'.uf : M } S'
      fun (v : Value) (m' : M) =>
      ∃ (a_5 : Option Addr),
      ∃ (n_12 : Nat),
      ∃ (c_4 : Nat),
      ∃ (b : Bool),
      ∃ (n_13 : Int),
      v =
      Value.tuple
      #[Value.slice a_5 n_12 c_4, Value.bool b,
      Value.int IntKind.i64 n_13] ∧
      ifB b (Done (Value.bool false = Value.bool true))
      (ifB (n_13 != (0 : Int))
      (Done (Value.bool false = Value.bool true))
      (∃ (S' : Nat → Prop),
      (∀ (b : Nat), S' b → m'.uf b ∧ (N ≤ b ∨ False)) ∧
      ∀ (n_14 : Nat),
      m'.sz ≤ n_14 →
      SpecW Try.prog (10 : Nat)
      [Value.slice a2 l2.length c2]
      { π := m'.π, sz := n_14, uf := m'.uf : M }
      S' fun (v : Value) (m' : M) =>
      ∃ (a_7 : Option Addr),
      ∃ (n_15 : Nat),
      ∃ (c_5 : Nat),
      v = Value.slice a_7 n_15 c_5 ∧
      ∃ (S' : Nat → Prop),
      (∀ (b : Nat),
      S' b →
      m'.uf b ∧ (N ≤ b ∨ False)) ∧
      ∀ (n_16 : Nat),
      m'.sz ≤ n_16 →
      SpecW Try.prog (11 : Nat)
      [Value.slice a n c_3,
      Value.slice a_7 n_15
      c_5]
      { π := m'.π, sz := n_16, uf := m'.uf : M }
      S'
      fun (v : Value)
      (m' : M) =>
      ∃ (a_9 : Option Addr),
      ∃ (n_17 : Nat),
      ∃ (c_6 : Nat),
      ∃ (n_18 : Int),
      v =
      Value.tuple
      #[Value.slice
      a_9 n_17
      c_6,
      Value.int
      IntKind.i64
      n_18] ∧
      ∃ (S' :
      Nat → Prop),
      (∀ (b : Nat),
      S' b →
      m'.uf
      b ∧
      (N ≤
      b ∨
      False)) ∧
      ∀
      (n_19 :
      Nat),
      m'.sz ≤
      n_19 →
      SpecW
      Try.prog
      (10 :
      Nat)
      [Value.slice
      a2
      l2.length
      c2]
      { π := m'.π, sz := n_19, uf := m'.uf : M }
      S'
      fun
      (v :
      Value)
      (m' :
      M) =>
      ∃
      (a_11
      :
      Option
      Addr),
      ∃
      (n_20
      :
      Nat),
      ∃
      (c_7
      :
      Nat),
      v =
      Value.slice
      a_11
      n_20
      c_7 ∧
      ∃
      (S'
      :
      Nat →
      Prop),
      (∀
      (b :
      Nat),
      S'
      b →
      m'.uf
      b ∧
      (N ≤
      b ∨
      False)) ∧
      ∀
      (n_21 :
      Nat),
      m'.sz ≤
      n_21 →
      SpecW
      Try.prog
      (11 :
      Nat)
      [Value.slice
      a_11
      n_20
      c_7,
      Value.slice
      a
      n
      c_3]
      { π := m'.π, sz := n_21, uf := m'.uf : M }
      S'
      fun
      (v :
      Value)
      (m' :
      M) =>
      ∃
      (a
      :
      Option
      Addr),
      ∃
      (n
      :
      Nat),
      ∃
      (c_8
      :
      Nat),
      ∃
      (n_22
      :
      Int),
      v =
      Value.tuple
      #[Value.slice
      a
      n
      c_8,
      Value.int
      IntKind.i64
      n_22] ∧
      ifB
      (n_18 !=
      (0 :
      Int))
      (ifB
      (n_18 ==
      (21 :
      Int))
      (ifB
      (n_22 ==
      n_18)
      (∃
      (b
      :
      Bool),
      QSpec
      Try.prog
      (16 :
      Nat)
      [Value.slice
      a2
      l2.length
      c2]
      m'
      (Value.bool
      b) ∧
      Done
      ((Value.bool
      !b) =
      Value.bool
      true))
      (Done
      (Value.bool
      false =
      Value.bool
      true)))
      (Done
      (Value.bool
      false =
      Value.bool
      true)))
      (ifB
      (n_22 !=
      (0 :
      Int))
      (ifB
      (n_18 ==
      (21 :
      Int))
      (ifB
      (n_22 ==
      n_18)
      (∃
      (b
      :
      Bool),
      QSpec
      Try.prog
      (16 :
      Nat)
      [Value.slice
      a2
      l2.length
      c2]
      m'
      (Value.bool
      b) ∧
      Done
      ((Value.bool
      !b) =
      Value.bool
      true))
      (Done
      (Value.bool
      false =
      Value.bool
      true)))
      (Done
      (Value.bool
      false =
      Value.bool
      true)))
      (∃
      (S'
      :
      Nat →
      Prop),
      (∀
      (b :
      Nat),
      S'
      b →
      m'.uf
      b ∧
      (N ≤
      b ∨
      False)) ∧
      ∀
      (n_23 :
      Nat),
      m'.sz ≤
      n_23 →
      SpecW
      Try.prog
      (18 :
      Nat)
      [Value.slice
      a_9
      n_17
      c_6,
      Value.int
      IntKind.i64
      c,
      Value.int
      IntKind.i64
      s]
      { π := m'.π, sz := n_23, uf := m'.uf : M }
      S'
      fun
      (v :
      Value)
      (m' :
      M) =>
      ∃
      (a_14
      :
      Option
      Addr),
      ∃
      (n_24
      :
      Nat),
      ∃
      (c_9
      :
      Nat),
      ∃
      (b
      :
      Bool),
      ∃
      (n_25
      :
      Int),
      v =
      Value.tuple
      #[Value.slice
      a_14
      n_24
      c_9,
      Value.bool
      b,
      Value.int
      IntKind.i64
      n_25] ∧
      ∃
      (S'
      :
      Nat →
      Prop),
      (∀
      (b :
      Nat),
      S'
      b →
      m'.uf
      b ∧
      (N ≤
      b ∨
      False)) ∧
      ∀
      (n_26 :
      Nat),
      m'.sz ≤
      n_26 →
      SpecW
      Try.prog
      (18 :
      Nat)
      [Value.slice
      a
      n
      c_8,
      Value.int
      IntKind.i64
      c,
      Value.int
      IntKind.i64
      s]
      { π := m'.π, sz := n_26, uf := m'.uf : M }
      S'
      fun
      (v :
      Value)
      (m' :
      M) =>
      ∃
      (a
      :
      Option
      Addr),
      ∃
      (n
      :
      Nat),
      ∃
      (c
      :
      Nat),
      ∃
      (b_2
      :
      Bool),
      ∃
      (n_27
      :
      Int),
      v =
      Value.tuple
      #[Value.slice
      a
      n
      c,
      Value.bool
      b_2,
      Value.int
      IntKind.i64
      n_27] ∧
      ifB
      (!b)
      (Done
      ((Value.bool
      !b_2) =
      Value.bool
      true))
      (Done
      (Value.bool
      false =
      Value.bool
      true))))))))))))))) (by kernel_rfl) ?_
  have R : Rs { m with sz := N } [(a, mks l), (a2, mks l2)] := ⟨h.sz hN, h2.sz hN, trivial⟩
  refine ⟨rfl, _, awake_q _, ifB_false ?_⟩
  refine ⟨_, noS, fun N1 hN1 => (own_s a cp l hn _ ((R.sz hN1).1)).monoW fun v1 m1 ag1 q1 => ?_⟩
  obtain ⟨b1, e1, r1⟩ := q1
  refine ⟨_, _, _, e1, ?_⟩
  have R1 := Rs.cons r1 (Rs.step R hN1 ag1)
  refine ⟨_, noS, fun N2 hN2 => (sbegin_s _ _ l c s (by omega) _ ((R1.sz hN2).1.take)).monoW fun v2 m2 ag2 q2 => ?_⟩
  obtain ⟨x2, y2, e2, r2⟩ := q2
  refine ⟨_, _, _, _, _, e2, ?_⟩
  have R2 := Rs.cons r2 (Rs.step R1 hN2 ag2)
  rcases begin_cases l c s with ⟨g1, -, -⟩ | ⟨ht, ha, hbq, ho⟩
  · rw [g1]; exact ifB_intro (fun _ => ⟨rfl⟩) (fun _ => ifB_true ⟨rfl⟩)
  have F := fresh_of ht ha ho
  generalize hb : insM l (opM c s) = b at F hbq
  rw [hbq] at R2 ⊢
  simp only [bne_self_eq_false, beq_self_eq_true, Bool.not_true, Bool.not_false, Bool.and_self, Bool.and_true, decide_true]
  obtain ⟨q1, q2, q3, q4⟩ := end_law (an := an) F
  have h8b := tab8 F.btab
  have h8c := tab8 q2
  refine ifB_false (ifB_false ?_)
  refine ⟨_, noS, fun N3 hN3 => (send_s _ _ b c s an (by omega) _ ((R2.sz hN3).1)).monoW fun v3 m3 ag3 q3 => ?_⟩
  obtain ⟨x3, y3, e3, r3⟩ := q3
  refine ⟨_, _, _, _, e3, ?_⟩
  have R3 := Rs.cons r3 (Rs.step R2 hN3 ag3)
  rw [q1] at R3 ⊢
  have hf : findO (insM b (edM c s an)) c = some (edM c s an) := by simp only [findO, q2, if_true]; exact q3
  refine ⟨_, _, _, _, _, _, _, _, find_q _ _ (insM b (edM c s an)) c (by omega) _ (R3.1), ?_⟩
  rw [hf]
  simp only [Option.getD_some, Option.isSome_some, edM, bne_self_eq_false, beq_self_eq_true, Bool.not_true, Bool.not_false, Bool.and_self, Bool.and_true, decide_true]
  refine ifB_false (ifB_false (ifB_false (ifB_false (ifB_false ?_))))
  refine ⟨_, noS, fun N4 hN4 => (sbegin_s _ _ (insM b (edM c s an)) c s (by omega) _ ((R3.sz hN4).1)).monoW fun v4 m4 ag4 q4 => ?_⟩
  obtain ⟨x4, y4, e4, r4⟩ := q4
  refine ⟨_, _, _, _, _, e4, ?_⟩
  have R4 := Rs.cons r4 (Rs.step R3 hN4 ag4)
  rw [q4] at R4 ⊢
  simp only [bne_self_eq_false, beq_self_eq_true, Bool.not_true, Bool.not_false, Bool.and_self, Bool.and_true, decide_true]
  refine ifB_false (ifB_false ?_)
  refine ⟨_, noS, fun N5 hN5 => (own_s a2 c2 l2 hn2 _ ((R4.sz hN5).2.2.2.2.2.1)).monoW fun v5 m5 ag5 q5 => ?_⟩
  obtain ⟨b5, e5, r5⟩ := q5
  refine ⟨_, _, _, e5, ?_⟩
  have R5 := Rs.cons r5 (Rs.step R4 hN5 ag5)
  refine ⟨_, noS, fun N6 hN6 => (sjoin_s _ _ _ _ (insM b (edM c s an)) l2 (by omega) (by omega) _ ((R5.sz hN6).2.2.1) ((R5.sz hN6).1.take)).monoW fun v6 m6 ag6 q6 => ?_⟩
  obtain ⟨x6, y6, e6, r6⟩ := q6
  refine ⟨_, _, _, _, e6, ?_⟩
  have R6 := Rs.cons r6 (Rs.step R5 hN6 ag6)
  refine ⟨_, noS, fun N7 hN7 => (own_s a2 c2 l2 hn2 _ ((R6.sz hN7).2.2.2.2.2.2.2.1)).monoW fun v7 m7 ag7 q7 => ?_⟩
  obtain ⟨b7, e7, r7⟩ := q7
  refine ⟨_, _, _, e7, ?_⟩
  have R7 := Rs.cons r7 (Rs.step R6 hN7 ag7)
  refine ⟨_, noS, fun N8 hN8 => (sjoin_s _ _ _ _ l2 (insM b (edM c s an)) (by omega) (by omega) _ ((R7.sz hN8).1.take) ((R7.sz hN8).2.2.2.2.1)).monoW fun v8 m8 ag8 q8 => ?_⟩
  obtain ⟨x8, y8, e8, r8⟩ := q8
  refine ⟨_, _, _, _, e8, ?_⟩
  have R8 := Rs.cons r8 (Rs.step R7 hN8 ag8)
  cases e2 : tabB 0 l2
  · have k1 : joinM (insM b (edM c s an)) l2 = ([], 21) := by simp [joinM, e2]
    have k2 : joinM l2 (insM b (edM c s an)) = ([], 21) := by simp [joinM, e2]
    rw [k1, k2]
    exact ifB_true (ifB_true (ifB_true ⟨_, rright_q _ _ l2 (by omega) _ (R8.2.2.2.2.2.2.2.2.2.1), ⟨by simp [e2]⟩⟩))
  · have k1 : joinM (insM b (edM c s an)) l2 = (foldM (insM b (edM c s an)) l2, 0) := by simp [joinM, e2, q2]
    have k2 : joinM l2 (insM b (edM c s an)) = (foldM l2 (insM b (edM c s an)), 0) := by simp [joinM, e2, q2]
    rw [k1, k2]
    rw [k1, k2] at R8
    simp only [bne_self_eq_false, beq_self_eq_true, Bool.not_true, Bool.not_false, Bool.and_self, Bool.and_true, decide_true]
    have h81 := tab8 (fold_ok q2 e2)
    have h82 := tab8 (fold_ok e2 q2)
    obtain ⟨f1, f2⟩ := once_law q2 e2 q3 rfl
    refine ifB_false (ifB_false ?_)
    refine ⟨_, noS, fun N9 hN9 => (sbegin_s _ _ (foldM (insM b (edM c s an)) l2) c s (by omega) _ ((R8.sz hN9).2.2.1)).monoW fun v9 m9 ag9 q9 => ?_⟩
    obtain ⟨x9, y9, e9, r9⟩ := q9
    refine ⟨_, _, _, _, _, e9, ?_⟩
    have R9 := Rs.cons r9 (Rs.step R8 hN9 ag9)
    refine ⟨_, noS, fun N10 hN10 => (sbegin_s _ _ (foldM l2 (insM b (edM c s an))) c s (by omega) _ ((R9.sz hN10).2.1)).monoW fun v10 m10 ag10 q10 => ?_⟩
    obtain ⟨x10, y10, e10, r10⟩ := q10
    refine ⟨_, _, _, _, _, e10, ?_⟩
    have R10 := Rs.cons r10 (Rs.step R9 hN10 ag10)
    have f1 : (beginM (foldM (insM b (edM c s an)) l2) c s).2.1 = false := f1
    have f2 : (beginM (foldM l2 (insM b (edM c s an))) c s).2.1 = false := f2
    rw [f1, f2]
    exact ifB_true ⟨rfl⟩

end Go.Proofs.Ytpfiodchlbofmaa
