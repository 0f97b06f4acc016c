/-
  Contracts of functions of this seat: what each hands back, and what it leaves of memory (wit15). Nothing here is trusted: Lean checks it.
-/
import Derived.Test.YtbhlhnkjmncloaaWit14
set_option linter.unusedVariables false
set_option linter.unusedSimpArgs false
namespace Go.Proofs.Ytbhlhnkjmncloaa
open Go.Vc Go.RowKit
set_option maxRecDepth 100000

def mkC : Cl := ⟨71, 0, 0, 0, .empty, .empty, 0, 0, 0, 0, 0, 0, 0, 0, 0, 0⟩

theorem witnesslegal (a : Option Addr) (cp : Nat) (l : List Cl) (hn : l.length ≤ 1048576) (hl : ∀ x ∈ l, x.wf) (m : M) (h : Row m a (cls l)) :
    QSpec Try.prog 9 [.slice a l.length cp] m (.bool true) := by
  refine QSpec.of_vc Try.func9 (ann := fun _ => noAnn) fun N hN => ?_
  refine vc_by (X :=
      true = true ∧
      ∃ (S' : Nat → Prop),
      (∀ (b : Nat), S' b → m.uf b ∧ (N ≤ b ∨ False)) ∧
      ∀ (n : Nat),
      N ≤ n →
      SpecW Try.prog (26 : Nat)
      [Value.slice a l.length cp,
      Value.agg
      #[Value.int IntKind.i64 (71 : Int), Value.int IntKind.i64 (0 : Int), Value.int IntKind.i64 (0 : Int), Value.int IntKind.i64 (0 : Int),
      Value.string { data := #[] : ByteArray }, Value.string { data := #[] : ByteArray }, Value.int IntKind.i64 (0 : Int), Value.int IntKind.i64 (0 : Int),
      Value.int IntKind.i64 (0 : Int), Value.int IntKind.i64 (0 : Int), Value.int IntKind.i64 (0 : Int), Value.int IntKind.i64 (0 : Int),
      Value.int IntKind.i64 (0 : Int), Value.int IntKind.i64 (0 : Int), Value.int IntKind.i64 (0 : Int), Value.int IntKind.i64 (0 : Int)]]
      { π := m.π, sz := n, uf := m.uf : M } S' fun (v : Value) (m' : M) =>
      ∃ (a_2 : Option Addr),
      ∃ (n : Nat),
      ∃ (c : Nat),
      v = Value.slice a_2 n c ∧
      ∃ (n_1 : Int),
      ∃ (n_2 : Int),
      QSpec Try.prog (24 : Nat) [Value.slice a_2 n c] m' (Value.tuple #[Value.int IntKind.i64 n_1, Value.int IntKind.i64 n_2]) ∧
      ∃ (n_3 : Int),
      ∃ (n_4 : Int),
      QSpec Try.prog (27 : Nat) [Value.slice a l.length cp] m' (Value.tuple #[Value.int IntKind.i64 n_3, Value.int IntKind.i64 n_4]) ∧
      ∃ (b : Bool),
      QSpec Try.prog (14 : Nat) [] m' (Value.bool b) ∧
      ifB b
      (ifB (n_1 == n_3)
      (ifB (n_2 == n_4)
      (∃ (S' : Nat → Prop),
      (∀ (b : Nat), S' b → m'.uf b ∧ (N ≤ b ∨ False)) ∧
      ∀ (n_5 : Nat),
      m'.sz ≤ n_5 →
      SpecW Try.prog (21 : Nat) [Value.slice a_2 n c] { π := m'.π, sz := n_5, uf := m'.uf : M } S' fun (v : Value) (m' : M) =>
      ∃ (a_4 : Option Addr),
      ∃ (n_6 : Nat),
      ∃ (c_1 : Nat),
      v = Value.slice a_4 n_6 c_1 ∧
      ∃ (S' : Nat → Prop),
      (∀ (b : Nat), S' b → m'.uf b ∧ (N ≤ b ∨ False)) ∧
      ∀ (n_7 : Nat),
      m'.sz ≤ n_7 →
      SpecW Try.prog (28 : Nat) [Value.slice a l.length cp] { π := m'.π, sz := n_7, uf := m'.uf : M } S'
      fun (v : Value) (m' : M) =>
      ∃ (a_6 : Option Addr),
      ∃ (n_8 : Nat),
      ∃ (c_2 : Nat),
      v = Value.slice a_6 n_8 c_2 ∧
      ∃ (b : Bool),
      QSpec Try.prog (23 : Nat) [Value.slice a_4 n_6 c_1, Value.slice a_6 n_8 c_2] m' (Value.bool b) ∧
      ifB b
      (∃ (S' : Nat → Prop),
      (∀ (b : Nat), S' b → m'.uf b ∧ (N ≤ b ∨ False)) ∧
      ∀ (n_9 : Nat),
      m'.sz ≤ n_9 →
      SpecW Try.prog (22 : Nat) [Value.slice a_2 n c]
      { π := m'.π, sz := n_9, uf := m'.uf : M } S' fun (v : Value) (m' : M) =>
      ∃ (a_8 : Option Addr),
      ∃ (n_10 : Nat),
      ∃ (c_3 : Nat),
      v = Value.slice a_8 n_10 c_3 ∧
      ∃ (S' : Nat → Prop),
      (∀ (b : Nat), S' b → m'.uf b ∧ (N ≤ b ∨ False)) ∧
      ∀ (n_11 : Nat),
      m'.sz ≤ n_11 →
      SpecW Try.prog (29 : Nat) [Value.slice a l.length cp]
      { π := m'.π, sz := n_11, uf := m'.uf : M } S'
      fun (v : Value) (m' : M) =>
      ∃ (a_10 : Option Addr),
      ∃ (n_12 : Nat),
      ∃ (c_4 : Nat),
      v = Value.slice a_10 n_12 c_4 ∧
      ∃ (b : Bool),
      QSpec Try.prog (16 : Nat)
      [Value.slice a_8 n_10 c_3, Value.slice a_10 n_12 c_4]
      m' (Value.bool b) ∧
      ifB b
      (∃ (b : Bool),
      QSpec Try.prog (30 : Nat)
      [Value.slice a_2 n c, Value.slice a l.length cp,
      Value.agg
      #[Value.int IntKind.i64 (71 : Int),
      Value.int IntKind.i64 (0 : Int),
      Value.int IntKind.i64 (0 : Int),
      Value.int IntKind.i64 (0 : Int),
      Value.string { data := #[] : ByteArray },
      Value.string { data := #[] : ByteArray },
      Value.int IntKind.i64 (0 : Int),
      Value.int IntKind.i64 (0 : Int),
      Value.int IntKind.i64 (0 : Int),
      Value.int IntKind.i64 (0 : Int),
      Value.int IntKind.i64 (0 : Int),
      Value.int IntKind.i64 (0 : Int),
      Value.int IntKind.i64 (0 : Int),
      Value.int IntKind.i64 (0 : Int),
      Value.int IntKind.i64 (0 : Int),
      Value.int IntKind.i64 (0 : Int)]]
      m' (Value.bool b) ∧
      Done (Value.bool b = Value.bool true))
      (Done (Value.bool false = Value.bool true)))
      (Done (Value.bool false = Value.bool true)))
      (Done (Value.bool false = Value.bool true)))
      (Done (Value.bool false = Value.bool true)))
      (Done (Value.bool false = Value.bool true))) (by kernel_rfl) ?_
  have R : Rs { m with sz := N } [(a, cls l)] := ⟨h.sz hN, trivial⟩
  have hrl : (runC (ordC l) []).length ≤ 9223372036854775807 := by
    have := (runC_ok (ordC l) (TotI.nil (n := 0)) (ordC_wf hl)).len
    have := ordC_le l
    omega
  have hol := ordC_le l
  refine ⟨rfl, _, noS, fun N1 hN1 => (cl_own a cp l mkC (by omega) _ ((R.sz hN1).1)).monoW fun v1 m1 ag1 q1 => ?_⟩
  obtain ⟨b1, e1, r1⟩ := q1.row
  refine ⟨_, _, _, e1, ?_⟩
  have R1 := Rs.cons r1 (Rs.step R hN1 ag1)
  refine ⟨_, _, wLegal_q _ _ l hn (by omega) hl _ R1.1.take, _, _, rLegal_q _ _ l hn hl _ R1.2.1, _, wawake_q _, ifB_true ?_⟩
  simp only [beq_self_eq_true]
  refine ifB_true (ifB_true ⟨_, noS, fun N2 hN2 => (wOrder_s _ _ l hn _ ((R1.sz hN2).1.take)).monoW fun v2 m2 ag2 q2 => ?_⟩)
  obtain ⟨x2, y2, e2, r2⟩ := q2
  refine ⟨_, _, _, e2, ?_⟩
  have R2 := Rs.cons r2 (Rs.step R1 hN2 ag2)
  refine ⟨_, noS, fun N3 hN3 => (rOrder_s _ _ l hn _ ((R2.sz hN3).2.2.1)).monoW fun v3 m3 ag3 q3 => ?_⟩
  obtain ⟨x3, y3, e3, r3⟩ := q3
  refine ⟨_, _, _, e3, ?_⟩
  have R3 := Rs.cons r3 (Rs.step R2 hN3 ag3)
  refine ⟨_, cl_plain _ _ _ _ _ _ (by omega) _ (R3.2.1) (R3.1), ?_⟩
  rw [decide_eq_true (rfl : ordC l = ordC l)]
  refine ifB_true ⟨_, noS, fun N4 hN4 => (wRun_s _ _ l hn hl _ ((R3.sz hN4).2.2.1.take)).monoW fun v4 m4 ag4 q4 => ?_⟩
  obtain ⟨x4, y4, e4, r4⟩ := q4
  refine ⟨_, _, _, e4, ?_⟩
  have R4 := Rs.cons r4 (Rs.step R3 hN4 ag4)
  refine ⟨_, noS, fun N5 hN5 => (rRun_s _ _ l hn hl _ ((R4.sz hN5).2.2.2.2.1)).monoW fun v5 m5 ag5 q5 => ?_⟩
  obtain ⟨x5, y5, e5, r5⟩ := q5
  refine ⟨_, _, _, e5, ?_⟩
  have R5 := Rs.cons r5 (Rs.step R4 hN5 ag5)
  refine ⟨_, tt_plain _ _ _ _ _ _ hrl _ (R5.2.1) (R5.1), ?_⟩
  rw [decide_eq_true (rfl : runC (ordC l) [] = runC (ordC l) [])]
  exact ifB_true ⟨_, cl_keptr b1 l a cp mkC (by omega) _ (R5.2.2.2.2.1) (R5.2.2.2.2.2.1), ⟨rfl⟩⟩

end Go.Proofs.Ytbhlhnkjmncloaa
