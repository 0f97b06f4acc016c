/-
  Contracts of functions of this seat: what each hands back, and what it leaves of memory (wit6). Nothing here is trusted: Lean checks it.
-/
import Derived.Test.YtbhlhnkjmncloaaWit5
set_option linter.unusedVariables false
set_option linter.unusedSimpArgs false
namespace Go.Proofs.Ytbhlhnkjmncloaa
open Go.Vc Go.RowKit
set_option maxRecDepth 100000

def o5 : Oq := ⟨5, ⟨#[97]⟩, .empty, 0, 0, 5⟩

theorem wawake_q (m : M) : QSpec Try.prog 14 [] m (.bool true) := by
  refine QSpec.of_vc Try.func14 (ann := fun _ => noAnn) fun n hn => ?_
  refine vc_by (X :=
      true = true ∧
      ∃ (S' : Nat → Prop),
      (∀ (b : Nat), S' b → m.uf b ∧ (n ≤ b ∨ False)) ∧
      ∀ (n_1 : Nat),
      n ≤ n_1 →
      SpecW Try.prog (12 : Nat)
      [Value.slice none (0 : Nat) (0 : Nat),
      Value.agg
      #[Value.int IntKind.i64 (5 : Int), Value.string { data := #[(97 : UInt8)] : ByteArray }, Value.string { data := #[] : ByteArray }, Value.int IntKind.i64 (0 : Int),
      Value.int IntKind.i64 (0 : Int), Value.int IntKind.i64 (5 : Int)]]
      { π := m.π, sz := n_1, uf := m.uf : M } S' fun (v : Value) (m' : M) =>
      ∃ (a : Option Addr),
      ∃ (n : Nat),
      ∃ (c : Nat),
      ∃ (n_2 : Int),
      ∃ (n_3 : Int),
      ∃ (n_4 : Int),
      ∃ (n_5 : Int),
      v =
      Value.tuple
      #[Value.slice a n c, Value.agg #[Value.int IntKind.i64 n_2, Value.int IntKind.i64 n_3, Value.int IntKind.i64 n_4, Value.int IntKind.i64 n_5]] ∧
      ifB ((↑n : Int) == (1 : Int))
      (ifB (n_2 == (0 : Int))
      (true = true ∧
      ∀ (b : Nat),
      m'.sz ≤ b →
      ∃ (n : Int),
      QSpec Try.prog (15 : Nat) [Value.slice (some { block := b, off := (0 : Nat) : Addr }) (1 : Nat) (1 : Nat)]
      (m'.newBlock b
      [Value.string { data := #[] : ByteArray }, Value.int IntKind.i64 (0 : Int), Value.int IntKind.i64 (0 : Int),
      Value.int IntKind.i64 (0 : Int)])
      (Value.int IntKind.i64 n) ∧
      Done (Value.bool (n == (21 : Int)) = Value.bool true))
      (Done (Value.bool false = Value.bool true)))
      (Done (Value.bool false = Value.bool true))) (by kernel_rfl) ?_
  have e : doT [] o5 = ([⟨⟨#[97]⟩, 0, 5, 0⟩], eA 0) := by rfl
  refine ⟨rfl, _, noS, fun N hN => (wdo_s none 0 [] o5 (by simp) (by simp) ⟨by decide, by decide, by decide, by decide, by decide, by decide⟩ _ (.nil _)).monoW fun v m1 hag hq => ?_⟩
  rw [e] at hq
  obtain ⟨a1, c1, hv, hr⟩ := hq
  refine ⟨a1, _, c1, _, _, _, _, hv, ifB_true (ifB_true ⟨rfl, fun b hb => ⟨_, wcheck_q (some ⟨b, 0, none⟩) 1 [tt0] (by simp) _ .new, ⟨rfl⟩⟩⟩)⟩

def mkT : Tt := ⟨⟨#[55, 49]⟩, 0, 0, 0⟩

theorem do_len (l : List Tt) (o : Oq) : (doT l o).1.length ≤ l.length + 2 := by
  unfold doT
  split
  · simp
  split
  · simp
  unfold doX
  simp only
  repeat' split
  all_goals simp only
  all_goals first
    | omega
    | exact Nat.le_succ_of_le (setT_len1 _ _)
    | exact Nat.le_trans (setT_len1 _ _) (Nat.succ_le_succ (setT_len1 _ _))

theorem witnessdoes (a : Option Addr) (cp : Nat) (l : List Tt) (o : Oq) (hn : l.length ≤ 1048576) (hl : ∀ x ∈ l, x.wf) (ho : o.wf) (m : M) (h : Row m a (tts l)) :
    QSpec Try.prog 3 [.slice a l.length cp, oqv o] m (.bool true) := by
  refine QSpec.of_vc Try.func3 (ann := fun _ => noAnn) fun N hN => ?_
  refine vc_by (X :=
      true = true ∧
      ∃ (S' : Nat → Prop),
      (∀ (b : Nat), S' b → m.uf b ∧ (N ≤ b ∨ False)) ∧
      ∀ (n : Nat),
      N ≤ n →
      SpecW Try.prog (10 : Nat)
      [Value.slice a l.length cp,
      Value.agg
      #[Value.string { data := #[(55 : UInt8), (49 : UInt8)] : ByteArray }, Value.int IntKind.i64 (0 : Int), Value.int IntKind.i64 (0 : Int),
      Value.int IntKind.i64 (0 : Int)]]
      { π := m.π, sz := n, uf := m.uf : M } S' fun (v : Value) (m' : M) =>
      ∃ (a_2 : Option Addr),
      ∃ (n : Nat),
      ∃ (c : Nat),
      v = Value.slice a_2 n c ∧
      ∃ (b : Bool),
      QSpec Try.prog (11 : Nat) [Value.slice a l.length cp] m' (Value.bool b) ∧
      ifB (!b)
      (∃ (S' : Nat → Prop),
      (∀ (b : Nat), S' b → m'.uf b ∧ (N ≤ b ∨ False)) ∧
      ∀ (n_1 : Nat),
      m'.sz ≤ n_1 →
      SpecW Try.prog (12 : Nat)
      [Value.slice a_2 n c,
      Value.agg
      #[Value.int IntKind.i64 o.kd, Value.string o.ky, Value.string o.ot, Value.int IntKind.i64 o.n, Value.int IntKind.i64 o.lo,
      Value.int IntKind.i64 o.hi]]
      { π := m'.π, sz := n_1, uf := m'.uf : M } S' fun (v : Value) (m' : M) =>
      ∃ (a_4 : Option Addr),
      ∃ (n_2 : Nat),
      ∃ (c_1 : Nat),
      ∃ (n_3 : Int),
      ∃ (n_4 : Int),
      ∃ (n_5 : Int),
      ∃ (n_6 : Int),
      v =
      Value.tuple
      #[Value.slice a_4 n_2 c_1,
      Value.agg #[Value.int IntKind.i64 n_3, Value.int IntKind.i64 n_4, Value.int IntKind.i64 n_5, Value.int IntKind.i64 n_6]] ∧
      ∃ (S' : Nat → Prop),
      (∀ (b : Nat), S' b → m'.uf b ∧ (N ≤ b ∨ False)) ∧
      ∀ (n_7 : Nat),
      m'.sz ≤ n_7 →
      SpecW Try.prog (13 : Nat)
      [Value.slice a l.length cp,
      Value.agg
      #[Value.int IntKind.i64 o.kd, Value.string o.ky, Value.string o.ot, Value.int IntKind.i64 o.n,
      Value.int IntKind.i64 o.lo, Value.int IntKind.i64 o.hi]]
      { π := m'.π, sz := n_7, uf := m'.uf : M } S' fun (v : Value) (m' : M) =>
      ∃ (a_6 : Option Addr),
      ∃ (n_8 : Nat),
      ∃ (c_2 : Nat),
      ∃ (n_9 : Int),
      ∃ (n_10 : Int),
      ∃ (n_11 : Int),
      ∃ (n_12 : Int),
      v =
      Value.tuple
      #[Value.slice a_6 n_8 c_2,
      Value.agg
      #[Value.int IntKind.i64 n_9, Value.int IntKind.i64 n_10, Value.int IntKind.i64 n_11,
      Value.int IntKind.i64 n_12]] ∧
      ∃ (b : Bool),
      QSpec Try.prog (14 : Nat) [] m' (Value.bool b) ∧
      ifB b
      (∃ (n_13 : Int),
      QSpec Try.prog (15 : Nat) [Value.slice a_2 n c] m' (Value.int IntKind.i64 n_13) ∧
      ifB (n_13 == (21 : Int))
      (∃ (b : Bool),
      QSpec Try.prog (16 : Nat) [Value.slice a_4 n_2 c_1, Value.slice a_6 n_8 c_2] m'
      (Value.bool b) ∧
      ifB b
      (ifB (n_3 == n_9 && (n_4 == n_10 && (n_5 == n_11 && (n_6 == n_12 && true))))
      (∃ (b : Bool),
      QSpec Try.prog (17 : Nat)
      [Value.slice a_2 n c, Value.slice a l.length cp,
      Value.agg
      #[Value.string { data := #[(55 : UInt8), (49 : UInt8)] : ByteArray },
      Value.int IntKind.i64 (0 : Int), Value.int IntKind.i64 (0 : Int),
      Value.int IntKind.i64 (0 : Int)]]
      m' (Value.bool b) ∧
      Done (Value.bool b = Value.bool true))
      (Done (Value.bool false = Value.bool true)))
      (Done (Value.bool false = Value.bool true)))
      (Done (Value.bool false = Value.bool true)))
      (Done (Value.bool false = Value.bool true)))
      (∃ (S' : Nat → Prop),
      (∀ (b : Nat), S' b → m'.uf b ∧ (N ≤ b ∨ False)) ∧
      ∀ (n_1 : Nat),
      m'.sz ≤ n_1 →
      SpecW Try.prog (12 : Nat)
      [Value.slice a_2 n c,
      Value.agg
      #[Value.int IntKind.i64 o.kd, Value.string o.ky, Value.string o.ot, Value.int IntKind.i64 o.n, Value.int IntKind.i64 o.lo,
      Value.int IntKind.i64 o.hi]]
      { π := m'.π, sz := n_1, uf := m'.uf : M } S' fun (v : Value) (m' : M) =>
      ∃ (a_4 : Option Addr),
      ∃ (n_2 : Nat),
      ∃ (c_1 : Nat),
      ∃ (n_3 : Int),
      ∃ (n_4 : Int),
      ∃ (n_5 : Int),
      ∃ (n_6 : Int),
      v =
      Value.tuple
      #[Value.slice a_4 n_2 c_1,
      Value.agg #[Value.int IntKind.i64 n_3, Value.int IntKind.i64 n_4, Value.int IntKind.i64 n_5, Value.int IntKind.i64 n_6]] ∧
      ∃ (S' : Nat → Prop),
      (∀ (b : Nat), S' b → m'.uf b ∧ (N ≤ b ∨ False)) ∧
      ∀ (n_7 : Nat),
      m'.sz ≤ n_7 →
      SpecW Try.prog (13 : Nat)
      [Value.slice a l.length cp,
      Value.agg
      #[Value.int IntKind.i64 o.kd, Value.string o.ky, Value.string o.ot, Value.int IntKind.i64 o.n,
      Value.int IntKind.i64 o.lo, Value.int IntKind.i64 o.hi]]
      { π := m'.π, sz := n_7, uf := m'.uf : M } S' fun (v : Value) (m' : M) =>
      ∃ (a_6 : Option Addr),
      ∃ (n_8 : Nat),
      ∃ (c_2 : Nat),
      ∃ (n_9 : Int),
      ∃ (n_10 : Int),
      ∃ (n_11 : Int),
      ∃ (n_12 : Int),
      v =
      Value.tuple
      #[Value.slice a_6 n_8 c_2,
      Value.agg
      #[Value.int IntKind.i64 n_9, Value.int IntKind.i64 n_10, Value.int IntKind.i64 n_11,
      Value.int IntKind.i64 n_12]] ∧
      ∃ (b : Bool),
      QSpec Try.prog (14 : Nat) [] m' (Value.bool b) ∧
      ifB b
      (∃ (n_13 : Int),
      QSpec Try.prog (15 : Nat) [Value.slice a_2 n c] m' (Value.int IntKind.i64 n_13) ∧
      ifB (n_13 == (0 : Int))
      (∃ (b : Bool),
      QSpec Try.prog (16 : Nat) [Value.slice a_4 n_2 c_1, Value.slice a_6 n_8 c_2] m'
      (Value.bool b) ∧
      ifB b
      (ifB (n_3 == n_9 && (n_4 == n_10 && (n_5 == n_11 && (n_6 == n_12 && true))))
      (∃ (b : Bool),
      QSpec Try.prog (17 : Nat)
      [Value.slice a_2 n c, Value.slice a l.length cp,
      Value.agg
      #[Value.string { data := #[(55 : UInt8), (49 : UInt8)] : ByteArray },
      Value.int IntKind.i64 (0 : Int), Value.int IntKind.i64 (0 : Int),
      Value.int IntKind.i64 (0 : Int)]]
      m' (Value.bool b) ∧
      Done (Value.bool b = Value.bool true))
      (Done (Value.bool false = Value.bool true)))
      (Done (Value.bool false = Value.bool true)))
      (Done (Value.bool false = Value.bool true)))
      (Done (Value.bool false = Value.bool true)))) (by kernel_rfl) ?_
  have hd := do_len l o
  have R : Rs { m with sz := N } [(a, tts l)] := ⟨h.sz hN, trivial⟩
  refine ⟨rfl, _, noS, fun N1 hN1 => (tt_own a cp l mkT (by omega) _ ((R.sz hN1).1)).monoW fun v1 m1 ag1 q1 => ?_⟩
  obtain ⟨b1, e1, r1⟩ := q1.row
  refine ⟨_, _, _, e1, ?_⟩
  have R1 := Rs.cons r1 (Rs.step R hN1 ag1)
  refine ⟨_, rtright_q _ _ l (by omega) _ (R1.2.1), ?_⟩
  cases ht : totB none l
  all_goals first | refine ifB_true ?_ | refine ifB_false ?_
  all_goals
    refine ⟨_, noS, fun N2 hN2 => (wdo_s _ _ l o (by omega) hl ho _ ((R1.sz hN2).1.take)).monoW fun v2 m2 ag2 q2 => ?_⟩
    obtain ⟨x2, y2, e2, r2⟩ := q2
    refine ⟨_, _, _, _, _, _, _, e2, ?_⟩
    have R2 := Rs.cons r2 (Rs.step R1 hN2 ag2)
    refine ⟨_, noS, fun N3 hN3 => (rdo_s _ _ l o (by omega) hl ho _ ((R2.sz hN3).2.2.1)).monoW fun v3 m3 ag3 q3 => ?_⟩
    obtain ⟨x3, y3, e3, r3⟩ := q3
    refine ⟨_, _, _, _, _, _, _, e3, ?_⟩
    have R3 := Rs.cons r3 (Rs.step R2 hN3 ag3)
    refine ⟨_, wawake_q _, ifB_true ⟨_, wcheck_q _ _ l (by omega) _ (R3.2.2.1.take), ?_⟩⟩
    rw [ht]
    refine ifB_true ⟨_, tt_plain _ _ _ _ _ _ (by omega) _ (R3.2.1) (R3.1), ?_⟩
    rw [decide_eq_true (rfl : (doT l o).1 = (doT l o).1)]
    simp only [beq_self_eq_true, Bool.and_self]
    exact ifB_true (ifB_true ⟨_, tt_keptr b1 l a cp mkT (by omega) _ (R3.2.2.1) (R3.2.2.2.1), ⟨rfl⟩⟩)

end Go.Proofs.Ytbhlhnkjmncloaa
