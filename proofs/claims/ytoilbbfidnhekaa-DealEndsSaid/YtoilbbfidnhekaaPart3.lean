/-
  Contracts of functions of this seat: what each hands back, and what it leaves of memory (deal17). Nothing here is trusted: Lean checks it.
-/
import Derived.Test.YtoilbbfidnhekaaPart2
set_option linter.unusedVariables false
set_option linter.unusedSimpArgs false
namespace Go.Proofs.Ytoilbbfidnhekaa
open Go.Vc Go.RowKit
set_option maxRecDepth 100000

theorem rraise_s (a : Option Addr) (cp : Nat) (l : List En) (c s : Int) (hn : l.length ≤ 8796093022000) (m : M) (h : Row m a (ens l)) : Vc.Spec Try.prog 28 [.slice a l.length cp, I c, I s] m (LeR m (raiseE l c s)) := by
  refine Vc.Spec.of_vc Try.func28 (ann := noAnn) ?_
  refine vc_by (X :=
      true = true ∧
      ∃ (b : Bool),
      QSpec Try.prog (26 : Nat) [Value.slice a l.length cp] m (Value.bool b) ∧
      ifB (!b) (Done (LeR m (raiseE l c s) (Value.tuple #[Value.slice none (0 : Nat) (0 : Nat), Value.int IntKind.i64 (21 : Int)]) m))
      (∃ (b : Bool),
      QSpec Try.prog (57 : Nat) [Value.int IntKind.i64 c] m (Value.bool b) ∧
      ifB (!b) (Done (LeR m (raiseE l c s) (Value.tuple #[Value.slice none (0 : Nat) (0 : Nat), Value.int IntKind.i64 (1 : Int)]) m))
      (∃ (b : Bool),
      QSpec Try.prog (52 : Nat) [Value.int IntKind.i64 s] m (Value.bool b) ∧
      ifB (!b) (Done (LeR m (raiseE l c s) (Value.tuple #[Value.slice none (0 : Nat) (0 : Nat), Value.int IntKind.i64 (1 : Int)]) m))
      (true = true ∧
      ∀ (b : Nat),
      m.sz ≤ b →
      ∃ (S' : Nat → Prop),
      (∀ (b_1 : Nat), S' b_1 → (m.newBlock b [Value.int IntKind.i64 c, Value.int IntKind.i64 s]).uf b_1 ∧ (m.sz ≤ b_1 ∨ False)) ∧
      ∀ (n : Nat),
      max m.sz (b + (1 : Nat)) ≤ n →
      SpecW Try.prog (30 : Nat) [Value.slice a l.length cp, Value.slice (some { block := b, off := (0 : Nat) : Addr }) (1 : Nat) (1 : Nat)]
      { π := (m.newBlock b [Value.int IntKind.i64 c, Value.int IntKind.i64 s]).π, sz := n, uf := (m.newBlock b [Value.int IntKind.i64 c, Value.int IntKind.i64 s]).uf : M }
      S' fun (v : Value) (m' : M) =>
      ∃ (a : Option Addr),
      ∃ (n : Nat),
      ∃ (c_1 : Nat),
      ∃ (n_1 : Int),
      v = Value.tuple #[Value.slice a n c_1, Value.int IntKind.i64 n_1] ∧
      Done (LeR m (raiseE l c s) (Value.tuple #[Value.slice a n c_1, Value.int IntKind.i64 n_1]) m'))))) (by kernel_rfl) ?_
  refine ⟨rfl, _, rends_q a cp l (by omega) _ h, ?_⟩
  cases ha : endsB 0 l
  · exact ifB_true (le_fail (by simp [raiseE, ha]))
  refine ifB_false ⟨_, rclient_q c _, ifB_intro (fun h1 => le_fail ?_) (fun h1 => ⟨_, rseq_q s _, ifB_intro (fun h2 => le_fail ?_) (fun h2 => ?_)⟩)⟩
  · have : whoseB c s = false := by simp at h1; simp [whoseB]; omega
    simp [raiseE, ha, this]
  · have : whoseB c s = false := by simp at h1 h2; simp [whoseB]; omega
    simp [raiseE, ha, this]
  have hw : whoseB c s = true := by simp at h1 h2; simp [whoseB]; omega
  have hc : 0 < c := by simp at h1; omega
  have hj : joinE l [⟨c, s⟩] = raiseE l c s := by
    have hb : endsB 0 [(⟨c, s⟩ : En)] = true := by simp [endsB, hw, hc]
    simp [joinE, raiseE, ha, hb, hw, raised_eq, foldE]
  refine ⟨rfl, fun b hb => ⟨_, noS, fun N hN => (rjoin_s a (some ⟨b, 0, none⟩) cp 1 l [⟨c, s⟩] hn (by simp) _ ((h.newBlock hb).sz hN) (.at b 0 _ (by simp only [M.newBlock] at hN ⊢; omega) ⟨(cellsAt_new (m := m) (b := b) (cs := [I c, I s])).out⟩)).monoW fun v m1 _ hq => ?_⟩⟩
  obtain ⟨a1, c1, e, r⟩ := hq
  rw [hj] at e r
  exact ⟨_, _, _, _, e, ⟨⟨a1, c1, rfl, r.lower (by simp only [M.newBlock] at hN ⊢; omega)⟩⟩⟩

def mkE : En := ⟨71, 0⟩

structure PlE (a : Option Addr) (l : List En) (b : Nat) (m : M) : Prop where
  row : Row m a (ens l)
  cells : CellsAt m b 0 (ens l ++ (encEn mkE ++ encEn mkE))
  lt : b < m.sz

theorem PlE.own {a : Option Addr} {l : List En} {b : Nat} {m : M} (h : PlE a l b m) : Row m (some ⟨b, 0, none⟩) (ens l) := .at _ _ _ h.lt h.cells.take

theorem PlE.step {a : Option Addr} {l : List En} {b : Nat} {m m' : M} {N : Nat} (h : PlE a l b m) (hN : m.sz ≤ N) (hag : Agree N { m with sz := N } m') : PlE a l b m' :=
  ⟨(h.row.sz hN).agree hag, CellsAt.of (m := { m with sz := N }) ⟨h.cells.out⟩ (hag.1 b (Nat.lt_of_lt_of_le h.lt hN)), Nat.lt_of_lt_of_le h.lt (Nat.le_trans hN hag.2.2)⟩

theorem raise_len (l : List En) (c s : Int) : (raiseE l c s).1.length ≤ l.length + 1 := by
  unfold raiseE
  split
  · simp
  · split
    · simp
    · simp only [raised]; split
      · simp
      · simp; omega

theorem join_len (a b : List En) : (joinE a b).1.length ≤ 8 := by
  unfold joinE
  split
  · simp
  · rename_i h
    have ha : endsB 0 a = true := by cases h' : endsB 0 a; simp [h'] at h; rfl
    have hb : endsB 0 b = true := by cases h' : endsB 0 b; simp [h'] at h; rfl
    exact ends8 (fold_ends (Int.le_refl 0) ha hb)

set_option maxHeartbeats 1000000 in
theorem dealends (a a2 : Option Addr) (cp c2 : Nat) (l l2 : List En) (c s : Int) (hn : l.length ≤ 8796093022000) (hn2 : l2.length ≤ 8796093022000) (m : M) (h : Row m a (ens l)) (h2 : Row m a2 (ens l2)) :
    QSpec Try.prog 6 [.slice a l.length cp, .slice a2 l2.length c2, I c, I s] m (.bool true) := by
  refine QSpec.of_vc Try.func6 (ann := fun _ => noAnn) fun N hN => ?_
  refine vc_by (X :=
      true = true ∧
      ∃ (S' : Nat → Prop),
      (∀ (b : Nat), S' b → m.uf b ∧ (N ≤ b ∨ False)) ∧
      ∀ (n : Nat),
      N ≤ n →
      SpecW Try.prog (25 : Nat) [Value.slice a l.length cp, Value.agg #[Value.int IntKind.i64 (71 : Int), Value.int IntKind.i64 (0 : Int)]]
      { π := m.π, sz := n, uf := m.uf : M } S' fun (v : Value) (m' : M) =>
      ∃ (a_2 : Option Addr),
      ∃ (n : Nat),
      ∃ (c_1 : Nat),
      v = Value.slice a_2 n c_1 ∧
      ∃ (b : Bool),
      QSpec Try.prog (26 : Nat) [Value.slice a l.length cp] m' (Value.bool b) ∧
      ifB (!b)
      (∃ (S' : Nat → Prop),
      (∀ (b : Nat), S' b → m'.uf b ∧ (N ≤ b ∨ False)) ∧
      ∀ (n_1 : Nat),
      m'.sz ≤ n_1 →
      SpecW Try.prog (27 : Nat) [Value.slice a_2 n c_1, Value.int IntKind.i64 c, Value.int IntKind.i64 s] { π := m'.π, sz := n_1, uf := m'.uf : M } S'
      fun (v : Value) (m' : M) =>
      ∃ (a_4 : Option Addr),
      ∃ (n_2 : Nat),
      ∃ (c_2 : Nat),
      ∃ (n_3 : Int),
      v = Value.tuple #[Value.slice a_4 n_2 c_2, Value.int IntKind.i64 n_3] ∧
      ∃ (S' : Nat → Prop),
      (∀ (b : Nat), S' b → m'.uf b ∧ (N ≤ b ∨ False)) ∧
      ∀ (n_4 : Nat),
      m'.sz ≤ n_4 →
      SpecW Try.prog (28 : Nat) [Value.slice a l.length cp, Value.int IntKind.i64 c, Value.int IntKind.i64 s]
      { π := m'.π, sz := n_4, uf := m'.uf : M } S' fun (v : Value) (m' : M) =>
      ∃ (a_6 : Option Addr),
      ∃ (n_5 : Nat),
      ∃ (c_3 : Nat),
      ∃ (n_6 : Int),
      v = Value.tuple #[Value.slice a_6 n_5 c_3, Value.int IntKind.i64 n_6] ∧
      ∃ (S' : Nat → Prop),
      (∀ (b : Nat), S' b → m'.uf b ∧ (N ≤ b ∨ False)) ∧
      ∀ (n_7 : Nat),
      m'.sz ≤ n_7 →
      SpecW Try.prog (29 : Nat) [Value.slice a_2 n c_1, Value.slice a2 l2.length c2]
      { π := m'.π, sz := n_7, uf := m'.uf : M } S' fun (v : Value) (m' : M) =>
      ∃ (a_8 : Option Addr),
      ∃ (n_8 : Nat),
      ∃ (c_4 : Nat),
      ∃ (n_9 : Int),
      v = Value.tuple #[Value.slice a_8 n_8 c_4, Value.int IntKind.i64 n_9] ∧
      ∃ (S' : Nat → Prop),
      (∀ (b : Nat), S' b → m'.uf b ∧ (N ≤ b ∨ False)) ∧
      ∀ (n_10 : Nat),
      m'.sz ≤ n_10 →
      SpecW Try.prog (30 : Nat) [Value.slice a l.length cp, Value.slice a2 l2.length c2]
      { π := m'.π, sz := n_10, uf := m'.uf : M } S' fun (v : Value) (m' : M) =>
      ∃ (a_10 : Option Addr),
      ∃ (n_11 : Nat),
      ∃ (c_5 : Nat),
      ∃ (n_12 : Int),
      v = Value.tuple #[Value.slice a_10 n_11 c_5, Value.int IntKind.i64 n_12] ∧
      ∃ (b : Bool),
      QSpec Try.prog (15 : Nat) [] m' (Value.bool b) ∧
      ifB b
      (∃ (n_13 : Int),
      QSpec Try.prog (31 : Nat) [Value.slice a_2 n c_1] m'
      (Value.int IntKind.i64 n_13) ∧
      ifB (n_13 == (21 : Int))
      (∃ (b : Bool),
      QSpec Try.prog (32 : Nat)
      [Value.slice a_4 n_2 c_2, Value.slice a_6 n_5 c_3] m'
      (Value.bool b) ∧
      ifB b
      (ifB (n_3 == n_6)
      (∃ (b : Bool),
      QSpec Try.prog (32 : Nat)
      [Value.slice a_8 n_8 c_4,
      Value.slice a_10 n_11 c_5]
      m' (Value.bool b) ∧
      ifB b
      (ifB (n_9 == n_12)
      (∃ (b : Bool),
      QSpec Try.prog (33 : Nat)
      [Value.slice a_2 n c_1,
      Value.int IntKind.i64 c,
      Value.int IntKind.i64 s]
      m' (Value.bool b) ∧
      ∃ (b_1 : Bool),
      QSpec Try.prog (34 : Nat)
      [Value.slice a l.length cp,
      Value.int IntKind.i64 c,
      Value.int IntKind.i64 s]
      m' (Value.bool b_1) ∧
      ifB (b == b_1)
      (∃ (b : Bool),
      QSpec Try.prog (35 : Nat)
      [Value.slice a_2 n c_1,
      Value.slice a l.length cp,
      Value.agg
      #[Value.int IntKind.i64
      (71 : Int),
      Value.int IntKind.i64
      (0 : Int)]]
      m' (Value.bool b) ∧
      Done
      (Value.bool b =
      Value.bool true))
      (Done
      (Value.bool false =
      Value.bool true)))
      (Done (Value.bool false = Value.bool true)))
      (Done (Value.bool false = Value.bool true)))
      (Done (Value.bool false = Value.bool true)))
      (Done (Value.bool false = Value.bool true)))
      (Done (Value.bool false = Value.bool true)))
      (Done (Value.bool false = Value.bool true)))
      (∃ (S' : Nat → Prop),
      (∀ (b : Nat), S' b → m'.uf b ∧ (N ≤ b ∨ False)) ∧
      ∀ (n_1 : Nat),
      m'.sz ≤ n_1 →
      SpecW Try.prog (27 : Nat) [Value.slice a_2 n c_1, Value.int IntKind.i64 c, Value.int IntKind.i64 s] { π := m'.π, sz := n_1, uf := m'.uf : M } S'
      fun (v : Value) (m' : M) =>
      ∃ (a_4 : Option Addr),
      ∃ (n_2 : Nat),
      ∃ (c_2 : Nat),
      ∃ (n_3 : Int),
      v = Value.tuple #[Value.slice a_4 n_2 c_2, Value.int IntKind.i64 n_3] ∧
      ∃ (S' : Nat → Prop),
      (∀ (b : Nat), S' b → m'.uf b ∧ (N ≤ b ∨ False)) ∧
      ∀ (n_4 : Nat),
      m'.sz ≤ n_4 →
      SpecW Try.prog (28 : Nat) [Value.slice a l.length cp, Value.int IntKind.i64 c, Value.int IntKind.i64 s]
      { π := m'.π, sz := n_4, uf := m'.uf : M } S' fun (v : Value) (m' : M) =>
      ∃ (a_6 : Option Addr),
      ∃ (n_5 : Nat),
      ∃ (c_3 : Nat),
      ∃ (n_6 : Int),
      v = Value.tuple #[Value.slice a_6 n_5 c_3, Value.int IntKind.i64 n_6] ∧
      ∃ (S' : Nat → Prop),
      (∀ (b : Nat), S' b → m'.uf b ∧ (N ≤ b ∨ False)) ∧
      ∀ (n_7 : Nat),
      m'.sz ≤ n_7 →
      SpecW Try.prog (29 : Nat) [Value.slice a_2 n c_1, Value.slice a2 l2.length c2]
      { π := m'.π, sz := n_7, uf := m'.uf : M } S' fun (v : Value) (m' : M) =>
      ∃ (a_8 : Option Addr),
      ∃ (n_8 : Nat),
      ∃ (c_4 : Nat),
      ∃ (n_9 : Int),
      v = Value.tuple #[Value.slice a_8 n_8 c_4, Value.int IntKind.i64 n_9] ∧
      ∃ (S' : Nat → Prop),
      (∀ (b : Nat), S' b → m'.uf b ∧ (N ≤ b ∨ False)) ∧
      ∀ (n_10 : Nat),
      m'.sz ≤ n_10 →
      SpecW Try.prog (30 : Nat) [Value.slice a l.length cp, Value.slice a2 l2.length c2]
      { π := m'.π, sz := n_10, uf := m'.uf : M } S' fun (v : Value) (m' : M) =>
      ∃ (a_10 : Option Addr),
      ∃ (n_11 : Nat),
      ∃ (c_5 : Nat),
      ∃ (n_12 : Int),
      v = Value.tuple #[Value.slice a_10 n_11 c_5, Value.int IntKind.i64 n_12] ∧
      ∃ (b : Bool),
      QSpec Try.prog (15 : Nat) [] m' (Value.bool b) ∧
      ifB b
      (∃ (n_13 : Int),
      QSpec Try.prog (31 : Nat) [Value.slice a_2 n c_1] m'
      (Value.int IntKind.i64 n_13) ∧
      ifB (n_13 == (0 : Int))
      (∃ (b : Bool),
      QSpec Try.prog (32 : Nat)
      [Value.slice a_4 n_2 c_2, Value.slice a_6 n_5 c_3] m'
      (Value.bool b) ∧
      ifB b
      (ifB (n_3 == n_6)
      (∃ (b : Bool),
      QSpec Try.prog (32 : Nat)
      [Value.slice a_8 n_8 c_4,
      Value.slice a_10 n_11 c_5]
      m' (Value.bool b) ∧
      ifB b
      (ifB (n_9 == n_12)
      (∃ (b : Bool),
      QSpec Try.prog (33 : Nat)
      [Value.slice a_2 n c_1,
      Value.int IntKind.i64 c,
      Value.int IntKind.i64 s]
      m' (Value.bool b) ∧
      ∃ (b_1 : Bool),
      QSpec Try.prog (34 : Nat)
      [Value.slice a l.length cp,
      Value.int IntKind.i64 c,
      Value.int IntKind.i64 s]
      m' (Value.bool b_1) ∧
      ifB (b == b_1)
      (∃ (b : Bool),
      QSpec Try.prog (35 : Nat)
      [Value.slice a_2 n c_1,
      Value.slice a l.length cp,
      Value.agg
      #[Value.int IntKind.i64
      (71 : Int),
      Value.int IntKind.i64
      (0 : Int)]]
      m' (Value.bool b) ∧
      Done
      (Value.bool b =
      Value.bool true))
      (Done
      (Value.bool false =
      Value.bool true)))
      (Done (Value.bool false = Value.bool true)))
      (Done (Value.bool false = Value.bool true)))
      (Done (Value.bool false = Value.bool true)))
      (Done (Value.bool false = Value.bool true)))
      (Done (Value.bool false = Value.bool true)))
      (Done (Value.bool false = Value.bool true)))) (by kernel_rfl) ?_
  have hh : l.length ≤ 9223372036854775807 := by omega
  refine ⟨rfl, _, noS, fun N1 hN1 => (en_own a cp l mkE hn _ (h.sz (by omega))).monoW fun v1 m1 ag1 ⟨b, e1, k1, k2, _, k4⟩ => ⟨_, _, _, e1, _, rends_q a cp l hh _ ((h.sz (n := N1) (by omega)).agree ag1), ?_⟩⟩
  have p1 : PlE a l b m1 := ⟨(h.sz (n := N1) (by omega)).agree ag1, k4, k2⟩
  have q1 : Row m1 a2 (ens l2) := (h2.sz (n := N1) (by omega)).agree ag1
  cases hb : endsB 0 l
  · refine ifB_true ?_
    refine ⟨_, noS, fun N2 hN2 => (raise_s _ _ l c s hn (fun e => by simp at e) _ (p1.own.sz hN2)).monoW fun v2 m2 ag2 ⟨a2', c2', e2, r2⟩ => ⟨_, _, _, _, e2, ?_⟩⟩
    have p2 := p1.step hN2 ag2
    have q2 := (q1.sz hN2).agree ag2
    refine ⟨_, noS, fun N3 hN3 => (rraise_s _ _ l c s hn _ (p2.row.sz hN3)).monoW fun v3 m3 ag3 ⟨a3, c3, e3, r3⟩ => ⟨_, _, _, _, e3, ?_⟩⟩
    have p3 := p2.step hN3 ag3
    have q3 := (q2.sz hN3).agree ag3
    have r2 := (r2.row.sz hN3).agree ag3
    refine ⟨_, noS, fun N4 hN4 => (join_s _ _ _ _ l l2 hn hn2 (fun e => by simp at e) _ (p3.own.sz hN4) (q3.sz hN4)).monoW fun v4 m4 ag4 ⟨a4, c4, e4, r4⟩ => ⟨_, _, _, _, e4, ?_⟩⟩
    have p4 := p3.step hN4 ag4
    have q4 := (q3.sz hN4).agree ag4
    have r2 := (r2.sz hN4).agree ag4
    have r3 := (r3.row.sz hN4).agree ag4
    refine ⟨_, noS, fun N5 hN5 => (rjoin_s _ _ _ _ l l2 hn hn2 _ (p4.row.sz hN5) (q4.sz hN5)).monoW fun v5 m5 ag5 ⟨a5, c5, e5, r5⟩ => ⟨_, _, _, _, e5, _, awake_q _, ifB_true ⟨_, checkends_q _ _ l hh _ (p4.step hN5 ag5).own, ?_⟩⟩⟩
    have p5 := p4.step hN5 ag5
    have r2 := (r2.sz hN5).agree ag5
    have r3 := (r3.sz hN5).agree ag5
    have r4 := (r4.row.sz hN5).agree ag5
    have hl1 := raise_len l c s
    have hl2 := join_len l l2
    rw [hb]
    refine ifB_true ⟨_, en_plain _ _ _ _ _ _ (by omega) _ r2 r3, ?_⟩
    simp only [decide_true, beq_self_eq_true]
    refine ifB_true (ifB_true ⟨_, en_plain _ _ _ _ _ _ (by omega) _ r4 r5.row, ?_⟩)
    simp only [decide_true, beq_self_eq_true]
    refine ifB_true (ifB_true ⟨_, past_q _ _ l c s hh _ p5.own, _, rpast_q _ _ l c s hh _ p5.row, ?_⟩)
    rw [past_eq]
    simp only [beq_self_eq_true]
    exact ifB_true ⟨_, en_kept b l a cp mkE hn _ p5.lt p5.cells p5.row, ⟨rfl⟩⟩
  · refine ifB_false ?_
    refine ⟨_, noS, fun N2 hN2 => (raise_s _ _ l c s hn (fun e => by simp at e) _ (p1.own.sz hN2)).monoW fun v2 m2 ag2 ⟨a2', c2', e2, r2⟩ => ⟨_, _, _, _, e2, ?_⟩⟩
    have p2 := p1.step hN2 ag2
    have q2 := (q1.sz hN2).agree ag2
    refine ⟨_, noS, fun N3 hN3 => (rraise_s _ _ l c s hn _ (p2.row.sz hN3)).monoW fun v3 m3 ag3 ⟨a3, c3, e3, r3⟩ => ⟨_, _, _, _, e3, ?_⟩⟩
    have p3 := p2.step hN3 ag3
    have q3 := (q2.sz hN3).agree ag3
    have r2 := (r2.row.sz hN3).agree ag3
    refine ⟨_, noS, fun N4 hN4 => (join_s _ _ _ _ l l2 hn hn2 (fun e => by simp at e) _ (p3.own.sz hN4) (q3.sz hN4)).monoW fun v4 m4 ag4 ⟨a4, c4, e4, r4⟩ => ⟨_, _, _, _, e4, ?_⟩⟩
    have p4 := p3.step hN4 ag4
    have q4 := (q3.sz hN4).agree ag4
    have r2 := (r2.sz hN4).agree ag4
    have r3 := (r3.row.sz hN4).agree ag4
    refine ⟨_, noS, fun N5 hN5 => (rjoin_s _ _ _ _ l l2 hn hn2 _ (p4.row.sz hN5) (q4.sz hN5)).monoW fun v5 m5 ag5 ⟨a5, c5, e5, r5⟩ => ⟨_, _, _, _, e5, _, awake_q _, ifB_true ⟨_, checkends_q _ _ l hh _ (p4.step hN5 ag5).own, ?_⟩⟩⟩
    have p5 := p4.step hN5 ag5
    have r2 := (r2.sz hN5).agree ag5
    have r3 := (r3.sz hN5).agree ag5
    have r4 := (r4.row.sz hN5).agree ag5
    have hl1 := raise_len l c s
    have hl2 := join_len l l2
    rw [hb]
    refine ifB_true ⟨_, en_plain _ _ _ _ _ _ (by omega) _ r2 r3, ?_⟩
    simp only [decide_true, beq_self_eq_true]
    refine ifB_true (ifB_true ⟨_, en_plain _ _ _ _ _ _ (by omega) _ r4 r5.row, ?_⟩)
    simp only [decide_true, beq_self_eq_true]
    refine ifB_true (ifB_true ⟨_, past_q _ _ l c s hh _ p5.own, _, rpast_q _ _ l c s hh _ p5.row, ?_⟩)
    rw [past_eq]
    simp only [beq_self_eq_true]
    exact ifB_true ⟨_, en_kept b l a cp mkE hn _ p5.lt p5.cells p5.row, ⟨rfl⟩⟩

end Go.Proofs.Ytoilbbfidnhekaa
