/-
  Contracts of functions of this seat: what each hands back, and what it leaves of memory (led5). Nothing here is trusted: Lean checks it.
-/
import Derived.Test.YtfkielfnceeedaaLed4
set_option linter.unusedVariables false
set_option linter.unusedSimpArgs false
namespace Go.Proofs.Ytfkielfnceeedaa
open Go.Vc Go.RowKit
set_option maxRecDepth 100000

def r0 : Rt := ⟨1, ⟨#[107]⟩, 2, 3⟩

theorem lawake_q (m : M) : QSpec Try.prog 13 [] m (.bool true) := by
  refine QSpec.of_vc Try.func13 (ann := fun _ => noAnn) fun n hn => ?_
  refine vc_by (X :=
      true = true ∧
      ∃ (S' : Nat → Prop),
      (∀ (b : Nat), S' b → m.uf b ∧ (n ≤ b ∨ False)) ∧
      ∀ (n_1 : Nat),
      n ≤ n_1 →
      SpecW Try.prog (11 : Nat)
      [Value.slice none (0 : Nat) (0 : Nat),
      Value.agg #[Value.int IntKind.i64 (1 : Int), Value.string { data := #[(107 : UInt8)] : ByteArray }, Value.int IntKind.i64 (2 : Int), Value.int IntKind.i64 (3 : Int)]]
      { π := m.π, sz := n_1, uf := m.uf : M } S' fun (v : Value) (m' : M) =>
      ∃ (a : Option Addr),
      ∃ (n : Nat),
      ∃ (c : Nat),
      ∃ (n_2 : Int),
      v = Value.tuple #[Value.slice a n c, Value.int IntKind.i64 n_2] ∧
      ifB (n_2 == (0 : Int))
      (ifB ((↑n : Int) == (1 : Int))
      (∃ (n_3 : Int),
      QSpec Try.prog (16 : Nat)
      [Value.slice a n c, Value.int IntKind.i64 (1 : Int), Value.string { data := #[(107 : UInt8)] : ByteArray }, Value.int IntKind.i64 (2 : Int)] m'
      (Value.int IntKind.i64 n_3) ∧
      Done (Value.bool (n_3 == (3 : Int)) = Value.bool true))
      (Done (Value.bool false = Value.bool true)))
      (Done (Value.bool false = Value.bool true))) (by kernel_rfl) ?_
  have e : putE [] r0 = ([r0], 0) := by rfl
  refine ⟨rfl, _, noS, fun N hN => (lput_s none 0 [] r0 (by simp) _ (.nil _)).monoW fun v m1 hag hq => ?_⟩
  rw [e] at hq
  obtain ⟨a1, c1, hv, hr⟩ := hq
  refine ⟨a1, _, c1, _, hv, ifB_true (ifB_true ⟨_, lnet_q a1 c1 [r0] 1 ⟨#[107]⟩ 2 (by simp) _ hr, ⟨?_⟩⟩)⟩
  rfl

def mk71 : Rt := ⟨71, .empty, 0, 0⟩

abbrev marks : List Value := encRt mk71 ++ encRt mk71

/-- a list of its own, with marks behind its end -/
structure OwnR (l : List Rt) (v : Value) (m' : M) : Prop where
  out : ∃ b, v = .slice (some ⟨b, 0, none⟩) l.length (l.length + 2) ∧ Row m' (some ⟨b, 0, none⟩) (rts l ++ marks)

theorem own_s (a : Option Addr) (c : Nat) (l : List Rt) (hn : l.length ≤ 4194304) (m : M) (h : Row m a (rts l)) :
    Vc.Spec Try.prog 9 [.slice a l.length c] m (OwnR l) := by
  refine Vc.Spec.of_vc Try.func9 (ann := noAnn) ?_
  refine vc_by (X :=
      true = true ∧
      ∃ (S' : Nat → Prop),
      (∀ (b : Nat), S' b → m.uf b ∧ (m.sz ≤ b ∨ False)) ∧
      ∀ (n : Nat),
      m.sz ≤ n →
      SpecW Try.prog (38 : Nat)
      [Value.slice a l.length c,
      Value.agg #[Value.int IntKind.i64 (71 : Int), Value.string { data := #[] : ByteArray }, Value.int IntKind.i64 (0 : Int), Value.int IntKind.i64 (0 : Int)]]
      { π := m.π, sz := n, uf := m.uf : M } S' fun (v : Value) (m' : M) =>
      ∃ (a : Option Addr), ∃ (n : Nat), ∃ (c : Nat), v = Value.slice a n c ∧ Done (OwnR l (Value.slice a n c) m')) (by kernel_rfl) ?_
  exact ⟨rfl, _, noS, fun N hN => (rt_own a c l mk71 hn _ (h.sz hN)).monoW fun v m1 hag hq => by
    obtain ⟨b, e, hr⟩ := hq.row
    exact ⟨_, _, _, e, ⟨⟨b, rfl, hr⟩⟩⟩⟩

theorem kept_q (b : Nat) (l : List Rt) (a2 : Option Addr) (c2 : Nat) (hn : l.length ≤ 4194304) (m : M) (h : Row m (some ⟨b, 0, none⟩) (rts l ++ marks)) (h2 : Row m a2 (rts l)) :
    QSpec Try.prog 18 [.slice (some ⟨b, 0, none⟩) l.length (l.length + 2), .slice a2 l.length c2] m (.bool true) := by
  refine QSpec.of_vc Try.func18 (ann := fun _ => noAnn) fun n hn' => ?_
  refine vc_by (X :=
      true = true ∧
      ∃ (b_1 : Bool),
      QSpec Try.prog (46 : Nat)
      [Value.slice (some { block := b, off := (0 : Nat) : Addr }) l.length (l.length + (2 : Nat)), Value.slice a2 l.length c2,
      Value.agg #[Value.int IntKind.i64 (71 : Int), Value.string { data := #[] : ByteArray }, Value.int IntKind.i64 (0 : Int), Value.int IntKind.i64 (0 : Int)]]
      { π := m.π, sz := n, uf := m.uf : M } (Value.bool b_1) ∧
      Done (Value.bool b_1 = Value.bool true)) (by kernel_rfl) ?_
  exact ⟨rfl, _, rt_keptr b l a2 c2 mk71 hn _ (h.sz hn') (h2.sz hn'), ⟨rfl⟩⟩

theorem put_len (l : List Rt) (r : Rt) : (putE l r).1.length ≤ 2 * l.length + 1 := by
  have f1 := List.length_filter_le (fun x => bel x r) l
  have f2 := List.length_filter_le (fun x => bel r x) l
  unfold putE
  split
  · simp
  · split
    · simp
    · simp [putL]; omega

/-- in a ledger there is one right of a group and a key -/
theorem net_of {l : List Rt} (h : ledB none l = true) (g : Int) (k : ByteArray) (le : Int) : netR l g k le = match ofR l ⟨g, k, 0, 0⟩ with | none => 0 | some x => if x.le = le then x.ne else 0 := by
  have hs : ∀ x : Rt, isN g k le x = (sameK x ⟨g, k, 0, 0⟩ && decide (x.le = le)) := fun x => rfl
  have key : ∀ {l : List Rt} {p : Option Rt}, ledB p l = true → l.find? (isN g k le) = match ofR l ⟨g, k, 0, 0⟩ with | none => none | some x => if x.le = le then some x else none := by
    intro l
    induction l with
    | nil => intro p _; rfl
    | cons x xs ih =>
      intro p hp
      obtain ⟨h1, h2, h3⟩ := led_cons.1 hp
      by_cases e1 : sameK x ⟨g, k, 0, 0⟩ = true
      · have e2 : ofR (x :: xs) ⟨g, k, 0, 0⟩ = some x := by simp [ofR, e1]
        rw [e2, List.find?_cons, hs, e1]
        by_cases e3 : x.le = le
        · simp [e3]
        · simp [e3]
          intro y hy
          have := (led_mem h3 y hy).1 x rfl
          rw [hs]
          have e4 := (bel_ne this).2
          rw [← (same_left e1).2.2.2, e4]; rfl
      · have e1 : sameK x ⟨g, k, 0, 0⟩ = false := by simpa using e1
        have e2 : ofR (x :: xs) ⟨g, k, 0, 0⟩ = ofR xs ⟨g, k, 0, 0⟩ := by simp [ofR, e1]
        rw [e2, List.find?_cons, hs, e1]
        exact ih h3
  simp only [netR, h, if_true, key h]
  cases ofR l ⟨g, k, 0, 0⟩ with
  | none => rfl
  | some x => simp only; split <;> rfl

set_option maxHeartbeats 1000000 in
theorem ledgerplays (a : Option Addr) (cp : Nat) (l : List Rt) (r : Rt) (g : Int) (k : ByteArray) (le : Int) (hn : l.length ≤ 1048576) (m : M) (h : Row m a (rts l)) :
    QSpec Try.prog 3 [.slice a l.length cp, rtv r, I g, .string k, I le] m (.bool true) := by
  refine QSpec.of_vc Try.func3 (ann := fun _ => noAnn) fun N hN => ?_
  refine vc_by (X :=
      true = true ∧
      ∃ (S' : Nat → Prop),
      (∀ (b : Nat), S' b → m.uf b ∧ (N ≤ b ∨ False)) ∧
      ∀ (n : Nat),
      N ≤ n →
      SpecW Try.prog (9 : Nat) [Value.slice a l.length cp] { π := m.π, sz := n, uf := m.uf : M } S' fun (v : Value) (m' : M) =>
      ∃ (a_2 : Option Addr),
      ∃ (n : Nat),
      ∃ (c : Nat),
      v = Value.slice a_2 n c ∧
      ∃ (b : Bool),
      QSpec Try.prog (10 : Nat) [Value.slice a l.length cp] m' (Value.bool b) ∧
      ifB (!b)
      (∃ (S' : Nat → Prop),
      (∀ (b : Nat), S' b → m'.uf b ∧ (N ≤ b ∨ False)) ∧
      ∀ (n_1 : Nat),
      m'.sz ≤ n_1 →
      SpecW Try.prog (11 : Nat)
      [Value.slice a_2 n c, Value.agg #[Value.int IntKind.i64 r.g, Value.string r.ky, Value.int IntKind.i64 r.le, Value.int IntKind.i64 r.ne]]
      { π := m'.π, sz := n_1, uf := m'.uf : M } S' fun (v : Value) (m' : M) =>
      ∃ (a_4 : Option Addr),
      ∃ (n_2 : Nat),
      ∃ (c_1 : Nat),
      ∃ (n_3 : Int),
      v = Value.tuple #[Value.slice a_4 n_2 c_1, Value.int IntKind.i64 n_3] ∧
      ∃ (S' : Nat → Prop),
      (∀ (b : Nat), S' b → m'.uf b ∧ (N ≤ b ∨ False)) ∧
      ∀ (n_4 : Nat),
      m'.sz ≤ n_4 →
      SpecW Try.prog (12 : Nat)
      [Value.slice a l.length cp,
      Value.agg #[Value.int IntKind.i64 r.g, Value.string r.ky, Value.int IntKind.i64 r.le, Value.int IntKind.i64 r.ne]]
      { π := m'.π, sz := n_4, uf := m'.uf : M } S' fun (v : Value) (m' : M) =>
      ∃ (a_6 : Option Addr),
      ∃ (n_5 : Nat),
      ∃ (c_2 : Nat),
      ∃ (n_6 : Int),
      v = Value.tuple #[Value.slice a_6 n_5 c_2, Value.int IntKind.i64 n_6] ∧
      true = true ∧
      ∃ (b : Bool),
      QSpec Try.prog (13 : Nat) [] m' (Value.bool b) ∧
      ifB b
      (∃ (n_7 : Int),
      QSpec Try.prog (14 : Nat) [Value.slice a_2 n c] m' (Value.int IntKind.i64 n_7) ∧
      ifB (n_7 == (21 : Int))
      (∃ (b : Bool),
      QSpec Try.prog (15 : Nat) [Value.slice a_4 n_2 c_1, Value.slice a_6 n_5 c_2] m' (Value.bool b) ∧
      ifB b
      (ifB (n_3 == n_6)
      (∃ (n_8 : Int),
      QSpec Try.prog (16 : Nat)
      [Value.slice a_2 n c, Value.int IntKind.i64 g, Value.string k,
      Value.int IntKind.i64 le]
      m' (Value.int IntKind.i64 n_8) ∧
      ∃ (n_9 : Int),
      QSpec Try.prog (17 : Nat)
      [Value.slice a l.length cp, Value.int IntKind.i64 g, Value.string k,
      Value.int IntKind.i64 le]
      m' (Value.int IntKind.i64 n_9) ∧
      ifB (n_8 == n_9)
      (∃ (n_10 : Int),
      QSpec Try.prog (16 : Nat)
      [Value.slice a_2 n c, Value.int IntKind.i64 r.g, Value.string r.ky,
      Value.int IntKind.i64 r.le]
      m' (Value.int IntKind.i64 n_10) ∧
      ∃ (n_11 : Int),
      QSpec Try.prog (17 : Nat)
      [Value.slice a l.length cp, Value.int IntKind.i64 r.g,
      Value.string r.ky, Value.int IntKind.i64 r.le]
      m' (Value.int IntKind.i64 n_11) ∧
      ifB (n_10 == n_11)
      (∃ (b : Bool),
      QSpec Try.prog (18 : Nat)
      [Value.slice a_2 n c, Value.slice a l.length cp] m'
      (Value.bool b) ∧
      Done (Value.bool b = Value.bool true))
      (Done (Value.bool false = Value.bool true)))
      (Done (Value.bool false = Value.bool true)))
      (Done (Value.bool false = Value.bool true)))
      (Done (Value.bool false = Value.bool true)))
      (Done (Value.bool false = Value.bool true)))
      (Done (Value.bool false = Value.bool true)))
      (∃ (S' : Nat → Prop),
      (∀ (b : Nat), S' b → m'.uf b ∧ (N ≤ b ∨ False)) ∧
      ∀ (n_1 : Nat),
      m'.sz ≤ n_1 →
      SpecW Try.prog (11 : Nat)
      [Value.slice a_2 n c, Value.agg #[Value.int IntKind.i64 r.g, Value.string r.ky, Value.int IntKind.i64 r.le, Value.int IntKind.i64 r.ne]]
      { π := m'.π, sz := n_1, uf := m'.uf : M } S' fun (v : Value) (m' : M) =>
      ∃ (a_4 : Option Addr),
      ∃ (n_2 : Nat),
      ∃ (c_1 : Nat),
      ∃ (n_3 : Int),
      v = Value.tuple #[Value.slice a_4 n_2 c_1, Value.int IntKind.i64 n_3] ∧
      ∃ (S' : Nat → Prop),
      (∀ (b : Nat), S' b → m'.uf b ∧ (N ≤ b ∨ False)) ∧
      ∀ (n_4 : Nat),
      m'.sz ≤ n_4 →
      SpecW Try.prog (12 : Nat)
      [Value.slice a l.length cp,
      Value.agg #[Value.int IntKind.i64 r.g, Value.string r.ky, Value.int IntKind.i64 r.le, Value.int IntKind.i64 r.ne]]
      { π := m'.π, sz := n_4, uf := m'.uf : M } S' fun (v : Value) (m' : M) =>
      ∃ (a_6 : Option Addr),
      ∃ (n_5 : Nat),
      ∃ (c_2 : Nat),
      ∃ (n_6 : Int),
      v = Value.tuple #[Value.slice a_6 n_5 c_2, Value.int IntKind.i64 n_6] ∧
      true = true ∧
      ∃ (b : Bool),
      QSpec Try.prog (13 : Nat) [] m' (Value.bool b) ∧
      ifB b
      (∃ (n_7 : Int),
      QSpec Try.prog (14 : Nat) [Value.slice a_2 n c] m' (Value.int IntKind.i64 n_7) ∧
      ifB (n_7 == (0 : Int))
      (∃ (b : Bool),
      QSpec Try.prog (15 : Nat) [Value.slice a_4 n_2 c_1, Value.slice a_6 n_5 c_2] m' (Value.bool b) ∧
      ifB b
      (ifB (n_3 == n_6)
      (∃ (n_8 : Int),
      QSpec Try.prog (16 : Nat)
      [Value.slice a_2 n c, Value.int IntKind.i64 g, Value.string k,
      Value.int IntKind.i64 le]
      m' (Value.int IntKind.i64 n_8) ∧
      ∃ (n_9 : Int),
      QSpec Try.prog (17 : Nat)
      [Value.slice a l.length cp, Value.int IntKind.i64 g, Value.string k,
      Value.int IntKind.i64 le]
      m' (Value.int IntKind.i64 n_9) ∧
      ifB (n_8 == n_9)
      (∃ (n_10 : Int),
      QSpec Try.prog (16 : Nat)
      [Value.slice a_2 n c, Value.int IntKind.i64 r.g, Value.string r.ky,
      Value.int IntKind.i64 r.le]
      m' (Value.int IntKind.i64 n_10) ∧
      ∃ (n_11 : Int),
      QSpec Try.prog (17 : Nat)
      [Value.slice a l.length cp, Value.int IntKind.i64 r.g,
      Value.string r.ky, Value.int IntKind.i64 r.le]
      m' (Value.int IntKind.i64 n_11) ∧
      ifB (n_10 == n_11)
      (∃ (b : Bool),
      QSpec Try.prog (18 : Nat)
      [Value.slice a_2 n c, Value.slice a l.length cp] m'
      (Value.bool b) ∧
      Done (Value.bool b = Value.bool true))
      (Done (Value.bool false = Value.bool true)))
      (Done (Value.bool false = Value.bool true)))
      (Done (Value.bool false = Value.bool true)))
      (Done (Value.bool false = Value.bool true)))
      (Done (Value.bool false = Value.bool true)))
      (Done (Value.bool false = Value.bool true)))) (by kernel_rfl) ?_
  have R : Rs { m with sz := N } [(a, rts l)] := ⟨h.sz hN, trivial⟩
  refine ⟨rfl, ?_⟩
  refine ⟨_, noS, fun N1 hN1 => (own_s a cp l (by omega) _ ((R.sz hN1).1)).monoW fun v1 m1 ag1 q1 => ?_⟩
  obtain ⟨b1, e1, r1⟩ := q1
  refine ⟨_, _, _, e1, ?_⟩
  have R1 := Rs.cons r1 (Rs.step R hN1 ag1)
  refine ⟨_, rright_l _ _ l (by omega) _ (R1.2.1), ?_⟩
  cases ht : ledB none l
  · refine ifB_true ?_
    refine ⟨_, noS, fun N2 hN2 => (lput_s _ _ l r (by omega) _ ((R1.sz hN2).1.take)).monoW fun v2 m2 ag2 q2 => ?_⟩
    obtain ⟨x2, y2, e2, r2⟩ := q2
    refine ⟨_, _, _, _, e2, ?_⟩
    have R2 := Rs.cons r2 (Rs.step R1 hN2 ag2)
    refine ⟨_, noS, fun N3 hN3 => (rput_s _ _ l r (by omega) _ ((R2.sz hN3).2.2.1)).monoW fun v3 m3 ag3 q3 => ?_⟩
    obtain ⟨x3, y3, e3, r3⟩ := q3
    refine ⟨_, _, _, _, e3, ?_⟩
    have R3 := Rs.cons r3 (Rs.step R2 hN3 ag3)
    have hl := put_len l r
    refine ⟨rfl, _, lawake_q _, ifB_true ⟨_, lcheck_q _ _ l (by omega) _ (R3.2.2.1.take), ?_⟩⟩
    rw [ht]
    simp only [bne_self_eq_false, beq_self_eq_true, Bool.not_true, Bool.not_false, Bool.and_self, Bool.and_true, decide_true]
    refine ifB_true ⟨_, rt_plain _ _ _ _ _ _ (by omega) _ (R3.2.1) (R3.1), ?_⟩
    simp only [bne_self_eq_false, beq_self_eq_true, Bool.not_true, Bool.not_false, Bool.and_self, Bool.and_true, decide_true]
    refine ifB_true (ifB_true ⟨_, lnet_q _ _ l g k le (by omega) _ (R3.2.2.1.take), _, rnet_q _ _ l g k le (by omega) _ (R3.2.2.2.1), ?_⟩)
    simp only [bne_self_eq_false, beq_self_eq_true, Bool.not_true, Bool.not_false, Bool.and_self, Bool.and_true, decide_true]
    refine ifB_true ⟨_, lnet_q _ _ l r.g r.ky r.le (by omega) _ (R3.2.2.1.take), _, rnet_q _ _ l r.g r.ky r.le (by omega) _ (R3.2.2.2.1), ?_⟩
    simp only [bne_self_eq_false, beq_self_eq_true, Bool.not_true, Bool.not_false, Bool.and_self, Bool.and_true, decide_true]
    exact ifB_true ⟨_, kept_q b1 l a cp (by omega) _ (R3.2.2.1) (R3.2.2.2.1), ⟨rfl⟩⟩
  · refine ifB_false ?_
    refine ⟨_, noS, fun N2 hN2 => (lput_s _ _ l r (by omega) _ ((R1.sz hN2).1.take)).monoW fun v2 m2 ag2 q2 => ?_⟩
    obtain ⟨x2, y2, e2, r2⟩ := q2
    refine ⟨_, _, _, _, e2, ?_⟩
    have R2 := Rs.cons r2 (Rs.step R1 hN2 ag2)
    refine ⟨_, noS, fun N3 hN3 => (rput_s _ _ l r (by omega) _ ((R2.sz hN3).2.2.1)).monoW fun v3 m3 ag3 q3 => ?_⟩
    obtain ⟨x3, y3, e3, r3⟩ := q3
    refine ⟨_, _, _, _, e3, ?_⟩
    have R3 := Rs.cons r3 (Rs.step R2 hN3 ag3)
    have hl := put_len l r
    refine ⟨rfl, _, lawake_q _, ifB_true ⟨_, lcheck_q _ _ l (by omega) _ (R3.2.2.1.take), ?_⟩⟩
    rw [ht]
    simp only [bne_self_eq_false, beq_self_eq_true, Bool.not_true, Bool.not_false, Bool.and_self, Bool.and_true, decide_true]
    refine ifB_true ⟨_, rt_plain _ _ _ _ _ _ (by omega) _ (R3.2.1) (R3.1), ?_⟩
    simp only [bne_self_eq_false, beq_self_eq_true, Bool.not_true, Bool.not_false, Bool.and_self, Bool.and_true, decide_true]
    refine ifB_true (ifB_true ⟨_, lnet_q _ _ l g k le (by omega) _ (R3.2.2.1.take), _, rnet_q _ _ l g k le (by omega) _ (R3.2.2.2.1), ?_⟩)
    simp only [bne_self_eq_false, beq_self_eq_true, Bool.not_true, Bool.not_false, Bool.and_self, Bool.and_true, decide_true]
    refine ifB_true ⟨_, lnet_q _ _ l r.g r.ky r.le (by omega) _ (R3.2.2.1.take), _, rnet_q _ _ l r.g r.ky r.le (by omega) _ (R3.2.2.2.1), ?_⟩
    simp only [bne_self_eq_false, beq_self_eq_true, Bool.not_true, Bool.not_false, Bool.and_self, Bool.and_true, decide_true]
    exact ifB_true ⟨_, kept_q b1 l a cp (by omega) _ (R3.2.2.1) (R3.2.2.2.1), ⟨rfl⟩⟩

set_option maxHeartbeats 1000000 in
theorem ledgerputs (a : Option Addr) (cp : Nat) (l : List Rt) (r : Rt) (g : Int) (k : ByteArray) (le : Int) (hn : l.length ≤ 1048576) (m : M) (h : Row m a (rts l)) :
    QSpec Try.prog 4 [.slice a l.length cp, rtv r, I g, .string k, I le] m (.bool true) := by
  refine QSpec.of_vc Try.func4 (ann := fun _ => noAnn) fun N hN => ?_
  refine vc_by (X :=
      true = true ∧
      ∃ (b : Bool),
      QSpec Try.prog (13 : Nat) [] { π := m.π, sz := N, uf := m.uf : M } (Value.bool b) ∧
      ifB (!b) (Done (Value.bool false = Value.bool true))
      (true = true ∧
      (∃ (S' : Nat → Prop),
      (∀ (b : Nat), S' b → m.uf b ∧ (N ≤ b ∨ False)) ∧
      ∀ (n : Nat),
      N ≤ n →
      SpecW Try.prog (9 : Nat) [Value.slice a l.length cp] { π := m.π, sz := n, uf := m.uf : M } S' fun (v : Value) (m' : M) =>
      ∃ (a_2 : Option Addr),
      ∃ (n : Nat),
      ∃ (c : Nat),
      v = Value.slice a_2 n c ∧
      MLe { π := m.π, sz := N, uf := m.uf : M } m' ∧
      (∃ (S' : Nat → Prop),
      (∀ (b : Nat), S' b → m'.uf b ∧ (N ≤ b ∨ False)) ∧
      ∀ (n_1 : Nat),
      m'.sz ≤ n_1 →
      SpecW Try.prog (11 : Nat)
      [Value.slice a_2 n c, Value.agg #[Value.int IntKind.i64 r.g, Value.string r.ky, Value.int IntKind.i64 r.le, Value.int IntKind.i64 r.ne]]
      { π := m'.π, sz := n_1, uf := m'.uf : M } S' fun (v : Value) (m' : M) =>
      ∃ (a_4 : Option Addr),
      ∃ (n : Nat),
      ∃ (c : Nat),
      ∃ (n_2 : Int),
      v = Value.tuple #[Value.slice a_4 n c, Value.int IntKind.i64 n_2] ∧
      ifB (n_2 != (0 : Int))
      (ifB ((↑n : Int) == (0 : Int))
      (ifB (n_2 == (21 : Int))
      (∃ (n : Int),
      QSpec Try.prog (14 : Nat) [Value.slice a l.length cp] m' (Value.int IntKind.i64 n) ∧
      ifB (n == (21 : Int)) (Done (Value.bool true = Value.bool true))
      (Done (Value.bool (n_2 == (1 : Int)) = Value.bool true)))
      (Done (Value.bool (n_2 == (1 : Int)) = Value.bool true)))
      (Done (Value.bool false = Value.bool true)))
      (∃ (S' : Nat → Prop),
      (∀ (b : Nat), S' b → m'.uf b ∧ (N ≤ b ∨ False)) ∧
      ∀ (n_3 : Nat),
      m'.sz ≤ n_3 →
      SpecW Try.prog (11 : Nat)
      [Value.slice a_4 n c,
      Value.agg
      #[Value.int IntKind.i64 r.g, Value.string r.ky, Value.int IntKind.i64 r.le, Value.int IntKind.i64 r.ne]]
      { π := m'.π, sz := n_3, uf := m'.uf : M } S' fun (v : Value) (m' : M) =>
      ∃ (a_6 : Option Addr),
      ∃ (n_4 : Nat),
      ∃ (c_1 : Nat),
      ∃ (n_5 : Int),
      v = Value.tuple #[Value.slice a_6 n_4 c_1, Value.int IntKind.i64 n_5] ∧
      true = true ∧
      ifB (n_5 != (0 : Int)) (Done (Value.bool false = Value.bool true))
      (∃ (b : Bool),
      QSpec Try.prog (15 : Nat) [Value.slice a_4 n c, Value.slice a_6 n_4 c_1] m' (Value.bool b) ∧
      ifB (!b) (Done (Value.bool false = Value.bool true))
      (∃ (n_6 : Int),
      QSpec Try.prog (14 : Nat) [Value.slice a_4 n c] m' (Value.int IntKind.i64 n_6) ∧
      ifB (n_6 != (0 : Int)) (Done (Value.bool false = Value.bool true))
      (∃ (n_7 : Int),
      QSpec Try.prog (16 : Nat)
      [Value.slice a_4 n c, Value.int IntKind.i64 r.g, Value.string r.ky,
      Value.int IntKind.i64 r.le]
      m' (Value.int IntKind.i64 n_7) ∧
      ifB (n_7 != r.ne) (Done (Value.bool false = Value.bool true))
      (ifB (g == r.g)
      (ifB (k.toList == r.ky.toList)
      (ifB (le == r.le) (Done (Value.bool true = Value.bool true))
      (∃ (n_8 : Int),
      QSpec Try.prog (16 : Nat)
      [Value.slice a_4 n c, Value.int IntKind.i64 g, Value.string k,
      Value.int IntKind.i64 le]
      m' (Value.int IntKind.i64 n_8) ∧
      Done (Value.bool (n_8 == (0 : Int)) = Value.bool true)))
      (∃ (n_8 : Int),
      QSpec Try.prog (16 : Nat)
      [Value.slice a_4 n c, Value.int IntKind.i64 g, Value.string k,
      Value.int IntKind.i64 le]
      m' (Value.int IntKind.i64 n_8) ∧
      ∃ (n : Int),
      QSpec Try.prog (16 : Nat)
      [Value.slice a l.length cp, Value.int IntKind.i64 g, Value.string k,
      Value.int IntKind.i64 le]
      m' (Value.int IntKind.i64 n) ∧
      Done (Value.bool (n_8 == n) = Value.bool true)))
      (∃ (n_8 : Int),
      QSpec Try.prog (16 : Nat)
      [Value.slice a_4 n c, Value.int IntKind.i64 g, Value.string k,
      Value.int IntKind.i64 le]
      m' (Value.int IntKind.i64 n_8) ∧
      ∃ (n : Int),
      QSpec Try.prog (16 : Nat)
      [Value.slice a l.length cp, Value.int IntKind.i64 g, Value.string k,
      Value.int IntKind.i64 le]
      m' (Value.int IntKind.i64 n) ∧
      Done (Value.bool (n_8 == n) = Value.bool true)))))))) ∧
      True) ∧
      True)) (by kernel_rfl) ?_
  have R : Rs { m with sz := N } [(a, rts l)] := ⟨h.sz hN, trivial⟩
  refine ⟨rfl, _, lawake_q _, ifB_false ⟨rfl, ?_, trivial⟩⟩
  refine ⟨_, noS, fun N1 hN1 => (own_s a cp l (by omega) _ ((R.sz hN1).1)).monoW fun v1 m1 ag1 q1 => ?_⟩
  obtain ⟨b1, e1, r1⟩ := q1
  refine ⟨_, _, _, e1, MLe.ofAgree hN1 ag1, ?_, trivial⟩
  have R1 := Rs.cons r1 (Rs.step R hN1 ag1)
  refine ⟨_, noS, fun N2 hN2 => (lput_s _ _ l r (by omega) _ ((R1.sz hN2).1.take)).monoW fun v2 m2 ag2 q2 => ?_⟩
  obtain ⟨x2, y2, e2, r2⟩ := q2
  refine ⟨_, _, _, _, e2, ?_⟩
  have R2 := Rs.cons r2 (Rs.step R1 hN2 ag2)
  have hl := put_len l r
  cases ht : ledB none l
  · have hE : putE l r = ([], 21) := by simp [putE, ht]
    rw [hE]
    exact ifB_true (ifB_true (ifB_true ⟨_, lcheck_q _ _ l (by omega) _ (R2.2.2.1), by rw [ht]; exact ifB_true ⟨rfl⟩⟩))
  cases hr : rmayB r
  · have hE : putE l r = ([], 1) := by simp [putE, ht, hr]
    rw [hE]
    exact ifB_true (ifB_true (ifB_false ⟨rfl⟩))
  have hE : putE l r = (putL l r, 0) := by simp [putE, ht, hr]
  have hL : (putL l r).length ≤ 2 * l.length + 1 := by rw [hE] at hl; exact hl
  have hp := put_led ht hr
  have hE2 : putE (putL l r) r = (putL l r, 0) := by simp [putE, hp, hr, put_put ht hr]
  rw [hE] at R2 ⊢
  simp only [bne_self_eq_false, beq_self_eq_true, Bool.not_true, Bool.not_false, Bool.and_self, Bool.and_true, decide_true]
  refine ifB_false ?_
  refine ⟨_, noS, fun N3 hN3 => (lput_s _ _ (putL l r) r (by omega) _ ((R2.sz hN3).1)).monoW fun v3 m3 ag3 q3 => ?_⟩
  obtain ⟨x3, y3, e3, r3⟩ := q3
  refine ⟨_, _, _, _, e3, ?_⟩
  have R3 := Rs.cons r3 (Rs.step R2 hN3 ag3)
  rw [hE2] at R3 ⊢
  simp only [bne_self_eq_false, beq_self_eq_true, Bool.not_true, Bool.not_false, Bool.and_self, Bool.and_true, decide_true]
  have hn1 : netR (putL l r) r.g r.ky r.le = r.ne := by
    rw [net_of hp, put_of ht, if_pos (by simp [sameK])]; simp
  refine ⟨by trivial, ifB_false ⟨_, rt_plain _ _ _ _ _ _ (by omega) _ (R3.2.1) (R3.1), ?_⟩⟩
  simp only [bne_self_eq_false, beq_self_eq_true, Bool.not_true, Bool.not_false, Bool.and_self, Bool.and_true, decide_true]
  refine ifB_false ⟨_, lcheck_q _ _ (putL l r) (by omega) _ (R3.2.1), ?_⟩
  rw [hp]
  simp only [if_true, bne_self_eq_false]
  refine ifB_false ⟨_, lnet_q _ _ (putL l r) r.g r.ky r.le (by omega) _ (R3.2.1), ?_⟩
  rw [hn1]
  simp only [bne_self_eq_false, beq_self_eq_true, Bool.not_true, Bool.not_false, Bool.and_self, Bool.and_true, decide_true]
  refine ifB_false (ifB_intro (fun q1 => ifB_intro (fun q2 => ifB_intro (fun q3 => ⟨by trivial⟩) (fun q3 => ⟨_, lnet_q _ _ (putL l r) g k le (by omega) _ (R3.2.1), ⟨?_⟩⟩)) (fun q2 => ⟨_, lnet_q _ _ (putL l r) g k le (by omega) _ (R3.2.1), _, lnet_q _ _ l g k le (by omega) _ (R3.2.2.2.1), ⟨?_⟩⟩)) (fun q1 => ⟨_, lnet_q _ _ (putL l r) g k le (by omega) _ (R3.2.1), _, lnet_q _ _ l g k le (by omega) _ (R3.2.2.2.1), ⟨?_⟩⟩))
  · rw [bytes_beq] at q2
    simp at q1 q2 q3
    rw [net_of hp, put_of ht, if_pos (by simp [sameK, q1, q2])]
    simp [show ¬ r.le = le from fun e => q3 e.symm]
  · rw [bytes_beq] at q2; simp at q2
    rw [net_of hp, put_of ht, if_neg (by simp [sameK]; intro _ e; exact q2 e.symm), ← net_of ht]; simp
  · simp at q1
    rw [net_of hp, put_of ht, if_neg (by simp [sameK]; intro e; exact absurd e.symm q1), ← net_of ht]; simp

end Go.Proofs.Ytfkielfnceeedaa
