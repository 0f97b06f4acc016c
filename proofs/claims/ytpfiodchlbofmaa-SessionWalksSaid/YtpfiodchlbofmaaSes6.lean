/-
  Contracts of functions of this seat: what each hands back, and what it leaves of memory (ses6). Nothing here is trusted: Lean checks it.
-/
import Derived.Test.YtpfiodchlbofmaaSes5
set_option linter.unusedVariables false
set_option linter.unusedSimpArgs false
namespace Go.Proofs.Ytpfiodchlbofmaa
open Go.Vc Go.RowKit
set_option maxRecDepth 100000

theorem rclient_q (c : Int) (m : M) : QSpec Try.prog 32 [I c] m (.bool (decide (1 ≤ c) && decide (c ≤ 8))) := by
  refine QSpec.of_vc Try.func32 (ann := fun _ => noAnn) fun n hn => ?_
  refine vc_by (X :=
      true = true ∧
      ifB (decide (c ≥ (1 : Int))) (Done (Value.bool (decide (c ≤ (8 : Int))) = Value.bool (decide ((1 : Int) ≤ c) && decide (c ≤ (8 : Int)))))
      (Done (Value.bool false = Value.bool (decide ((1 : Int) ≤ c) && decide (c ≤ (8 : Int)))))) (by kernel_rfl) ?_
  refine ⟨rfl, ifB_intro (fun h => ⟨?_⟩) (fun h => ⟨?_⟩)⟩
  · simp at h; simp [h]
  · simp at h; simp; omega

theorem rseq_q (s : Int) (m : M) : QSpec Try.prog 33 [I s] m (.bool (decide (1 ≤ s) && decide (s ≤ 4611686018427387904))) := by
  refine QSpec.of_vc Try.func33 (ann := fun _ => noAnn) fun n hn => ?_
  refine vc_by (X :=
      true = true ∧
      ifB (decide (s ≥ (1 : Int))) (Done (Value.bool (decide (s ≤ (4611686018427387904 : Int))) = Value.bool (decide ((1 : Int) ≤ s) && decide (s ≤ (4611686018427387904 : Int)))))
      (Done (Value.bool false = Value.bool (decide ((1 : Int) ≤ s) && decide (s ≤ (4611686018427387904 : Int)))))) (by kernel_rfl) ?_
  refine ⟨rfl, ifB_intro (fun h => ⟨?_⟩) (fun h => ⟨?_⟩)⟩
  · simp at h; simp [h]
  · simp at h; simp; omega

theorem opM_ok {c s : Int} (h : argB c s = true) : mkB (opM c s) = true ∧ 0 < c := by
  simp [argB] at h
  refine ⟨?_, by omega⟩
  show mkB ⟨c, s, true, 0, 0, 0, 0⟩ = true
  simp [mkB, ans0B]
  omega

theorem rbegin_s (a : Option Addr) (cp : Nat) (l : List Mk) (c s : Int) (hn : l.length ≤ 9223372036854775807) (m : M) (h : Row m a (mks l)) : Vc.Spec Try.prog 22 [.slice a l.length cp, I c, I s] m (MbR (beginM l c s)) := by
  refine Vc.Spec.of_vc Try.func22 (ann := noAnn) ?_
  refine vc_by (X :=
      true = true ∧
      ∃ (b : Bool),
      QSpec Try.prog (16 : Nat) [Value.slice a l.length cp] m (Value.bool b) ∧
      ifB (!b) (Done (MbR (beginM l c s) (Value.tuple #[Value.slice none (0 : Nat) (0 : Nat), Value.bool false, Value.int IntKind.i64 (21 : Int)]) m))
      (∃ (b : Bool),
      QSpec Try.prog (32 : Nat) [Value.int IntKind.i64 c] m (Value.bool b) ∧
      ifB (!b) (Done (MbR (beginM l c s) (Value.tuple #[Value.slice none (0 : Nat) (0 : Nat), Value.bool false, Value.int IntKind.i64 (1 : Int)]) m))
      (∃ (b : Bool),
      QSpec Try.prog (33 : Nat) [Value.int IntKind.i64 s] m (Value.bool b) ∧
      ifB (!b) (Done (MbR (beginM l c s) (Value.tuple #[Value.slice none (0 : Nat) (0 : Nat), Value.bool false, Value.int IntKind.i64 (1 : Int)]) m))
      (∃ (n : Int),
      ∃ (n_1 : Int),
      ∃ (b : Bool),
      ∃ (n_2 : Int),
      ∃ (n_3 : Int),
      ∃ (n_4 : Int),
      ∃ (n_5 : Int),
      ∃ (b_1 : Bool),
      QSpec Try.prog (21 : Nat) [Value.slice a l.length cp, Value.int IntKind.i64 c] m
      (Value.tuple
      #[Value.agg
      #[Value.int IntKind.i64 n, Value.int IntKind.i64 n_1, Value.bool b, Value.int IntKind.i64 n_2, Value.int IntKind.i64 n_3,
      Value.int IntKind.i64 n_4, Value.int IntKind.i64 n_5],
      Value.bool b_1]) ∧
      ifB b_1
      (ifB (decide (n_1 > s))
      (Done (MbR (beginM l c s) (Value.tuple #[Value.slice none (0 : Nat) (0 : Nat), Value.bool false, Value.int IntKind.i64 (80 : Int)]) m))
      (ifB b_1
      (ifB (n_1 == s)
      (Done (MbR (beginM l c s) (Value.tuple #[Value.slice a l.length cp, Value.bool false, Value.int IntKind.i64 (0 : Int)]) m))
      (∃ (S' : Nat → Prop),
      (∀ (b : Nat), S' b → m.uf b ∧ (m.sz ≤ b ∨ False)) ∧
      ∀ (n : Nat),
      m.sz ≤ n →
      SpecW Try.prog (34 : Nat)
      [Value.slice a l.length cp,
      Value.agg
      #[Value.int IntKind.i64 c, Value.int IntKind.i64 s, Value.bool true, Value.int IntKind.i64 (0 : Int),
      Value.int IntKind.i64 (0 : Int), Value.int IntKind.i64 (0 : Int), Value.int IntKind.i64 (0 : Int)]]
      { π := m.π, sz := n, uf := m.uf : M } S' fun (v : Value) (m' : M) =>
      ∃ (a : Option Addr),
      ∃ (n : Nat),
      ∃ (c_1 : Nat),
      v = Value.slice a n c_1 ∧
      Done
      (MbR (beginM l c s) (Value.tuple #[Value.slice a n c_1, Value.bool true, Value.int IntKind.i64 (0 : Int)]) m')))
      (∃ (S' : Nat → Prop),
      (∀ (b : Nat), S' b → m.uf b ∧ (m.sz ≤ b ∨ False)) ∧
      ∀ (n : Nat),
      m.sz ≤ n →
      SpecW Try.prog (34 : Nat)
      [Value.slice a l.length cp,
      Value.agg
      #[Value.int IntKind.i64 c, Value.int IntKind.i64 s, Value.bool true, Value.int IntKind.i64 (0 : Int),
      Value.int IntKind.i64 (0 : Int), Value.int IntKind.i64 (0 : Int), Value.int IntKind.i64 (0 : Int)]]
      { π := m.π, sz := n, uf := m.uf : M } S' fun (v : Value) (m' : M) =>
      ∃ (a : Option Addr),
      ∃ (n : Nat),
      ∃ (c_1 : Nat),
      v = Value.slice a n c_1 ∧
      Done (MbR (beginM l c s) (Value.tuple #[Value.slice a n c_1, Value.bool true, Value.int IntKind.i64 (0 : Int)]) m'))))
      (ifB b_1
      (ifB (n_1 == s)
      (Done (MbR (beginM l c s) (Value.tuple #[Value.slice a l.length cp, Value.bool false, Value.int IntKind.i64 (0 : Int)]) m))
      (∃ (S' : Nat → Prop),
      (∀ (b : Nat), S' b → m.uf b ∧ (m.sz ≤ b ∨ False)) ∧
      ∀ (n : Nat),
      m.sz ≤ n →
      SpecW Try.prog (34 : Nat)
      [Value.slice a l.length cp,
      Value.agg
      #[Value.int IntKind.i64 c, Value.int IntKind.i64 s, Value.bool true, Value.int IntKind.i64 (0 : Int),
      Value.int IntKind.i64 (0 : Int), Value.int IntKind.i64 (0 : Int), Value.int IntKind.i64 (0 : Int)]]
      { π := m.π, sz := n, uf := m.uf : M } S' fun (v : Value) (m' : M) =>
      ∃ (a : Option Addr),
      ∃ (n : Nat),
      ∃ (c_1 : Nat),
      v = Value.slice a n c_1 ∧
      Done (MbR (beginM l c s) (Value.tuple #[Value.slice a n c_1, Value.bool true, Value.int IntKind.i64 (0 : Int)]) m')))
      (∃ (S' : Nat → Prop),
      (∀ (b : Nat), S' b → m.uf b ∧ (m.sz ≤ b ∨ False)) ∧
      ∀ (n : Nat),
      m.sz ≤ n →
      SpecW Try.prog (34 : Nat)
      [Value.slice a l.length cp,
      Value.agg
      #[Value.int IntKind.i64 c, Value.int IntKind.i64 s, Value.bool true, Value.int IntKind.i64 (0 : Int),
      Value.int IntKind.i64 (0 : Int), Value.int IntKind.i64 (0 : Int), Value.int IntKind.i64 (0 : Int)]]
      { π := m.π, sz := n, uf := m.uf : M } S' fun (v : Value) (m' : M) =>
      ∃ (a : Option Addr),
      ∃ (n : Nat),
      ∃ (c_1 : Nat),
      v = Value.slice a n c_1 ∧
      Done (MbR (beginM l c s) (Value.tuple #[Value.slice a n c_1, Value.bool true, Value.int IntKind.i64 (0 : Int)]) m'))))))) (by kernel_rfl) ?_
  refine ⟨rfl, _, rright_q a cp l hn _ h, ?_⟩
  cases ht : tabB 0 l
  · exact ifB_true (mb_fail (by simp [beginM, ht]))
  have h8 := tab8 ht
  refine ifB_false ⟨_, rclient_q c _, ifB_intro (fun h1 => mb_fail ?_) (fun h1 => ⟨_, rseq_q s _, ifB_intro (fun h2 => mb_fail ?_) (fun h2 => ?_)⟩)⟩
  · have : argB c s = false := by simp at h1; simp [argB]; omega
    simp [beginM, ht, this]
  · have : argB c s = false := by simp at h2; simp [argB]; omega
    simp [beginM, ht, this]
  have ha : argB c s = true := by simp at h1 h2; simp [argB]; omega
  obtain ⟨o1, o2⟩ := opM_ok ha
  have hf : findO l c = ofM l c := by simp [findO, ht]
  refine ⟨_, _, _, _, _, _, _, _, rfind_q a cp l c hn _ h, ?_⟩
  rw [hf]
  cases ho : ofM l c with
  | none =>
    have hres : beginM l c s = (insM l (opM c s), true, 0) := by simp [beginM, ht, ha, ho]
    refine ifB_false (ifB_false ⟨_, noS, fun N hN => (rwith_s a cp l (opM c s) ht o1 o2 _ (h.sz hN)).monoW fun v m' hag hq => ?_⟩)
    obtain ⟨a', c', hv, hr⟩ := hq
    exact ⟨a', _, c', hv, mb_ok hres rfl hr⟩
  | some x =>
    refine ifB_true (ifB_intro (fun h5 => mb_fail ?_) (fun h5 => ifB_true (ifB_intro (fun h6 => ?_) (fun h6 => ⟨_, noS, fun N hN => (rwith_s a cp l (opM c s) ht o1 o2 _ (h.sz hN)).monoW fun v m' hag hq => ?_⟩))))
    · have h5 : s < x.sq := by simpa using h5
      simp [beginM, ht, ha, ho, h5]
    all_goals have h5 : ¬ s < x.sq := by simpa using h5
    · have h6 : x.sq = s := by simpa using h6
      exact mb_ok (by simp [beginM, ht, ha, ho, h6]) rfl h
    · have h6 : ¬ x.sq = s := by simpa using h6
      obtain ⟨a', c', hv, hr⟩ := hq
      exact ⟨a', _, c', hv, mb_ok (by simp [beginM, ht, ha, ho, h5, h6]) rfl hr⟩

theorem ropen_q (a : Option Addr) (cp : Nat) (l : List Mk) (c s : Int) (hn : l.length ≤ 9223372036854775807) (m : M) (h : Row m a (mks l)) : QSpec Try.prog 35 [.slice a l.length cp, I c, I s] m (I (openE l c s)) := by
  refine QSpec.of_vc Try.func35 (ann := fun _ => noAnn) fun n hn' => ?_
  refine vc_by (X :=
      true = true ∧
      ∃ (b : Bool),
      QSpec Try.prog (16 : Nat) [Value.slice a l.length cp] { π := m.π, sz := n, uf := m.uf : M } (Value.bool b) ∧
      ifB (!b) (Done (Value.int IntKind.i64 (21 : Int) = Value.int IntKind.i64 (openE l c s)))
      (∃ (n_1 : Int),
      ∃ (n_2 : Int),
      ∃ (b : Bool),
      ∃ (n_3 : Int),
      ∃ (n_4 : Int),
      ∃ (n_5 : Int),
      ∃ (n_6 : Int),
      ∃ (b_1 : Bool),
      QSpec Try.prog (21 : Nat) [Value.slice a l.length cp, Value.int IntKind.i64 c] { π := m.π, sz := n, uf := m.uf : M }
      (Value.tuple
      #[Value.agg
      #[Value.int IntKind.i64 n_1, Value.int IntKind.i64 n_2, Value.bool b, Value.int IntKind.i64 n_3, Value.int IntKind.i64 n_4,
      Value.int IntKind.i64 n_5, Value.int IntKind.i64 n_6],
      Value.bool b_1]) ∧
      ifB (!b_1) (Done (Value.int IntKind.i64 (60 : Int) = Value.int IntKind.i64 (openE l c s)))
      (ifB (n_2 != s) (Done (Value.int IntKind.i64 (60 : Int) = Value.int IntKind.i64 (openE l c s)))
      (ifB (!b) (Done (Value.int IntKind.i64 (60 : Int) = Value.int IntKind.i64 (openE l c s)))
      (Done (Value.int IntKind.i64 (0 : Int) = Value.int IntKind.i64 (openE l c s))))))) (by kernel_rfl) ?_
  have h' := h.sz hn'
  refine ⟨rfl, _, rright_q a cp l hn _ h', ?_⟩
  cases ht : tabB 0 l
  · exact ifB_true ⟨by simp [openE, ht]⟩
  refine ifB_false ⟨_, _, _, _, _, _, _, _, rfind_q a cp l c hn _ h', ?_⟩
  rw [show findO l c = ofM l c by simp [findO, ht]]
  cases ho : ofM l c with
  | none => exact ifB_true ⟨by simp [openE, ht, ho]⟩
  | some x =>
    refine ifB_false (ifB_intro (fun h1 => ⟨?_⟩) (fun h1 => ifB_intro (fun h2 => ⟨?_⟩) (fun h2 => ⟨?_⟩)))
    · have h1 : ¬ x.sq = s := by simpa using h1
      simp [openE, ht, ho, h1]
    · have h2 : x.op = false := by simpa using h2
      simp [openE, ht, ho, h2]
    · have h1 : x.sq = s := by simpa using h1
      have h2 : x.op = true := by simpa using h2
      simp [openE, ht, ho, h1, h2]

theorem edM_ok {l : List Mk} {c s : Int} {an : An} (h : openE l c s = 0) : mkB (edM c s an) = true ∧ 0 < c := by
  obtain ⟨-, x, -, -, -, g1, g2, g3, g4⟩ := openE_zero h
  refine ⟨?_, g1⟩
  show mkB ⟨c, s, false, an.er, an.va, an.le, an.mo⟩ = true
  simp [mkB]
  omega

theorem loM_ok {l : List Mk} {c s : Int} (h : openE l c s = 0) : mkB (loM c s) = true ∧ 0 < c := by
  obtain ⟨-, x, -, -, -, g1, g2, g3, g4⟩ := openE_zero h
  refine ⟨?_, g1⟩
  show mkB ⟨c, s - 1, false, 80, 0, 0, 0⟩ = true
  simp [mkB]
  omega

theorem rend_s (a : Option Addr) (cp : Nat) (l : List Mk) (c s : Int) (an : An) (hn : l.length ≤ 9223372036854775807) (m : M) (h : Row m a (mks l)) : Vc.Spec Try.prog 23 [.slice a l.length cp, I c, I s, anv an] m (MeR (endM l c s an)) := by
  refine Vc.Spec.of_vc Try.func23 (ann := noAnn) ?_
  refine vc_by (X :=
      true = true ∧
      ∃ (n : Int),
      QSpec Try.prog (35 : Nat) [Value.slice a l.length cp, Value.int IntKind.i64 c, Value.int IntKind.i64 s] m (Value.int IntKind.i64 n) ∧
      ifB (n != (0 : Int)) (Done (MeR (endM l c s an) (Value.tuple #[Value.slice none (0 : Nat) (0 : Nat), Value.int IntKind.i64 n]) m))
      (∃ (S' : Nat → Prop),
      (∀ (b : Nat), S' b → m.uf b ∧ (m.sz ≤ b ∨ False)) ∧
      ∀ (n : Nat),
      m.sz ≤ n →
      SpecW Try.prog (34 : Nat)
      [Value.slice a l.length cp,
      Value.agg
      #[Value.int IntKind.i64 c, Value.int IntKind.i64 s, Value.bool false, Value.int IntKind.i64 an.er, Value.int IntKind.i64 an.va, Value.int IntKind.i64 an.le,
      Value.int IntKind.i64 an.mo]]
      { π := m.π, sz := n, uf := m.uf : M } S' fun (v : Value) (m' : M) =>
      ∃ (a : Option Addr),
      ∃ (n : Nat), ∃ (c_1 : Nat), v = Value.slice a n c_1 ∧ Done (MeR (endM l c s an) (Value.tuple #[Value.slice a n c_1, Value.int IntKind.i64 (0 : Int)]) m'))) (by kernel_rfl) ?_
  refine ⟨rfl, _, ropen_q a cp l c s hn _ h, ifB_intro (fun h1 => me_fail ?_) (fun h1 => ?_)⟩
  · simp at h1; simp [endM, h1]
  have h1 : openE l c s = 0 := by simpa using h1
  obtain ⟨ht, -⟩ := openE_zero h1
  obtain ⟨o1, o2⟩ := edM_ok (an := an) h1
  refine ⟨_, noS, fun N hN => (rwith_s a cp l (edM c s an) ht o1 o2 _ (h.sz hN)).monoW fun v m' hag hq => ?_⟩
  obtain ⟨a', c', hv, hr⟩ := hq
  exact ⟨a', _, c', hv, me_ok (by simp [endM, h1]) rfl hr⟩

theorem rlose_s (a : Option Addr) (cp : Nat) (l : List Mk) (c s : Int) (hn : l.length ≤ 9223372036854775807) (m : M) (h : Row m a (mks l)) : Vc.Spec Try.prog 24 [.slice a l.length cp, I c, I s] m (MeR (loseM l c s)) := by
  refine Vc.Spec.of_vc Try.func24 (ann := noAnn) ?_
  refine vc_by (X :=
      true = true ∧
      ∃ (n : Int),
      QSpec Try.prog (35 : Nat) [Value.slice a l.length cp, Value.int IntKind.i64 c, Value.int IntKind.i64 s] m (Value.int IntKind.i64 n) ∧
      ifB (n != (0 : Int)) (Done (MeR (loseM l c s) (Value.tuple #[Value.slice none (0 : Nat) (0 : Nat), Value.int IntKind.i64 n]) m))
      (∃ (S' : Nat → Prop),
      (∀ (b : Nat), S' b → m.uf b ∧ (m.sz ≤ b ∨ False)) ∧
      ∀ (n : Nat),
      m.sz ≤ n →
      SpecW Try.prog (34 : Nat)
      [Value.slice a l.length cp,
      Value.agg
      #[Value.int IntKind.i64 c, Value.int IntKind.i64 (IntKind.i64.wrap (s - (1 : Int))), Value.bool false, Value.int IntKind.i64 (80 : Int),
      Value.int IntKind.i64 (0 : Int), Value.int IntKind.i64 (0 : Int), Value.int IntKind.i64 (0 : Int)]]
      { π := m.π, sz := n, uf := m.uf : M } S' fun (v : Value) (m' : M) =>
      ∃ (a : Option Addr),
      ∃ (n : Nat), ∃ (c_1 : Nat), v = Value.slice a n c_1 ∧ Done (MeR (loseM l c s) (Value.tuple #[Value.slice a n c_1, Value.int IntKind.i64 (0 : Int)]) m'))) (by kernel_rfl) ?_
  refine ⟨rfl, _, ropen_q a cp l c s hn _ h, ifB_intro (fun h1 => me_fail ?_) (fun h1 => ?_)⟩
  · simp at h1; simp [loseM, h1]
  have h1 : openE l c s = 0 := by simpa using h1
  obtain ⟨ht, x, -, -, -, -, -, g1, g2⟩ := openE_zero h1
  obtain ⟨o1, o2⟩ := loM_ok h1
  have w1 : IntKind.i64.wrap (s - 1) = s - 1 := by simp [IntKind.wrap_i64]; omega
  rw [w1]
  refine ⟨_, noS, fun N hN => (rwith_s a cp l (loM c s) ht o1 o2 _ (h.sz hN)).monoW fun v m' hag hq => ?_⟩
  obtain ⟨a', c', hv, hr⟩ := hq
  exact ⟨a', _, c', hv, me_ok (by simp [loseM, h1]) rfl hr⟩

def joF (l b : List Mk) (c : Int) : Option Mk := joinO (ofM l c) (ofM b c)

set_option maxHeartbeats 1000000 in
theorem rjoin_s (a ab : Option Addr) (cp cb : Nat) (l b : List Mk) (hn : l.length ≤ 9223372036854775807) (hb : b.length ≤ 9223372036854775807) (m : M) (h : Row m a (mks l)) (h2 : Row m ab (mks b)) : Vc.Spec Try.prog 12 [.slice a l.length cp, .slice ab b.length cb] m (MeR (joinM l b)) := by
  refine Vc.Spec.of_vc Try.func12 (ann := fun _ => { A := JoX, inv := fun y => y.k ≤ 8 ∧ NewR m.sz (fun _ => False) y.m 7 y.a (listM (joF l b) y.k 1).length y.c (mks (listM (joF l b) y.k 1)) ∧ Agree m.sz m y.m, st := fun y => [(7, .val (I ((y.k + 1 : Nat) : Int))), (0, .val (.slice a l.length cp)), (1, .val (.slice ab b.length cb)), (6, .val (.slice y.a (listM (joF l b) y.k 1).length y.c))], own := fun _ => [], m := fun y => y.m, μ := fun y => 8 - y.k }) ?_
  refine vc_by (X :=
      true = true ∧
      ∃ (b_1 : Bool),
      QSpec Try.prog (16 : Nat) [Value.slice a l.length cp] m (Value.bool b_1) ∧
      ifB (!b_1) (Done (MeR (joinM l b) (Value.tuple #[Value.slice none (0 : Nat) (0 : Nat), Value.int IntKind.i64 (21 : Int)]) m))
      (∃ (b_2 : Bool),
      QSpec Try.prog (16 : Nat) [Value.slice ab b.length cb] m (Value.bool b_2) ∧
      ifB (!b_2) (Done (MeR (joinM l b) (Value.tuple #[Value.slice none (0 : Nat) (0 : Nat), Value.int IntKind.i64 (21 : Int)]) m))
      ((∃ (a_1 : JoX),
      (a_1.k ≤ (8 : Nat) ∧
      NewR m.sz (fun (x : Nat) => False) a_1.m (7 : Nat) a_1.a (listM (joF l b) a_1.k (1 : Int)).length a_1.c (mks (listM (joF l b) a_1.k (1 : Int))) ∧
      Agree m.sz m a_1.m) ∧
      m = a_1.m ∧
      ((SV.val (Value.int IntKind.i64 (1 : Int)) = SV.val (Value.int IntKind.i64 (↑(a_1.k + (1 : Nat)) : Int)) ∧ true = true) ∧
      (SV.val (Value.slice a l.length cp) = SV.val (Value.slice a l.length cp) ∧ true = true) ∧
      (SV.val (Value.slice ab b.length cb) = SV.val (Value.slice ab b.length cb) ∧ true = true) ∧
      (SV.val (Value.slice none (0 : Nat) (0 : Nat)) = SV.val (Value.slice a_1.a (listM (joF l b) a_1.k (1 : Int)).length a_1.c) ∧ true = true) ∧ True) ∧
      True) ∧
      ∀ (a_1 : JoX),
      a_1.k ≤ (8 : Nat) ∧
      NewR m.sz (fun (x : Nat) => False) a_1.m (7 : Nat) a_1.a (listM (joF l b) a_1.k (1 : Int)).length a_1.c (mks (listM (joF l b) a_1.k (1 : Int))) ∧
      Agree m.sz m a_1.m →
      ifB (decide ((↑(a_1.k + (1 : Nat)) : Int) ≤ (8 : Int)))
      (∃ (n : Int),
      ∃ (n_1 : Int),
      ∃ (b_3 : Bool),
      ∃ (n_2 : Int),
      ∃ (n_3 : Int),
      ∃ (n_4 : Int),
      ∃ (n_5 : Int),
      ∃ (b_4 : Bool),
      QSpec Try.prog (21 : Nat) [Value.slice a l.length cp, Value.int IntKind.i64 (↑(a_1.k + (1 : Nat)) : Int)] a_1.m
      (Value.tuple
      #[Value.agg
      #[Value.int IntKind.i64 n, Value.int IntKind.i64 n_1, Value.bool b_3, Value.int IntKind.i64 n_2, Value.int IntKind.i64 n_3,
      Value.int IntKind.i64 n_4, Value.int IntKind.i64 n_5],
      Value.bool b_4]) ∧
      ∃ (n_6 : Int),
      ∃ (n_7 : Int),
      ∃ (b_5 : Bool),
      ∃ (n_8 : Int),
      ∃ (n_9 : Int),
      ∃ (n_10 : Int),
      ∃ (n_11 : Int),
      ∃ (b_6 : Bool),
      QSpec Try.prog (21 : Nat) [Value.slice ab b.length cb, Value.int IntKind.i64 (↑(a_1.k + (1 : Nat)) : Int)] a_1.m
      (Value.tuple
      #[Value.agg
      #[Value.int IntKind.i64 n_6, Value.int IntKind.i64 n_7, Value.bool b_5, Value.int IntKind.i64 n_8,
      Value.int IntKind.i64 n_9, Value.int IntKind.i64 n_10, Value.int IntKind.i64 n_11],
      Value.bool b_6]) ∧
      ifB b_6
      (ifB (!b_4)
      (ifB b_4
      (true = true ∧
      ∀ (b_7 : Nat),
      a_1.m.sz ≤ b_7 →
      ∃ (old : List Value),
      ∃ (src : List Value),
      AppPre m.sz (fun (x : Nat) => False)
      (a_1.m.newBlock b_7
      [Value.int IntKind.i64 n_6, Value.int IntKind.i64 n_7, Value.bool b_5, Value.int IntKind.i64 n_8,
      Value.int IntKind.i64 n_9, Value.int IntKind.i64 n_10, Value.int IntKind.i64 n_11])
      (7 : Nat) (56 : Nat) a_1.a (listM (joF l b) a_1.k (1 : Int)).length a_1.c
      (some { block := b_7, off := (0 : Nat) : Addr }) (1 : Nat) old src ∧
      ∀ (a' : Option Addr) (c' : Nat) (m' : M),
      AppPost Try.prog (32 : Nat)
      (a_1.m.newBlock b_7
      [Value.int IntKind.i64 n_6, Value.int IntKind.i64 n_7, Value.bool b_5,
      Value.int IntKind.i64 n_8, Value.int IntKind.i64 n_9, Value.int IntKind.i64 n_10,
      Value.int IntKind.i64 n_11])
      (7 : Nat) a_1.a (listM (joF l b) a_1.k (1 : Int)).length a_1.c (1 : Nat) old src a' c' m' →
      ∃ (a'_1 : JoX),
      ((a'_1.k ≤ (8 : Nat) ∧
      NewR m.sz (fun (x : Nat) => False) a'_1.m (7 : Nat) a'_1.a
      (listM (joF l b) a'_1.k (1 : Int)).length a'_1.c
      (mks (listM (joF l b) a'_1.k (1 : Int))) ∧
      Agree m.sz m a'_1.m) ∧
      m' = a'_1.m ∧
      ((SV.val
      (Value.int IntKind.i64
      (IntKind.i64.wrap ((↑(a_1.k + (1 : Nat)) : Int) + (1 : Int)))) =
      SV.val (Value.int IntKind.i64 (↑(a'_1.k + (1 : Nat)) : Int)) ∧
      true = true) ∧
      (SV.val (Value.slice a l.length cp) = SV.val (Value.slice a l.length cp) ∧
      true = true) ∧
      (SV.val (Value.slice ab b.length cb) = SV.val (Value.slice ab b.length cb) ∧
      true = true) ∧
      (SV.val (Value.slice a' ((listM (joF l b) a_1.k (1 : Int)).length + (1 : Nat)) c') =
      SV.val (Value.slice a'_1.a (listM (joF l b) a'_1.k (1 : Int)).length a'_1.c) ∧
      true = true) ∧
      True) ∧
      True) ∧
      (8 : Nat) - a'_1.k < (8 : Nat) - a_1.k)
      (ifB b_6
      (true = true ∧
      ∀ (b_7 : Nat),
      a_1.m.sz ≤ b_7 →
      ∃ (old : List Value),
      ∃ (src : List Value),
      AppPre m.sz (fun (x : Nat) => False)
      (a_1.m.newBlock b_7
      [Value.int IntKind.i64 n_6, Value.int IntKind.i64 n_7, Value.bool b_5, Value.int IntKind.i64 n_8,
      Value.int IntKind.i64 n_9, Value.int IntKind.i64 n_10, Value.int IntKind.i64 n_11])
      (7 : Nat) (56 : Nat) a_1.a (listM (joF l b) a_1.k (1 : Int)).length a_1.c
      (some { block := b_7, off := (0 : Nat) : Addr }) (1 : Nat) old src ∧
      ∀ (a' : Option Addr) (c' : Nat) (m' : M),
      AppPost Try.prog (32 : Nat)
      (a_1.m.newBlock b_7
      [Value.int IntKind.i64 n_6, Value.int IntKind.i64 n_7, Value.bool b_5,
      Value.int IntKind.i64 n_8, Value.int IntKind.i64 n_9, Value.int IntKind.i64 n_10,
      Value.int IntKind.i64 n_11])
      (7 : Nat) a_1.a (listM (joF l b) a_1.k (1 : Int)).length a_1.c (1 : Nat) old src a' c' m' →
      ∃ (a'_1 : JoX),
      ((a'_1.k ≤ (8 : Nat) ∧
      NewR m.sz (fun (x : Nat) => False) a'_1.m (7 : Nat) a'_1.a
      (listM (joF l b) a'_1.k (1 : Int)).length a'_1.c
      (mks (listM (joF l b) a'_1.k (1 : Int))) ∧
      Agree m.sz m a'_1.m) ∧
      m' = a'_1.m ∧
      ((SV.val
      (Value.int IntKind.i64
      (IntKind.i64.wrap ((↑(a_1.k + (1 : Nat)) : Int) + (1 : Int)))) =
      SV.val (Value.int IntKind.i64 (↑(a'_1.k + (1 : Nat)) : Int)) ∧
      true = true) ∧
      (SV.val (Value.slice a l.length cp) = SV.val (Value.slice a l.length cp) ∧
      true = true) ∧
      (SV.val (Value.slice ab b.length cb) = SV.val (Value.slice ab b.length cb) ∧
      true = true) ∧
      (SV.val
      (Value.slice a' ((listM (joF l b) a_1.k (1 : Int)).length + (1 : Nat))
      c') =
      SV.val
      (Value.slice a'_1.a (listM (joF l b) a'_1.k (1 : Int)).length a'_1.c) ∧
      true = true) ∧
      True) ∧
      True) ∧
      (8 : Nat) - a'_1.k < (8 : Nat) - a_1.k)
      (∃ (a' : JoX),
      ((a'.k ≤ (8 : Nat) ∧
      NewR m.sz (fun (x : Nat) => False) a'.m (7 : Nat) a'.a (listM (joF l b) a'.k (1 : Int)).length a'.c
      (mks (listM (joF l b) a'.k (1 : Int))) ∧
      Agree m.sz m a'.m) ∧
      a_1.m = a'.m ∧
      ((SV.val (Value.int IntKind.i64 (IntKind.i64.wrap ((↑(a_1.k + (1 : Nat)) : Int) + (1 : Int)))) =
      SV.val (Value.int IntKind.i64 (↑(a'.k + (1 : Nat)) : Int)) ∧
      true = true) ∧
      (SV.val (Value.slice a l.length cp) = SV.val (Value.slice a l.length cp) ∧ true = true) ∧
      (SV.val (Value.slice ab b.length cb) = SV.val (Value.slice ab b.length cb) ∧ true = true) ∧
      (SV.val (Value.slice a_1.a (listM (joF l b) a_1.k (1 : Int)).length a_1.c) =
      SV.val (Value.slice a'.a (listM (joF l b) a'.k (1 : Int)).length a'.c) ∧
      true = true) ∧
      True) ∧
      True) ∧
      (8 : Nat) - a'.k < (8 : Nat) - a_1.k)))
      (ifB (decide (n_7 > n_1))
      (ifB b_4
      (true = true ∧
      ∀ (b_7 : Nat),
      a_1.m.sz ≤ b_7 →
      ∃ (old : List Value),
      ∃ (src : List Value),
      AppPre m.sz (fun (x : Nat) => False)
      (a_1.m.newBlock b_7
      [Value.int IntKind.i64 n_6, Value.int IntKind.i64 n_7, Value.bool b_5, Value.int IntKind.i64 n_8,
      Value.int IntKind.i64 n_9, Value.int IntKind.i64 n_10, Value.int IntKind.i64 n_11])
      (7 : Nat) (56 : Nat) a_1.a (listM (joF l b) a_1.k (1 : Int)).length a_1.c
      (some { block := b_7, off := (0 : Nat) : Addr }) (1 : Nat) old src ∧
      ∀ (a' : Option Addr) (c' : Nat) (m' : M),
      AppPost Try.prog (32 : Nat)
      (a_1.m.newBlock b_7
      [Value.int IntKind.i64 n_6, Value.int IntKind.i64 n_7, Value.bool b_5,
      Value.int IntKind.i64 n_8, Value.int IntKind.i64 n_9, Value.int IntKind.i64 n_10,
      Value.int IntKind.i64 n_11])
      (7 : Nat) a_1.a (listM (joF l b) a_1.k (1 : Int)).length a_1.c (1 : Nat) old src a' c' m' →
      ∃ (a'_1 : JoX),
      ((a'_1.k ≤ (8 : Nat) ∧
      NewR m.sz (fun (x : Nat) => False) a'_1.m (7 : Nat) a'_1.a
      (listM (joF l b) a'_1.k (1 : Int)).length a'_1.c
      (mks (listM (joF l b) a'_1.k (1 : Int))) ∧
      Agree m.sz m a'_1.m) ∧
      m' = a'_1.m ∧
      ((SV.val
      (Value.int IntKind.i64
      (IntKind.i64.wrap ((↑(a_1.k + (1 : Nat)) : Int) + (1 : Int)))) =
      SV.val (Value.int IntKind.i64 (↑(a'_1.k + (1 : Nat)) : Int)) ∧
      true = true) ∧
      (SV.val (Value.slice a l.length cp) = SV.val (Value.slice a l.length cp) ∧
      true = true) ∧
      (SV.val (Value.slice ab b.length cb) = SV.val (Value.slice ab b.length cb) ∧
      true = true) ∧
      (SV.val
      (Value.slice a' ((listM (joF l b) a_1.k (1 : Int)).length + (1 : Nat))
      c') =
      SV.val
      (Value.slice a'_1.a (listM (joF l b) a'_1.k (1 : Int)).length a'_1.c) ∧
      true = true) ∧
      True) ∧
      True) ∧
      (8 : Nat) - a'_1.k < (8 : Nat) - a_1.k)
      (ifB b_6
      (true = true ∧
      ∀ (b_7 : Nat),
      a_1.m.sz ≤ b_7 →
      ∃ (old : List Value),
      ∃ (src : List Value),
      AppPre m.sz (fun (x : Nat) => False)
      (a_1.m.newBlock b_7
      [Value.int IntKind.i64 n_6, Value.int IntKind.i64 n_7, Value.bool b_5,
      Value.int IntKind.i64 n_8, Value.int IntKind.i64 n_9, Value.int IntKind.i64 n_10,
      Value.int IntKind.i64 n_11])
      (7 : Nat) (56 : Nat) a_1.a (listM (joF l b) a_1.k (1 : Int)).length a_1.c
      (some { block := b_7, off := (0 : Nat) : Addr }) (1 : Nat) old src ∧
      ∀ (a' : Option Addr) (c' : Nat) (m' : M),
      AppPost Try.prog (32 : Nat)
      (a_1.m.newBlock b_7
      [Value.int IntKind.i64 n_6, Value.int IntKind.i64 n_7, Value.bool b_5,
      Value.int IntKind.i64 n_8, Value.int IntKind.i64 n_9, Value.int IntKind.i64 n_10,
      Value.int IntKind.i64 n_11])
      (7 : Nat) a_1.a (listM (joF l b) a_1.k (1 : Int)).length a_1.c (1 : Nat) old src a' c' m' →
      ∃ (a'_1 : JoX),
      ((a'_1.k ≤ (8 : Nat) ∧
      NewR m.sz (fun (x : Nat) => False) a'_1.m (7 : Nat) a'_1.a
      (listM (joF l b) a'_1.k (1 : Int)).length a'_1.c
      (mks (listM (joF l b) a'_1.k (1 : Int))) ∧
      Agree m.sz m a'_1.m) ∧
      m' = a'_1.m ∧
      ((SV.val
      (Value.int IntKind.i64
      (IntKind.i64.wrap ((↑(a_1.k + (1 : Nat)) : Int) + (1 : Int)))) =
      SV.val (Value.int IntKind.i64 (↑(a'_1.k + (1 : Nat)) : Int)) ∧
      true = true) ∧
      (SV.val (Value.slice a l.length cp) = SV.val (Value.slice a l.length cp) ∧
      true = true) ∧
      (SV.val (Value.slice ab b.length cb) = SV.val (Value.slice ab b.length cb) ∧
      true = true) ∧
      (SV.val
      (Value.slice a' ((listM (joF l b) a_1.k (1 : Int)).length + (1 : Nat))
      c') =
      SV.val
      (Value.slice a'_1.a (listM (joF l b) a'_1.k (1 : Int)).length a'_1.c) ∧
      true = true) ∧
      True) ∧
      True) ∧
      (8 : Nat) - a'_1.k < (8 : Nat) - a_1.k)
      (∃ (a' : JoX),
      ((a'.k ≤ (8 : Nat) ∧
      NewR m.sz (fun (x : Nat) => False) a'.m (7 : Nat) a'.a (listM (joF l b) a'.k (1 : Int)).length a'.c
      (mks (listM (joF l b) a'.k (1 : Int))) ∧
      Agree m.sz m a'.m) ∧
      a_1.m = a'.m ∧
      ((SV.val (Value.int IntKind.i64 (IntKind.i64.wrap ((↑(a_1.k + (1 : Nat)) : Int) + (1 : Int)))) =
      SV.val (Value.int IntKind.i64 (↑(a'.k + (1 : Nat)) : Int)) ∧
      true = true) ∧
      (SV.val (Value.slice a l.length cp) = SV.val (Value.slice a l.length cp) ∧ true = true) ∧
      (SV.val (Value.slice ab b.length cb) = SV.val (Value.slice ab b.length cb) ∧ true = true) ∧
      (SV.val (Value.slice a_1.a (listM (joF l b) a_1.k (1 : Int)).length a_1.c) =
      SV.val (Value.slice a'.a (listM (joF l b) a'.k (1 : Int)).length a'.c) ∧
      true = true) ∧
      True) ∧
      True) ∧
      (8 : Nat) - a'.k < (8 : Nat) - a_1.k)))
      (ifB (n_7 == n_1)
      (ifB b_3
      (ifB (!b_5)
      (ifB b_4
      (true = true ∧
      ∀ (b_7 : Nat),
      a_1.m.sz ≤ b_7 →
      ∃ (old : List Value),
      ∃ (src : List Value),
      AppPre m.sz (fun (x : Nat) => False)
      (a_1.m.newBlock b_7
      [Value.int IntKind.i64 n_6, Value.int IntKind.i64 n_7, Value.bool b_5,
      Value.int IntKind.i64 n_8, Value.int IntKind.i64 n_9, Value.int IntKind.i64 n_10,
      Value.int IntKind.i64 n_11])
      (7 : Nat) (56 : Nat) a_1.a (listM (joF l b) a_1.k (1 : Int)).length a_1.c
      (some { block := b_7, off := (0 : Nat) : Addr }) (1 : Nat) old src ∧
      ∀ (a' : Option Addr) (c' : Nat) (m' : M),
      AppPost Try.prog (32 : Nat)
      (a_1.m.newBlock b_7
      [Value.int IntKind.i64 n_6, Value.int IntKind.i64 n_7, Value.bool b_5,
      Value.int IntKind.i64 n_8, Value.int IntKind.i64 n_9, Value.int IntKind.i64 n_10,
      Value.int IntKind.i64 n_11])
      (7 : Nat) a_1.a (listM (joF l b) a_1.k (1 : Int)).length a_1.c (1 : Nat) old src a' c'
      m' →
      ∃ (a'_1 : JoX),
      ((a'_1.k ≤ (8 : Nat) ∧
      NewR m.sz (fun (x : Nat) => False) a'_1.m (7 : Nat) a'_1.a
      (listM (joF l b) a'_1.k (1 : Int)).length a'_1.c
      (mks (listM (joF l b) a'_1.k (1 : Int))) ∧
      Agree m.sz m a'_1.m) ∧
      m' = a'_1.m ∧
      ((SV.val
      (Value.int IntKind.i64
      (IntKind.i64.wrap ((↑(a_1.k + (1 : Nat)) : Int) + (1 : Int)))) =
      SV.val (Value.int IntKind.i64 (↑(a'_1.k + (1 : Nat)) : Int)) ∧
      true = true) ∧
      (SV.val (Value.slice a l.length cp) = SV.val (Value.slice a l.length cp) ∧
      true = true) ∧
      (SV.val (Value.slice ab b.length cb) = SV.val (Value.slice ab b.length cb) ∧
      true = true) ∧
      (SV.val
      (Value.slice a'
      ((listM (joF l b) a_1.k (1 : Int)).length + (1 : Nat)) c') =
      SV.val
      (Value.slice a'_1.a (listM (joF l b) a'_1.k (1 : Int)).length
      a'_1.c) ∧
      true = true) ∧
      True) ∧
      True) ∧
      (8 : Nat) - a'_1.k < (8 : Nat) - a_1.k)
      (ifB b_6
      (true = true ∧
      ∀ (b_7 : Nat),
      a_1.m.sz ≤ b_7 →
      ∃ (old : List Value),
      ∃ (src : List Value),
      AppPre m.sz (fun (x : Nat) => False)
      (a_1.m.newBlock b_7
      [Value.int IntKind.i64 n_6, Value.int IntKind.i64 n_7, Value.bool b_5,
      Value.int IntKind.i64 n_8, Value.int IntKind.i64 n_9, Value.int IntKind.i64 n_10,
      Value.int IntKind.i64 n_11])
      (7 : Nat) (56 : Nat) a_1.a (listM (joF l b) a_1.k (1 : Int)).length a_1.c
      (some { block := b_7, off := (0 : Nat) : Addr }) (1 : Nat) old src ∧
      ∀ (a' : Option Addr) (c' : Nat) (m' : M),
      AppPost Try.prog (32 : Nat)
      (a_1.m.newBlock b_7
      [Value.int IntKind.i64 n_6, Value.int IntKind.i64 n_7, Value.bool b_5,
      Value.int IntKind.i64 n_8, Value.int IntKind.i64 n_9, Value.int IntKind.i64 n_10,
      Value.int IntKind.i64 n_11])
      (7 : Nat) a_1.a (listM (joF l b) a_1.k (1 : Int)).length a_1.c (1 : Nat) old src a' c'
      m' →
      ∃ (a'_1 : JoX),
      ((a'_1.k ≤ (8 : Nat) ∧
      NewR m.sz (fun (x : Nat) => False) a'_1.m (7 : Nat) a'_1.a
      (listM (joF l b) a'_1.k (1 : Int)).length a'_1.c
      (mks (listM (joF l b) a'_1.k (1 : Int))) ∧
      Agree m.sz m a'_1.m) ∧
      m' = a'_1.m ∧
      ((SV.val
      (Value.int IntKind.i64
      (IntKind.i64.wrap ((↑(a_1.k + (1 : Nat)) : Int) + (1 : Int)))) =
      SV.val (Value.int IntKind.i64 (↑(a'_1.k + (1 : Nat)) : Int)) ∧
      true = true) ∧
      (SV.val (Value.slice a l.length cp) = SV.val (Value.slice a l.length cp) ∧
      true = true) ∧
      (SV.val (Value.slice ab b.length cb) = SV.val (Value.slice ab b.length cb) ∧
      true = true) ∧
      (SV.val
      (Value.slice a'
      ((listM (joF l b) a_1.k (1 : Int)).length + (1 : Nat)) c') =
      SV.val
      (Value.slice a'_1.a (listM (joF l b) a'_1.k (1 : Int)).length
      a'_1.c) ∧
      true = true) ∧
      True) ∧
      True) ∧
      (8 : Nat) - a'_1.k < (8 : Nat) - a_1.k)
      (∃ (a' : JoX),
      ((a'.k ≤ (8 : Nat) ∧
      NewR m.sz (fun (x : Nat) => False) a'.m (7 : Nat) a'.a (listM (joF l b) a'.k (1 : Int)).length
      a'.c (mks (listM (joF l b) a'.k (1 : Int))) ∧
      Agree m.sz m a'.m) ∧
      a_1.m = a'.m ∧
      ((SV.val (Value.int IntKind.i64 (IntKind.i64.wrap ((↑(a_1.k + (1 : Nat)) : Int) + (1 : Int)))) =
      SV.val (Value.int IntKind.i64 (↑(a'.k + (1 : Nat)) : Int)) ∧
      true = true) ∧
      (SV.val (Value.slice a l.length cp) = SV.val (Value.slice a l.length cp) ∧ true = true) ∧
      (SV.val (Value.slice ab b.length cb) = SV.val (Value.slice ab b.length cb) ∧ true = true) ∧
      (SV.val (Value.slice a_1.a (listM (joF l b) a_1.k (1 : Int)).length a_1.c) =
      SV.val (Value.slice a'.a (listM (joF l b) a'.k (1 : Int)).length a'.c) ∧
      true = true) ∧
      True) ∧
      True) ∧
      (8 : Nat) - a'.k < (8 : Nat) - a_1.k)))
      (ifB b_4
      (true = true ∧
      ∀ (b_7 : Nat),
      a_1.m.sz ≤ b_7 →
      ∃ (old : List Value),
      ∃ (src : List Value),
      AppPre m.sz (fun (x : Nat) => False)
      (a_1.m.newBlock b_7
      [Value.int IntKind.i64 n, Value.int IntKind.i64 n_1, Value.bool b_3,
      Value.int IntKind.i64 n_2, Value.int IntKind.i64 n_3, Value.int IntKind.i64 n_4,
      Value.int IntKind.i64 n_5])
      (7 : Nat) (56 : Nat) a_1.a (listM (joF l b) a_1.k (1 : Int)).length a_1.c
      (some { block := b_7, off := (0 : Nat) : Addr }) (1 : Nat) old src ∧
      ∀ (a' : Option Addr) (c' : Nat) (m' : M),
      AppPost Try.prog (32 : Nat)
      (a_1.m.newBlock b_7
      [Value.int IntKind.i64 n, Value.int IntKind.i64 n_1, Value.bool b_3,
      Value.int IntKind.i64 n_2, Value.int IntKind.i64 n_3, Value.int IntKind.i64 n_4,
      Value.int IntKind.i64 n_5])
      (7 : Nat) a_1.a (listM (joF l b) a_1.k (1 : Int)).length a_1.c (1 : Nat) old src a' c'
      m' →
      ∃ (a'_1 : JoX),
      ((a'_1.k ≤ (8 : Nat) ∧
      NewR m.sz (fun (x : Nat) => False) a'_1.m (7 : Nat) a'_1.a
      (listM (joF l b) a'_1.k (1 : Int)).length a'_1.c
      (mks (listM (joF l b) a'_1.k (1 : Int))) ∧
      Agree m.sz m a'_1.m) ∧
      m' = a'_1.m ∧
      ((SV.val
      (Value.int IntKind.i64
      (IntKind.i64.wrap ((↑(a_1.k + (1 : Nat)) : Int) + (1 : Int)))) =
      SV.val (Value.int IntKind.i64 (↑(a'_1.k + (1 : Nat)) : Int)) ∧
      true = true) ∧
      (SV.val (Value.slice a l.length cp) = SV.val (Value.slice a l.length cp) ∧
      true = true) ∧
      (SV.val (Value.slice ab b.length cb) = SV.val (Value.slice ab b.length cb) ∧
      true = true) ∧
      (SV.val
      (Value.slice a'
      ((listM (joF l b) a_1.k (1 : Int)).length + (1 : Nat)) c') =
      SV.val
      (Value.slice a'_1.a (listM (joF l b) a'_1.k (1 : Int)).length
      a'_1.c) ∧
      true = true) ∧
      True) ∧
      True) ∧
      (8 : Nat) - a'_1.k < (8 : Nat) - a_1.k)
      (ifB b_6
      (true = true ∧
      ∀ (b_7 : Nat),
      a_1.m.sz ≤ b_7 →
      ∃ (old : List Value),
      ∃ (src : List Value),
      AppPre m.sz (fun (x : Nat) => False)
      (a_1.m.newBlock b_7
      [Value.int IntKind.i64 n, Value.int IntKind.i64 n_1, Value.bool b_3,
      Value.int IntKind.i64 n_2, Value.int IntKind.i64 n_3, Value.int IntKind.i64 n_4,
      Value.int IntKind.i64 n_5])
      (7 : Nat) (56 : Nat) a_1.a (listM (joF l b) a_1.k (1 : Int)).length a_1.c
      (some { block := b_7, off := (0 : Nat) : Addr }) (1 : Nat) old src ∧
      ∀ (a' : Option Addr) (c' : Nat) (m' : M),
      AppPost Try.prog (32 : Nat)
      (a_1.m.newBlock b_7
      [Value.int IntKind.i64 n, Value.int IntKind.i64 n_1, Value.bool b_3,
      Value.int IntKind.i64 n_2, Value.int IntKind.i64 n_3, Value.int IntKind.i64 n_4,
      Value.int IntKind.i64 n_5])
      (7 : Nat) a_1.a (listM (joF l b) a_1.k (1 : Int)).length a_1.c (1 : Nat) old src a' c'
      m' →
      ∃ (a'_1 : JoX),
      ((a'_1.k ≤ (8 : Nat) ∧
      NewR m.sz (fun (x : Nat) => False) a'_1.m (7 : Nat) a'_1.a
      (listM (joF l b) a'_1.k (1 : Int)).length a'_1.c
      (mks (listM (joF l b) a'_1.k (1 : Int))) ∧
      Agree m.sz m a'_1.m) ∧
      m' = a'_1.m ∧
      ((SV.val
      (Value.int IntKind.i64
      (IntKind.i64.wrap ((↑(a_1.k + (1 : Nat)) : Int) + (1 : Int)))) =
      SV.val (Value.int IntKind.i64 (↑(a'_1.k + (1 : Nat)) : Int)) ∧
      true = true) ∧
      (SV.val (Value.slice a l.length cp) = SV.val (Value.slice a l.length cp) ∧
      true = true) ∧
      (SV.val (Value.slice ab b.length cb) = SV.val (Value.slice ab b.length cb) ∧
      true = true) ∧
      (SV.val
      (Value.slice a'
      ((listM (joF l b) a_1.k (1 : Int)).length + (1 : Nat)) c') =
      SV.val
      (Value.slice a'_1.a (listM (joF l b) a'_1.k (1 : Int)).length
      a'_1.c) ∧
      true = true) ∧
      True) ∧
      True) ∧
      (8 : Nat) - a'_1.k < (8 : Nat) - a_1.k)
      (∃ (a' : JoX),
      ((a'.k ≤ (8 : Nat) ∧
      NewR m.sz (fun (x : Nat) => False) a'.m (7 : Nat) a'.a (listM (joF l b) a'.k (1 : Int)).length
      a'.c (mks (listM (joF l b) a'.k (1 : Int))) ∧
      Agree m.sz m a'.m) ∧
      a_1.m = a'.m ∧
      ((SV.val (Value.int IntKind.i64 (IntKind.i64.wrap ((↑(a_1.k + (1 : Nat)) : Int) + (1 : Int)))) =
      SV.val (Value.int IntKind.i64 (↑(a'.k + (1 : Nat)) : Int)) ∧
      true = true) ∧
      (SV.val (Value.slice a l.length cp) = SV.val (Value.slice a l.length cp) ∧ true = true) ∧
      (SV.val (Value.slice ab b.length cb) = SV.val (Value.slice ab b.length cb) ∧ true = true) ∧
      (SV.val (Value.slice a_1.a (listM (joF l b) a_1.k (1 : Int)).length a_1.c) =
      SV.val (Value.slice a'.a (listM (joF l b) a'.k (1 : Int)).length a'.c) ∧
      true = true) ∧
      True) ∧
      True) ∧
      (8 : Nat) - a'.k < (8 : Nat) - a_1.k))))
      (ifB b_4
      (true = true ∧
      ∀ (b_7 : Nat),
      a_1.m.sz ≤ b_7 →
      ∃ (old : List Value),
      ∃ (src : List Value),
      AppPre m.sz (fun (x : Nat) => False)
      (a_1.m.newBlock b_7
      [Value.int IntKind.i64 n, Value.int IntKind.i64 n_1, Value.bool b_3,
      Value.int IntKind.i64 n_2, Value.int IntKind.i64 n_3, Value.int IntKind.i64 n_4,
      Value.int IntKind.i64 n_5])
      (7 : Nat) (56 : Nat) a_1.a (listM (joF l b) a_1.k (1 : Int)).length a_1.c
      (some { block := b_7, off := (0 : Nat) : Addr }) (1 : Nat) old src ∧
      ∀ (a' : Option Addr) (c' : Nat) (m' : M),
      AppPost Try.prog (32 : Nat)
      (a_1.m.newBlock b_7
      [Value.int IntKind.i64 n, Value.int IntKind.i64 n_1, Value.bool b_3,
      Value.int IntKind.i64 n_2, Value.int IntKind.i64 n_3, Value.int IntKind.i64 n_4,
      Value.int IntKind.i64 n_5])
      (7 : Nat) a_1.a (listM (joF l b) a_1.k (1 : Int)).length a_1.c (1 : Nat) old src a' c' m' →
      ∃ (a'_1 : JoX),
      ((a'_1.k ≤ (8 : Nat) ∧
      NewR m.sz (fun (x : Nat) => False) a'_1.m (7 : Nat) a'_1.a
      (listM (joF l b) a'_1.k (1 : Int)).length a'_1.c
      (mks (listM (joF l b) a'_1.k (1 : Int))) ∧
      Agree m.sz m a'_1.m) ∧
      m' = a'_1.m ∧
      ((SV.val
      (Value.int IntKind.i64
      (IntKind.i64.wrap ((↑(a_1.k + (1 : Nat)) : Int) + (1 : Int)))) =
      SV.val (Value.int IntKind.i64 (↑(a'_1.k + (1 : Nat)) : Int)) ∧
      true = true) ∧
      (SV.val (Value.slice a l.length cp) = SV.val (Value.slice a l.length cp) ∧
      true = true) ∧
      (SV.val (Value.slice ab b.length cb) = SV.val (Value.slice ab b.length cb) ∧
      true = true) ∧
      (SV.val
      (Value.slice a' ((listM (joF l b) a_1.k (1 : Int)).length + (1 : Nat))
      c') =
      SV.val
      (Value.slice a'_1.a (listM (joF l b) a'_1.k (1 : Int)).length
      a'_1.c) ∧
      true = true) ∧
      True) ∧
      True) ∧
      (8 : Nat) - a'_1.k < (8 : Nat) - a_1.k)
      (ifB b_6
      (true = true ∧
      ∀ (b_7 : Nat),
      a_1.m.sz ≤ b_7 →
      ∃ (old : List Value),
      ∃ (src : List Value),
      AppPre m.sz (fun (x : Nat) => False)
      (a_1.m.newBlock b_7
      [Value.int IntKind.i64 n, Value.int IntKind.i64 n_1, Value.bool b_3,
      Value.int IntKind.i64 n_2, Value.int IntKind.i64 n_3, Value.int IntKind.i64 n_4,
      Value.int IntKind.i64 n_5])
      (7 : Nat) (56 : Nat) a_1.a (listM (joF l b) a_1.k (1 : Int)).length a_1.c
      (some { block := b_7, off := (0 : Nat) : Addr }) (1 : Nat) old src ∧
      ∀ (a' : Option Addr) (c' : Nat) (m' : M),
      AppPost Try.prog (32 : Nat)
      (a_1.m.newBlock b_7
      [Value.int IntKind.i64 n, Value.int IntKind.i64 n_1, Value.bool b_3,
      Value.int IntKind.i64 n_2, Value.int IntKind.i64 n_3, Value.int IntKind.i64 n_4,
      Value.int IntKind.i64 n_5])
      (7 : Nat) a_1.a (listM (joF l b) a_1.k (1 : Int)).length a_1.c (1 : Nat) old src a' c'
      m' →
      ∃ (a'_1 : JoX),
      ((a'_1.k ≤ (8 : Nat) ∧
      NewR m.sz (fun (x : Nat) => False) a'_1.m (7 : Nat) a'_1.a
      (listM (joF l b) a'_1.k (1 : Int)).length a'_1.c
      (mks (listM (joF l b) a'_1.k (1 : Int))) ∧
      Agree m.sz m a'_1.m) ∧
      m' = a'_1.m ∧
      ((SV.val
      (Value.int IntKind.i64
      (IntKind.i64.wrap ((↑(a_1.k + (1 : Nat)) : Int) + (1 : Int)))) =
      SV.val (Value.int IntKind.i64 (↑(a'_1.k + (1 : Nat)) : Int)) ∧
      true = true) ∧
      (SV.val (Value.slice a l.length cp) = SV.val (Value.slice a l.length cp) ∧
      true = true) ∧
      (SV.val (Value.slice ab b.length cb) = SV.val (Value.slice ab b.length cb) ∧
      true = true) ∧
      (SV.val
      (Value.slice a'
      ((listM (joF l b) a_1.k (1 : Int)).length + (1 : Nat)) c') =
      SV.val
      (Value.slice a'_1.a (listM (joF l b) a'_1.k (1 : Int)).length
      a'_1.c) ∧
      true = true) ∧
      True) ∧
      True) ∧
      (8 : Nat) - a'_1.k < (8 : Nat) - a_1.k)
      (∃ (a' : JoX),
      ((a'.k ≤ (8 : Nat) ∧
      NewR m.sz (fun (x : Nat) => False) a'.m (7 : Nat) a'.a (listM (joF l b) a'.k (1 : Int)).length a'.c
      (mks (listM (joF l b) a'.k (1 : Int))) ∧
      Agree m.sz m a'.m) ∧
      a_1.m = a'.m ∧
      ((SV.val (Value.int IntKind.i64 (IntKind.i64.wrap ((↑(a_1.k + (1 : Nat)) : Int) + (1 : Int)))) =
      SV.val (Value.int IntKind.i64 (↑(a'.k + (1 : Nat)) : Int)) ∧
      true = true) ∧
      (SV.val (Value.slice a l.length cp) = SV.val (Value.slice a l.length cp) ∧ true = true) ∧
      (SV.val (Value.slice ab b.length cb) = SV.val (Value.slice ab b.length cb) ∧ true = true) ∧
      (SV.val (Value.slice a_1.a (listM (joF l b) a_1.k (1 : Int)).length a_1.c) =
      SV.val (Value.slice a'.a (listM (joF l b) a'.k (1 : Int)).length a'.c) ∧
      true = true) ∧
      True) ∧
      True) ∧
      (8 : Nat) - a'.k < (8 : Nat) - a_1.k))))
      (ifB b_4
      (true = true ∧
      ∀ (b_7 : Nat),
      a_1.m.sz ≤ b_7 →
      ∃ (old : List Value),
      ∃ (src : List Value),
      AppPre m.sz (fun (x : Nat) => False)
      (a_1.m.newBlock b_7
      [Value.int IntKind.i64 n, Value.int IntKind.i64 n_1, Value.bool b_3, Value.int IntKind.i64 n_2,
      Value.int IntKind.i64 n_3, Value.int IntKind.i64 n_4, Value.int IntKind.i64 n_5])
      (7 : Nat) (56 : Nat) a_1.a (listM (joF l b) a_1.k (1 : Int)).length a_1.c
      (some { block := b_7, off := (0 : Nat) : Addr }) (1 : Nat) old src ∧
      ∀ (a' : Option Addr) (c' : Nat) (m' : M),
      AppPost Try.prog (32 : Nat)
      (a_1.m.newBlock b_7
      [Value.int IntKind.i64 n, Value.int IntKind.i64 n_1, Value.bool b_3,
      Value.int IntKind.i64 n_2, Value.int IntKind.i64 n_3, Value.int IntKind.i64 n_4,
      Value.int IntKind.i64 n_5])
      (7 : Nat) a_1.a (listM (joF l b) a_1.k (1 : Int)).length a_1.c (1 : Nat) old src a' c' m' →
      ∃ (a'_1 : JoX),
      ((a'_1.k ≤ (8 : Nat) ∧
      NewR m.sz (fun (x : Nat) => False) a'_1.m (7 : Nat) a'_1.a
      (listM (joF l b) a'_1.k (1 : Int)).length a'_1.c
      (mks (listM (joF l b) a'_1.k (1 : Int))) ∧
      Agree m.sz m a'_1.m) ∧
      m' = a'_1.m ∧
      ((SV.val
      (Value.int IntKind.i64
      (IntKind.i64.wrap ((↑(a_1.k + (1 : Nat)) : Int) + (1 : Int)))) =
      SV.val (Value.int IntKind.i64 (↑(a'_1.k + (1 : Nat)) : Int)) ∧
      true = true) ∧
      (SV.val (Value.slice a l.length cp) = SV.val (Value.slice a l.length cp) ∧
      true = true) ∧
      (SV.val (Value.slice ab b.length cb) = SV.val (Value.slice ab b.length cb) ∧
      true = true) ∧
      (SV.val
      (Value.slice a' ((listM (joF l b) a_1.k (1 : Int)).length + (1 : Nat))
      c') =
      SV.val
      (Value.slice a'_1.a (listM (joF l b) a'_1.k (1 : Int)).length a'_1.c) ∧
      true = true) ∧
      True) ∧
      True) ∧
      (8 : Nat) - a'_1.k < (8 : Nat) - a_1.k)
      (ifB b_6
      (true = true ∧
      ∀ (b_7 : Nat),
      a_1.m.sz ≤ b_7 →
      ∃ (old : List Value),
      ∃ (src : List Value),
      AppPre m.sz (fun (x : Nat) => False)
      (a_1.m.newBlock b_7
      [Value.int IntKind.i64 n, Value.int IntKind.i64 n_1, Value.bool b_3,
      Value.int IntKind.i64 n_2, Value.int IntKind.i64 n_3, Value.int IntKind.i64 n_4,
      Value.int IntKind.i64 n_5])
      (7 : Nat) (56 : Nat) a_1.a (listM (joF l b) a_1.k (1 : Int)).length a_1.c
      (some { block := b_7, off := (0 : Nat) : Addr }) (1 : Nat) old src ∧
      ∀ (a' : Option Addr) (c' : Nat) (m' : M),
      AppPost Try.prog (32 : Nat)
      (a_1.m.newBlock b_7
      [Value.int IntKind.i64 n, Value.int IntKind.i64 n_1, Value.bool b_3,
      Value.int IntKind.i64 n_2, Value.int IntKind.i64 n_3, Value.int IntKind.i64 n_4,
      Value.int IntKind.i64 n_5])
      (7 : Nat) a_1.a (listM (joF l b) a_1.k (1 : Int)).length a_1.c (1 : Nat) old src a' c' m' →
      ∃ (a'_1 : JoX),
      ((a'_1.k ≤ (8 : Nat) ∧
      NewR m.sz (fun (x : Nat) => False) a'_1.m (7 : Nat) a'_1.a
      (listM (joF l b) a'_1.k (1 : Int)).length a'_1.c
      (mks (listM (joF l b) a'_1.k (1 : Int))) ∧
      Agree m.sz m a'_1.m) ∧
      m' = a'_1.m ∧
      ((SV.val
      (Value.int IntKind.i64
      (IntKind.i64.wrap ((↑(a_1.k + (1 : Nat)) : Int) + (1 : Int)))) =
      SV.val (Value.int IntKind.i64 (↑(a'_1.k + (1 : Nat)) : Int)) ∧
      true = true) ∧
      (SV.val (Value.slice a l.length cp) = SV.val (Value.slice a l.length cp) ∧
      true = true) ∧
      (SV.val (Value.slice ab b.length cb) = SV.val (Value.slice ab b.length cb) ∧
      true = true) ∧
      (SV.val
      (Value.slice a' ((listM (joF l b) a_1.k (1 : Int)).length + (1 : Nat))
      c') =
      SV.val
      (Value.slice a'_1.a (listM (joF l b) a'_1.k (1 : Int)).length
      a'_1.c) ∧
      true = true) ∧
      True) ∧
      True) ∧
      (8 : Nat) - a'_1.k < (8 : Nat) - a_1.k)
      (∃ (a' : JoX),
      ((a'.k ≤ (8 : Nat) ∧
      NewR m.sz (fun (x : Nat) => False) a'.m (7 : Nat) a'.a (listM (joF l b) a'.k (1 : Int)).length a'.c
      (mks (listM (joF l b) a'.k (1 : Int))) ∧
      Agree m.sz m a'.m) ∧
      a_1.m = a'.m ∧
      ((SV.val (Value.int IntKind.i64 (IntKind.i64.wrap ((↑(a_1.k + (1 : Nat)) : Int) + (1 : Int)))) =
      SV.val (Value.int IntKind.i64 (↑(a'.k + (1 : Nat)) : Int)) ∧
      true = true) ∧
      (SV.val (Value.slice a l.length cp) = SV.val (Value.slice a l.length cp) ∧ true = true) ∧
      (SV.val (Value.slice ab b.length cb) = SV.val (Value.slice ab b.length cb) ∧ true = true) ∧
      (SV.val (Value.slice a_1.a (listM (joF l b) a_1.k (1 : Int)).length a_1.c) =
      SV.val (Value.slice a'.a (listM (joF l b) a'.k (1 : Int)).length a'.c) ∧
      true = true) ∧
      True) ∧
      True) ∧
      (8 : Nat) - a'.k < (8 : Nat) - a_1.k))))))
      (ifB b_4
      (true = true ∧
      ∀ (b_7 : Nat),
      a_1.m.sz ≤ b_7 →
      ∃ (old : List Value),
      ∃ (src : List Value),
      AppPre m.sz (fun (x : Nat) => False)
      (a_1.m.newBlock b_7
      [Value.int IntKind.i64 n, Value.int IntKind.i64 n_1, Value.bool b_3, Value.int IntKind.i64 n_2,
      Value.int IntKind.i64 n_3, Value.int IntKind.i64 n_4, Value.int IntKind.i64 n_5])
      (7 : Nat) (56 : Nat) a_1.a (listM (joF l b) a_1.k (1 : Int)).length a_1.c
      (some { block := b_7, off := (0 : Nat) : Addr }) (1 : Nat) old src ∧
      ∀ (a' : Option Addr) (c' : Nat) (m' : M),
      AppPost Try.prog (32 : Nat)
      (a_1.m.newBlock b_7
      [Value.int IntKind.i64 n, Value.int IntKind.i64 n_1, Value.bool b_3, Value.int IntKind.i64 n_2,
      Value.int IntKind.i64 n_3, Value.int IntKind.i64 n_4, Value.int IntKind.i64 n_5])
      (7 : Nat) a_1.a (listM (joF l b) a_1.k (1 : Int)).length a_1.c (1 : Nat) old src a' c' m' →
      ∃ (a'_1 : JoX),
      ((a'_1.k ≤ (8 : Nat) ∧
      NewR m.sz (fun (x : Nat) => False) a'_1.m (7 : Nat) a'_1.a
      (listM (joF l b) a'_1.k (1 : Int)).length a'_1.c
      (mks (listM (joF l b) a'_1.k (1 : Int))) ∧
      Agree m.sz m a'_1.m) ∧
      m' = a'_1.m ∧
      ((SV.val
      (Value.int IntKind.i64
      (IntKind.i64.wrap ((↑(a_1.k + (1 : Nat)) : Int) + (1 : Int)))) =
      SV.val (Value.int IntKind.i64 (↑(a'_1.k + (1 : Nat)) : Int)) ∧
      true = true) ∧
      (SV.val (Value.slice a l.length cp) = SV.val (Value.slice a l.length cp) ∧ true = true) ∧
      (SV.val (Value.slice ab b.length cb) = SV.val (Value.slice ab b.length cb) ∧
      true = true) ∧
      (SV.val (Value.slice a' ((listM (joF l b) a_1.k (1 : Int)).length + (1 : Nat)) c') =
      SV.val (Value.slice a'_1.a (listM (joF l b) a'_1.k (1 : Int)).length a'_1.c) ∧
      true = true) ∧
      True) ∧
      True) ∧
      (8 : Nat) - a'_1.k < (8 : Nat) - a_1.k)
      (ifB b_6
      (true = true ∧
      ∀ (b_7 : Nat),
      a_1.m.sz ≤ b_7 →
      ∃ (old : List Value),
      ∃ (src : List Value),
      AppPre m.sz (fun (x : Nat) => False)
      (a_1.m.newBlock b_7
      [Value.int IntKind.i64 n, Value.int IntKind.i64 n_1, Value.bool b_3, Value.int IntKind.i64 n_2,
      Value.int IntKind.i64 n_3, Value.int IntKind.i64 n_4, Value.int IntKind.i64 n_5])
      (7 : Nat) (56 : Nat) a_1.a (listM (joF l b) a_1.k (1 : Int)).length a_1.c
      (some { block := b_7, off := (0 : Nat) : Addr }) (1 : Nat) old src ∧
      ∀ (a' : Option Addr) (c' : Nat) (m' : M),
      AppPost Try.prog (32 : Nat)
      (a_1.m.newBlock b_7
      [Value.int IntKind.i64 n, Value.int IntKind.i64 n_1, Value.bool b_3, Value.int IntKind.i64 n_2,
      Value.int IntKind.i64 n_3, Value.int IntKind.i64 n_4, Value.int IntKind.i64 n_5])
      (7 : Nat) a_1.a (listM (joF l b) a_1.k (1 : Int)).length a_1.c (1 : Nat) old src a' c' m' →
      ∃ (a'_1 : JoX),
      ((a'_1.k ≤ (8 : Nat) ∧
      NewR m.sz (fun (x : Nat) => False) a'_1.m (7 : Nat) a'_1.a
      (listM (joF l b) a'_1.k (1 : Int)).length a'_1.c
      (mks (listM (joF l b) a'_1.k (1 : Int))) ∧
      Agree m.sz m a'_1.m) ∧
      m' = a'_1.m ∧
      ((SV.val
      (Value.int IntKind.i64
      (IntKind.i64.wrap ((↑(a_1.k + (1 : Nat)) : Int) + (1 : Int)))) =
      SV.val (Value.int IntKind.i64 (↑(a'_1.k + (1 : Nat)) : Int)) ∧
      true = true) ∧
      (SV.val (Value.slice a l.length cp) = SV.val (Value.slice a l.length cp) ∧
      true = true) ∧
      (SV.val (Value.slice ab b.length cb) = SV.val (Value.slice ab b.length cb) ∧
      true = true) ∧
      (SV.val (Value.slice a' ((listM (joF l b) a_1.k (1 : Int)).length + (1 : Nat)) c') =
      SV.val (Value.slice a'_1.a (listM (joF l b) a'_1.k (1 : Int)).length a'_1.c) ∧
      true = true) ∧
      True) ∧
      True) ∧
      (8 : Nat) - a'_1.k < (8 : Nat) - a_1.k)
      (∃ (a' : JoX),
      ((a'.k ≤ (8 : Nat) ∧
      NewR m.sz (fun (x : Nat) => False) a'.m (7 : Nat) a'.a (listM (joF l b) a'.k (1 : Int)).length a'.c
      (mks (listM (joF l b) a'.k (1 : Int))) ∧
      Agree m.sz m a'.m) ∧
      a_1.m = a'.m ∧
      ((SV.val (Value.int IntKind.i64 (IntKind.i64.wrap ((↑(a_1.k + (1 : Nat)) : Int) + (1 : Int)))) =
      SV.val (Value.int IntKind.i64 (↑(a'.k + (1 : Nat)) : Int)) ∧
      true = true) ∧
      (SV.val (Value.slice a l.length cp) = SV.val (Value.slice a l.length cp) ∧ true = true) ∧
      (SV.val (Value.slice ab b.length cb) = SV.val (Value.slice ab b.length cb) ∧ true = true) ∧
      (SV.val (Value.slice a_1.a (listM (joF l b) a_1.k (1 : Int)).length a_1.c) =
      SV.val (Value.slice a'.a (listM (joF l b) a'.k (1 : Int)).length a'.c) ∧
      true = true) ∧
      True) ∧
      True) ∧
      (8 : Nat) - a'.k < (8 : Nat) - a_1.k))))
      (Done (MeR (joinM l b) (Value.tuple #[Value.slice a_1.a (listM (joF l b) a_1.k (1 : Int)).length a_1.c, Value.int IntKind.i64 (0 : Int)]) a_1.m))))) (by kernel_rfl) ?_
  refine ⟨rfl, _, rright_q a cp l hn _ h, ?_⟩
  cases ha : tabB 0 l
  · exact ifB_true (me_fail (by simp [joinM, ha]))
  refine ifB_false ⟨_, rright_q ab cb b hb _ h2, ?_⟩
  cases hb2 : tabB 0 b
  · exact ifB_true (me_fail (by simp [joinM, hb2]))
  refine ifB_false ⟨⟨⟨0, none, 0, m⟩, ⟨Nat.zero_le _, .nil _, Agree.refl _ _⟩, rfl, by simp [listM], trivial⟩, fun y ⟨hk, Y, A⟩ => ifB_intro (fun h3 => ?_) (fun h3 => ?_)⟩
  · have hk2 : y.k < 8 := by simp at h3; omega
    have w1 : IntKind.i64.wrap (((y.k + 1 : Nat) : Int) + 1) = ((y.k + 1 + 1 : Nat) : Int) := by simp [IntKind.wrap_i64]; omega
    have hs := listM_succ (joF l b) y.k 1
    have hle := listM_len (joF l b) y.k 1
    have ek : (1 : Int) + (y.k : Int) = ((y.k + 1 : Nat) : Int) := by omega
    rw [ek] at hs
    have hf1 : findO l ((y.k + 1 : Nat) : Int) = ofM l ((y.k + 1 : Nat) : Int) := by simp [findO, ha]
    have hf2 : findO b ((y.k + 1 : Nat) : Int) = ofM b ((y.k + 1 : Nat) : Int) := by simp [findO, hb2]
    refine ⟨_, _, _, _, _, _, _, _, rfind_q a cp l _ hn _ (h.agree A), _, _, _, _, _, _, _, _, rfind_q ab cb b _ hb _ (h2.agree A), ?_⟩
    rw [hf1, hf2]
    have push : ∀ (z : Mk) (b3 : Nat) (hb3 : y.m.sz ≤ b3) (hz : joF l b ((y.k + 1 : Nat) : Int) = some z), ∃ old src, AppPre m.sz (fun _ => False) (y.m.newBlock b3 (encMk z)) 7 56 y.a (listM (joF l b) y.k 1).length y.c (some ⟨b3, 0, none⟩) 1 old src ∧
        ∀ (a' : Option Addr) (c' : Nat) (m' : M), AppPost Try.prog 32 (y.m.newBlock b3 (encMk z)) 7 y.a (listM (joF l b) y.k 1).length y.c 1 old src a' c' m' →
          NewR m.sz (fun _ => False) m' 7 a' (listM (joF l b) (y.k + 1) 1).length c' (mks (listM (joF l b) (y.k + 1) 1)) ∧ Agree m.sz m m' ∧ (listM (joF l b) (y.k + 1) 1).length = (listM (joF l b) y.k 1).length + 1 := fun z b3 hb3 hz => by
      rw [hz] at hs
      obtain ⟨p1, p2⟩ := NewR.push (P := Try.prog) (e := 32) (bytes := 56) (src := encMk z) Y hb3 A.2.2 rfl rfl (by omega) mk_zr
      refine ⟨_, _, p1, fun a' c' m' hp => ?_⟩
      obtain ⟨g1, g2⟩ := p2 a' c' m' hp
      have e2 : mks (listM (joF l b) (y.k + 1) 1) = mks (listM (joF l b) y.k 1) ++ encMk z := by rw [hs]; simp [mks]
      have e3 : (listM (joF l b) (y.k + 1) 1).length = (listM (joF l b) y.k 1).length + 1 := by rw [hs]; simp
      exact ⟨by rw [e2, e3]; exact g1, A.trans g2, e3⟩
    cases ho1 : ofM l ((y.k + 1 : Nat) : Int) with
    | none =>
      cases ho2 : ofM b ((y.k + 1 : Nat) : Int) with
      | none =>
        have hz : joF l b ((y.k + 1 : Nat) : Int) = none := by simp only [joF, ho1, ho2]; rfl
        rw [hz] at hs
        simp only [Option.toList, List.append_nil] at hs
        refine ifB_false (ifB_false (ifB_false ⟨⟨y.k + 1, y.a, y.c, y.m⟩, ⟨⟨hk2, by rw [hs]; exact Y, A⟩, rfl, by rw [w1]; simp [hs]⟩, by simp only; omega⟩))
      | some z =>
        refine ifB_true (ifB_true (ifB_false (ifB_true ⟨rfl, fun b3 hb3 => ?_⟩)))
        obtain ⟨old, src, p1, p2⟩ := push z b3 hb3 (by simp only [joF, ho1, ho2]; rfl)
        refine ⟨old, src, p1, fun a' c' m' hp => ?_⟩
        obtain ⟨g1, g2, g3⟩ := p2 a' c' m' hp
        exact ⟨⟨y.k + 1, a', c', m'⟩, ⟨⟨hk2, g1, g2⟩, rfl, by rw [w1]; simp [g3]⟩, by simp only; omega⟩
    | some x =>
      cases ho2 : ofM b ((y.k + 1 : Nat) : Int) with
      | none =>
        refine ifB_false (ifB_true ⟨rfl, fun b3 hb3 => ?_⟩)
        obtain ⟨old, src, p1, p2⟩ := push x b3 hb3 (by simp only [joF, ho1, ho2]; rfl)
        refine ⟨old, src, p1, fun a' c' m' hp => ?_⟩
        obtain ⟨g1, g2, g3⟩ := p2 a' c' m' hp
        exact ⟨⟨y.k + 1, a', c', m'⟩, ⟨⟨hk2, g1, g2⟩, rfl, by rw [w1]; simp [g3]⟩, by simp only; omega⟩
      | some z =>
        refine ifB_true (ifB_false (ifB_intro (fun q1 => ifB_true ⟨rfl, fun b3 hb3 => ?p1⟩) (fun q1 => ifB_intro (fun q2 => ifB_intro (fun q3 => ifB_intro (fun q4 => ifB_true ⟨rfl, fun b3 hb3 => ?p2⟩) (fun q4 => ifB_true ⟨rfl, fun b3 hb3 => ?s1⟩)) (fun q3 => ifB_true ⟨rfl, fun b3 hb3 => ?s2⟩)) (fun q2 => ifB_true ⟨rfl, fun b3 hb3 => ?s3⟩))))
        case p1 | p2 =>
          have es : joF l b ((y.k + 1 : Nat) : Int) = some z := by
            simp only [joF, ho1, ho2, joinO]
            simp at q1
            first
              | (rw [if_pos (.inl (by omega))]; done)
              | (simp at q2 q3 q4; rw [if_pos (.inr ⟨by omega, q3, q4⟩)])
          obtain ⟨old, src, p1, p2⟩ := push z b3 hb3 es
          refine ⟨old, src, p1, fun a' c' m' hp => ?_⟩
          obtain ⟨g1, g2, g3⟩ := p2 a' c' m' hp
          exact ⟨⟨y.k + 1, a', c', m'⟩, ⟨⟨hk2, g1, g2⟩, rfl, by rw [w1]; simp [g3]⟩, by simp only; omega⟩
        case s1 | s2 | s3 =>
          have es : joF l b ((y.k + 1 : Nat) : Int) = some x := by
            simp only [joF, ho1, ho2, joinO]
            refine if_neg ?_
            simp at q1 q2
            rintro (h | ⟨h1, h2, h3⟩)
            · omega
            · first
                | (exact absurd h1.symm q2)
                | (simp [h2] at q3; done)
                | (simp [h3] at q4)
          obtain ⟨old, src, p1, p2⟩ := push x b3 hb3 es
          refine ⟨old, src, p1, fun a' c' m' hp => ?_⟩
          obtain ⟨g1, g2, g3⟩ := p2 a' c' m' hp
          exact ⟨⟨y.k + 1, a', c', m'⟩, ⟨⟨hk2, g1, g2⟩, rfl, by rw [w1]; simp [g3]⟩, by simp only; omega⟩
  · have : y.k = 8 := by simp at h3; omega
    rw [this] at Y ⊢
    exact me_ok (z := listM (joF l b) 8 1) (by simp [joinM, ha, hb2, fold_list ha hb2]; rfl) rfl Y.row

end Go.Proofs.Ytpfiodchlbofmaa
