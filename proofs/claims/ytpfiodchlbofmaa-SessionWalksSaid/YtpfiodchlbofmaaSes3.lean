/-
  Contracts of functions of this seat: what each hands back, and what it leaves of memory (ses3). Nothing here is trusted: Lean checks it.
-/
import Derived.Test.YtpfiodchlbofmaaSes2
import Derived.Test.YtpfiodchlbofmaaLan
set_option linter.unusedVariables false
set_option linter.unusedSimpArgs false
namespace Go.Proofs.Ytpfiodchlbofmaa
open Go.Vc Go.RowKit
set_option maxRecDepth 100000

/-- a list that can be read, and an Errno -/
structure MeR (y : List Mk × Int) (v : Value) (m' : M) : Prop where
  out : ∃ a' c', v = .tuple #[.slice a' y.1.length c', I y.2] ∧ Row m' a' (mks y.1)

structure MbR (y : List Mk × Bool × Int) (v : Value) (m' : M) : Prop where
  out : ∃ a' c', v = .tuple #[.slice a' y.1.length c', .bool y.2.1, I y.2.2] ∧ Row m' a' (mks y.1)

theorem me_fail {m' : M} {y : List Mk × Int} {e : Int} (h : y = ([], e)) : Done (MeR y (.tuple #[.slice none 0 0, I e]) m') := ⟨by subst h; exact ⟨none, 0, rfl, .nil _⟩⟩

theorem mb_fail {m' : M} {y : List Mk × Bool × Int} {e : Int} (h : y = ([], false, e)) : Done (MbR y (.tuple #[.slice none 0 0, .bool false, I e]) m') := ⟨by subst h; exact ⟨none, 0, rfl, .nil _⟩⟩

theorem me_ok {m' : M} {y : List Mk × Int} {z : List Mk} {a' : Option Addr} {len c' : Nat} (h : y = (z, 0)) (hl : len = z.length) (hr : Row m' a' (mks z)) : Done (MeR y (.tuple #[.slice a' len c', I 0]) m') := ⟨by subst h; subst hl; exact ⟨a', c', rfl, hr⟩⟩

theorem mb_ok {m' : M} {y : List Mk × Bool × Int} {z : List Mk} {b : Bool} {a' : Option Addr} {len c' : Nat} (h : y = (z, b, 0)) (hl : len = z.length) (hr : Row m' a' (mks z)) : Done (MbR y (.tuple #[.slice a' len c', .bool b, I 0]) m') := ⟨by subst h; subst hl; exact ⟨a', c', rfl, hr⟩⟩

def argB (c s : Int) : Bool := decide (1 ≤ c) && decide (c ≤ 8) && decide (1 ≤ s) && decide (s ≤ 4611686018427387904)

def opM (c s : Int) : Mk := ⟨c, s, true, 0, 0, 0, 0⟩

def beginM (l : List Mk) (c s : Int) : List Mk × Bool × Int :=
  if tabB 0 l = false then ([], false, 21) else if argB c s = false then ([], false, 1) else
  match ofM l c with
  | none => (insM l (opM c s), true, 0)
  | some x => if s < x.sq then ([], false, 80) else if x.sq = s then (l, false, 0) else (insM l (opM c s), true, 0)

def openE (l : List Mk) (c s : Int) : Int := if tabB 0 l = false then 21 else match ofM l c with | none => 60 | some x => if x.sq = s ∧ x.op = true then 0 else 60

def edM (c s : Int) (a : An) : Mk := ⟨c, s, false, a.er, a.va, a.le, a.mo⟩

def loM (c s : Int) : Mk := ⟨c, s - 1, false, 80, 0, 0, 0⟩

def endM (l : List Mk) (c s : Int) (a : An) : List Mk × Int := if openE l c s ≠ 0 then ([], openE l c s) else (insM l (edM c s a), 0)

def loseM (l : List Mk) (c s : Int) : List Mk × Int := if openE l c s ≠ 0 then ([], openE l c s) else (insM l (loM c s), 0)

def joinM (a b : List Mk) : List Mk × Int := if tabB 0 a = false ∨ tabB 0 b = false then ([], 21) else (foldM a b, 0)

theorem sbegin_s (a : Option Addr) (cp : Nat) (l : List Mk) (c s : Int) (hn : l.length ≤ 9223372036854775807) (m : M) (h : Row m a (mks l)) : Vc.Spec Try.prog 18 [.slice a l.length cp, I c, I s] m (MbR (beginM l c s)) := by
  refine Vc.Spec.of_vc Try.func18 (ann := noAnn) ?_
  refine vc_by (X :=
      true = true ∧
      ∃ (n : Int),
      QSpec Try.prog (25 : Nat) [Value.slice a l.length cp] m (Value.int IntKind.i64 n) ∧
      ifB (n != (0 : Int)) (Done (MbR (beginM l c s) (Value.tuple #[Value.slice none (0 : Nat) (0 : Nat), Value.bool false, Value.int IntKind.i64 (21 : Int)]) m))
      (ifB (decide (c < (1 : Int))) (Done (MbR (beginM l c s) (Value.tuple #[Value.slice none (0 : Nat) (0 : Nat), Value.bool false, Value.int IntKind.i64 (1 : Int)]) m))
      (ifB (decide (c > (8 : Int))) (Done (MbR (beginM l c s) (Value.tuple #[Value.slice none (0 : Nat) (0 : Nat), Value.bool false, Value.int IntKind.i64 (1 : Int)]) m))
      (ifB (decide (s < (1 : Int))) (Done (MbR (beginM l c s) (Value.tuple #[Value.slice none (0 : Nat) (0 : Nat), Value.bool false, Value.int IntKind.i64 (1 : Int)]) m))
      (ifB (decide (s > (4611686018427387904 : Int)))
      (Done (MbR (beginM l c s) (Value.tuple #[Value.slice none (0 : Nat) (0 : Nat), Value.bool false, Value.int IntKind.i64 (1 : Int)]) m))
      (∃ (n : Int),
      ∃ (n_1 : Int),
      ∃ (b : Bool),
      ∃ (n_2 : Int),
      ∃ (n_3 : Int),
      ∃ (n_4 : Int),
      ∃ (n_5 : Int),
      ∃ (b_1 : Bool),
      QSpec Try.prog (17 : Nat) [Value.slice a l.length cp, Value.int IntKind.i64 c] m
      (Value.tuple
      #[Value.agg
      #[Value.int IntKind.i64 n, Value.int IntKind.i64 n_1, Value.bool b, Value.int IntKind.i64 n_2, Value.int IntKind.i64 n_3,
      Value.int IntKind.i64 n_4, Value.int IntKind.i64 n_5],
      Value.bool b_1]) ∧
      ifB b_1
      (ifB (decide (n_1 > s))
      (Done (MbR (beginM l c s) (Value.tuple #[Value.slice none (0 : Nat) (0 : Nat), Value.bool false, Value.int IntKind.i64 (80 : Int)]) m))
      (ifB b_1
      (ifB (n_1 == s)
      (∃ (S' : Nat → Prop),
      (∀ (b : Nat), S' b → m.uf b ∧ (m.sz ≤ b ∨ False)) ∧
      ∀ (n : Nat),
      m.sz ≤ n →
      SpecW Try.prog (27 : Nat) [Value.slice a l.length cp] { π := m.π, sz := n, uf := m.uf : M } S' fun (v : Value) (m' : M) =>
      ∃ (a : Option Addr),
      ∃ (n : Nat),
      ∃ (c_1 : Nat),
      v = Value.slice a n c_1 ∧
      Done (MbR (beginM l c s) (Value.tuple #[Value.slice a n c_1, Value.bool false, Value.int IntKind.i64 (0 : Int)]) m'))
      (∃ (S' : Nat → Prop),
      (∀ (b : Nat), S' b → m.uf b ∧ (m.sz ≤ b ∨ False)) ∧
      ∀ (n : Nat),
      m.sz ≤ n →
      SpecW Try.prog (28 : Nat)
      [Value.slice a l.length cp,
      Value.agg
      #[Value.int IntKind.i64 c, Value.int IntKind.i64 s, Value.bool true, Value.int IntKind.i64 (0 : Int),
      Value.int IntKind.i64 (0 : Int), Value.int IntKind.i64 (0 : Int), Value.int IntKind.i64 (0 : Int)]]
      { π := m.π, sz := n, uf := m.uf : M } S' fun (v : Value) (m' : M) =>
      ∃ (a : Option Addr),
      ∃ (n : Nat),
      ∃ (c_1 : Nat),
      v = Value.slice a n c_1 ∧
      Done (MbR (beginM l c s) (Value.tuple #[Value.slice a n c_1, Value.bool true, Value.int IntKind.i64 (0 : Int)]) m')))
      (∃ (S' : Nat → Prop),
      (∀ (b : Nat), S' b → m.uf b ∧ (m.sz ≤ b ∨ False)) ∧
      ∀ (n : Nat),
      m.sz ≤ n →
      SpecW Try.prog (28 : Nat)
      [Value.slice a l.length cp,
      Value.agg
      #[Value.int IntKind.i64 c, Value.int IntKind.i64 s, Value.bool true, Value.int IntKind.i64 (0 : Int),
      Value.int IntKind.i64 (0 : Int), Value.int IntKind.i64 (0 : Int), Value.int IntKind.i64 (0 : Int)]]
      { π := m.π, sz := n, uf := m.uf : M } S' fun (v : Value) (m' : M) =>
      ∃ (a : Option Addr),
      ∃ (n : Nat),
      ∃ (c_1 : Nat),
      v = Value.slice a n c_1 ∧
      Done (MbR (beginM l c s) (Value.tuple #[Value.slice a n c_1, Value.bool true, Value.int IntKind.i64 (0 : Int)]) m'))))
      (ifB b_1
      (ifB (n_1 == s)
      (∃ (S' : Nat → Prop),
      (∀ (b : Nat), S' b → m.uf b ∧ (m.sz ≤ b ∨ False)) ∧
      ∀ (n : Nat),
      m.sz ≤ n →
      SpecW Try.prog (27 : Nat) [Value.slice a l.length cp] { π := m.π, sz := n, uf := m.uf : M } S' fun (v : Value) (m' : M) =>
      ∃ (a : Option Addr),
      ∃ (n : Nat),
      ∃ (c_1 : Nat),
      v = Value.slice a n c_1 ∧
      Done (MbR (beginM l c s) (Value.tuple #[Value.slice a n c_1, Value.bool false, Value.int IntKind.i64 (0 : Int)]) m'))
      (∃ (S' : Nat → Prop),
      (∀ (b : Nat), S' b → m.uf b ∧ (m.sz ≤ b ∨ False)) ∧
      ∀ (n : Nat),
      m.sz ≤ n →
      SpecW Try.prog (28 : Nat)
      [Value.slice a l.length cp,
      Value.agg
      #[Value.int IntKind.i64 c, Value.int IntKind.i64 s, Value.bool true, Value.int IntKind.i64 (0 : Int),
      Value.int IntKind.i64 (0 : Int), Value.int IntKind.i64 (0 : Int), Value.int IntKind.i64 (0 : Int)]]
      { π := m.π, sz := n, uf := m.uf : M } S' fun (v : Value) (m' : M) =>
      ∃ (a : Option Addr),
      ∃ (n : Nat),
      ∃ (c_1 : Nat),
      v = Value.slice a n c_1 ∧
      Done (MbR (beginM l c s) (Value.tuple #[Value.slice a n c_1, Value.bool true, Value.int IntKind.i64 (0 : Int)]) m')))
      (∃ (S' : Nat → Prop),
      (∀ (b : Nat), S' b → m.uf b ∧ (m.sz ≤ b ∨ False)) ∧
      ∀ (n : Nat),
      m.sz ≤ n →
      SpecW Try.prog (28 : Nat)
      [Value.slice a l.length cp,
      Value.agg
      #[Value.int IntKind.i64 c, Value.int IntKind.i64 s, Value.bool true, Value.int IntKind.i64 (0 : Int),
      Value.int IntKind.i64 (0 : Int), Value.int IntKind.i64 (0 : Int), Value.int IntKind.i64 (0 : Int)]]
      { π := m.π, sz := n, uf := m.uf : M } S' fun (v : Value) (m' : M) =>
      ∃ (a : Option Addr),
      ∃ (n : Nat),
      ∃ (c_1 : Nat),
      v = Value.slice a n c_1 ∧
      Done (MbR (beginM l c s) (Value.tuple #[Value.slice a n c_1, Value.bool true, Value.int IntKind.i64 (0 : Int)]) m'))))))))) (by kernel_rfl) ?_
  refine ⟨rfl, _, scheck_q a cp l hn _ h, ?_⟩
  cases ht : tabB 0 l
  · exact ifB_true (mb_fail (by simp [beginM, ht]))
  have h8 := tab8 ht
  refine ifB_false (ifB_intro (fun h1 => mb_fail ?_) (fun h1 => ifB_intro (fun h2 => mb_fail ?_) (fun h2 => ifB_intro (fun h3 => mb_fail ?_) (fun h3 => ifB_intro (fun h4 => mb_fail ?_) (fun h4 => ?_)))))
  · have : argB c s = false := by simp at h1; simp [argB]; omega
    simp [beginM, ht, this]
  · have : argB c s = false := by simp at h2; simp [argB]; omega
    simp [beginM, ht, this]
  · have : argB c s = false := by simp at h3; simp [argB]; omega
    simp [beginM, ht, this]
  · have : argB c s = false := by simp at h4; simp [argB]; omega
    simp [beginM, ht, this]
  have ha : argB c s = true := by simp at h1 h2 h3 h4; simp [argB]; omega
  have hf : findO l c = ofM l c := by simp [findO, ht]
  refine ⟨_, _, _, _, _, _, _, _, find_q a cp l c hn _ h, ?_⟩
  rw [hf]
  cases ho : ofM l c with
  | none =>
    have hres : beginM l c s = (insM l (opM c s), true, 0) := by simp [beginM, ht, ha, ho]
    refine ifB_false (ifB_false ⟨_, noS, fun N hN => (with_s a cp l (opM c s) ht _ (h.sz hN)).monoW fun v m' hag hq => ?_⟩)
    obtain ⟨a', c', hv, hr⟩ := hq
    exact ⟨a', _, c', hv, mb_ok hres rfl hr⟩
  | some x =>
    refine ifB_true (ifB_intro (fun h5 => mb_fail ?_) (fun h5 => ifB_true (ifB_intro (fun h6 => ⟨_, noS, fun N hN => (mk_clone l a cp (by omega) (mk_none h) _ (h.sz hN)).monoW fun v m' hag hq => ?_⟩) (fun h6 => ⟨_, noS, fun N hN => (with_s a cp l (opM c s) ht _ (h.sz hN)).monoW fun v m' hag hq => ?_⟩))))
    · have h5 : s < x.sq := by simpa using h5
      simp [beginM, ht, ha, ho, h5]
    all_goals have h5 : ¬ s < x.sq := by simpa using h5
    · have h6 : x.sq = s := by simpa using h6
      obtain ⟨a', c', hv, hr⟩ := hq
      exact ⟨a', _, c', hv, mb_ok (by simp [beginM, ht, ha, ho, h6]) rfl hr.row⟩
    · have h6 : ¬ x.sq = s := by simpa using h6
      obtain ⟨a', c', hv, hr⟩ := hq
      exact ⟨a', _, c', hv, mb_ok (by simp [beginM, ht, ha, ho, h5, h6]) rfl hr⟩

theorem sopen_q (a : Option Addr) (cp : Nat) (l : List Mk) (c s : Int) (hn : l.length ≤ 9223372036854775807) (m : M) (h : Row m a (mks l)) : QSpec Try.prog 31 [.slice a l.length cp, I c, I s] m (I (openE l c s)) := by
  refine QSpec.of_vc Try.func31 (ann := fun _ => noAnn) fun n hn' => ?_
  refine vc_by (X :=
      true = true ∧
      ∃ (n_1 : Int),
      QSpec Try.prog (25 : Nat) [Value.slice a l.length cp] { π := m.π, sz := n, uf := m.uf : M } (Value.int IntKind.i64 n_1) ∧
      ifB (n_1 != (0 : Int)) (Done (Value.int IntKind.i64 (21 : Int) = Value.int IntKind.i64 (openE l c s)))
      (∃ (n_2 : Int),
      ∃ (n_3 : Int),
      ∃ (b : Bool),
      ∃ (n_4 : Int),
      ∃ (n_5 : Int),
      ∃ (n_6 : Int),
      ∃ (n_7 : Int),
      ∃ (b_1 : Bool),
      QSpec Try.prog (17 : Nat) [Value.slice a l.length cp, Value.int IntKind.i64 c] { π := m.π, sz := n, uf := m.uf : M }
      (Value.tuple
      #[Value.agg
      #[Value.int IntKind.i64 n_2, Value.int IntKind.i64 n_3, Value.bool b, Value.int IntKind.i64 n_4, Value.int IntKind.i64 n_5,
      Value.int IntKind.i64 n_6, Value.int IntKind.i64 n_7],
      Value.bool b_1]) ∧
      ifB (!b_1) (Done (Value.int IntKind.i64 (60 : Int) = Value.int IntKind.i64 (openE l c s)))
      (ifB (n_3 != s) (Done (Value.int IntKind.i64 (60 : Int) = Value.int IntKind.i64 (openE l c s)))
      (ifB (!b) (Done (Value.int IntKind.i64 (60 : Int) = Value.int IntKind.i64 (openE l c s)))
      (Done (Value.int IntKind.i64 (0 : Int) = Value.int IntKind.i64 (openE l c s))))))) (by kernel_rfl) ?_
  have h' := h.sz hn'
  refine ⟨rfl, _, scheck_q a cp l hn _ h', ?_⟩
  cases ht : tabB 0 l
  · exact ifB_true ⟨by simp [openE, ht]⟩
  refine ifB_false ⟨_, _, _, _, _, _, _, _, find_q a cp l c hn _ h', ?_⟩
  rw [show findO l c = ofM l c by simp [findO, ht]]
  cases ho : ofM l c with
  | none => exact ifB_true ⟨by simp [openE, ht, ho]⟩
  | some x =>
    refine ifB_false (ifB_intro (fun h1 => ⟨?_⟩) (fun h1 => ifB_intro (fun h2 => ⟨?_⟩) (fun h2 => ⟨?_⟩)))
    · have h1 : ¬ x.sq = s := by simpa using h1
      simp [openE, ht, ho, h1]
    · have h2 : x.op = false := by simpa using h2
      simp [openE, ht, ho, h2]
    · have h1 : x.sq = s := by simpa using h1
      have h2 : x.op = true := by simpa using h2
      simp [openE, ht, ho, h1, h2]

theorem openE_zero {l : List Mk} {c s : Int} (h : openE l c s = 0) : tabB 0 l = true ∧ ∃ x, ofM l c = some x ∧ x.sq = s ∧ x.op = true ∧ 0 < c ∧ c ≤ 8 ∧ 1 ≤ s ∧ s ≤ 4611686018427387904 := by
  unfold openE at h
  cases ht : tabB 0 l
  · rw [ht] at h; simp at h
  rw [ht] at h
  simp only [Bool.true_eq_false, if_false] at h
  cases ho : ofM l c with
  | none => rw [ho] at h; simp at h
  | some x =>
    rw [ho] at h
    simp only at h
    split at h
    · rename_i e
      obtain ⟨g1, g2, g3⟩ := ofM_ok ht ho
      simp [mkB, e.2] at g2
      exact ⟨rfl, x, rfl, e.1, e.2, g1, by omega, by omega, by omega⟩
    · simp at h

theorem send_s (a : Option Addr) (cp : Nat) (l : List Mk) (c s : Int) (an : An) (hn : l.length ≤ 9223372036854775807) (m : M) (h : Row m a (mks l)) : Vc.Spec Try.prog 20 [.slice a l.length cp, I c, I s, anv an] m (MeR (endM l c s an)) := by
  refine Vc.Spec.of_vc Try.func20 (ann := noAnn) ?_
  refine vc_by (X :=
      true = true ∧
      ∃ (n : Int),
      QSpec Try.prog (31 : Nat) [Value.slice a l.length cp, Value.int IntKind.i64 c, Value.int IntKind.i64 s] m (Value.int IntKind.i64 n) ∧
      ifB (n != (0 : Int)) (Done (MeR (endM l c s an) (Value.tuple #[Value.slice none (0 : Nat) (0 : Nat), Value.int IntKind.i64 n]) m))
      (∃ (S' : Nat → Prop),
      (∀ (b : Nat), S' b → m.uf b ∧ (m.sz ≤ b ∨ False)) ∧
      ∀ (n : Nat),
      m.sz ≤ n →
      SpecW Try.prog (28 : Nat)
      [Value.slice a l.length cp,
      Value.agg
      #[Value.int IntKind.i64 c, Value.int IntKind.i64 s, Value.bool false, Value.int IntKind.i64 an.er, Value.int IntKind.i64 an.va, Value.int IntKind.i64 an.le,
      Value.int IntKind.i64 an.mo]]
      { π := m.π, sz := n, uf := m.uf : M } S' fun (v : Value) (m' : M) =>
      ∃ (a : Option Addr),
      ∃ (n : Nat), ∃ (c_1 : Nat), v = Value.slice a n c_1 ∧ Done (MeR (endM l c s an) (Value.tuple #[Value.slice a n c_1, Value.int IntKind.i64 (0 : Int)]) m'))) (by kernel_rfl) ?_
  refine ⟨rfl, _, sopen_q a cp l c s hn _ h, ifB_intro (fun h1 => me_fail ?_) (fun h1 => ?_)⟩
  · simp at h1; simp [endM, h1]
  have h1 : openE l c s = 0 := by simpa using h1
  obtain ⟨ht, -⟩ := openE_zero h1
  refine ⟨_, noS, fun N hN => (with_s a cp l (edM c s an) ht _ (h.sz hN)).monoW fun v m' hag hq => ?_⟩
  obtain ⟨a', c', hv, hr⟩ := hq
  exact ⟨a', _, c', hv, me_ok (by simp [endM, h1]) rfl hr⟩

theorem slose_s (a : Option Addr) (cp : Nat) (l : List Mk) (c s : Int) (hn : l.length ≤ 9223372036854775807) (m : M) (h : Row m a (mks l)) : Vc.Spec Try.prog 19 [.slice a l.length cp, I c, I s] m (MeR (loseM l c s)) := by
  refine Vc.Spec.of_vc Try.func19 (ann := noAnn) ?_
  refine vc_by (X :=
      true = true ∧
      ∃ (n : Int),
      QSpec Try.prog (31 : Nat) [Value.slice a l.length cp, Value.int IntKind.i64 c, Value.int IntKind.i64 s] m (Value.int IntKind.i64 n) ∧
      ifB (n != (0 : Int)) (Done (MeR (loseM l c s) (Value.tuple #[Value.slice none (0 : Nat) (0 : Nat), Value.int IntKind.i64 n]) m))
      (∃ (S' : Nat → Prop),
      (∀ (b : Nat), S' b → m.uf b ∧ (m.sz ≤ b ∨ False)) ∧
      ∀ (n : Nat),
      m.sz ≤ n →
      SpecW Try.prog (28 : Nat)
      [Value.slice a l.length cp,
      Value.agg
      #[Value.int IntKind.i64 c, Value.int IntKind.i64 (IntKind.i64.wrap (s - (1 : Int))), Value.bool false, Value.int IntKind.i64 (80 : Int),
      Value.int IntKind.i64 (0 : Int), Value.int IntKind.i64 (0 : Int), Value.int IntKind.i64 (0 : Int)]]
      { π := m.π, sz := n, uf := m.uf : M } S' fun (v : Value) (m' : M) =>
      ∃ (a : Option Addr),
      ∃ (n : Nat), ∃ (c_1 : Nat), v = Value.slice a n c_1 ∧ Done (MeR (loseM l c s) (Value.tuple #[Value.slice a n c_1, Value.int IntKind.i64 (0 : Int)]) m'))) (by kernel_rfl) ?_
  refine ⟨rfl, _, sopen_q a cp l c s hn _ h, ifB_intro (fun h1 => me_fail ?_) (fun h1 => ?_)⟩
  · simp at h1; simp [loseM, h1]
  have h1 : openE l c s = 0 := by simpa using h1
  obtain ⟨ht, x, -, -, -, -, -, g1, g2⟩ := openE_zero h1
  have w1 : IntKind.i64.wrap (s - 1) = s - 1 := by simp [IntKind.wrap_i64]; omega
  rw [w1]
  refine ⟨_, noS, fun N hN => (with_s a cp l (loM c s) ht _ (h.sz hN)).monoW fun v m' hag hq => ?_⟩
  obtain ⟨a', c', hv, hr⟩ := hq
  exact ⟨a', _, c', hv, me_ok (by simp [loseM, h1]) rfl hr⟩

end Go.Proofs.Ytpfiodchlbofmaa
