/-
  Contracts of functions of this seat: what each hands back, and what it leaves of memory (wit5). Nothing here is trusted: Lean checks it.
-/
import Derived.Test.YtbhlhnkjmncloaaWit4
set_option linter.unusedVariables false
set_option linter.unusedSimpArgs false
namespace Go.Proofs.Ytbhlhnkjmncloaa
open Go.Vc Go.RowKit
set_option maxRecDepth 100000

structure LpT (y : List Tt × An) (v : Value) (m' : M) : Prop where
  out : ∃ a' c', v = .tuple #[.slice a' y.1.length c', anv y.2] ∧ Row m' a' (tts y.1)

theorem lt_ok {m' : M} {y : List Tt × An} {z : List Tt} {n : An} {a' : Option Addr} {len c' : Nat} (h : y = (z, n)) (hl : len = z.length) (hr : Row m' a' (tts z)) : Done (LpT y (.tuple #[.slice a' len c', anv n]) m') := ⟨by subst h; subst hl; exact ⟨a', c', rfl, hr⟩⟩

def eA (e : Int) : An := ⟨e, 0, 0, 0⟩

/-- what an operation that may be plainly does to totals -/
def doX (l : List Tt) (o : Oq) : List Tt × An :=
  let t := fndT l o.ky
  if o.kd = 1 ∨ o.kd = 2 then (let n := if o.kd = 2 then -o.n else o.n; if movB t n then (setT l (movT t n), eA 0) else (l, eA 150))
  else if o.kd = 4 then (l, ⟨0, t.va, 0, 0⟩)
  else if o.kd = 3 then (l, ⟨0, 0, t.va, t.va⟩)
  else if o.kd = 5 then (if hasB o.lo o.hi t.va then (setT l { t with sp_lo := o.lo, sp_hi := o.hi }, eA 0) else (l, eA 150))
  else if o.kd = 6 then (if movB t (-o.n) && movB (fndT l o.ot) o.n then (setT (setT l (movT t (-o.n))) (movT (fndT l o.ot) o.n), eA 0) else (l, eA 150))
  else (l, eA 0)

def doT (l : List Tt) (o : Oq) : List Tt × An := if totB none l = false then ([], eA 21) else if mayO o = false then (l, eA 1) else doX l o

theorem wf_fnd {l : List Tt} {k : ByteArray} (hl : ∀ x ∈ l, x.wf) : In64 (fndT l k).va := by
  unfold fndT
  cases h : ofT l (zT k) with
  | none => show In64 0; decide
  | some x => exact (hl x (ofT_some h).1).2.2.2

/-- what is found stands in its key's place -/
theorem fnd_key (l : List Tt) (k : ByteArray) : (fndT l k).ky = k := by
  unfold fndT
  cases h : ofT l (zT k) with
  | none => rfl
  | some x => exact of_decide_eq_true (ofT_some h).2

theorem may_key {o : Oq} (h : mayO o = true) : keyB o.ky = true := by
  simp [mayO] at h; exact h.1.1.1

theorem may_n {o : Oq} (h : mayO o = true) (hk : o.kd = 1 ∨ o.kd = 2 ∨ o.kd = 6) : 1 ≤ o.n := by
  simp only [mayO, Bool.and_eq_true, decide_eq_true_eq] at h
  have h2 := h.2
  rcases hk with e | e | e <;> simp [e] at h2 <;> omega

theorem may_ot {o : Oq} (h : mayO o = true) (hk : o.kd = 6) : keyB o.ot = true ∧ o.ot ≠ o.ky := by
  simp only [mayO, Bool.and_eq_true, decide_eq_true_eq] at h
  have h2 := h.2
  simp [hk] at h2
  exact ⟨h2.1.2, h2.2⟩

/-- what an operation leaves in a key's place may stand there -/
theorem mov_may {x : Tt} {n : Int} (h : keyB x.ky = true) (hm : movB x n = true) : plainT (movT x n) = true ∨ tmayB (movT x n) = true := by
  cases hp : plainT (movT x n)
  · refine .inr ?_
    simp only [movB, Bool.and_eq_true, decide_eq_true_eq] at hm
    have : hasT (movT x n) = true := hm.2
    simp [tmayB, hp, this]
    exact h
  · exact .inl rfl

theorem wdo_s (a : Option Addr) (cp : Nat) (l : List Tt) (o : Oq) (hn : l.length ≤ 4194303) (hl : ∀ x ∈ l, x.wf) (ho : o.wf) (m : M) (h : Row m a (tts l)) : Vc.Spec Try.prog 12 [.slice a l.length cp, oqv o] m (LpT (doT l o)) := by
  refine Vc.Spec.of_vc Try.func12 (ann := noAnn) ?_
  refine vc_by (X :=
      true = true ∧
      ∃ (n : Int),
      QSpec Try.prog (15 : Nat) [Value.slice a l.length cp] m (Value.int IntKind.i64 n) ∧
      ifB (n != (0 : Int))
      (Done
      (LpT (doT l o)
      (Value.tuple
      #[Value.slice none (0 : Nat) (0 : Nat),
      Value.agg #[Value.int IntKind.i64 (21 : Int), Value.int IntKind.i64 (0 : Int), Value.int IntKind.i64 (0 : Int), Value.int IntKind.i64 (0 : Int)]])
      m))
      (∃ (b : Bool),
      QSpec Try.prog (33 : Nat)
      [Value.agg #[Value.int IntKind.i64 o.kd, Value.string o.ky, Value.string o.ot, Value.int IntKind.i64 o.n, Value.int IntKind.i64 o.lo, Value.int IntKind.i64 o.hi]] m
      (Value.bool b) ∧
      ifB (!b)
      (∃ (S' : Nat → Prop),
      (∀ (b : Nat), S' b → m.uf b ∧ (m.sz ≤ b ∨ False)) ∧
      ∀ (n : Nat),
      m.sz ≤ n →
      SpecW Try.prog (34 : Nat) [Value.slice a l.length cp] { π := m.π, sz := n, uf := m.uf : M } S' fun (v : Value) (m' : M) =>
      ∃ (a : Option Addr),
      ∃ (n : Nat),
      ∃ (c : Nat),
      v = Value.slice a n c ∧
      Done
      (LpT (doT l o)
      (Value.tuple
      #[Value.slice a n c,
      Value.agg
      #[Value.int IntKind.i64 (1 : Int), Value.int IntKind.i64 (0 : Int), Value.int IntKind.i64 (0 : Int), Value.int IntKind.i64 (0 : Int)]])
      m'))
      (∃ (s : ByteArray),
      ∃ (n : Int),
      ∃ (n_1 : Int),
      ∃ (n_2 : Int),
      QSpec Try.prog (35 : Nat) [Value.slice a l.length cp, Value.string o.ky] m
      (Value.agg #[Value.string s, Value.int IntKind.i64 n, Value.int IntKind.i64 n_1, Value.int IntKind.i64 n_2]) ∧
      ifB (o.kd == (1 : Int))
      (ifB (o.kd == (2 : Int))
      (∃ (s_1 : ByteArray),
      ∃ (n_3 : Int),
      ∃ (n_4 : Int),
      ∃ (n_5 : Int),
      ∃ (b : Bool),
      QSpec Try.prog (36 : Nat)
      [Value.agg #[Value.string s, Value.int IntKind.i64 n, Value.int IntKind.i64 n_1, Value.int IntKind.i64 n_2],
      Value.int IntKind.i64 (IntKind.i64.wrap ((0 : Int) - o.n))]
      m
      (Value.tuple
      #[Value.agg #[Value.string s_1, Value.int IntKind.i64 n_3, Value.int IntKind.i64 n_4, Value.int IntKind.i64 n_5], Value.bool b]) ∧
      ifB b
      (∃ (S' : Nat → Prop),
      (∀ (b : Nat), S' b → m.uf b ∧ (m.sz ≤ b ∨ False)) ∧
      ∀ (n : Nat),
      m.sz ≤ n →
      SpecW Try.prog (37 : Nat)
      [Value.slice a l.length cp,
      Value.agg #[Value.string s_1, Value.int IntKind.i64 n_3, Value.int IntKind.i64 n_4, Value.int IntKind.i64 n_5]]
      { π := m.π, sz := n, uf := m.uf : M } S' fun (v : Value) (m' : M) =>
      ∃ (a : Option Addr),
      ∃ (n : Nat),
      ∃ (c : Nat),
      v = Value.slice a n c ∧
      Done
      (LpT (doT l o)
      (Value.tuple
      #[Value.slice a n c,
      Value.agg
      #[Value.int IntKind.i64 (0 : Int), Value.int IntKind.i64 (0 : Int), Value.int IntKind.i64 (0 : Int),
      Value.int IntKind.i64 (0 : Int)]])
      m'))
      (true = true ∧
      (∃ (S' : Nat → Prop),
      (∀ (b : Nat), S' b → m.uf b ∧ (m.sz ≤ b ∨ False)) ∧
      ∀ (n : Nat),
      m.sz ≤ n →
      SpecW Try.prog (34 : Nat) [Value.slice a l.length cp] { π := m.π, sz := n, uf := m.uf : M } S' fun (v : Value) (m' : M) =>
      ∃ (a : Option Addr),
      ∃ (n : Nat),
      ∃ (c : Nat),
      v = Value.slice a n c ∧
      MLe m m' ∧
      Done
      (LpT (doT l o)
      (Value.tuple
      #[Value.slice a n c,
      Value.agg
      #[Value.int IntKind.i64 (150 : Int), Value.int IntKind.i64 (0 : Int), Value.int IntKind.i64 (0 : Int),
      Value.int IntKind.i64 (0 : Int)]])
      m')) ∧
      True))
      (∃ (s_1 : ByteArray),
      ∃ (n_3 : Int),
      ∃ (n_4 : Int),
      ∃ (n_5 : Int),
      ∃ (b : Bool),
      QSpec Try.prog (36 : Nat)
      [Value.agg #[Value.string s, Value.int IntKind.i64 n, Value.int IntKind.i64 n_1, Value.int IntKind.i64 n_2], Value.int IntKind.i64 o.n] m
      (Value.tuple
      #[Value.agg #[Value.string s_1, Value.int IntKind.i64 n_3, Value.int IntKind.i64 n_4, Value.int IntKind.i64 n_5], Value.bool b]) ∧
      ifB b
      (∃ (S' : Nat → Prop),
      (∀ (b : Nat), S' b → m.uf b ∧ (m.sz ≤ b ∨ False)) ∧
      ∀ (n : Nat),
      m.sz ≤ n →
      SpecW Try.prog (37 : Nat)
      [Value.slice a l.length cp,
      Value.agg #[Value.string s_1, Value.int IntKind.i64 n_3, Value.int IntKind.i64 n_4, Value.int IntKind.i64 n_5]]
      { π := m.π, sz := n, uf := m.uf : M } S' fun (v : Value) (m' : M) =>
      ∃ (a : Option Addr),
      ∃ (n : Nat),
      ∃ (c : Nat),
      v = Value.slice a n c ∧
      Done
      (LpT (doT l o)
      (Value.tuple
      #[Value.slice a n c,
      Value.agg
      #[Value.int IntKind.i64 (0 : Int), Value.int IntKind.i64 (0 : Int), Value.int IntKind.i64 (0 : Int),
      Value.int IntKind.i64 (0 : Int)]])
      m'))
      (true = true ∧
      (∃ (S' : Nat → Prop),
      (∀ (b : Nat), S' b → m.uf b ∧ (m.sz ≤ b ∨ False)) ∧
      ∀ (n : Nat),
      m.sz ≤ n →
      SpecW Try.prog (34 : Nat) [Value.slice a l.length cp] { π := m.π, sz := n, uf := m.uf : M } S' fun (v : Value) (m' : M) =>
      ∃ (a : Option Addr),
      ∃ (n : Nat),
      ∃ (c : Nat),
      v = Value.slice a n c ∧
      MLe m m' ∧
      Done
      (LpT (doT l o)
      (Value.tuple
      #[Value.slice a n c,
      Value.agg
      #[Value.int IntKind.i64 (150 : Int), Value.int IntKind.i64 (0 : Int), Value.int IntKind.i64 (0 : Int),
      Value.int IntKind.i64 (0 : Int)]])
      m')) ∧
      True)))
      (ifB (o.kd == (2 : Int))
      (ifB (o.kd == (2 : Int))
      (∃ (s_1 : ByteArray),
      ∃ (n_3 : Int),
      ∃ (n_4 : Int),
      ∃ (n_5 : Int),
      ∃ (b : Bool),
      QSpec Try.prog (36 : Nat)
      [Value.agg #[Value.string s, Value.int IntKind.i64 n, Value.int IntKind.i64 n_1, Value.int IntKind.i64 n_2],
      Value.int IntKind.i64 (IntKind.i64.wrap ((0 : Int) - o.n))]
      m
      (Value.tuple
      #[Value.agg #[Value.string s_1, Value.int IntKind.i64 n_3, Value.int IntKind.i64 n_4, Value.int IntKind.i64 n_5], Value.bool b]) ∧
      ifB b
      (∃ (S' : Nat → Prop),
      (∀ (b : Nat), S' b → m.uf b ∧ (m.sz ≤ b ∨ False)) ∧
      ∀ (n : Nat),
      m.sz ≤ n →
      SpecW Try.prog (37 : Nat)
      [Value.slice a l.length cp,
      Value.agg #[Value.string s_1, Value.int IntKind.i64 n_3, Value.int IntKind.i64 n_4, Value.int IntKind.i64 n_5]]
      { π := m.π, sz := n, uf := m.uf : M } S' fun (v : Value) (m' : M) =>
      ∃ (a : Option Addr),
      ∃ (n : Nat),
      ∃ (c : Nat),
      v = Value.slice a n c ∧
      Done
      (LpT (doT l o)
      (Value.tuple
      #[Value.slice a n c,
      Value.agg
      #[Value.int IntKind.i64 (0 : Int), Value.int IntKind.i64 (0 : Int), Value.int IntKind.i64 (0 : Int),
      Value.int IntKind.i64 (0 : Int)]])
      m'))
      (true = true ∧
      (∃ (S' : Nat → Prop),
      (∀ (b : Nat), S' b → m.uf b ∧ (m.sz ≤ b ∨ False)) ∧
      ∀ (n : Nat),
      m.sz ≤ n →
      SpecW Try.prog (34 : Nat) [Value.slice a l.length cp] { π := m.π, sz := n, uf := m.uf : M } S' fun (v : Value) (m' : M) =>
      ∃ (a : Option Addr),
      ∃ (n : Nat),
      ∃ (c : Nat),
      v = Value.slice a n c ∧
      MLe m m' ∧
      Done
      (LpT (doT l o)
      (Value.tuple
      #[Value.slice a n c,
      Value.agg
      #[Value.int IntKind.i64 (150 : Int), Value.int IntKind.i64 (0 : Int), Value.int IntKind.i64 (0 : Int),
      Value.int IntKind.i64 (0 : Int)]])
      m')) ∧
      True))
      (∃ (s_1 : ByteArray),
      ∃ (n_3 : Int),
      ∃ (n_4 : Int),
      ∃ (n_5 : Int),
      ∃ (b : Bool),
      QSpec Try.prog (36 : Nat)
      [Value.agg #[Value.string s, Value.int IntKind.i64 n, Value.int IntKind.i64 n_1, Value.int IntKind.i64 n_2], Value.int IntKind.i64 o.n]
      m
      (Value.tuple
      #[Value.agg #[Value.string s_1, Value.int IntKind.i64 n_3, Value.int IntKind.i64 n_4, Value.int IntKind.i64 n_5], Value.bool b]) ∧
      ifB b
      (∃ (S' : Nat → Prop),
      (∀ (b : Nat), S' b → m.uf b ∧ (m.sz ≤ b ∨ False)) ∧
      ∀ (n : Nat),
      m.sz ≤ n →
      SpecW Try.prog (37 : Nat)
      [Value.slice a l.length cp,
      Value.agg #[Value.string s_1, Value.int IntKind.i64 n_3, Value.int IntKind.i64 n_4, Value.int IntKind.i64 n_5]]
      { π := m.π, sz := n, uf := m.uf : M } S' fun (v : Value) (m' : M) =>
      ∃ (a : Option Addr),
      ∃ (n : Nat),
      ∃ (c : Nat),
      v = Value.slice a n c ∧
      Done
      (LpT (doT l o)
      (Value.tuple
      #[Value.slice a n c,
      Value.agg
      #[Value.int IntKind.i64 (0 : Int), Value.int IntKind.i64 (0 : Int), Value.int IntKind.i64 (0 : Int),
      Value.int IntKind.i64 (0 : Int)]])
      m'))
      (true = true ∧
      (∃ (S' : Nat → Prop),
      (∀ (b : Nat), S' b → m.uf b ∧ (m.sz ≤ b ∨ False)) ∧
      ∀ (n : Nat),
      m.sz ≤ n →
      SpecW Try.prog (34 : Nat) [Value.slice a l.length cp] { π := m.π, sz := n, uf := m.uf : M } S' fun (v : Value) (m' : M) =>
      ∃ (a : Option Addr),
      ∃ (n : Nat),
      ∃ (c : Nat),
      v = Value.slice a n c ∧
      MLe m m' ∧
      Done
      (LpT (doT l o)
      (Value.tuple
      #[Value.slice a n c,
      Value.agg
      #[Value.int IntKind.i64 (150 : Int), Value.int IntKind.i64 (0 : Int), Value.int IntKind.i64 (0 : Int),
      Value.int IntKind.i64 (0 : Int)]])
      m')) ∧
      True)))
      (ifB (o.kd == (4 : Int))
      (true = true ∧
      (∃ (S' : Nat → Prop),
      (∀ (b : Nat), S' b → m.uf b ∧ (m.sz ≤ b ∨ False)) ∧
      ∀ (n : Nat),
      m.sz ≤ n →
      SpecW Try.prog (34 : Nat) [Value.slice a l.length cp] { π := m.π, sz := n, uf := m.uf : M } S' fun (v : Value) (m' : M) =>
      ∃ (a : Option Addr),
      ∃ (n : Nat),
      ∃ (c : Nat),
      v = Value.slice a n c ∧
      MLe m m' ∧
      Done
      (LpT (doT l o)
      (Value.tuple
      #[Value.slice a n c,
      Value.agg
      #[Value.int IntKind.i64 (0 : Int), Value.int IntKind.i64 n_2, Value.int IntKind.i64 (0 : Int),
      Value.int IntKind.i64 (0 : Int)]])
      m')) ∧
      True)
      (ifB (o.kd == (3 : Int))
      (true = true ∧
      (∃ (S' : Nat → Prop),
      (∀ (b : Nat), S' b → m.uf b ∧ (m.sz ≤ b ∨ False)) ∧
      ∀ (n : Nat),
      m.sz ≤ n →
      SpecW Try.prog (34 : Nat) [Value.slice a l.length cp] { π := m.π, sz := n, uf := m.uf : M } S' fun (v : Value) (m' : M) =>
      ∃ (a : Option Addr),
      ∃ (n : Nat),
      ∃ (c : Nat),
      v = Value.slice a n c ∧
      MLe m m' ∧
      Done
      (LpT (doT l o)
      (Value.tuple
      #[Value.slice a n c,
      Value.agg
      #[Value.int IntKind.i64 (0 : Int), Value.int IntKind.i64 (0 : Int), Value.int IntKind.i64 n_2,
      Value.int IntKind.i64 n_2]])
      m')) ∧
      True)
      (ifB (o.kd == (5 : Int))
      (∃ (b : Bool),
      QSpec Try.prog (38 : Nat) [Value.agg #[Value.int IntKind.i64 o.lo, Value.int IntKind.i64 o.hi], Value.int IntKind.i64 n_2] m (Value.bool b) ∧
      ifB (!b)
      (true = true ∧
      (∃ (S' : Nat → Prop),
      (∀ (b : Nat), S' b → m.uf b ∧ (m.sz ≤ b ∨ False)) ∧
      ∀ (n : Nat),
      m.sz ≤ n →
      SpecW Try.prog (34 : Nat) [Value.slice a l.length cp] { π := m.π, sz := n, uf := m.uf : M } S' fun (v : Value) (m' : M) =>
      ∃ (a : Option Addr),
      ∃ (n : Nat),
      ∃ (c : Nat),
      v = Value.slice a n c ∧
      MLe m m' ∧
      Done
      (LpT (doT l o)
      (Value.tuple
      #[Value.slice a n c,
      Value.agg
      #[Value.int IntKind.i64 (150 : Int), Value.int IntKind.i64 (0 : Int), Value.int IntKind.i64 (0 : Int),
      Value.int IntKind.i64 (0 : Int)]])
      m')) ∧
      True)
      (∃ (S' : Nat → Prop),
      (∀ (b : Nat), S' b → m.uf b ∧ (m.sz ≤ b ∨ False)) ∧
      ∀ (n : Nat),
      m.sz ≤ n →
      SpecW Try.prog (37 : Nat)
      [Value.slice a l.length cp,
      Value.agg #[Value.string s, Value.int IntKind.i64 o.lo, Value.int IntKind.i64 o.hi, Value.int IntKind.i64 n_2]]
      { π := m.π, sz := n, uf := m.uf : M } S' fun (v : Value) (m' : M) =>
      ∃ (a : Option Addr),
      ∃ (n : Nat),
      ∃ (c : Nat),
      v = Value.slice a n c ∧
      Done
      (LpT (doT l o)
      (Value.tuple
      #[Value.slice a n c,
      Value.agg
      #[Value.int IntKind.i64 (0 : Int), Value.int IntKind.i64 (0 : Int), Value.int IntKind.i64 (0 : Int),
      Value.int IntKind.i64 (0 : Int)]])
      m')))
      (ifB (o.kd == (6 : Int))
      (∃ (s_1 : ByteArray),
      ∃ (n_3 : Int),
      ∃ (n_4 : Int),
      ∃ (n_5 : Int),
      ∃ (b : Bool),
      QSpec Try.prog (36 : Nat)
      [Value.agg #[Value.string s, Value.int IntKind.i64 n, Value.int IntKind.i64 n_1, Value.int IntKind.i64 n_2],
      Value.int IntKind.i64 (IntKind.i64.wrap ((0 : Int) - o.n))]
      m
      (Value.tuple
      #[Value.agg #[Value.string s_1, Value.int IntKind.i64 n_3, Value.int IntKind.i64 n_4, Value.int IntKind.i64 n_5],
      Value.bool b]) ∧
      true = true ∧
      ∃ (s : ByteArray),
      ∃ (n : Int),
      ∃ (n_6 : Int),
      ∃ (n_7 : Int),
      QSpec Try.prog (35 : Nat) [Value.slice a l.length cp, Value.string o.ot] m
      (Value.agg #[Value.string s, Value.int IntKind.i64 n, Value.int IntKind.i64 n_6, Value.int IntKind.i64 n_7]) ∧
      ∃ (s_2 : ByteArray),
      ∃ (n_8 : Int),
      ∃ (n_9 : Int),
      ∃ (n_10 : Int),
      ∃ (b_1 : Bool),
      QSpec Try.prog (36 : Nat)
      [Value.agg
      #[Value.string s, Value.int IntKind.i64 n, Value.int IntKind.i64 n_6, Value.int IntKind.i64 n_7],
      Value.int IntKind.i64 o.n]
      m
      (Value.tuple
      #[Value.agg
      #[Value.string s_2, Value.int IntKind.i64 n_8, Value.int IntKind.i64 n_9,
      Value.int IntKind.i64 n_10],
      Value.bool b_1]) ∧
      ifB (!b)
      (true = true ∧
      (∃ (S' : Nat → Prop),
      (∀ (b : Nat), S' b → m.uf b ∧ (m.sz ≤ b ∨ False)) ∧
      ∀ (n : Nat),
      m.sz ≤ n →
      SpecW Try.prog (34 : Nat) [Value.slice a l.length cp] { π := m.π, sz := n, uf := m.uf : M } S'
      fun (v : Value) (m' : M) =>
      ∃ (a : Option Addr),
      ∃ (n : Nat),
      ∃ (c : Nat),
      v = Value.slice a n c ∧
      MLe m m' ∧
      Done
      (LpT (doT l o)
      (Value.tuple
      #[Value.slice a n c,
      Value.agg
      #[Value.int IntKind.i64 (150 : Int), Value.int IntKind.i64 (0 : Int),
      Value.int IntKind.i64 (0 : Int), Value.int IntKind.i64 (0 : Int)]])
      m')) ∧
      True)
      (ifB (!b_1)
      (true = true ∧
      (∃ (S' : Nat → Prop),
      (∀ (b : Nat), S' b → m.uf b ∧ (m.sz ≤ b ∨ False)) ∧
      ∀ (n : Nat),
      m.sz ≤ n →
      SpecW Try.prog (34 : Nat) [Value.slice a l.length cp] { π := m.π, sz := n, uf := m.uf : M }
      S' fun (v : Value) (m' : M) =>
      ∃ (a : Option Addr),
      ∃ (n : Nat),
      ∃ (c : Nat),
      v = Value.slice a n c ∧
      MLe m m' ∧
      Done
      (LpT (doT l o)
      (Value.tuple
      #[Value.slice a n c,
      Value.agg
      #[Value.int IntKind.i64 (150 : Int), Value.int IntKind.i64 (0 : Int),
      Value.int IntKind.i64 (0 : Int), Value.int IntKind.i64 (0 : Int)]])
      m')) ∧
      True)
      (true = true ∧
      (∃ (S' : Nat → Prop),
      (∀ (b : Nat), S' b → m.uf b ∧ (m.sz ≤ b ∨ False)) ∧
      ∀ (n : Nat),
      m.sz ≤ n →
      SpecW Try.prog (37 : Nat)
      [Value.slice a l.length cp,
      Value.agg
      #[Value.string s_1, Value.int IntKind.i64 n_3, Value.int IntKind.i64 n_4,
      Value.int IntKind.i64 n_5]]
      { π := m.π, sz := n, uf := m.uf : M } S' fun (v : Value) (m' : M) =>
      ∃ (a : Option Addr),
      ∃ (n : Nat),
      ∃ (c : Nat),
      v = Value.slice a n c ∧
      MLe m m' ∧
      (∃ (S' : Nat → Prop),
      (∀ (b : Nat), S' b → m'.uf b ∧ (m.sz ≤ b ∨ False)) ∧
      ∀ (n_11 : Nat),
      m'.sz ≤ n_11 →
      SpecW Try.prog (37 : Nat)
      [Value.slice a n c,
      Value.agg
      #[Value.string s_2, Value.int IntKind.i64 n_8,
      Value.int IntKind.i64 n_9, Value.int IntKind.i64 n_10]]
      { π := m'.π, sz := n_11, uf := m'.uf : M } S'
      fun (v : Value) (m'_1 : M) =>
      ∃ (a : Option Addr),
      ∃ (n : Nat),
      ∃ (c : Nat),
      v = Value.slice a n c ∧
      MLe m' m'_1 ∧
      Done
      (LpT (doT l o)
      (Value.tuple
      #[Value.slice a n c,
      Value.agg
      #[Value.int IntKind.i64 (0 : Int),
      Value.int IntKind.i64 (0 : Int),
      Value.int IntKind.i64 (0 : Int),
      Value.int IntKind.i64 (0 : Int)]])
      m'_1)) ∧
      True) ∧
      True)))
      (∃ (S' : Nat → Prop),
      (∀ (b : Nat), S' b → m.uf b ∧ (m.sz ≤ b ∨ False)) ∧
      ∀ (n : Nat),
      m.sz ≤ n →
      SpecW Try.prog (34 : Nat) [Value.slice a l.length cp] { π := m.π, sz := n, uf := m.uf : M } S' fun (v : Value) (m' : M) =>
      ∃ (a : Option Addr),
      ∃ (n : Nat),
      ∃ (c : Nat),
      v = Value.slice a n c ∧
      Done
      (LpT (doT l o)
      (Value.tuple
      #[Value.slice a n c,
      Value.agg
      #[Value.int IntKind.i64 (0 : Int), Value.int IntKind.i64 (0 : Int), Value.int IntKind.i64 (0 : Int),
      Value.int IntKind.i64 (0 : Int)]])
      m')))))))))) (by kernel_rfl) ?_
  refine ⟨rfl, _, wcheck_q a cp l (by omega) _ h, ?_⟩
  cases ht : totB none l
  · exact ifB_true (lt_ok (z := []) (n := eA 21) (by simp [doT, ht]) rfl (.nil _))
  refine ifB_false ⟨_, wmay_q o _, ?_⟩
  cases hm : mayO o
  · exact ifB_true ⟨_, noS, fun N hN => (tt_clone l a cp (by omega) (tt_none h) _ (h.sz hN)).monoW fun v m' hag ⟨a', c', hv, hr'⟩ => ⟨a', _, c', hv, lt_ok (z := l) (n := eA 1) (by simp [doT, ht, hm]) rfl hr'.row⟩⟩
  have hd : doT l o = doX l o := by simp [doT, ht, hm]
  rw [hd]
  have hva := wf_fnd (k := o.ky) hl
  have hvb := wf_fnd (k := o.ot) hl
  have hon : In64 o.n := ho.2.2.2.1
  have ke := fnd_key l o.ky
  have wn : 1 ≤ o.n → IntKind.i64.wrap (0 - o.n) = -o.n ∧ In64 (-o.n) := fun h => by unfold In64 at *; simp [IntKind.wrap_i64]; omega
  refine ifB_false ⟨_, _, _, _, wfind_q a cp l o.ky (by omega) ht _ h, ifB_intro (fun k1 => ?_) (fun k1 => ifB_intro (fun k2 => ?_) (fun k2 => ifB_intro (fun k4 => ?_) (fun k4 => ifB_intro (fun k3 => ?_) (fun k3 => ifB_intro (fun k5 => ?_) (fun k5 => ifB_intro (fun k6 => ?_) (fun k6 => ?_))))))⟩
  all_goals simp at k1
  · have k2 : (o.kd == 2) = false := by rw [k1]; rfl
    rw [k2]
    refine ifB_false ⟨_, _, _, _, _, wmoved_q (fndT l o.ky) o.n hva hon _, ?_⟩
    cases hb : movB (fndT l o.ky) o.n
    · exact ifB_false ⟨rfl, ⟨_, noS, fun N hN => (tt_clone l a cp (by omega) (tt_none h) _ (h.sz hN)).monoW fun v m' hag ⟨a', c', hv, hr'⟩ => ⟨a', _, c', hv, MLe.ofAgree hN hag, lt_ok (z := l) (n := eA 150) (by simp [doX, k1, hb]) rfl hr'.row⟩⟩, trivial⟩
    · exact ifB_true ⟨_, noS, fun N hN => (wwith_s a cp l (movT (fndT l o.ky) o.n) (by omega) ht _ (h.sz hN)).monoW fun v m' hag ⟨a', c', hv, hr'⟩ => ⟨a', _, c', hv, lt_ok (z := setT l (movT (fndT l o.ky) o.n)) (n := eA 0) (by simp [doX, k1, hb]) rfl hr'⟩⟩
  · simp at k2
    obtain ⟨w1, w2⟩ := wn (may_n hm (by omega))
    rw [w1, show (o.kd == 2) = true by simp [k2]]
    refine ifB_true ⟨_, _, _, _, _, wmoved_q (fndT l o.ky) (-o.n) hva w2 _, ?_⟩
    cases hb : movB (fndT l o.ky) (-o.n)
    · exact ifB_false ⟨rfl, ⟨_, noS, fun N hN => (tt_clone l a cp (by omega) (tt_none h) _ (h.sz hN)).monoW fun v m' hag ⟨a', c', hv, hr'⟩ => ⟨a', _, c', hv, MLe.ofAgree hN hag, lt_ok (z := l) (n := eA 150) (by simp [doX, k2, hb]) rfl hr'.row⟩⟩, trivial⟩
    · exact ifB_true ⟨_, noS, fun N hN => (wwith_s a cp l (movT (fndT l o.ky) (-o.n)) (by omega) ht _ (h.sz hN)).monoW fun v m' hag ⟨a', c', hv, hr'⟩ => ⟨a', _, c', hv, lt_ok (z := setT l (movT (fndT l o.ky) (-o.n))) (n := eA 0) (by simp [doX, k2, hb]) rfl hr'⟩⟩
  · simp at k2 k4
    exact ⟨rfl, ⟨_, noS, fun N hN => (tt_clone l a cp (by omega) (tt_none h) _ (h.sz hN)).monoW fun v m' hag ⟨a', c', hv, hr'⟩ => ⟨a', _, c', hv, MLe.ofAgree hN hag, lt_ok (z := l) (n := ⟨0, (fndT l o.ky).va, 0, 0⟩) (by simp [doX, k4]) rfl hr'.row⟩⟩, trivial⟩
  · simp at k2 k3
    exact ⟨rfl, ⟨_, noS, fun N hN => (tt_clone l a cp (by omega) (tt_none h) _ (h.sz hN)).monoW fun v m' hag ⟨a', c', hv, hr'⟩ => ⟨a', _, c', hv, MLe.ofAgree hN hag, lt_ok (z := l) (n := ⟨0, 0, (fndT l o.ky).va, (fndT l o.ky).va⟩) (by simp [doX, k3]) rfl hr'.row⟩⟩, trivial⟩
  · simp at k5
    refine ⟨_, has_q _ _ _ _, ?_⟩
    cases hb : hasB o.lo o.hi (fndT l o.ky).va
    · exact ifB_true ⟨rfl, ⟨_, noS, fun N hN => (tt_clone l a cp (by omega) (tt_none h) _ (h.sz hN)).monoW fun v m' hag ⟨a', c', hv, hr'⟩ => ⟨a', _, c', hv, MLe.ofAgree hN hag, lt_ok (z := l) (n := eA 150) (by simp [doX, k5, hb]) rfl hr'.row⟩⟩, trivial⟩
    · exact ifB_false ⟨_, noS, fun N hN => (wwith_s a cp l ({ fndT l o.ky with sp_lo := o.lo, sp_hi := o.hi }) (by omega) ht _ (h.sz hN)).monoW fun v m' hag ⟨a', c', hv, hr'⟩ => ⟨a', _, c', hv, lt_ok (z := setT l ({ fndT l o.ky with sp_lo := o.lo, sp_hi := o.hi })) (n := eA 0) (by simp [doX, k5, hb]) rfl hr'⟩⟩
  · simp at k6
    obtain ⟨w1, w2⟩ := wn (may_n hm (by omega))
    rw [w1]
    refine ⟨_, _, _, _, _, wmoved_q (fndT l o.ky) (-o.n) hva w2 _, rfl, _, _, _, _, wfind_q a cp l o.ot (by omega) ht _ h, _, _, _, _, _, wmoved_q (fndT l o.ot) o.n hvb hon _, ?_⟩
    cases hb : movB (fndT l o.ky) (-o.n)
    · exact ifB_true ⟨rfl, ⟨_, noS, fun N hN => (tt_clone l a cp (by omega) (tt_none h) _ (h.sz hN)).monoW fun v m' hag ⟨a', c', hv, hr'⟩ => ⟨a', _, c', hv, MLe.ofAgree hN hag, lt_ok (z := l) (n := eA 150) (by simp [doX, k6, hb]) rfl hr'.row⟩⟩, trivial⟩
    cases hb2 : movB (fndT l o.ot) o.n
    · exact ifB_false (ifB_true ⟨rfl, ⟨_, noS, fun N hN => (tt_clone l a cp (by omega) (tt_none h) _ (h.sz hN)).monoW fun v m' hag ⟨a', c', hv, hr'⟩ => ⟨a', _, c', hv, MLe.ofAgree hN hag, lt_ok (z := l) (n := eA 150) (by simp [doX, k6, hb2]) rfl hr'.row⟩⟩, trivial⟩)
    refine ifB_false (ifB_false ⟨rfl, ⟨_, noS, fun N hN => (wwith_s a cp l (movT (fndT l o.ky) (-o.n)) (by omega) ht _ (h.sz hN)).monoW fun v m' hag ⟨a', c', hv, hr'⟩ => ⟨a', _, c', hv, MLe.ofAgree hN hag, ⟨_, noS, fun N2 hN2 => (wwith_s a' c' (setT l (movT (fndT l o.ky) (-o.n))) (movT (fndT l o.ot) o.n) (by have := setT_len1 l (movT (fndT l o.ky) (-o.n)); omega) (setT_tot ht (mov_may (by rw [ke]; exact may_key hm) hb)) _ (hr'.sz hN2)).monoW fun v2 m2 hag2 ⟨a2, c2, hv2, hr2⟩ => ⟨a2, _, c2, hv2, MLe.ofAgree hN2 hag2, lt_ok (z := setT (setT l (movT (fndT l o.ky) (-o.n))) (movT (fndT l o.ot) o.n)) (n := eA 0) (by simp [doX, k6, hb, hb2]) rfl hr2⟩⟩, trivial⟩⟩, trivial⟩)
  · simp at k2 k3 k4 k5 k6
    exact ⟨_, noS, fun N hN => (tt_clone l a cp (by omega) (tt_none h) _ (h.sz hN)).monoW fun v m' hag ⟨a', c', hv, hr'⟩ => ⟨a', _, c', hv, lt_ok (z := l) (n := eA 0) (by simp [doX, k1, k2, k3, k4, k5, k6]) rfl hr'.row⟩⟩

theorem rdo_s (a : Option Addr) (cp : Nat) (l : List Tt) (o : Oq) (hn : l.length ≤ 4194303) (hl : ∀ x ∈ l, x.wf) (ho : o.wf) (m : M) (h : Row m a (tts l)) : Vc.Spec Try.prog 13 [.slice a l.length cp, oqv o] m (LpT (doT l o)) := by
  refine Vc.Spec.of_vc Try.func13 (ann := noAnn) ?_
  refine vc_by (X :=
      true = true ∧
      ∃ (b : Bool),
      QSpec Try.prog (11 : Nat) [Value.slice a l.length cp] m (Value.bool b) ∧
      ifB (!b)
      (Done
      (LpT (doT l o)
      (Value.tuple
      #[Value.slice none (0 : Nat) (0 : Nat),
      Value.agg #[Value.int IntKind.i64 (21 : Int), Value.int IntKind.i64 (0 : Int), Value.int IntKind.i64 (0 : Int), Value.int IntKind.i64 (0 : Int)]])
      m))
      (∃ (n : Int),
      ∃ (s : ByteArray),
      ∃ (s_1 : ByteArray),
      ∃ (n_1 : Int),
      ∃ (n_2 : Int),
      ∃ (n_3 : Int),
      ∃ (b : Bool),
      QSpec Try.prog (39 : Nat)
      [Value.agg
      #[Value.int IntKind.i64 o.kd, Value.string o.ky, Value.string o.ot, Value.int IntKind.i64 o.n, Value.int IntKind.i64 o.lo,
      Value.int IntKind.i64 o.hi]]
      m
      (Value.tuple
      #[Value.agg
      #[Value.int IntKind.i64 n, Value.string s, Value.string s_1, Value.int IntKind.i64 n_1, Value.int IntKind.i64 n_2, Value.int IntKind.i64 n_3],
      Value.bool b]) ∧
      ifB (!b)
      (Done
      (LpT (doT l o)
      (Value.tuple
      #[Value.slice a l.length cp,
      Value.agg #[Value.int IntKind.i64 (1 : Int), Value.int IntKind.i64 (0 : Int), Value.int IntKind.i64 (0 : Int), Value.int IntKind.i64 (0 : Int)]])
      m))
      (∃ (s : ByteArray),
      ∃ (n : Int),
      ∃ (n_4 : Int),
      ∃ (n_5 : Int),
      QSpec Try.prog (40 : Nat) [Value.slice a l.length cp, Value.string o.ky] m
      (Value.agg #[Value.string s, Value.int IntKind.i64 n, Value.int IntKind.i64 n_4, Value.int IntKind.i64 n_5]) ∧
      ifB (o.kd == (1 : Int))
      (true = true ∧
      ∀ (b : Nat),
      m.sz ≤ b →
      ∃ (n_6 : Int),
      ∃ (n_7 : Int),
      QSpec Try.prog (18 : Nat) [Value.slice (some { block := b, off := (0 : Nat) : Addr }) (2 : Nat) (2 : Nat)]
      (m.newBlock b [Value.int IntKind.i64 n_5, Value.int IntKind.i64 o.n])
      (Value.agg #[Value.int IntKind.i64 n_6, Value.int IntKind.u64 n_7]) ∧
      ifB (o.kd == (2 : Int))
      (true = true ∧
      (true = true ∧
      ∀ (b_1 : Nat),
      max m.sz (b + (1 : Nat)) ≤ b_1 →
      MLe (m.newBlock b [Value.int IntKind.i64 n_5, Value.int IntKind.i64 o.n])
      ((m.newBlock b [Value.int IntKind.i64 n_5, Value.int IntKind.i64 o.n]).newBlock b_1 [Value.int IntKind.i64 n_5]) ∧
      ∃ (n_8 : Int),
      ∃ (n_9 : Int),
      QSpec Try.prog (18 : Nat) [Value.slice (some { block := b_1, off := (0 : Nat) : Addr }) (1 : Nat) (1 : Nat)]
      ((m.newBlock b [Value.int IntKind.i64 n_5, Value.int IntKind.i64 o.n]).newBlock b_1
      [Value.int IntKind.i64 n_5])
      (Value.agg #[Value.int IntKind.i64 n_8, Value.int IntKind.u64 n_9]) ∧
      ∃ (n_10 : Int),
      ∃ (n_11 : Int),
      QSpec Try.prog (20 : Nat)
      [Value.agg #[Value.int IntKind.i64 n_8, Value.int IntKind.u64 n_9], Value.int IntKind.i64 o.n]
      ((m.newBlock b [Value.int IntKind.i64 n_5, Value.int IntKind.i64 o.n]).newBlock b_1
      [Value.int IntKind.i64 n_5])
      (Value.agg #[Value.int IntKind.i64 n_10, Value.int IntKind.u64 n_11]) ∧
      ∃ (s_2 : ByteArray),
      ∃ (n_12 : Int),
      ∃ (n_13 : Int),
      ∃ (n_14 : Int),
      ∃ (b_2 : Bool),
      QSpec Try.prog (41 : Nat)
      [Value.agg
      #[Value.string s, Value.int IntKind.i64 n, Value.int IntKind.i64 n_4,
      Value.int IntKind.i64 n_5],
      Value.agg #[Value.int IntKind.i64 n_10, Value.int IntKind.u64 n_11]]
      ((m.newBlock b [Value.int IntKind.i64 n_5, Value.int IntKind.i64 o.n]).newBlock b_1
      [Value.int IntKind.i64 n_5])
      (Value.tuple
      #[Value.agg
      #[Value.string s_2, Value.int IntKind.i64 n_12, Value.int IntKind.i64 n_13,
      Value.int IntKind.i64 n_14],
      Value.bool b_2]) ∧
      ifB (!b_2)
      (true = true ∧
      Done
      (LpT (doT l o)
      (Value.tuple
      #[Value.slice a l.length cp,
      Value.agg
      #[Value.int IntKind.i64 (150 : Int), Value.int IntKind.i64 (0 : Int),
      Value.int IntKind.i64 (0 : Int), Value.int IntKind.i64 (0 : Int)]])
      ((m.newBlock b [Value.int IntKind.i64 n_5, Value.int IntKind.i64 o.n]).newBlock b_1
      [Value.int IntKind.i64 n_5])))
      (∃ (S' : Nat → Prop),
      (∀ (b_3 : Nat),
      S' b_3 →
      ((m.newBlock b [Value.int IntKind.i64 n_5, Value.int IntKind.i64 o.n]).newBlock
      b_1 [Value.int IntKind.i64 n_5]).uf
      b_3 ∧
      (m.sz ≤ b_3 ∨ False)) ∧
      ∀ (n : Nat),
      max (max m.sz (b + (1 : Nat))) (b_1 + (1 : Nat)) ≤ n →
      SpecW Try.prog (42 : Nat)
      [Value.slice a l.length cp,
      Value.agg
      #[Value.string s_2, Value.int IntKind.i64 n_12, Value.int IntKind.i64 n_13,
      Value.int IntKind.i64 n_14]]
      { π := ((m.newBlock b [Value.int IntKind.i64 n_5, Value.int IntKind.i64 o.n]).newBlock b_1 [Value.int IntKind.i64 n_5]).π, sz := n, uf := ((m.newBlock b [Value.int IntKind.i64 n_5, Value.int IntKind.i64 o.n]).newBlock b_1 [Value.int IntKind.i64 n_5]).uf : M }
      S' fun (v : Value) (m' : M) =>
      ∃ (a : Option Addr),
      ∃ (n : Nat),
      ∃ (c : Nat),
      v = Value.slice a n c ∧
      Done
      (LpT (doT l o)
      (Value.tuple
      #[Value.slice a n c,
      Value.agg
      #[Value.int IntKind.i64 (0 : Int),
      Value.int IntKind.i64 (0 : Int),
      Value.int IntKind.i64 (0 : Int),
      Value.int IntKind.i64 (0 : Int)]])
      m'))) ∧
      True)
      (∃ (s_2 : ByteArray),
      ∃ (n_8 : Int),
      ∃ (n_9 : Int),
      ∃ (n_10 : Int),
      ∃ (b_1 : Bool),
      QSpec Try.prog (41 : Nat)
      [Value.agg #[Value.string s, Value.int IntKind.i64 n, Value.int IntKind.i64 n_4, Value.int IntKind.i64 n_5],
      Value.agg #[Value.int IntKind.i64 n_6, Value.int IntKind.u64 n_7]]
      (m.newBlock b [Value.int IntKind.i64 n_5, Value.int IntKind.i64 o.n])
      (Value.tuple
      #[Value.agg
      #[Value.string s_2, Value.int IntKind.i64 n_8, Value.int IntKind.i64 n_9, Value.int IntKind.i64 n_10],
      Value.bool b_1]) ∧
      ifB (!b_1)
      (true = true ∧
      Done
      (LpT (doT l o)
      (Value.tuple
      #[Value.slice a l.length cp,
      Value.agg
      #[Value.int IntKind.i64 (150 : Int), Value.int IntKind.i64 (0 : Int), Value.int IntKind.i64 (0 : Int),
      Value.int IntKind.i64 (0 : Int)]])
      (m.newBlock b [Value.int IntKind.i64 n_5, Value.int IntKind.i64 o.n])))
      (∃ (S' : Nat → Prop),
      (∀ (b_2 : Nat),
      S' b_2 →
      (m.newBlock b [Value.int IntKind.i64 n_5, Value.int IntKind.i64 o.n]).uf b_2 ∧ (m.sz ≤ b_2 ∨ False)) ∧
      ∀ (n : Nat),
      max m.sz (b + (1 : Nat)) ≤ n →
      SpecW Try.prog (42 : Nat)
      [Value.slice a l.length cp,
      Value.agg
      #[Value.string s_2, Value.int IntKind.i64 n_8, Value.int IntKind.i64 n_9,
      Value.int IntKind.i64 n_10]]
      { π := (m.newBlock b [Value.int IntKind.i64 n_5, Value.int IntKind.i64 o.n]).π, sz := n, uf := (m.newBlock b [Value.int IntKind.i64 n_5, Value.int IntKind.i64 o.n]).uf : M }
      S' fun (v : Value) (m' : M) =>
      ∃ (a : Option Addr),
      ∃ (n : Nat),
      ∃ (c : Nat),
      v = Value.slice a n c ∧
      Done
      (LpT (doT l o)
      (Value.tuple
      #[Value.slice a n c,
      Value.agg
      #[Value.int IntKind.i64 (0 : Int), Value.int IntKind.i64 (0 : Int),
      Value.int IntKind.i64 (0 : Int), Value.int IntKind.i64 (0 : Int)]])
      m'))))
      (ifB (o.kd == (2 : Int))
      (true = true ∧
      ∀ (b : Nat),
      m.sz ≤ b →
      ∃ (n_6 : Int),
      ∃ (n_7 : Int),
      QSpec Try.prog (18 : Nat) [Value.slice (some { block := b, off := (0 : Nat) : Addr }) (2 : Nat) (2 : Nat)]
      (m.newBlock b [Value.int IntKind.i64 n_5, Value.int IntKind.i64 o.n])
      (Value.agg #[Value.int IntKind.i64 n_6, Value.int IntKind.u64 n_7]) ∧
      ifB (o.kd == (2 : Int))
      (true = true ∧
      (true = true ∧
      ∀ (b_1 : Nat),
      max m.sz (b + (1 : Nat)) ≤ b_1 →
      MLe (m.newBlock b [Value.int IntKind.i64 n_5, Value.int IntKind.i64 o.n])
      ((m.newBlock b [Value.int IntKind.i64 n_5, Value.int IntKind.i64 o.n]).newBlock b_1
      [Value.int IntKind.i64 n_5]) ∧
      ∃ (n_8 : Int),
      ∃ (n_9 : Int),
      QSpec Try.prog (18 : Nat) [Value.slice (some { block := b_1, off := (0 : Nat) : Addr }) (1 : Nat) (1 : Nat)]
      ((m.newBlock b [Value.int IntKind.i64 n_5, Value.int IntKind.i64 o.n]).newBlock b_1
      [Value.int IntKind.i64 n_5])
      (Value.agg #[Value.int IntKind.i64 n_8, Value.int IntKind.u64 n_9]) ∧
      ∃ (n_10 : Int),
      ∃ (n_11 : Int),
      QSpec Try.prog (20 : Nat)
      [Value.agg #[Value.int IntKind.i64 n_8, Value.int IntKind.u64 n_9], Value.int IntKind.i64 o.n]
      ((m.newBlock b [Value.int IntKind.i64 n_5, Value.int IntKind.i64 o.n]).newBlock b_1
      [Value.int IntKind.i64 n_5])
      (Value.agg #[Value.int IntKind.i64 n_10, Value.int IntKind.u64 n_11]) ∧
      ∃ (s_2 : ByteArray),
      ∃ (n_12 : Int),
      ∃ (n_13 : Int),
      ∃ (n_14 : Int),
      ∃ (b_2 : Bool),
      QSpec Try.prog (41 : Nat)
      [Value.agg
      #[Value.string s, Value.int IntKind.i64 n, Value.int IntKind.i64 n_4,
      Value.int IntKind.i64 n_5],
      Value.agg #[Value.int IntKind.i64 n_10, Value.int IntKind.u64 n_11]]
      ((m.newBlock b [Value.int IntKind.i64 n_5, Value.int IntKind.i64 o.n]).newBlock b_1
      [Value.int IntKind.i64 n_5])
      (Value.tuple
      #[Value.agg
      #[Value.string s_2, Value.int IntKind.i64 n_12, Value.int IntKind.i64 n_13,
      Value.int IntKind.i64 n_14],
      Value.bool b_2]) ∧
      ifB (!b_2)
      (true = true ∧
      Done
      (LpT (doT l o)
      (Value.tuple
      #[Value.slice a l.length cp,
      Value.agg
      #[Value.int IntKind.i64 (150 : Int), Value.int IntKind.i64 (0 : Int),
      Value.int IntKind.i64 (0 : Int), Value.int IntKind.i64 (0 : Int)]])
      ((m.newBlock b [Value.int IntKind.i64 n_5, Value.int IntKind.i64 o.n]).newBlock
      b_1 [Value.int IntKind.i64 n_5])))
      (∃ (S' : Nat → Prop),
      (∀ (b_3 : Nat),
      S' b_3 →
      ((m.newBlock b [Value.int IntKind.i64 n_5, Value.int IntKind.i64 o.n]).newBlock
      b_1 [Value.int IntKind.i64 n_5]).uf
      b_3 ∧
      (m.sz ≤ b_3 ∨ False)) ∧
      ∀ (n : Nat),
      max (max m.sz (b + (1 : Nat))) (b_1 + (1 : Nat)) ≤ n →
      SpecW Try.prog (42 : Nat)
      [Value.slice a l.length cp,
      Value.agg
      #[Value.string s_2, Value.int IntKind.i64 n_12,
      Value.int IntKind.i64 n_13, Value.int IntKind.i64 n_14]]
      { π := ((m.newBlock b [Value.int IntKind.i64 n_5, Value.int IntKind.i64 o.n]).newBlock b_1 [Value.int IntKind.i64 n_5]).π, sz := n, uf := ((m.newBlock b [Value.int IntKind.i64 n_5, Value.int IntKind.i64 o.n]).newBlock b_1 [Value.int IntKind.i64 n_5]).uf : M }
      S' fun (v : Value) (m' : M) =>
      ∃ (a : Option Addr),
      ∃ (n : Nat),
      ∃ (c : Nat),
      v = Value.slice a n c ∧
      Done
      (LpT (doT l o)
      (Value.tuple
      #[Value.slice a n c,
      Value.agg
      #[Value.int IntKind.i64 (0 : Int),
      Value.int IntKind.i64 (0 : Int),
      Value.int IntKind.i64 (0 : Int),
      Value.int IntKind.i64 (0 : Int)]])
      m'))) ∧
      True)
      (∃ (s_2 : ByteArray),
      ∃ (n_8 : Int),
      ∃ (n_9 : Int),
      ∃ (n_10 : Int),
      ∃ (b_1 : Bool),
      QSpec Try.prog (41 : Nat)
      [Value.agg #[Value.string s, Value.int IntKind.i64 n, Value.int IntKind.i64 n_4, Value.int IntKind.i64 n_5],
      Value.agg #[Value.int IntKind.i64 n_6, Value.int IntKind.u64 n_7]]
      (m.newBlock b [Value.int IntKind.i64 n_5, Value.int IntKind.i64 o.n])
      (Value.tuple
      #[Value.agg
      #[Value.string s_2, Value.int IntKind.i64 n_8, Value.int IntKind.i64 n_9, Value.int IntKind.i64 n_10],
      Value.bool b_1]) ∧
      ifB (!b_1)
      (true = true ∧
      Done
      (LpT (doT l o)
      (Value.tuple
      #[Value.slice a l.length cp,
      Value.agg
      #[Value.int IntKind.i64 (150 : Int), Value.int IntKind.i64 (0 : Int),
      Value.int IntKind.i64 (0 : Int), Value.int IntKind.i64 (0 : Int)]])
      (m.newBlock b [Value.int IntKind.i64 n_5, Value.int IntKind.i64 o.n])))
      (∃ (S' : Nat → Prop),
      (∀ (b_2 : Nat),
      S' b_2 →
      (m.newBlock b [Value.int IntKind.i64 n_5, Value.int IntKind.i64 o.n]).uf b_2 ∧ (m.sz ≤ b_2 ∨ False)) ∧
      ∀ (n : Nat),
      max m.sz (b + (1 : Nat)) ≤ n →
      SpecW Try.prog (42 : Nat)
      [Value.slice a l.length cp,
      Value.agg
      #[Value.string s_2, Value.int IntKind.i64 n_8, Value.int IntKind.i64 n_9,
      Value.int IntKind.i64 n_10]]
      { π := (m.newBlock b [Value.int IntKind.i64 n_5, Value.int IntKind.i64 o.n]).π, sz := n, uf := (m.newBlock b [Value.int IntKind.i64 n_5, Value.int IntKind.i64 o.n]).uf : M }
      S' fun (v : Value) (m' : M) =>
      ∃ (a : Option Addr),
      ∃ (n : Nat),
      ∃ (c : Nat),
      v = Value.slice a n c ∧
      Done
      (LpT (doT l o)
      (Value.tuple
      #[Value.slice a n c,
      Value.agg
      #[Value.int IntKind.i64 (0 : Int), Value.int IntKind.i64 (0 : Int),
      Value.int IntKind.i64 (0 : Int), Value.int IntKind.i64 (0 : Int)]])
      m'))))
      (ifB (o.kd == (4 : Int))
      (true = true ∧
      Done
      (LpT (doT l o)
      (Value.tuple
      #[Value.slice a l.length cp,
      Value.agg
      #[Value.int IntKind.i64 (0 : Int), Value.int IntKind.i64 n_5, Value.int IntKind.i64 (0 : Int),
      Value.int IntKind.i64 (0 : Int)]])
      m))
      (ifB (o.kd == (3 : Int))
      (true = true ∧
      Done
      (LpT (doT l o)
      (Value.tuple
      #[Value.slice a l.length cp,
      Value.agg
      #[Value.int IntKind.i64 (0 : Int), Value.int IntKind.i64 (0 : Int), Value.int IntKind.i64 n_5, Value.int IntKind.i64 n_5]])
      m))
      (ifB (o.kd == (5 : Int))
      (∃ (b : Bool),
      QSpec Try.prog (32 : Nat) [Value.agg #[Value.int IntKind.i64 o.lo, Value.int IntKind.i64 o.hi], Value.int IntKind.i64 n_5] m
      (Value.bool b) ∧
      ifB (!b)
      (true = true ∧
      Done
      (LpT (doT l o)
      (Value.tuple
      #[Value.slice a l.length cp,
      Value.agg
      #[Value.int IntKind.i64 (150 : Int), Value.int IntKind.i64 (0 : Int), Value.int IntKind.i64 (0 : Int),
      Value.int IntKind.i64 (0 : Int)]])
      m))
      (∃ (S' : Nat → Prop),
      (∀ (b : Nat), S' b → m.uf b ∧ (m.sz ≤ b ∨ False)) ∧
      ∀ (n : Nat),
      m.sz ≤ n →
      SpecW Try.prog (42 : Nat)
      [Value.slice a l.length cp,
      Value.agg #[Value.string s, Value.int IntKind.i64 o.lo, Value.int IntKind.i64 o.hi, Value.int IntKind.i64 n_5]]
      { π := m.π, sz := n, uf := m.uf : M } S' fun (v : Value) (m' : M) =>
      ∃ (a : Option Addr),
      ∃ (n : Nat),
      ∃ (c : Nat),
      v = Value.slice a n c ∧
      Done
      (LpT (doT l o)
      (Value.tuple
      #[Value.slice a n c,
      Value.agg
      #[Value.int IntKind.i64 (0 : Int), Value.int IntKind.i64 (0 : Int), Value.int IntKind.i64 (0 : Int),
      Value.int IntKind.i64 (0 : Int)]])
      m')))
      (ifB (o.kd == (6 : Int))
      (true = true ∧
      (true = true ∧
      ∀ (b : Nat),
      m.sz ≤ b →
      MLe m (m.newBlock b [Value.int IntKind.i64 n_5]) ∧
      ∃ (n_6 : Int),
      ∃ (n_7 : Int),
      QSpec Try.prog (18 : Nat) [Value.slice (some { block := b, off := (0 : Nat) : Addr }) (1 : Nat) (1 : Nat)]
      (m.newBlock b [Value.int IntKind.i64 n_5]) (Value.agg #[Value.int IntKind.i64 n_6, Value.int IntKind.u64 n_7]) ∧
      ∃ (n_8 : Int),
      ∃ (n_9 : Int),
      QSpec Try.prog (20 : Nat)
      [Value.agg #[Value.int IntKind.i64 n_6, Value.int IntKind.u64 n_7], Value.int IntKind.i64 o.n]
      (m.newBlock b [Value.int IntKind.i64 n_5])
      (Value.agg #[Value.int IntKind.i64 n_8, Value.int IntKind.u64 n_9]) ∧
      ∃ (s_2 : ByteArray),
      ∃ (n_10 : Int),
      ∃ (n_11 : Int),
      ∃ (n_12 : Int),
      ∃ (b_1 : Bool),
      QSpec Try.prog (41 : Nat)
      [Value.agg
      #[Value.string s, Value.int IntKind.i64 n, Value.int IntKind.i64 n_4,
      Value.int IntKind.i64 n_5],
      Value.agg #[Value.int IntKind.i64 n_8, Value.int IntKind.u64 n_9]]
      (m.newBlock b [Value.int IntKind.i64 n_5])
      (Value.tuple
      #[Value.agg
      #[Value.string s_2, Value.int IntKind.i64 n_10, Value.int IntKind.i64 n_11,
      Value.int IntKind.i64 n_12],
      Value.bool b_1]) ∧
      ∃ (s : ByteArray),
      ∃ (n : Int),
      ∃ (n_13 : Int),
      ∃ (n_14 : Int),
      QSpec Try.prog (40 : Nat) [Value.slice a l.length cp, Value.string o.ot]
      (m.newBlock b [Value.int IntKind.i64 n_5])
      (Value.agg
      #[Value.string s, Value.int IntKind.i64 n, Value.int IntKind.i64 n_13,
      Value.int IntKind.i64 n_14]) ∧
      true = true ∧
      (true = true ∧
      ∀ (b_2 : Nat),
      max m.sz (b + (1 : Nat)) ≤ b_2 →
      MLe (m.newBlock b [Value.int IntKind.i64 n_5])
      ((m.newBlock b [Value.int IntKind.i64 n_5]).newBlock b_2
      [Value.int IntKind.i64 n_14, Value.int IntKind.i64 o.n]) ∧
      ∃ (n_15 : Int),
      ∃ (n_16 : Int),
      QSpec Try.prog (18 : Nat)
      [Value.slice (some { block := b_2, off := (0 : Nat) : Addr })
      (2 : Nat) (2 : Nat)]
      ((m.newBlock b [Value.int IntKind.i64 n_5]).newBlock b_2
      [Value.int IntKind.i64 n_14, Value.int IntKind.i64 o.n])
      (Value.agg
      #[Value.int IntKind.i64 n_15, Value.int IntKind.u64 n_16]) ∧
      ∃ (s_3 : ByteArray),
      ∃ (n_17 : Int),
      ∃ (n_18 : Int),
      ∃ (n_19 : Int),
      ∃ (b_3 : Bool),
      QSpec Try.prog (41 : Nat)
      [Value.agg
      #[Value.string s, Value.int IntKind.i64 n,
      Value.int IntKind.i64 n_13,
      Value.int IntKind.i64 n_14],
      Value.agg
      #[Value.int IntKind.i64 n_15,
      Value.int IntKind.u64 n_16]]
      ((m.newBlock b [Value.int IntKind.i64 n_5]).newBlock
      b_2
      [Value.int IntKind.i64 n_14,
      Value.int IntKind.i64 o.n])
      (Value.tuple
      #[Value.agg
      #[Value.string s_3, Value.int IntKind.i64 n_17,
      Value.int IntKind.i64 n_18,
      Value.int IntKind.i64 n_19],
      Value.bool b_3]) ∧
      ifB (!b_1)
      (true = true ∧
      Done
      (LpT (doT l o)
      (Value.tuple
      #[Value.slice a l.length cp,
      Value.agg
      #[Value.int IntKind.i64 (150 : Int),
      Value.int IntKind.i64 (0 : Int),
      Value.int IntKind.i64 (0 : Int),
      Value.int IntKind.i64 (0 : Int)]])
      ((m.newBlock b
      [Value.int IntKind.i64 n_5]).newBlock
      b_2
      [Value.int IntKind.i64 n_14,
      Value.int IntKind.i64 o.n])))
      (ifB (!b_3)
      (true = true ∧
      Done
      (LpT (doT l o)
      (Value.tuple
      #[Value.slice a l.length cp,
      Value.agg
      #[Value.int IntKind.i64 (150 : Int),
      Value.int IntKind.i64 (0 : Int),
      Value.int IntKind.i64 (0 : Int),
      Value.int IntKind.i64 (0 : Int)]])
      ((m.newBlock b
      [Value.int IntKind.i64 n_5]).newBlock
      b_2
      [Value.int IntKind.i64 n_14,
      Value.int IntKind.i64 o.n])))
      (true = true ∧
      (∃ (S' : Nat → Prop),
      (∀ (b_4 : Nat),
      S' b_4 →
      ((m.newBlock b
      [Value.int IntKind.i64
      n_5]).newBlock
      b_2
      [Value.int IntKind.i64 n_14,
      Value.int IntKind.i64 o.n]).uf
      b_4 ∧
      (m.sz ≤ b_4 ∨ False)) ∧
      ∀ (n : Nat),
      max (max m.sz (b + (1 : Nat)))
      (b_2 + (1 : Nat)) ≤
      n →
      SpecW Try.prog (42 : Nat)
      [Value.slice a l.length cp,
      Value.agg
      #[Value.string s_2,
      Value.int IntKind.i64 n_10,
      Value.int IntKind.i64 n_11,
      Value.int IntKind.i64 n_12]]
      { π := ((m.newBlock b [Value.int IntKind.i64 n_5]).newBlock b_2 [Value.int IntKind.i64 n_14, Value.int IntKind.i64 o.n]).π, sz := n, uf := ((m.newBlock b [Value.int IntKind.i64 n_5]).newBlock b_2 [Value.int IntKind.i64 n_14, Value.int IntKind.i64 o.n]).uf : M }
      S' fun (v : Value) (m' : M) =>
      ∃ (a : Option Addr),
      ∃ (n : Nat),
      ∃ (c : Nat),
      v = Value.slice a n c ∧
      MLe
      ((m.newBlock b
      [Value.int
      IntKind.i64
      n_5]).newBlock
      b_2
      [Value.int IntKind.i64
      n_14,
      Value.int IntKind.i64
      o.n])
      m' ∧
      (∃ (S' : Nat → Prop),
      (∀ (b : Nat),
      S' b →
      m'.uf b ∧
      (m.sz ≤ b ∨
      False)) ∧
      ∀ (n_20 : Nat),
      m'.sz ≤ n_20 →
      SpecW Try.prog
      (42 : Nat)
      [Value.slice a n
      c,
      Value.agg
      #[Value.string
      s_3,
      Value.int
      IntKind.i64
      n_17,
      Value.int
      IntKind.i64
      n_18,
      Value.int
      IntKind.i64
      n_19]]
      { π := m'.π, sz := n_20, uf := m'.uf : M }
      S'
      fun (v : Value)
      (m'_1 : M) =>
      ∃ (a :
      Option Addr),
      ∃ (n : Nat),
      ∃ (c : Nat),
      v =
      Value.slice
      a n
      c ∧
      MLe m'
      m'_1 ∧
      Done
      (LpT
      (doT
      l
      o)
      (Value.tuple
      #[Value.slice
      a
      n
      c,
      Value.agg
      #[Value.int
      IntKind.i64
      (0 :
      Int),
      Value.int
      IntKind.i64
      (0 :
      Int),
      Value.int
      IntKind.i64
      (0 :
      Int),
      Value.int
      IntKind.i64
      (0 :
      Int)]])
      m'_1)) ∧
      True) ∧
      True))) ∧
      True) ∧
      True)
      (Done
      (LpT (doT l o)
      (Value.tuple
      #[Value.slice a l.length cp,
      Value.agg
      #[Value.int IntKind.i64 (0 : Int), Value.int IntKind.i64 (0 : Int), Value.int IntKind.i64 (0 : Int),
      Value.int IntKind.i64 (0 : Int)]])
      m)))))))))) (by kernel_rfl) ?_
  refine ⟨rfl, _, rtright_q a cp l (by omega) _ h, ?_⟩
  cases ht : totB none l
  · exact ifB_true (lt_ok (z := []) (n := eA 21) (by simp [doT, ht]) rfl (.nil _))
  refine ifB_false ⟨_, _, _, _, _, _, _, rop_q o _, ?_⟩
  cases hm : mayO o
  · exact ifB_true (lt_ok (z := l) (n := eA 1) (by simp [doT, ht, hm]) rfl h)
  have hd : doT l o = doX l o := by simp [doT, ht, hm]
  rw [hd]
  have hva := wf_fnd (k := o.ky) hl
  have hvb := wf_fnd (k := o.ot) hl
  have hon : In64 o.n := ho.2.2.2.1
  have wn : 1 ≤ o.n → In64 (-o.n) := fun h => by unfold In64 at *; omega
  have of1 : ∀ (m' : M) (b : Nat) (x : Int), In64 x → QSpec Try.prog 18 [.slice (some ⟨b, 0, none⟩) 1 1] (m'.newBlock b [I x]) (wide x) := fun m' b x hx => by
    have := of_q (some ⟨b, 0, none⟩) 1 [x] (by simpa using hx) (by simp) _ (row1 (m := m') (b := b) x)
    rw [show sumI [x] = x by simp [sumI]] at this
    exact this
  have of2 : ∀ (m' : M) (b : Nat) (x y : Int), In64 x → In64 y → QSpec Try.prog 18 [.slice (some ⟨b, 0, none⟩) 2 2] (m'.newBlock b [I x, I y]) (wide (x + y)) := fun m' b x y hx hy => by
    have := of_q (some ⟨b, 0, none⟩) 2 [x, y] (by simp [hx, hy]) (by simp) _ (row2 (m := m') (b := b) x y)
    rw [show sumI [x, y] = x + y by simp [sumI]] at this
    exact this
  have mo : ∀ (m' : M) (x : Tt), In64 x.va → 1 ≤ o.n → QSpec Try.prog 41 [ttv x, wide (x.va - o.n)] m' (.tuple #[ttv (if movB x (-o.n) then movT x (-o.n) else x), .bool (movB x (-o.n))]) := fun m' x hx h1 => rmore_q x (-o.n) hx (wn h1) m'
  refine ifB_false ⟨_, _, _, _, rofk_q a cp l o.ky (by omega) _ h, ifB_intro (fun k1 => ?_) (fun k1 => ifB_intro (fun k2 => ?_) (fun k2 => ifB_intro (fun k4 => ?_) (fun k4 => ifB_intro (fun k3 => ?_) (fun k3 => ifB_intro (fun k5 => ?_) (fun k5 => ifB_intro (fun k6 => ?_) (fun k6 => ?_))))))⟩
  all_goals simp at k1
  · have k2 : (o.kd == 2) = false := by rw [k1]; rfl
    rw [k2]
    refine ⟨rfl, fun b hb => ⟨_, _, of2 m b _ _ hva hon, ifB_false ⟨_, _, _, _, _, rmore_q (fndT l o.ky) o.n hva hon _, ?_⟩⟩⟩
    cases hb : movB (fndT l o.ky) o.n
    · exact ifB_true ⟨rfl, lt_ok (z := l) (n := eA 150) (by simp [doX, k1, hb]) rfl (h.newBlock (by assumption))⟩
    · exact ifB_false ⟨_, noS, fun N hN => (rwith_s a cp l (movT (fndT l o.ky) o.n) (by omega) _ ((h.newBlock (by assumption)).sz hN)).monoW fun v m' hag ⟨a', c', hv, hr'⟩ => ⟨a', _, c', hv, lt_ok (z := setT l (movT (fndT l o.ky) o.n)) (n := eA 0) (by simp [doX, k1, hb]) rfl hr'⟩⟩
  · simp at k2
    have h1 := may_n hm (by omega)
    rw [show (o.kd == 2) = true by simp [k2]]
    refine ⟨rfl, fun b hb => ⟨_, _, of2 m b _ _ hva hon, ifB_true ⟨rfl, ⟨rfl, fun b1 hb1 => ⟨MLe.newBlock hb1, _, _, of1 _ b1 _ hva, _, _, less_q _ _ hon _, _, _, _, _, _, mo _ _ hva h1, ?_⟩⟩, trivial⟩⟩⟩
    cases hb : movB (fndT l o.ky) (-o.n)
    · exact ifB_true ⟨rfl, lt_ok (z := l) (n := eA 150) (by simp [doX, k2, hb]) rfl ((h.newBlock (by assumption)).newBlock hb1)⟩
    · exact ifB_false ⟨_, noS, fun N hN => (rwith_s a cp l (movT (fndT l o.ky) (-o.n)) (by omega) _ (((h.newBlock (by assumption)).newBlock hb1).sz hN)).monoW fun v m' hag ⟨a', c', hv, hr'⟩ => ⟨a', _, c', hv, lt_ok (z := setT l (movT (fndT l o.ky) (-o.n))) (n := eA 0) (by simp [doX, k2, hb]) rfl hr'⟩⟩
  · simp at k2 k4
    exact ⟨rfl, lt_ok (z := l) (n := ⟨0, (fndT l o.ky).va, 0, 0⟩) (by simp [doX, k4]) rfl h⟩
  · simp at k2 k3
    exact ⟨rfl, lt_ok (z := l) (n := ⟨0, 0, (fndT l o.ky).va, (fndT l o.ky).va⟩) (by simp [doX, k3]) rfl h⟩
  · simp at k5
    refine ⟨_, rhas_q _ _ _ _, ?_⟩
    cases hb : hasB o.lo o.hi (fndT l o.ky).va
    · exact ifB_true ⟨rfl, lt_ok (z := l) (n := eA 150) (by simp [doX, k5, hb]) rfl h⟩
    · exact ifB_false ⟨_, noS, fun N hN => (rwith_s a cp l ({ fndT l o.ky with sp_lo := o.lo, sp_hi := o.hi }) (by omega) _ (h.sz hN)).monoW fun v m' hag ⟨a', c', hv, hr'⟩ => ⟨a', _, c', hv, lt_ok (z := setT l ({ fndT l o.ky with sp_lo := o.lo, sp_hi := o.hi })) (n := eA 0) (by simp [doX, k5, hb]) rfl hr'⟩⟩
  · simp at k6
    have h1 := may_n hm (by omega)
    refine ⟨rfl, ⟨rfl, fun b hb0 => ⟨MLe.newBlock hb0, _, _, of1 _ b _ hva, _, _, less_q _ _ hon _, _, _, _, _, _, mo _ _ hva h1, _, _, _, _, rofk_q a cp l o.ot (by omega) _ (h.newBlock hb0), rfl, ⟨rfl, fun b2 hb2 => ⟨MLe.newBlock hb2, _, _, of2 _ b2 _ _ hvb hon, _, _, _, _, _, rmore_q (fndT l o.ot) o.n hvb hon _, ?_⟩⟩, trivial⟩⟩, trivial⟩
    have hr := (h.newBlock (ds := [I (fndT l o.ky).va]) hb0).newBlock (ds := [I (fndT l o.ot).va, I o.n]) hb2
    cases hb : movB (fndT l o.ky) (-o.n)
    · exact ifB_true ⟨rfl, lt_ok (z := l) (n := eA 150) (by simp [doX, k6, hb]) rfl hr⟩
    cases hb2 : movB (fndT l o.ot) o.n
    · exact ifB_false (ifB_true ⟨rfl, lt_ok (z := l) (n := eA 150) (by simp [doX, k6, hb2]) rfl hr⟩)
    refine ifB_false (ifB_false ⟨rfl, ⟨_, noS, fun N hN => (rwith_s a cp l (movT (fndT l o.ky) (-o.n)) (by omega) _ (hr.sz hN)).monoW fun v m' hag ⟨a', c', hv, hr'⟩ => ⟨a', _, c', hv, MLe.ofAgree hN hag, ⟨_, noS, fun N2 hN2 => (rwith_s a' c' (setT l (movT (fndT l o.ky) (-o.n))) (movT (fndT l o.ot) o.n) (by have := setT_len1 l (movT (fndT l o.ky) (-o.n)); omega) _ (hr'.sz hN2)).monoW fun v2 m2 hag2 ⟨a2, c2, hv2, hr2⟩ => ⟨a2, _, c2, hv2, MLe.ofAgree hN2 hag2, lt_ok (z := setT (setT l (movT (fndT l o.ky) (-o.n))) (movT (fndT l o.ot) o.n)) (n := eA 0) (by simp [doX, k6, hb, hb2]) rfl hr2⟩⟩, trivial⟩⟩, trivial⟩)
  · simp at k2 k3 k4 k5 k6
    exact lt_ok (z := l) (n := eA 0) (by simp [doX, k1, k2, k3, k4, k5, k6]) rfl h

end Go.Proofs.Ytbhlhnkjmncloaa
