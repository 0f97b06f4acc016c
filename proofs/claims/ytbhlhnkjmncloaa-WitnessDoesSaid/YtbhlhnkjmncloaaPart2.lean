/-
  Contracts of functions of this seat: what each hands back, and what it leaves of memory (wit5, wit6, srt0, l_cl, wit8, srt1, srt2). Nothing here is trusted: Lean checks it.
-/
import Derived.Test.YtbhlhnkjmncloaaPart1
import Derived.Test.YtbhlhnkjmncloaaVcList
import Derived.Test.YtbhlhnkjmncloaaVcGrow
import Derived.Test.YtbhlhnkjmncloaaVcOver
set_option linter.unusedVariables false
set_option linter.unusedSimpArgs false
namespace Go.Proofs.Ytbhlhnkjmncloaa
open Go.Vc Go.RowKit
set_option maxRecDepth 100000

structure LpT (y : List Tt × An) (v : Value) (m' : M) : Prop where
  out : ∃ a' c', v = .tuple #[.slice a' y.1.length c', anv y.2] ∧ Row m' a' (tts y.1)

theorem lt_ok {m' : M} {y : List Tt × An} {z : List Tt} {n : An} {a' : Option Addr} {len c' : Nat} (h : y = (z, n)) (hl : len = z.length) (hr : Row m' a' (tts z)) : Done (LpT y (.tuple #[.slice a' len c', anv n]) m') := ⟨by subst h; subst hl; exact ⟨a', c', rfl, hr⟩⟩

def eA (e : Int) : An := ⟨e, 0, 0, 0⟩

/-- what an operation that may be plainly does to totals -/
def doX (l : List Tt) (o : Oq) : List Tt × An :=
  let t := fndT l o.ky
  if o.kd = 1 ∨ o.kd = 2 then (let n := if o.kd = 2 then -o.n else o.n; if movB t n then (setT l (movT t n), eA 0) else (l, eA 150))
  else if o.kd = 4 then (l, ⟨0, t.va, 0, 0⟩)
  else if o.kd = 3 then (l, ⟨0, 0, t.va, t.va⟩)
  else if o.kd = 5 then (if hasB o.lo o.hi t.va then (setT l { t with sp_lo := o.lo, sp_hi := o.hi }, eA 0) else (l, eA 150))
  else if o.kd = 6 then (if movB t (-o.n) && movB (fndT l o.ot) o.n then (setT (setT l (movT t (-o.n))) (movT (fndT l o.ot) o.n), eA 0) else (l, eA 150))
  else (l, eA 0)

def doT (l : List Tt) (o : Oq) : List Tt × An := if totB none l = false then ([], eA 21) else if mayO o = false then (l, eA 1) else doX l o

theorem wf_fnd {l : List Tt} {k : ByteArray} (hl : ∀ x ∈ l, x.wf) : In64 (fndT l k).va := by
  unfold fndT
  cases h : ofT l (zT k) with
  | none => show In64 0; decide
  | some x => exact (hl x (ofT_some h).1).2.2.2

/-- what is found stands in its key's place -/
theorem fnd_key (l : List Tt) (k : ByteArray) : (fndT l k).ky = k := by
  unfold fndT
  cases h : ofT l (zT k) with
  | none => rfl
  | some x => exact of_decide_eq_true (ofT_some h).2

theorem may_key {o : Oq} (h : mayO o = true) : keyB o.ky = true := by
  simp [mayO] at h; exact h.1.1.1

theorem may_n {o : Oq} (h : mayO o = true) (hk : o.kd = 1 ∨ o.kd = 2 ∨ o.kd = 6) : 1 ≤ o.n := by
  simp only [mayO, Bool.and_eq_true, decide_eq_true_eq] at h
  have h2 := h.2
  rcases hk with e | e | e <;> simp [e] at h2 <;> omega

theorem may_ot {o : Oq} (h : mayO o = true) (hk : o.kd = 6) : keyB o.ot = true ∧ o.ot ≠ o.ky := by
  simp only [mayO, Bool.and_eq_true, decide_eq_true_eq] at h
  have h2 := h.2
  simp [hk] at h2
  exact ⟨h2.1.2, h2.2⟩

/-- what an operation leaves in a key's place may stand there -/
theorem mov_may {x : Tt} {n : Int} (h : keyB x.ky = true) (hm : movB x n = true) : plainT (movT x n) = true ∨ tmayB (movT x n) = true := by
  cases hp : plainT (movT x n)
  · refine .inr ?_
    simp only [movB, Bool.and_eq_true, decide_eq_true_eq] at hm
    have : hasT (movT x n) = true := hm.2
    simp [tmayB, hp, this]
    exact h
  · exact .inl rfl

theorem wdo_s (a : Option Addr) (cp : Nat) (l : List Tt) (o : Oq) (hn : l.length ≤ 3518437208869) (hl : ∀ x ∈ l, x.wf) (ho : o.wf) (m : M) (h : Row m a (tts l)) : Vc.Spec Try.prog 12 [.slice a l.length cp, oqv o] m (LpT (doT l o)) := by
  refine Vc.Spec.of_vc Try.func12 (ann := noAnn) ?_
  refine vc_by (X :=
      true = true ∧
      ∃ (n : Int),
      QSpec Try.prog (15 : Nat) [Value.slice a l.length cp] m (Value.int IntKind.i64 n) ∧
      ifB (n != (0 : Int))
      (Done
      (LpT (doT l o)
      (Value.tuple
      #[Value.slice none (0 : Nat) (0 : Nat),
      Value.agg #[Value.int IntKind.i64 (21 : Int), Value.int IntKind.i64 (0 : Int), Value.int IntKind.i64 (0 : Int), Value.int IntKind.i64 (0 : Int)]])
      m))
      (∃ (b : Bool),
      QSpec Try.prog (33 : Nat)
      [Value.agg #[Value.int IntKind.i64 o.kd, Value.string o.ky, Value.string o.ot, Value.int IntKind.i64 o.n, Value.int IntKind.i64 o.lo, Value.int IntKind.i64 o.hi]] m
      (Value.bool b) ∧
      ifB (!b)
      (∃ (S' : Nat → Prop),
      (∀ (b : Nat), S' b → m.uf b ∧ (m.sz ≤ b ∨ False)) ∧
      ∀ (n : Nat),
      m.sz ≤ n →
      SpecW Try.prog (34 : Nat) [Value.slice a l.length cp] { π := m.π, sz := n, uf := m.uf : M } S' fun (v : Value) (m' : M) =>
      ∃ (a : Option Addr),
      ∃ (n : Nat),
      ∃ (c : Nat),
      v = Value.slice a n c ∧
      Done
      (LpT (doT l o)
      (Value.tuple
      #[Value.slice a n c,
      Value.agg
      #[Value.int IntKind.i64 (1 : Int), Value.int IntKind.i64 (0 : Int), Value.int IntKind.i64 (0 : Int), Value.int IntKind.i64 (0 : Int)]])
      m'))
      (∃ (s : ByteArray),
      ∃ (n : Int),
      ∃ (n_1 : Int),
      ∃ (n_2 : Int),
      QSpec Try.prog (35 : Nat) [Value.slice a l.length cp, Value.string o.ky] m
      (Value.agg #[Value.string s, Value.int IntKind.i64 n, Value.int IntKind.i64 n_1, Value.int IntKind.i64 n_2]) ∧
      ifB (o.kd == (1 : Int))
      (ifB (o.kd == (2 : Int))
      (∃ (s_1 : ByteArray),
      ∃ (n_3 : Int),
      ∃ (n_4 : Int),
      ∃ (n_5 : Int),
      ∃ (b : Bool),
      QSpec Try.prog (36 : Nat)
      [Value.agg #[Value.string s, Value.int IntKind.i64 n, Value.int IntKind.i64 n_1, Value.int IntKind.i64 n_2],
      Value.int IntKind.i64 (IntKind.i64.wrap ((0 : Int) - o.n))]
      m
      (Value.tuple
      #[Value.agg #[Value.string s_1, Value.int IntKind.i64 n_3, Value.int IntKind.i64 n_4, Value.int IntKind.i64 n_5], Value.bool b]) ∧
      ifB b
      (∃ (S' : Nat → Prop),
      (∀ (b : Nat), S' b → m.uf b ∧ (m.sz ≤ b ∨ False)) ∧
      ∀ (n : Nat),
      m.sz ≤ n →
      SpecW Try.prog (37 : Nat)
      [Value.slice a l.length cp,
      Value.agg #[Value.string s_1, Value.int IntKind.i64 n_3, Value.int IntKind.i64 n_4, Value.int IntKind.i64 n_5]]
      { π := m.π, sz := n, uf := m.uf : M } S' fun (v : Value) (m' : M) =>
      ∃ (a : Option Addr),
      ∃ (n : Nat),
      ∃ (c : Nat),
      v = Value.slice a n c ∧
      Done
      (LpT (doT l o)
      (Value.tuple
      #[Value.slice a n c,
      Value.agg
      #[Value.int IntKind.i64 (0 : Int), Value.int IntKind.i64 (0 : Int), Value.int IntKind.i64 (0 : Int),
      Value.int IntKind.i64 (0 : Int)]])
      m'))
      (true = true ∧
      (∃ (S' : Nat → Prop),
      (∀ (b : Nat), S' b → m.uf b ∧ (m.sz ≤ b ∨ False)) ∧
      ∀ (n : Nat),
      m.sz ≤ n →
      SpecW Try.prog (34 : Nat) [Value.slice a l.length cp] { π := m.π, sz := n, uf := m.uf : M } S' fun (v : Value) (m' : M) =>
      ∃ (a : Option Addr),
      ∃ (n : Nat),
      ∃ (c : Nat),
      v = Value.slice a n c ∧
      MLe m m' ∧
      Done
      (LpT (doT l o)
      (Value.tuple
      #[Value.slice a n c,
      Value.agg
      #[Value.int IntKind.i64 (150 : Int), Value.int IntKind.i64 (0 : Int), Value.int IntKind.i64 (0 : Int),
      Value.int IntKind.i64 (0 : Int)]])
      m')) ∧
      True))
      (∃ (s_1 : ByteArray),
      ∃ (n_3 : Int),
      ∃ (n_4 : Int),
      ∃ (n_5 : Int),
      ∃ (b : Bool),
      QSpec Try.prog (36 : Nat)
      [Value.agg #[Value.string s, Value.int IntKind.i64 n, Value.int IntKind.i64 n_1, Value.int IntKind.i64 n_2], Value.int IntKind.i64 o.n] m
      (Value.tuple
      #[Value.agg #[Value.string s_1, Value.int IntKind.i64 n_3, Value.int IntKind.i64 n_4, Value.int IntKind.i64 n_5], Value.bool b]) ∧
      ifB b
      (∃ (S' : Nat → Prop),
      (∀ (b : Nat), S' b → m.uf b ∧ (m.sz ≤ b ∨ False)) ∧
      ∀ (n : Nat),
      m.sz ≤ n →
      SpecW Try.prog (37 : Nat)
      [Value.slice a l.length cp,
      Value.agg #[Value.string s_1, Value.int IntKind.i64 n_3, Value.int IntKind.i64 n_4, Value.int IntKind.i64 n_5]]
      { π := m.π, sz := n, uf := m.uf : M } S' fun (v : Value) (m' : M) =>
      ∃ (a : Option Addr),
      ∃ (n : Nat),
      ∃ (c : Nat),
      v = Value.slice a n c ∧
      Done
      (LpT (doT l o)
      (Value.tuple
      #[Value.slice a n c,
      Value.agg
      #[Value.int IntKind.i64 (0 : Int), Value.int IntKind.i64 (0 : Int), Value.int IntKind.i64 (0 : Int),
      Value.int IntKind.i64 (0 : Int)]])
      m'))
      (true = true ∧
      (∃ (S' : Nat → Prop),
      (∀ (b : Nat), S' b → m.uf b ∧ (m.sz ≤ b ∨ False)) ∧
      ∀ (n : Nat),
      m.sz ≤ n →
      SpecW Try.prog (34 : Nat) [Value.slice a l.length cp] { π := m.π, sz := n, uf := m.uf : M } S' fun (v : Value) (m' : M) =>
      ∃ (a : Option Addr),
      ∃ (n : Nat),
      ∃ (c : Nat),
      v = Value.slice a n c ∧
      MLe m m' ∧
      Done
      (LpT (doT l o)
      (Value.tuple
      #[Value.slice a n c,
      Value.agg
      #[Value.int IntKind.i64 (150 : Int), Value.int IntKind.i64 (0 : Int), Value.int IntKind.i64 (0 : Int),
      Value.int IntKind.i64 (0 : Int)]])
      m')) ∧
      True)))
      (ifB (o.kd == (2 : Int))
      (ifB (o.kd == (2 : Int))
      (∃ (s_1 : ByteArray),
      ∃ (n_3 : Int),
      ∃ (n_4 : Int),
      ∃ (n_5 : Int),
      ∃ (b : Bool),
      QSpec Try.prog (36 : Nat)
      [Value.agg #[Value.string s, Value.int IntKind.i64 n, Value.int IntKind.i64 n_1, Value.int IntKind.i64 n_2],
      Value.int IntKind.i64 (IntKind.i64.wrap ((0 : Int) - o.n))]
      m
      (Value.tuple
      #[Value.agg #[Value.string s_1, Value.int IntKind.i64 n_3, Value.int IntKind.i64 n_4, Value.int IntKind.i64 n_5], Value.bool b]) ∧
      ifB b
      (∃ (S' : Nat → Prop),
      (∀ (b : Nat), S' b → m.uf b ∧ (m.sz ≤ b ∨ False)) ∧
      ∀ (n : Nat),
      m.sz ≤ n →
      SpecW Try.prog (37 : Nat)
      [Value.slice a l.length cp,
      Value.agg #[Value.string s_1, Value.int IntKind.i64 n_3, Value.int IntKind.i64 n_4, Value.int IntKind.i64 n_5]]
      { π := m.π, sz := n, uf := m.uf : M } S' fun (v : Value) (m' : M) =>
      ∃ (a : Option Addr),
      ∃ (n : Nat),
      ∃ (c : Nat),
      v = Value.slice a n c ∧
      Done
      (LpT (doT l o)
      (Value.tuple
      #[Value.slice a n c,
      Value.agg
      #[Value.int IntKind.i64 (0 : Int), Value.int IntKind.i64 (0 : Int), Value.int IntKind.i64 (0 : Int),
      Value.int IntKind.i64 (0 : Int)]])
      m'))
      (true = true ∧
      (∃ (S' : Nat → Prop),
      (∀ (b : Nat), S' b → m.uf b ∧ (m.sz ≤ b ∨ False)) ∧
      ∀ (n : Nat),
      m.sz ≤ n →
      SpecW Try.prog (34 : Nat) [Value.slice a l.length cp] { π := m.π, sz := n, uf := m.uf : M } S' fun (v : Value) (m' : M) =>
      ∃ (a : Option Addr),
      ∃ (n : Nat),
      ∃ (c : Nat),
      v = Value.slice a n c ∧
      MLe m m' ∧
      Done
      (LpT (doT l o)
      (Value.tuple
      #[Value.slice a n c,
      Value.agg
      #[Value.int IntKind.i64 (150 : Int), Value.int IntKind.i64 (0 : Int), Value.int IntKind.i64 (0 : Int),
      Value.int IntKind.i64 (0 : Int)]])
      m')) ∧
      True))
      (∃ (s_1 : ByteArray),
      ∃ (n_3 : Int),
      ∃ (n_4 : Int),
      ∃ (n_5 : Int),
      ∃ (b : Bool),
      QSpec Try.prog (36 : Nat)
      [Value.agg #[Value.string s, Value.int IntKind.i64 n, Value.int IntKind.i64 n_1, Value.int IntKind.i64 n_2], Value.int IntKind.i64 o.n]
      m
      (Value.tuple
      #[Value.agg #[Value.string s_1, Value.int IntKind.i64 n_3, Value.int IntKind.i64 n_4, Value.int IntKind.i64 n_5], Value.bool b]) ∧
      ifB b
      (∃ (S' : Nat → Prop),
      (∀ (b : Nat), S' b → m.uf b ∧ (m.sz ≤ b ∨ False)) ∧
      ∀ (n : Nat),
      m.sz ≤ n →
      SpecW Try.prog (37 : Nat)
      [Value.slice a l.length cp,
      Value.agg #[Value.string s_1, Value.int IntKind.i64 n_3, Value.int IntKind.i64 n_4, Value.int IntKind.i64 n_5]]
      { π := m.π, sz := n, uf := m.uf : M } S' fun (v : Value) (m' : M) =>
      ∃ (a : Option Addr),
      ∃ (n : Nat),
      ∃ (c : Nat),
      v = Value.slice a n c ∧
      Done
      (LpT (doT l o)
      (Value.tuple
      #[Value.slice a n c,
      Value.agg
      #[Value.int IntKind.i64 (0 : Int), Value.int IntKind.i64 (0 : Int), Value.int IntKind.i64 (0 : Int),
      Value.int IntKind.i64 (0 : Int)]])
      m'))
      (true = true ∧
      (∃ (S' : Nat → Prop),
      (∀ (b : Nat), S' b → m.uf b ∧ (m.sz ≤ b ∨ False)) ∧
      ∀ (n : Nat),
      m.sz ≤ n →
      SpecW Try.prog (34 : Nat) [Value.slice a l.length cp] { π := m.π, sz := n, uf := m.uf : M } S' fun (v : Value) (m' : M) =>
      ∃ (a : Option Addr),
      ∃ (n : Nat),
      ∃ (c : Nat),
      v = Value.slice a n c ∧
      MLe m m' ∧
      Done
      (LpT (doT l o)
      (Value.tuple
      #[Value.slice a n c,
      Value.agg
      #[Value.int IntKind.i64 (150 : Int), Value.int IntKind.i64 (0 : Int), Value.int IntKind.i64 (0 : Int),
      Value.int IntKind.i64 (0 : Int)]])
      m')) ∧
      True)))
      (ifB (o.kd == (4 : Int))
      (true = true ∧
      (∃ (S' : Nat → Prop),
      (∀ (b : Nat), S' b → m.uf b ∧ (m.sz ≤ b ∨ False)) ∧
      ∀ (n : Nat),
      m.sz ≤ n →
      SpecW Try.prog (34 : Nat) [Value.slice a l.length cp] { π := m.π, sz := n, uf := m.uf : M } S' fun (v : Value) (m' : M) =>
      ∃ (a : Option Addr),
      ∃ (n : Nat),
      ∃ (c : Nat),
      v = Value.slice a n c ∧
      MLe m m' ∧
      Done
      (LpT (doT l o)
      (Value.tuple
      #[Value.slice a n c,
      Value.agg
      #[Value.int IntKind.i64 (0 : Int), Value.int IntKind.i64 n_2, Value.int IntKind.i64 (0 : Int),
      Value.int IntKind.i64 (0 : Int)]])
      m')) ∧
      True)
      (ifB (o.kd == (3 : Int))
      (true = true ∧
      (∃ (S' : Nat → Prop),
      (∀ (b : Nat), S' b → m.uf b ∧ (m.sz ≤ b ∨ False)) ∧
      ∀ (n : Nat),
      m.sz ≤ n →
      SpecW Try.prog (34 : Nat) [Value.slice a l.length cp] { π := m.π, sz := n, uf := m.uf : M } S' fun (v : Value) (m' : M) =>
      ∃ (a : Option Addr),
      ∃ (n : Nat),
      ∃ (c : Nat),
      v = Value.slice a n c ∧
      MLe m m' ∧
      Done
      (LpT (doT l o)
      (Value.tuple
      #[Value.slice a n c,
      Value.agg
      #[Value.int IntKind.i64 (0 : Int), Value.int IntKind.i64 (0 : Int), Value.int IntKind.i64 n_2,
      Value.int IntKind.i64 n_2]])
      m')) ∧
      True)
      (ifB (o.kd == (5 : Int))
      (∃ (b : Bool),
      QSpec Try.prog (38 : Nat) [Value.agg #[Value.int IntKind.i64 o.lo, Value.int IntKind.i64 o.hi], Value.int IntKind.i64 n_2] m (Value.bool b) ∧
      ifB (!b)
      (true = true ∧
      (∃ (S' : Nat → Prop),
      (∀ (b : Nat), S' b → m.uf b ∧ (m.sz ≤ b ∨ False)) ∧
      ∀ (n : Nat),
      m.sz ≤ n →
      SpecW Try.prog (34 : Nat) [Value.slice a l.length cp] { π := m.π, sz := n, uf := m.uf : M } S' fun (v : Value) (m' : M) =>
      ∃ (a : Option Addr),
      ∃ (n : Nat),
      ∃ (c : Nat),
      v = Value.slice a n c ∧
      MLe m m' ∧
      Done
      (LpT (doT l o)
      (Value.tuple
      #[Value.slice a n c,
      Value.agg
      #[Value.int IntKind.i64 (150 : Int), Value.int IntKind.i64 (0 : Int), Value.int IntKind.i64 (0 : Int),
      Value.int IntKind.i64 (0 : Int)]])
      m')) ∧
      True)
      (∃ (S' : Nat → Prop),
      (∀ (b : Nat), S' b → m.uf b ∧ (m.sz ≤ b ∨ False)) ∧
      ∀ (n : Nat),
      m.sz ≤ n →
      SpecW Try.prog (37 : Nat)
      [Value.slice a l.length cp,
      Value.agg #[Value.string s, Value.int IntKind.i64 o.lo, Value.int IntKind.i64 o.hi, Value.int IntKind.i64 n_2]]
      { π := m.π, sz := n, uf := m.uf : M } S' fun (v : Value) (m' : M) =>
      ∃ (a : Option Addr),
      ∃ (n : Nat),
      ∃ (c : Nat),
      v = Value.slice a n c ∧
      Done
      (LpT (doT l o)
      (Value.tuple
      #[Value.slice a n c,
      Value.agg
      #[Value.int IntKind.i64 (0 : Int), Value.int IntKind.i64 (0 : Int), Value.int IntKind.i64 (0 : Int),
      Value.int IntKind.i64 (0 : Int)]])
      m')))
      (ifB (o.kd == (6 : Int))
      (∃ (s_1 : ByteArray),
      ∃ (n_3 : Int),
      ∃ (n_4 : Int),
      ∃ (n_5 : Int),
      ∃ (b : Bool),
      QSpec Try.prog (36 : Nat)
      [Value.agg #[Value.string s, Value.int IntKind.i64 n, Value.int IntKind.i64 n_1, Value.int IntKind.i64 n_2],
      Value.int IntKind.i64 (IntKind.i64.wrap ((0 : Int) - o.n))]
      m
      (Value.tuple
      #[Value.agg #[Value.string s_1, Value.int IntKind.i64 n_3, Value.int IntKind.i64 n_4, Value.int IntKind.i64 n_5],
      Value.bool b]) ∧
      true = true ∧
      ∃ (s : ByteArray),
      ∃ (n : Int),
      ∃ (n_6 : Int),
      ∃ (n_7 : Int),
      QSpec Try.prog (35 : Nat) [Value.slice a l.length cp, Value.string o.ot] m
      (Value.agg #[Value.string s, Value.int IntKind.i64 n, Value.int IntKind.i64 n_6, Value.int IntKind.i64 n_7]) ∧
      ∃ (s_2 : ByteArray),
      ∃ (n_8 : Int),
      ∃ (n_9 : Int),
      ∃ (n_10 : Int),
      ∃ (b_1 : Bool),
      QSpec Try.prog (36 : Nat)
      [Value.agg
      #[Value.string s, Value.int IntKind.i64 n, Value.int IntKind.i64 n_6, Value.int IntKind.i64 n_7],
      Value.int IntKind.i64 o.n]
      m
      (Value.tuple
      #[Value.agg
      #[Value.string s_2, Value.int IntKind.i64 n_8, Value.int IntKind.i64 n_9,
      Value.int IntKind.i64 n_10],
      Value.bool b_1]) ∧
      ifB (!b)
      (true = true ∧
      (∃ (S' : Nat → Prop),
      (∀ (b : Nat), S' b → m.uf b ∧ (m.sz ≤ b ∨ False)) ∧
      ∀ (n : Nat),
      m.sz ≤ n →
      SpecW Try.prog (34 : Nat) [Value.slice a l.length cp] { π := m.π, sz := n, uf := m.uf : M } S'
      fun (v : Value) (m' : M) =>
      ∃ (a : Option Addr),
      ∃ (n : Nat),
      ∃ (c : Nat),
      v = Value.slice a n c ∧
      MLe m m' ∧
      Done
      (LpT (doT l o)
      (Value.tuple
      #[Value.slice a n c,
      Value.agg
      #[Value.int IntKind.i64 (150 : Int), Value.int IntKind.i64 (0 : Int),
      Value.int IntKind.i64 (0 : Int), Value.int IntKind.i64 (0 : Int)]])
      m')) ∧
      True)
      (ifB (!b_1)
      (true = true ∧
      (∃ (S' : Nat → Prop),
      (∀ (b : Nat), S' b → m.uf b ∧ (m.sz ≤ b ∨ False)) ∧
      ∀ (n : Nat),
      m.sz ≤ n →
      SpecW Try.prog (34 : Nat) [Value.slice a l.length cp] { π := m.π, sz := n, uf := m.uf : M }
      S' fun (v : Value) (m' : M) =>
      ∃ (a : Option Addr),
      ∃ (n : Nat),
      ∃ (c : Nat),
      v = Value.slice a n c ∧
      MLe m m' ∧
      Done
      (LpT (doT l o)
      (Value.tuple
      #[Value.slice a n c,
      Value.agg
      #[Value.int IntKind.i64 (150 : Int), Value.int IntKind.i64 (0 : Int),
      Value.int IntKind.i64 (0 : Int), Value.int IntKind.i64 (0 : Int)]])
      m')) ∧
      True)
      (true = true ∧
      (∃ (S' : Nat → Prop),
      (∀ (b : Nat), S' b → m.uf b ∧ (m.sz ≤ b ∨ False)) ∧
      ∀ (n : Nat),
      m.sz ≤ n →
      SpecW Try.prog (37 : Nat)
      [Value.slice a l.length cp,
      Value.agg
      #[Value.string s_1, Value.int IntKind.i64 n_3, Value.int IntKind.i64 n_4,
      Value.int IntKind.i64 n_5]]
      { π := m.π, sz := n, uf := m.uf : M } S' fun (v : Value) (m' : M) =>
      ∃ (a : Option Addr),
      ∃ (n : Nat),
      ∃ (c : Nat),
      v = Value.slice a n c ∧
      MLe m m' ∧
      (∃ (S' : Nat → Prop),
      (∀ (b : Nat), S' b → m'.uf b ∧ (m.sz ≤ b ∨ False)) ∧
      ∀ (n_11 : Nat),
      m'.sz ≤ n_11 →
      SpecW Try.prog (37 : Nat)
      [Value.slice a n c,
      Value.agg
      #[Value.string s_2, Value.int IntKind.i64 n_8,
      Value.int IntKind.i64 n_9, Value.int IntKind.i64 n_10]]
      { π := m'.π, sz := n_11, uf := m'.uf : M } S'
      fun (v : Value) (m'_1 : M) =>
      ∃ (a : Option Addr),
      ∃ (n : Nat),
      ∃ (c : Nat),
      v = Value.slice a n c ∧
      MLe m' m'_1 ∧
      Done
      (LpT (doT l o)
      (Value.tuple
      #[Value.slice a n c,
      Value.agg
      #[Value.int IntKind.i64 (0 : Int),
      Value.int IntKind.i64 (0 : Int),
      Value.int IntKind.i64 (0 : Int),
      Value.int IntKind.i64 (0 : Int)]])
      m'_1)) ∧
      True) ∧
      True)))
      (∃ (S' : Nat → Prop),
      (∀ (b : Nat), S' b → m.uf b ∧ (m.sz ≤ b ∨ False)) ∧
      ∀ (n : Nat),
      m.sz ≤ n →
      SpecW Try.prog (34 : Nat) [Value.slice a l.length cp] { π := m.π, sz := n, uf := m.uf : M } S' fun (v : Value) (m' : M) =>
      ∃ (a : Option Addr),
      ∃ (n : Nat),
      ∃ (c : Nat),
      v = Value.slice a n c ∧
      Done
      (LpT (doT l o)
      (Value.tuple
      #[Value.slice a n c,
      Value.agg
      #[Value.int IntKind.i64 (0 : Int), Value.int IntKind.i64 (0 : Int), Value.int IntKind.i64 (0 : Int),
      Value.int IntKind.i64 (0 : Int)]])
      m')))))))))) (by kernel_rfl) ?_
  refine ⟨rfl, _, wcheck_q a cp l (by omega) _ h, ?_⟩
  cases ht : totB none l
  · exact ifB_true (lt_ok (z := []) (n := eA 21) (by simp [doT, ht]) rfl (.nil _))
  refine ifB_false ⟨_, wmay_q o _, ?_⟩
  cases hm : mayO o
  · exact ifB_true ⟨_, noS, fun N hN => (tt_clone l a cp (by omega) (tt_none h) _ (h.sz hN)).monoW fun v m' hag ⟨a', c', hv, hr'⟩ => ⟨a', _, c', hv, lt_ok (z := l) (n := eA 1) (by simp [doT, ht, hm]) rfl hr'.row⟩⟩
  have hd : doT l o = doX l o := by simp [doT, ht, hm]
  rw [hd]
  have hva := wf_fnd (k := o.ky) hl
  have hvb := wf_fnd (k := o.ot) hl
  have hon : In64 o.n := ho.2.2.2.1
  have ke := fnd_key l o.ky
  have wn : 1 ≤ o.n → IntKind.i64.wrap (0 - o.n) = -o.n ∧ In64 (-o.n) := fun h => by unfold In64 at *; simp [IntKind.wrap_i64]; omega
  refine ifB_false ⟨_, _, _, _, wfind_q a cp l o.ky (by omega) ht _ h, ifB_intro (fun k1 => ?_) (fun k1 => ifB_intro (fun k2 => ?_) (fun k2 => ifB_intro (fun k4 => ?_) (fun k4 => ifB_intro (fun k3 => ?_) (fun k3 => ifB_intro (fun k5 => ?_) (fun k5 => ifB_intro (fun k6 => ?_) (fun k6 => ?_))))))⟩
  all_goals simp at k1
  · have k2 : (o.kd == 2) = false := by rw [k1]; rfl
    rw [k2]
    refine ifB_false ⟨_, _, _, _, _, wmoved_q (fndT l o.ky) o.n hva hon _, ?_⟩
    cases hb : movB (fndT l o.ky) o.n
    · exact ifB_false ⟨rfl, ⟨_, noS, fun N hN => (tt_clone l a cp (by omega) (tt_none h) _ (h.sz hN)).monoW fun v m' hag ⟨a', c', hv, hr'⟩ => ⟨a', _, c', hv, MLe.ofAgree hN hag, lt_ok (z := l) (n := eA 150) (by simp [doX, k1, hb]) rfl hr'.row⟩⟩, trivial⟩
    · exact ifB_true ⟨_, noS, fun N hN => (wwith_s a cp l (movT (fndT l o.ky) o.n) (by omega) ht _ (h.sz hN)).monoW fun v m' hag ⟨a', c', hv, hr'⟩ => ⟨a', _, c', hv, lt_ok (z := setT l (movT (fndT l o.ky) o.n)) (n := eA 0) (by simp [doX, k1, hb]) rfl hr'⟩⟩
  · simp at k2
    obtain ⟨w1, w2⟩ := wn (may_n hm (by omega))
    rw [w1, show (o.kd == 2) = true by simp [k2]]
    refine ifB_true ⟨_, _, _, _, _, wmoved_q (fndT l o.ky) (-o.n) hva w2 _, ?_⟩
    cases hb : movB (fndT l o.ky) (-o.n)
    · exact ifB_false ⟨rfl, ⟨_, noS, fun N hN => (tt_clone l a cp (by omega) (tt_none h) _ (h.sz hN)).monoW fun v m' hag ⟨a', c', hv, hr'⟩ => ⟨a', _, c', hv, MLe.ofAgree hN hag, lt_ok (z := l) (n := eA 150) (by simp [doX, k2, hb]) rfl hr'.row⟩⟩, trivial⟩
    · exact ifB_true ⟨_, noS, fun N hN => (wwith_s a cp l (movT (fndT l o.ky) (-o.n)) (by omega) ht _ (h.sz hN)).monoW fun v m' hag ⟨a', c', hv, hr'⟩ => ⟨a', _, c', hv, lt_ok (z := setT l (movT (fndT l o.ky) (-o.n))) (n := eA 0) (by simp [doX, k2, hb]) rfl hr'⟩⟩
  · simp at k2 k4
    exact ⟨rfl, ⟨_, noS, fun N hN => (tt_clone l a cp (by omega) (tt_none h) _ (h.sz hN)).monoW fun v m' hag ⟨a', c', hv, hr'⟩ => ⟨a', _, c', hv, MLe.ofAgree hN hag, lt_ok (z := l) (n := ⟨0, (fndT l o.ky).va, 0, 0⟩) (by simp [doX, k4]) rfl hr'.row⟩⟩, trivial⟩
  · simp at k2 k3
    exact ⟨rfl, ⟨_, noS, fun N hN => (tt_clone l a cp (by omega) (tt_none h) _ (h.sz hN)).monoW fun v m' hag ⟨a', c', hv, hr'⟩ => ⟨a', _, c', hv, MLe.ofAgree hN hag, lt_ok (z := l) (n := ⟨0, 0, (fndT l o.ky).va, (fndT l o.ky).va⟩) (by simp [doX, k3]) rfl hr'.row⟩⟩, trivial⟩
  · simp at k5
    refine ⟨_, has_q _ _ _ _, ?_⟩
    cases hb : hasB o.lo o.hi (fndT l o.ky).va
    · exact ifB_true ⟨rfl, ⟨_, noS, fun N hN => (tt_clone l a cp (by omega) (tt_none h) _ (h.sz hN)).monoW fun v m' hag ⟨a', c', hv, hr'⟩ => ⟨a', _, c', hv, MLe.ofAgree hN hag, lt_ok (z := l) (n := eA 150) (by simp [doX, k5, hb]) rfl hr'.row⟩⟩, trivial⟩
    · exact ifB_false ⟨_, noS, fun N hN => (wwith_s a cp l ({ fndT l o.ky with sp_lo := o.lo, sp_hi := o.hi }) (by omega) ht _ (h.sz hN)).monoW fun v m' hag ⟨a', c', hv, hr'⟩ => ⟨a', _, c', hv, lt_ok (z := setT l ({ fndT l o.ky with sp_lo := o.lo, sp_hi := o.hi })) (n := eA 0) (by simp [doX, k5, hb]) rfl hr'⟩⟩
  · simp at k6
    obtain ⟨w1, w2⟩ := wn (may_n hm (by omega))
    rw [w1]
    refine ⟨_, _, _, _, _, wmoved_q (fndT l o.ky) (-o.n) hva w2 _, rfl, _, _, _, _, wfind_q a cp l o.ot (by omega) ht _ h, _, _, _, _, _, wmoved_q (fndT l o.ot) o.n hvb hon _, ?_⟩
    cases hb : movB (fndT l o.ky) (-o.n)
    · exact ifB_true ⟨rfl, ⟨_, noS, fun N hN => (tt_clone l a cp (by omega) (tt_none h) _ (h.sz hN)).monoW fun v m' hag ⟨a', c', hv, hr'⟩ => ⟨a', _, c', hv, MLe.ofAgree hN hag, lt_ok (z := l) (n := eA 150) (by simp [doX, k6, hb]) rfl hr'.row⟩⟩, trivial⟩
    cases hb2 : movB (fndT l o.ot) o.n
    · exact ifB_false (ifB_true ⟨rfl, ⟨_, noS, fun N hN => (tt_clone l a cp (by omega) (tt_none h) _ (h.sz hN)).monoW fun v m' hag ⟨a', c', hv, hr'⟩ => ⟨a', _, c', hv, MLe.ofAgree hN hag, lt_ok (z := l) (n := eA 150) (by simp [doX, k6, hb2]) rfl hr'.row⟩⟩, trivial⟩)
    refine ifB_false (ifB_false ⟨rfl, ⟨_, noS, fun N hN => (wwith_s a cp l (movT (fndT l o.ky) (-o.n)) (by omega) ht _ (h.sz hN)).monoW fun v m' hag ⟨a', c', hv, hr'⟩ => ⟨a', _, c', hv, MLe.ofAgree hN hag, ⟨_, noS, fun N2 hN2 => (wwith_s a' c' (setT l (movT (fndT l o.ky) (-o.n))) (movT (fndT l o.ot) o.n) (by have := setT_len1 l (movT (fndT l o.ky) (-o.n)); omega) (setT_tot ht (mov_may (by rw [ke]; exact may_key hm) hb)) _ (hr'.sz hN2)).monoW fun v2 m2 hag2 ⟨a2, c2, hv2, hr2⟩ => ⟨a2, _, c2, hv2, MLe.ofAgree hN2 hag2, lt_ok (z := setT (setT l (movT (fndT l o.ky) (-o.n))) (movT (fndT l o.ot) o.n)) (n := eA 0) (by simp [doX, k6, hb, hb2]) rfl hr2⟩⟩, trivial⟩⟩, trivial⟩)
  · simp at k2 k3 k4 k5 k6
    exact ⟨_, noS, fun N hN => (tt_clone l a cp (by omega) (tt_none h) _ (h.sz hN)).monoW fun v m' hag ⟨a', c', hv, hr'⟩ => ⟨a', _, c', hv, lt_ok (z := l) (n := eA 0) (by simp [doX, k1, k2, k3, k4, k5, k6]) rfl hr'.row⟩⟩

theorem rdo_s (a : Option Addr) (cp : Nat) (l : List Tt) (o : Oq) (hn : l.length ≤ 3518437208869) (hl : ∀ x ∈ l, x.wf) (ho : o.wf) (m : M) (h : Row m a (tts l)) : Vc.Spec Try.prog 13 [.slice a l.length cp, oqv o] m (LpT (doT l o)) := by
  refine Vc.Spec.of_vc Try.func13 (ann := noAnn) ?_
  refine vc_by (X :=
      true = true ∧
      ∃ (b : Bool),
      QSpec Try.prog (11 : Nat) [Value.slice a l.length cp] m (Value.bool b) ∧
      ifB (!b)
      (Done
      (LpT (doT l o)
      (Value.tuple
      #[Value.slice none (0 : Nat) (0 : Nat),
      Value.agg #[Value.int IntKind.i64 (21 : Int), Value.int IntKind.i64 (0 : Int), Value.int IntKind.i64 (0 : Int), Value.int IntKind.i64 (0 : Int)]])
      m))
      (∃ (n : Int),
      ∃ (s : ByteArray),
      ∃ (s_1 : ByteArray),
      ∃ (n_1 : Int),
      ∃ (n_2 : Int),
      ∃ (n_3 : Int),
      ∃ (b : Bool),
      QSpec Try.prog (39 : Nat)
      [Value.agg
      #[Value.int IntKind.i64 o.kd, Value.string o.ky, Value.string o.ot, Value.int IntKind.i64 o.n, Value.int IntKind.i64 o.lo,
      Value.int IntKind.i64 o.hi]]
      m
      (Value.tuple
      #[Value.agg
      #[Value.int IntKind.i64 n, Value.string s, Value.string s_1, Value.int IntKind.i64 n_1, Value.int IntKind.i64 n_2, Value.int IntKind.i64 n_3],
      Value.bool b]) ∧
      ifB (!b)
      (Done
      (LpT (doT l o)
      (Value.tuple
      #[Value.slice a l.length cp,
      Value.agg #[Value.int IntKind.i64 (1 : Int), Value.int IntKind.i64 (0 : Int), Value.int IntKind.i64 (0 : Int), Value.int IntKind.i64 (0 : Int)]])
      m))
      (∃ (s : ByteArray),
      ∃ (n : Int),
      ∃ (n_4 : Int),
      ∃ (n_5 : Int),
      QSpec Try.prog (40 : Nat) [Value.slice a l.length cp, Value.string o.ky] m
      (Value.agg #[Value.string s, Value.int IntKind.i64 n, Value.int IntKind.i64 n_4, Value.int IntKind.i64 n_5]) ∧
      ifB (o.kd == (1 : Int))
      (true = true ∧
      ∀ (b : Nat),
      m.sz ≤ b →
      ∃ (n_6 : Int),
      ∃ (n_7 : Int),
      QSpec Try.prog (18 : Nat) [Value.slice (some { block := b, off := (0 : Nat) : Addr }) (2 : Nat) (2 : Nat)]
      (m.newBlock b [Value.int IntKind.i64 n_5, Value.int IntKind.i64 o.n])
      (Value.agg #[Value.int IntKind.i64 n_6, Value.int IntKind.u64 n_7]) ∧
      ifB (o.kd == (2 : Int))
      (true = true ∧
      (true = true ∧
      ∀ (b_1 : Nat),
      max m.sz (b + (1 : Nat)) ≤ b_1 →
      MLe (m.newBlock b [Value.int IntKind.i64 n_5, Value.int IntKind.i64 o.n])
      ((m.newBlock b [Value.int IntKind.i64 n_5, Value.int IntKind.i64 o.n]).newBlock b_1 [Value.int IntKind.i64 n_5]) ∧
      ∃ (n_8 : Int),
      ∃ (n_9 : Int),
      QSpec Try.prog (18 : Nat) [Value.slice (some { block := b_1, off := (0 : Nat) : Addr }) (1 : Nat) (1 : Nat)]
      ((m.newBlock b [Value.int IntKind.i64 n_5, Value.int IntKind.i64 o.n]).newBlock b_1
      [Value.int IntKind.i64 n_5])
      (Value.agg #[Value.int IntKind.i64 n_8, Value.int IntKind.u64 n_9]) ∧
      ∃ (n_10 : Int),
      ∃ (n_11 : Int),
      QSpec Try.prog (20 : Nat)
      [Value.agg #[Value.int IntKind.i64 n_8, Value.int IntKind.u64 n_9], Value.int IntKind.i64 o.n]
      ((m.newBlock b [Value.int IntKind.i64 n_5, Value.int IntKind.i64 o.n]).newBlock b_1
      [Value.int IntKind.i64 n_5])
      (Value.agg #[Value.int IntKind.i64 n_10, Value.int IntKind.u64 n_11]) ∧
      ∃ (s_2 : ByteArray),
      ∃ (n_12 : Int),
      ∃ (n_13 : Int),
      ∃ (n_14 : Int),
      ∃ (b_2 : Bool),
      QSpec Try.prog (41 : Nat)
      [Value.agg
      #[Value.string s, Value.int IntKind.i64 n, Value.int IntKind.i64 n_4,
      Value.int IntKind.i64 n_5],
      Value.agg #[Value.int IntKind.i64 n_10, Value.int IntKind.u64 n_11]]
      ((m.newBlock b [Value.int IntKind.i64 n_5, Value.int IntKind.i64 o.n]).newBlock b_1
      [Value.int IntKind.i64 n_5])
      (Value.tuple
      #[Value.agg
      #[Value.string s_2, Value.int IntKind.i64 n_12, Value.int IntKind.i64 n_13,
      Value.int IntKind.i64 n_14],
      Value.bool b_2]) ∧
      ifB (!b_2)
      (true = true ∧
      Done
      (LpT (doT l o)
      (Value.tuple
      #[Value.slice a l.length cp,
      Value.agg
      #[Value.int IntKind.i64 (150 : Int), Value.int IntKind.i64 (0 : Int),
      Value.int IntKind.i64 (0 : Int), Value.int IntKind.i64 (0 : Int)]])
      ((m.newBlock b [Value.int IntKind.i64 n_5, Value.int IntKind.i64 o.n]).newBlock b_1
      [Value.int IntKind.i64 n_5])))
      (∃ (S' : Nat → Prop),
      (∀ (b_3 : Nat),
      S' b_3 →
      ((m.newBlock b [Value.int IntKind.i64 n_5, Value.int IntKind.i64 o.n]).newBlock
      b_1 [Value.int IntKind.i64 n_5]).uf
      b_3 ∧
      (m.sz ≤ b_3 ∨ False)) ∧
      ∀ (n : Nat),
      max (max m.sz (b + (1 : Nat))) (b_1 + (1 : Nat)) ≤ n →
      SpecW Try.prog (42 : Nat)
      [Value.slice a l.length cp,
      Value.agg
      #[Value.string s_2, Value.int IntKind.i64 n_12, Value.int IntKind.i64 n_13,
      Value.int IntKind.i64 n_14]]
      { π := ((m.newBlock b [Value.int IntKind.i64 n_5, Value.int IntKind.i64 o.n]).newBlock b_1 [Value.int IntKind.i64 n_5]).π, sz := n, uf := ((m.newBlock b [Value.int IntKind.i64 n_5, Value.int IntKind.i64 o.n]).newBlock b_1 [Value.int IntKind.i64 n_5]).uf : M }
      S' fun (v : Value) (m' : M) =>
      ∃ (a : Option Addr),
      ∃ (n : Nat),
      ∃ (c : Nat),
      v = Value.slice a n c ∧
      Done
      (LpT (doT l o)
      (Value.tuple
      #[Value.slice a n c,
      Value.agg
      #[Value.int IntKind.i64 (0 : Int),
      Value.int IntKind.i64 (0 : Int),
      Value.int IntKind.i64 (0 : Int),
      Value.int IntKind.i64 (0 : Int)]])
      m'))) ∧
      True)
      (∃ (s_2 : ByteArray),
      ∃ (n_8 : Int),
      ∃ (n_9 : Int),
      ∃ (n_10 : Int),
      ∃ (b_1 : Bool),
      QSpec Try.prog (41 : Nat)
      [Value.agg #[Value.string s, Value.int IntKind.i64 n, Value.int IntKind.i64 n_4, Value.int IntKind.i64 n_5],
      Value.agg #[Value.int IntKind.i64 n_6, Value.int IntKind.u64 n_7]]
      (m.newBlock b [Value.int IntKind.i64 n_5, Value.int IntKind.i64 o.n])
      (Value.tuple
      #[Value.agg
      #[Value.string s_2, Value.int IntKind.i64 n_8, Value.int IntKind.i64 n_9, Value.int IntKind.i64 n_10],
      Value.bool b_1]) ∧
      ifB (!b_1)
      (true = true ∧
      Done
      (LpT (doT l o)
      (Value.tuple
      #[Value.slice a l.length cp,
      Value.agg
      #[Value.int IntKind.i64 (150 : Int), Value.int IntKind.i64 (0 : Int), Value.int IntKind.i64 (0 : Int),
      Value.int IntKind.i64 (0 : Int)]])
      (m.newBlock b [Value.int IntKind.i64 n_5, Value.int IntKind.i64 o.n])))
      (∃ (S' : Nat → Prop),
      (∀ (b_2 : Nat),
      S' b_2 →
      (m.newBlock b [Value.int IntKind.i64 n_5, Value.int IntKind.i64 o.n]).uf b_2 ∧ (m.sz ≤ b_2 ∨ False)) ∧
      ∀ (n : Nat),
      max m.sz (b + (1 : Nat)) ≤ n →
      SpecW Try.prog (42 : Nat)
      [Value.slice a l.length cp,
      Value.agg
      #[Value.string s_2, Value.int IntKind.i64 n_8, Value.int IntKind.i64 n_9,
      Value.int IntKind.i64 n_10]]
      { π := (m.newBlock b [Value.int IntKind.i64 n_5, Value.int IntKind.i64 o.n]).π, sz := n, uf := (m.newBlock b [Value.int IntKind.i64 n_5, Value.int IntKind.i64 o.n]).uf : M }
      S' fun (v : Value) (m' : M) =>
      ∃ (a : Option Addr),
      ∃ (n : Nat),
      ∃ (c : Nat),
      v = Value.slice a n c ∧
      Done
      (LpT (doT l o)
      (Value.tuple
      #[Value.slice a n c,
      Value.agg
      #[Value.int IntKind.i64 (0 : Int), Value.int IntKind.i64 (0 : Int),
      Value.int IntKind.i64 (0 : Int), Value.int IntKind.i64 (0 : Int)]])
      m'))))
      (ifB (o.kd == (2 : Int))
      (true = true ∧
      ∀ (b : Nat),
      m.sz ≤ b →
      ∃ (n_6 : Int),
      ∃ (n_7 : Int),
      QSpec Try.prog (18 : Nat) [Value.slice (some { block := b, off := (0 : Nat) : Addr }) (2 : Nat) (2 : Nat)]
      (m.newBlock b [Value.int IntKind.i64 n_5, Value.int IntKind.i64 o.n])
      (Value.agg #[Value.int IntKind.i64 n_6, Value.int IntKind.u64 n_7]) ∧
      ifB (o.kd == (2 : Int))
      (true = true ∧
      (true = true ∧
      ∀ (b_1 : Nat),
      max m.sz (b + (1 : Nat)) ≤ b_1 →
      MLe (m.newBlock b [Value.int IntKind.i64 n_5, Value.int IntKind.i64 o.n])
      ((m.newBlock b [Value.int IntKind.i64 n_5, Value.int IntKind.i64 o.n]).newBlock b_1
      [Value.int IntKind.i64 n_5]) ∧
      ∃ (n_8 : Int),
      ∃ (n_9 : Int),
      QSpec Try.prog (18 : Nat) [Value.slice (some { block := b_1, off := (0 : Nat) : Addr }) (1 : Nat) (1 : Nat)]
      ((m.newBlock b [Value.int IntKind.i64 n_5, Value.int IntKind.i64 o.n]).newBlock b_1
      [Value.int IntKind.i64 n_5])
      (Value.agg #[Value.int IntKind.i64 n_8, Value.int IntKind.u64 n_9]) ∧
      ∃ (n_10 : Int),
      ∃ (n_11 : Int),
      QSpec Try.prog (20 : Nat)
      [Value.agg #[Value.int IntKind.i64 n_8, Value.int IntKind.u64 n_9], Value.int IntKind.i64 o.n]
      ((m.newBlock b [Value.int IntKind.i64 n_5, Value.int IntKind.i64 o.n]).newBlock b_1
      [Value.int IntKind.i64 n_5])
      (Value.agg #[Value.int IntKind.i64 n_10, Value.int IntKind.u64 n_11]) ∧
      ∃ (s_2 : ByteArray),
      ∃ (n_12 : Int),
      ∃ (n_13 : Int),
      ∃ (n_14 : Int),
      ∃ (b_2 : Bool),
      QSpec Try.prog (41 : Nat)
      [Value.agg
      #[Value.string s, Value.int IntKind.i64 n, Value.int IntKind.i64 n_4,
      Value.int IntKind.i64 n_5],
      Value.agg #[Value.int IntKind.i64 n_10, Value.int IntKind.u64 n_11]]
      ((m.newBlock b [Value.int IntKind.i64 n_5, Value.int IntKind.i64 o.n]).newBlock b_1
      [Value.int IntKind.i64 n_5])
      (Value.tuple
      #[Value.agg
      #[Value.string s_2, Value.int IntKind.i64 n_12, Value.int IntKind.i64 n_13,
      Value.int IntKind.i64 n_14],
      Value.bool b_2]) ∧
      ifB (!b_2)
      (true = true ∧
      Done
      (LpT (doT l o)
      (Value.tuple
      #[Value.slice a l.length cp,
      Value.agg
      #[Value.int IntKind.i64 (150 : Int), Value.int IntKind.i64 (0 : Int),
      Value.int IntKind.i64 (0 : Int), Value.int IntKind.i64 (0 : Int)]])
      ((m.newBlock b [Value.int IntKind.i64 n_5, Value.int IntKind.i64 o.n]).newBlock
      b_1 [Value.int IntKind.i64 n_5])))
      (∃ (S' : Nat → Prop),
      (∀ (b_3 : Nat),
      S' b_3 →
      ((m.newBlock b [Value.int IntKind.i64 n_5, Value.int IntKind.i64 o.n]).newBlock
      b_1 [Value.int IntKind.i64 n_5]).uf
      b_3 ∧
      (m.sz ≤ b_3 ∨ False)) ∧
      ∀ (n : Nat),
      max (max m.sz (b + (1 : Nat))) (b_1 + (1 : Nat)) ≤ n →
      SpecW Try.prog (42 : Nat)
      [Value.slice a l.length cp,
      Value.agg
      #[Value.string s_2, Value.int IntKind.i64 n_12,
      Value.int IntKind.i64 n_13, Value.int IntKind.i64 n_14]]
      { π := ((m.newBlock b [Value.int IntKind.i64 n_5, Value.int IntKind.i64 o.n]).newBlock b_1 [Value.int IntKind.i64 n_5]).π, sz := n, uf := ((m.newBlock b [Value.int IntKind.i64 n_5, Value.int IntKind.i64 o.n]).newBlock b_1 [Value.int IntKind.i64 n_5]).uf : M }
      S' fun (v : Value) (m' : M) =>
      ∃ (a : Option Addr),
      ∃ (n : Nat),
      ∃ (c : Nat),
      v = Value.slice a n c ∧
      Done
      (LpT (doT l o)
      (Value.tuple
      #[Value.slice a n c,
      Value.agg
      #[Value.int IntKind.i64 (0 : Int),
      Value.int IntKind.i64 (0 : Int),
      Value.int IntKind.i64 (0 : Int),
      Value.int IntKind.i64 (0 : Int)]])
      m'))) ∧
      True)
      (∃ (s_2 : ByteArray),
      ∃ (n_8 : Int),
      ∃ (n_9 : Int),
      ∃ (n_10 : Int),
      ∃ (b_1 : Bool),
      QSpec Try.prog (41 : Nat)
      [Value.agg #[Value.string s, Value.int IntKind.i64 n, Value.int IntKind.i64 n_4, Value.int IntKind.i64 n_5],
      Value.agg #[Value.int IntKind.i64 n_6, Value.int IntKind.u64 n_7]]
      (m.newBlock b [Value.int IntKind.i64 n_5, Value.int IntKind.i64 o.n])
      (Value.tuple
      #[Value.agg
      #[Value.string s_2, Value.int IntKind.i64 n_8, Value.int IntKind.i64 n_9, Value.int IntKind.i64 n_10],
      Value.bool b_1]) ∧
      ifB (!b_1)
      (true = true ∧
      Done
      (LpT (doT l o)
      (Value.tuple
      #[Value.slice a l.length cp,
      Value.agg
      #[Value.int IntKind.i64 (150 : Int), Value.int IntKind.i64 (0 : Int),
      Value.int IntKind.i64 (0 : Int), Value.int IntKind.i64 (0 : Int)]])
      (m.newBlock b [Value.int IntKind.i64 n_5, Value.int IntKind.i64 o.n])))
      (∃ (S' : Nat → Prop),
      (∀ (b_2 : Nat),
      S' b_2 →
      (m.newBlock b [Value.int IntKind.i64 n_5, Value.int IntKind.i64 o.n]).uf b_2 ∧ (m.sz ≤ b_2 ∨ False)) ∧
      ∀ (n : Nat),
      max m.sz (b + (1 : Nat)) ≤ n →
      SpecW Try.prog (42 : Nat)
      [Value.slice a l.length cp,
      Value.agg
      #[Value.string s_2, Value.int IntKind.i64 n_8, Value.int IntKind.i64 n_9,
      Value.int IntKind.i64 n_10]]
      { π := (m.newBlock b [Value.int IntKind.i64 n_5, Value.int IntKind.i64 o.n]).π, sz := n, uf := (m.newBlock b [Value.int IntKind.i64 n_5, Value.int IntKind.i64 o.n]).uf : M }
      S' fun (v : Value) (m' : M) =>
      ∃ (a : Option Addr),
      ∃ (n : Nat),
      ∃ (c : Nat),
      v = Value.slice a n c ∧
      Done
      (LpT (doT l o)
      (Value.tuple
      #[Value.slice a n c,
      Value.agg
      #[Value.int IntKind.i64 (0 : Int), Value.int IntKind.i64 (0 : Int),
      Value.int IntKind.i64 (0 : Int), Value.int IntKind.i64 (0 : Int)]])
      m'))))
      (ifB (o.kd == (4 : Int))
      (true = true ∧
      Done
      (LpT (doT l o)
      (Value.tuple
      #[Value.slice a l.length cp,
      Value.agg
      #[Value.int IntKind.i64 (0 : Int), Value.int IntKind.i64 n_5, Value.int IntKind.i64 (0 : Int),
      Value.int IntKind.i64 (0 : Int)]])
      m))
      (ifB (o.kd == (3 : Int))
      (true = true ∧
      Done
      (LpT (doT l o)
      (Value.tuple
      #[Value.slice a l.length cp,
      Value.agg
      #[Value.int IntKind.i64 (0 : Int), Value.int IntKind.i64 (0 : Int), Value.int IntKind.i64 n_5, Value.int IntKind.i64 n_5]])
      m))
      (ifB (o.kd == (5 : Int))
      (∃ (b : Bool),
      QSpec Try.prog (32 : Nat) [Value.agg #[Value.int IntKind.i64 o.lo, Value.int IntKind.i64 o.hi], Value.int IntKind.i64 n_5] m
      (Value.bool b) ∧
      ifB (!b)
      (true = true ∧
      Done
      (LpT (doT l o)
      (Value.tuple
      #[Value.slice a l.length cp,
      Value.agg
      #[Value.int IntKind.i64 (150 : Int), Value.int IntKind.i64 (0 : Int), Value.int IntKind.i64 (0 : Int),
      Value.int IntKind.i64 (0 : Int)]])
      m))
      (∃ (S' : Nat → Prop),
      (∀ (b : Nat), S' b → m.uf b ∧ (m.sz ≤ b ∨ False)) ∧
      ∀ (n : Nat),
      m.sz ≤ n →
      SpecW Try.prog (42 : Nat)
      [Value.slice a l.length cp,
      Value.agg #[Value.string s, Value.int IntKind.i64 o.lo, Value.int IntKind.i64 o.hi, Value.int IntKind.i64 n_5]]
      { π := m.π, sz := n, uf := m.uf : M } S' fun (v : Value) (m' : M) =>
      ∃ (a : Option Addr),
      ∃ (n : Nat),
      ∃ (c : Nat),
      v = Value.slice a n c ∧
      Done
      (LpT (doT l o)
      (Value.tuple
      #[Value.slice a n c,
      Value.agg
      #[Value.int IntKind.i64 (0 : Int), Value.int IntKind.i64 (0 : Int), Value.int IntKind.i64 (0 : Int),
      Value.int IntKind.i64 (0 : Int)]])
      m')))
      (ifB (o.kd == (6 : Int))
      (true = true ∧
      (true = true ∧
      ∀ (b : Nat),
      m.sz ≤ b →
      MLe m (m.newBlock b [Value.int IntKind.i64 n_5]) ∧
      ∃ (n_6 : Int),
      ∃ (n_7 : Int),
      QSpec Try.prog (18 : Nat) [Value.slice (some { block := b, off := (0 : Nat) : Addr }) (1 : Nat) (1 : Nat)]
      (m.newBlock b [Value.int IntKind.i64 n_5]) (Value.agg #[Value.int IntKind.i64 n_6, Value.int IntKind.u64 n_7]) ∧
      ∃ (n_8 : Int),
      ∃ (n_9 : Int),
      QSpec Try.prog (20 : Nat)
      [Value.agg #[Value.int IntKind.i64 n_6, Value.int IntKind.u64 n_7], Value.int IntKind.i64 o.n]
      (m.newBlock b [Value.int IntKind.i64 n_5])
      (Value.agg #[Value.int IntKind.i64 n_8, Value.int IntKind.u64 n_9]) ∧
      ∃ (s_2 : ByteArray),
      ∃ (n_10 : Int),
      ∃ (n_11 : Int),
      ∃ (n_12 : Int),
      ∃ (b_1 : Bool),
      QSpec Try.prog (41 : Nat)
      [Value.agg
      #[Value.string s, Value.int IntKind.i64 n, Value.int IntKind.i64 n_4,
      Value.int IntKind.i64 n_5],
      Value.agg #[Value.int IntKind.i64 n_8, Value.int IntKind.u64 n_9]]
      (m.newBlock b [Value.int IntKind.i64 n_5])
      (Value.tuple
      #[Value.agg
      #[Value.string s_2, Value.int IntKind.i64 n_10, Value.int IntKind.i64 n_11,
      Value.int IntKind.i64 n_12],
      Value.bool b_1]) ∧
      ∃ (s : ByteArray),
      ∃ (n : Int),
      ∃ (n_13 : Int),
      ∃ (n_14 : Int),
      QSpec Try.prog (40 : Nat) [Value.slice a l.length cp, Value.string o.ot]
      (m.newBlock b [Value.int IntKind.i64 n_5])
      (Value.agg
      #[Value.string s, Value.int IntKind.i64 n, Value.int IntKind.i64 n_13,
      Value.int IntKind.i64 n_14]) ∧
      true = true ∧
      (true = true ∧
      ∀ (b_2 : Nat),
      max m.sz (b + (1 : Nat)) ≤ b_2 →
      MLe (m.newBlock b [Value.int IntKind.i64 n_5])
      ((m.newBlock b [Value.int IntKind.i64 n_5]).newBlock b_2
      [Value.int IntKind.i64 n_14, Value.int IntKind.i64 o.n]) ∧
      ∃ (n_15 : Int),
      ∃ (n_16 : Int),
      QSpec Try.prog (18 : Nat)
      [Value.slice (some { block := b_2, off := (0 : Nat) : Addr })
      (2 : Nat) (2 : Nat)]
      ((m.newBlock b [Value.int IntKind.i64 n_5]).newBlock b_2
      [Value.int IntKind.i64 n_14, Value.int IntKind.i64 o.n])
      (Value.agg
      #[Value.int IntKind.i64 n_15, Value.int IntKind.u64 n_16]) ∧
      ∃ (s_3 : ByteArray),
      ∃ (n_17 : Int),
      ∃ (n_18 : Int),
      ∃ (n_19 : Int),
      ∃ (b_3 : Bool),
      QSpec Try.prog (41 : Nat)
      [Value.agg
      #[Value.string s, Value.int IntKind.i64 n,
      Value.int IntKind.i64 n_13,
      Value.int IntKind.i64 n_14],
      Value.agg
      #[Value.int IntKind.i64 n_15,
      Value.int IntKind.u64 n_16]]
      ((m.newBlock b [Value.int IntKind.i64 n_5]).newBlock
      b_2
      [Value.int IntKind.i64 n_14,
      Value.int IntKind.i64 o.n])
      (Value.tuple
      #[Value.agg
      #[Value.string s_3, Value.int IntKind.i64 n_17,
      Value.int IntKind.i64 n_18,
      Value.int IntKind.i64 n_19],
      Value.bool b_3]) ∧
      ifB (!b_1)
      (true = true ∧
      Done
      (LpT (doT l o)
      (Value.tuple
      #[Value.slice a l.length cp,
      Value.agg
      #[Value.int IntKind.i64 (150 : Int),
      Value.int IntKind.i64 (0 : Int),
      Value.int IntKind.i64 (0 : Int),
      Value.int IntKind.i64 (0 : Int)]])
      ((m.newBlock b
      [Value.int IntKind.i64 n_5]).newBlock
      b_2
      [Value.int IntKind.i64 n_14,
      Value.int IntKind.i64 o.n])))
      (ifB (!b_3)
      (true = true ∧
      Done
      (LpT (doT l o)
      (Value.tuple
      #[Value.slice a l.length cp,
      Value.agg
      #[Value.int IntKind.i64 (150 : Int),
      Value.int IntKind.i64 (0 : Int),
      Value.int IntKind.i64 (0 : Int),
      Value.int IntKind.i64 (0 : Int)]])
      ((m.newBlock b
      [Value.int IntKind.i64 n_5]).newBlock
      b_2
      [Value.int IntKind.i64 n_14,
      Value.int IntKind.i64 o.n])))
      (true = true ∧
      (∃ (S' : Nat → Prop),
      (∀ (b_4 : Nat),
      S' b_4 →
      ((m.newBlock b
      [Value.int IntKind.i64
      n_5]).newBlock
      b_2
      [Value.int IntKind.i64 n_14,
      Value.int IntKind.i64 o.n]).uf
      b_4 ∧
      (m.sz ≤ b_4 ∨ False)) ∧
      ∀ (n : Nat),
      max (max m.sz (b + (1 : Nat)))
      (b_2 + (1 : Nat)) ≤
      n →
      SpecW Try.prog (42 : Nat)
      [Value.slice a l.length cp,
      Value.agg
      #[Value.string s_2,
      Value.int IntKind.i64 n_10,
      Value.int IntKind.i64 n_11,
      Value.int IntKind.i64 n_12]]
      { π := ((m.newBlock b [Value.int IntKind.i64 n_5]).newBlock b_2 [Value.int IntKind.i64 n_14, Value.int IntKind.i64 o.n]).π, sz := n, uf := ((m.newBlock b [Value.int IntKind.i64 n_5]).newBlock b_2 [Value.int IntKind.i64 n_14, Value.int IntKind.i64 o.n]).uf : M }
      S' fun (v : Value) (m' : M) =>
      ∃ (a : Option Addr),
      ∃ (n : Nat),
      ∃ (c : Nat),
      v = Value.slice a n c ∧
      MLe
      ((m.newBlock b
      [Value.int
      IntKind.i64
      n_5]).newBlock
      b_2
      [Value.int IntKind.i64
      n_14,
      Value.int IntKind.i64
      o.n])
      m' ∧
      (∃ (S' : Nat → Prop),
      (∀ (b : Nat),
      S' b →
      m'.uf b ∧
      (m.sz ≤ b ∨
      False)) ∧
      ∀ (n_20 : Nat),
      m'.sz ≤ n_20 →
      SpecW Try.prog
      (42 : Nat)
      [Value.slice a n
      c,
      Value.agg
      #[Value.string
      s_3,
      Value.int
      IntKind.i64
      n_17,
      Value.int
      IntKind.i64
      n_18,
      Value.int
      IntKind.i64
      n_19]]
      { π := m'.π, sz := n_20, uf := m'.uf : M }
      S'
      fun (v : Value)
      (m'_1 : M) =>
      ∃ (a :
      Option Addr),
      ∃ (n : Nat),
      ∃ (c : Nat),
      v =
      Value.slice
      a n
      c ∧
      MLe m'
      m'_1 ∧
      Done
      (LpT
      (doT
      l
      o)
      (Value.tuple
      #[Value.slice
      a
      n
      c,
      Value.agg
      #[Value.int
      IntKind.i64
      (0 :
      Int),
      Value.int
      IntKind.i64
      (0 :
      Int),
      Value.int
      IntKind.i64
      (0 :
      Int),
      Value.int
      IntKind.i64
      (0 :
      Int)]])
      m'_1)) ∧
      True) ∧
      True))) ∧
      True) ∧
      True)
      (Done
      (LpT (doT l o)
      (Value.tuple
      #[Value.slice a l.length cp,
      Value.agg
      #[Value.int IntKind.i64 (0 : Int), Value.int IntKind.i64 (0 : Int), Value.int IntKind.i64 (0 : Int),
      Value.int IntKind.i64 (0 : Int)]])
      m)))))))))) (by kernel_rfl) ?_
  refine ⟨rfl, _, rtright_q a cp l (by omega) _ h, ?_⟩
  cases ht : totB none l
  · exact ifB_true (lt_ok (z := []) (n := eA 21) (by simp [doT, ht]) rfl (.nil _))
  refine ifB_false ⟨_, _, _, _, _, _, _, rop_q o _, ?_⟩
  cases hm : mayO o
  · exact ifB_true (lt_ok (z := l) (n := eA 1) (by simp [doT, ht, hm]) rfl h)
  have hd : doT l o = doX l o := by simp [doT, ht, hm]
  rw [hd]
  have hva := wf_fnd (k := o.ky) hl
  have hvb := wf_fnd (k := o.ot) hl
  have hon : In64 o.n := ho.2.2.2.1
  have wn : 1 ≤ o.n → In64 (-o.n) := fun h => by unfold In64 at *; omega
  have of1 : ∀ (m' : M) (b : Nat) (x : Int), In64 x → QSpec Try.prog 18 [.slice (some ⟨b, 0, none⟩) 1 1] (m'.newBlock b [I x]) (wide x) := fun m' b x hx => by
    have := of_q (some ⟨b, 0, none⟩) 1 [x] (by simpa using hx) (by simp) _ (row1 (m := m') (b := b) x)
    rw [show sumI [x] = x by simp [sumI]] at this
    exact this
  have of2 : ∀ (m' : M) (b : Nat) (x y : Int), In64 x → In64 y → QSpec Try.prog 18 [.slice (some ⟨b, 0, none⟩) 2 2] (m'.newBlock b [I x, I y]) (wide (x + y)) := fun m' b x y hx hy => by
    have := of_q (some ⟨b, 0, none⟩) 2 [x, y] (by simp [hx, hy]) (by simp) _ (row2 (m := m') (b := b) x y)
    rw [show sumI [x, y] = x + y by simp [sumI]] at this
    exact this
  have mo : ∀ (m' : M) (x : Tt), In64 x.va → 1 ≤ o.n → QSpec Try.prog 41 [ttv x, wide (x.va - o.n)] m' (.tuple #[ttv (if movB x (-o.n) then movT x (-o.n) else x), .bool (movB x (-o.n))]) := fun m' x hx h1 => rmore_q x (-o.n) hx (wn h1) m'
  refine ifB_false ⟨_, _, _, _, rofk_q a cp l o.ky (by omega) _ h, ifB_intro (fun k1 => ?_) (fun k1 => ifB_intro (fun k2 => ?_) (fun k2 => ifB_intro (fun k4 => ?_) (fun k4 => ifB_intro (fun k3 => ?_) (fun k3 => ifB_intro (fun k5 => ?_) (fun k5 => ifB_intro (fun k6 => ?_) (fun k6 => ?_))))))⟩
  all_goals simp at k1
  · have k2 : (o.kd == 2) = false := by rw [k1]; rfl
    rw [k2]
    refine ⟨rfl, fun b hb => ⟨_, _, of2 m b _ _ hva hon, ifB_false ⟨_, _, _, _, _, rmore_q (fndT l o.ky) o.n hva hon _, ?_⟩⟩⟩
    cases hb : movB (fndT l o.ky) o.n
    · exact ifB_true ⟨rfl, lt_ok (z := l) (n := eA 150) (by simp [doX, k1, hb]) rfl (h.newBlock (by assumption))⟩
    · exact ifB_false ⟨_, noS, fun N hN => (rwith_s a cp l (movT (fndT l o.ky) o.n) (by omega) _ ((h.newBlock (by assumption)).sz hN)).monoW fun v m' hag ⟨a', c', hv, hr'⟩ => ⟨a', _, c', hv, lt_ok (z := setT l (movT (fndT l o.ky) o.n)) (n := eA 0) (by simp [doX, k1, hb]) rfl hr'⟩⟩
  · simp at k2
    have h1 := may_n hm (by omega)
    rw [show (o.kd == 2) = true by simp [k2]]
    refine ⟨rfl, fun b hb => ⟨_, _, of2 m b _ _ hva hon, ifB_true ⟨rfl, ⟨rfl, fun b1 hb1 => ⟨MLe.newBlock hb1, _, _, of1 _ b1 _ hva, _, _, less_q _ _ hon _, _, _, _, _, _, mo _ _ hva h1, ?_⟩⟩, trivial⟩⟩⟩
    cases hb : movB (fndT l o.ky) (-o.n)
    · exact ifB_true ⟨rfl, lt_ok (z := l) (n := eA 150) (by simp [doX, k2, hb]) rfl ((h.newBlock (by assumption)).newBlock hb1)⟩
    · exact ifB_false ⟨_, noS, fun N hN => (rwith_s a cp l (movT (fndT l o.ky) (-o.n)) (by omega) _ (((h.newBlock (by assumption)).newBlock hb1).sz hN)).monoW fun v m' hag ⟨a', c', hv, hr'⟩ => ⟨a', _, c', hv, lt_ok (z := setT l (movT (fndT l o.ky) (-o.n))) (n := eA 0) (by simp [doX, k2, hb]) rfl hr'⟩⟩
  · simp at k2 k4
    exact ⟨rfl, lt_ok (z := l) (n := ⟨0, (fndT l o.ky).va, 0, 0⟩) (by simp [doX, k4]) rfl h⟩
  · simp at k2 k3
    exact ⟨rfl, lt_ok (z := l) (n := ⟨0, 0, (fndT l o.ky).va, (fndT l o.ky).va⟩) (by simp [doX, k3]) rfl h⟩
  · simp at k5
    refine ⟨_, rhas_q _ _ _ _, ?_⟩
    cases hb : hasB o.lo o.hi (fndT l o.ky).va
    · exact ifB_true ⟨rfl, lt_ok (z := l) (n := eA 150) (by simp [doX, k5, hb]) rfl h⟩
    · exact ifB_false ⟨_, noS, fun N hN => (rwith_s a cp l ({ fndT l o.ky with sp_lo := o.lo, sp_hi := o.hi }) (by omega) _ (h.sz hN)).monoW fun v m' hag ⟨a', c', hv, hr'⟩ => ⟨a', _, c', hv, lt_ok (z := setT l ({ fndT l o.ky with sp_lo := o.lo, sp_hi := o.hi })) (n := eA 0) (by simp [doX, k5, hb]) rfl hr'⟩⟩
  · simp at k6
    have h1 := may_n hm (by omega)
    refine ⟨rfl, ⟨rfl, fun b hb0 => ⟨MLe.newBlock hb0, _, _, of1 _ b _ hva, _, _, less_q _ _ hon _, _, _, _, _, _, mo _ _ hva h1, _, _, _, _, rofk_q a cp l o.ot (by omega) _ (h.newBlock hb0), rfl, ⟨rfl, fun b2 hb2 => ⟨MLe.newBlock hb2, _, _, of2 _ b2 _ _ hvb hon, _, _, _, _, _, rmore_q (fndT l o.ot) o.n hvb hon _, ?_⟩⟩, trivial⟩⟩, trivial⟩
    have hr := (h.newBlock (ds := [I (fndT l o.ky).va]) hb0).newBlock (ds := [I (fndT l o.ot).va, I o.n]) hb2
    cases hb : movB (fndT l o.ky) (-o.n)
    · exact ifB_true ⟨rfl, lt_ok (z := l) (n := eA 150) (by simp [doX, k6, hb]) rfl hr⟩
    cases hb2 : movB (fndT l o.ot) o.n
    · exact ifB_false (ifB_true ⟨rfl, lt_ok (z := l) (n := eA 150) (by simp [doX, k6, hb2]) rfl hr⟩)
    refine ifB_false (ifB_false ⟨rfl, ⟨_, noS, fun N hN => (rwith_s a cp l (movT (fndT l o.ky) (-o.n)) (by omega) _ (hr.sz hN)).monoW fun v m' hag ⟨a', c', hv, hr'⟩ => ⟨a', _, c', hv, MLe.ofAgree hN hag, ⟨_, noS, fun N2 hN2 => (rwith_s a' c' (setT l (movT (fndT l o.ky) (-o.n))) (movT (fndT l o.ot) o.n) (by have := setT_len1 l (movT (fndT l o.ky) (-o.n)); omega) _ (hr'.sz hN2)).monoW fun v2 m2 hag2 ⟨a2, c2, hv2, hr2⟩ => ⟨a2, _, c2, hv2, MLe.ofAgree hN2 hag2, lt_ok (z := setT (setT l (movT (fndT l o.ky) (-o.n))) (movT (fndT l o.ot) o.n)) (n := eA 0) (by simp [doX, k6, hb, hb2]) rfl hr2⟩⟩, trivial⟩⟩, trivial⟩)
  · simp at k2 k3 k4 k5 k6
    exact lt_ok (z := l) (n := eA 0) (by simp [doX, k1, k2, k3, k4, k5, k6]) rfl h

end Go.Proofs.Ytbhlhnkjmncloaa
set_option linter.unusedVariables false
set_option linter.unusedSimpArgs false
namespace Go.Proofs.Ytbhlhnkjmncloaa
open Go.Vc Go.RowKit
set_option maxRecDepth 100000

def o5 : Oq := ⟨5, ⟨#[97]⟩, .empty, 0, 0, 5⟩

theorem wawake_q (m : M) : QSpec Try.prog 14 [] m (.bool true) := by
  refine QSpec.of_vc Try.func14 (ann := fun _ => noAnn) fun n hn => ?_
  refine vc_by (X :=
      true = true ∧
      ∃ (S' : Nat → Prop),
      (∀ (b : Nat), S' b → m.uf b ∧ (n ≤ b ∨ False)) ∧
      ∀ (n_1 : Nat),
      n ≤ n_1 →
      SpecW Try.prog (12 : Nat)
      [Value.slice none (0 : Nat) (0 : Nat),
      Value.agg
      #[Value.int IntKind.i64 (5 : Int), Value.string { data := #[(97 : UInt8)] : ByteArray }, Value.string { data := #[] : ByteArray }, Value.int IntKind.i64 (0 : Int),
      Value.int IntKind.i64 (0 : Int), Value.int IntKind.i64 (5 : Int)]]
      { π := m.π, sz := n_1, uf := m.uf : M } S' fun (v : Value) (m' : M) =>
      ∃ (a : Option Addr),
      ∃ (n : Nat),
      ∃ (c : Nat),
      ∃ (n_2 : Int),
      ∃ (n_3 : Int),
      ∃ (n_4 : Int),
      ∃ (n_5 : Int),
      v =
      Value.tuple
      #[Value.slice a n c, Value.agg #[Value.int IntKind.i64 n_2, Value.int IntKind.i64 n_3, Value.int IntKind.i64 n_4, Value.int IntKind.i64 n_5]] ∧
      ifB ((↑n : Int) == (1 : Int))
      (ifB (n_2 == (0 : Int))
      (true = true ∧
      ∀ (b : Nat),
      m'.sz ≤ b →
      ∃ (n : Int),
      QSpec Try.prog (15 : Nat) [Value.slice (some { block := b, off := (0 : Nat) : Addr }) (1 : Nat) (1 : Nat)]
      (m'.newBlock b
      [Value.string { data := #[] : ByteArray }, Value.int IntKind.i64 (0 : Int), Value.int IntKind.i64 (0 : Int),
      Value.int IntKind.i64 (0 : Int)])
      (Value.int IntKind.i64 n) ∧
      Done (Value.bool (n == (21 : Int)) = Value.bool true))
      (Done (Value.bool false = Value.bool true)))
      (Done (Value.bool false = Value.bool true))) (by kernel_rfl) ?_
  have e : doT [] o5 = ([⟨⟨#[97]⟩, 0, 5, 0⟩], eA 0) := by rfl
  refine ⟨rfl, _, noS, fun N hN => (wdo_s none 0 [] o5 (by simp) (by simp) ⟨by decide, by decide, by decide, by decide, by decide, by decide⟩ _ (.nil _)).monoW fun v m1 hag hq => ?_⟩
  rw [e] at hq
  obtain ⟨a1, c1, hv, hr⟩ := hq
  refine ⟨a1, _, c1, _, _, _, _, hv, ifB_true (ifB_true ⟨rfl, fun b hb => ⟨_, wcheck_q (some ⟨b, 0, none⟩) 1 [tt0] (by simp) _ .new, ⟨rfl⟩⟩⟩)⟩

def mkT : Tt := ⟨⟨#[55, 49]⟩, 0, 0, 0⟩

theorem do_len (l : List Tt) (o : Oq) : (doT l o).1.length ≤ l.length + 2 := by
  unfold doT
  split
  · simp
  split
  · simp
  unfold doX
  simp only
  repeat' split
  all_goals simp only
  all_goals first
    | omega
    | exact Nat.le_succ_of_le (setT_len1 _ _)
    | exact Nat.le_trans (setT_len1 _ _) (Nat.succ_le_succ (setT_len1 _ _))

theorem witnessdoes (a : Option Addr) (cp : Nat) (l : List Tt) (o : Oq) (hn : l.length ≤ 3518437208780) (hl : ∀ x ∈ l, x.wf) (ho : o.wf) (m : M) (h : Row m a (tts l)) :
    QSpec Try.prog 3 [.slice a l.length cp, oqv o] m (.bool true) := by
  refine QSpec.of_vc Try.func3 (ann := fun _ => noAnn) fun N hN => ?_
  refine vc_by (X :=
      true = true ∧
      ∃ (S' : Nat → Prop),
      (∀ (b : Nat), S' b → m.uf b ∧ (N ≤ b ∨ False)) ∧
      ∀ (n : Nat),
      N ≤ n →
      SpecW Try.prog (10 : Nat)
      [Value.slice a l.length cp,
      Value.agg
      #[Value.string { data := #[(55 : UInt8), (49 : UInt8)] : ByteArray }, Value.int IntKind.i64 (0 : Int), Value.int IntKind.i64 (0 : Int),
      Value.int IntKind.i64 (0 : Int)]]
      { π := m.π, sz := n, uf := m.uf : M } S' fun (v : Value) (m' : M) =>
      ∃ (a_2 : Option Addr),
      ∃ (n : Nat),
      ∃ (c : Nat),
      v = Value.slice a_2 n c ∧
      ∃ (b : Bool),
      QSpec Try.prog (11 : Nat) [Value.slice a l.length cp] m' (Value.bool b) ∧
      ifB (!b)
      (∃ (S' : Nat → Prop),
      (∀ (b : Nat), S' b → m'.uf b ∧ (N ≤ b ∨ False)) ∧
      ∀ (n_1 : Nat),
      m'.sz ≤ n_1 →
      SpecW Try.prog (12 : Nat)
      [Value.slice a_2 n c,
      Value.agg
      #[Value.int IntKind.i64 o.kd, Value.string o.ky, Value.string o.ot, Value.int IntKind.i64 o.n, Value.int IntKind.i64 o.lo,
      Value.int IntKind.i64 o.hi]]
      { π := m'.π, sz := n_1, uf := m'.uf : M } S' fun (v : Value) (m' : M) =>
      ∃ (a_4 : Option Addr),
      ∃ (n_2 : Nat),
      ∃ (c_1 : Nat),
      ∃ (n_3 : Int),
      ∃ (n_4 : Int),
      ∃ (n_5 : Int),
      ∃ (n_6 : Int),
      v =
      Value.tuple
      #[Value.slice a_4 n_2 c_1,
      Value.agg #[Value.int IntKind.i64 n_3, Value.int IntKind.i64 n_4, Value.int IntKind.i64 n_5, Value.int IntKind.i64 n_6]] ∧
      ∃ (S' : Nat → Prop),
      (∀ (b : Nat), S' b → m'.uf b ∧ (N ≤ b ∨ False)) ∧
      ∀ (n_7 : Nat),
      m'.sz ≤ n_7 →
      SpecW Try.prog (13 : Nat)
      [Value.slice a l.length cp,
      Value.agg
      #[Value.int IntKind.i64 o.kd, Value.string o.ky, Value.string o.ot, Value.int IntKind.i64 o.n,
      Value.int IntKind.i64 o.lo, Value.int IntKind.i64 o.hi]]
      { π := m'.π, sz := n_7, uf := m'.uf : M } S' fun (v : Value) (m' : M) =>
      ∃ (a_6 : Option Addr),
      ∃ (n_8 : Nat),
      ∃ (c_2 : Nat),
      ∃ (n_9 : Int),
      ∃ (n_10 : Int),
      ∃ (n_11 : Int),
      ∃ (n_12 : Int),
      v =
      Value.tuple
      #[Value.slice a_6 n_8 c_2,
      Value.agg
      #[Value.int IntKind.i64 n_9, Value.int IntKind.i64 n_10, Value.int IntKind.i64 n_11,
      Value.int IntKind.i64 n_12]] ∧
      ∃ (b : Bool),
      QSpec Try.prog (14 : Nat) [] m' (Value.bool b) ∧
      ifB b
      (∃ (n_13 : Int),
      QSpec Try.prog (15 : Nat) [Value.slice a_2 n c] m' (Value.int IntKind.i64 n_13) ∧
      ifB (n_13 == (21 : Int))
      (∃ (b : Bool),
      QSpec Try.prog (16 : Nat) [Value.slice a_4 n_2 c_1, Value.slice a_6 n_8 c_2] m'
      (Value.bool b) ∧
      ifB b
      (ifB (n_3 == n_9 && (n_4 == n_10 && (n_5 == n_11 && (n_6 == n_12 && true))))
      (∃ (b : Bool),
      QSpec Try.prog (17 : Nat)
      [Value.slice a_2 n c, Value.slice a l.length cp,
      Value.agg
      #[Value.string { data := #[(55 : UInt8), (49 : UInt8)] : ByteArray },
      Value.int IntKind.i64 (0 : Int), Value.int IntKind.i64 (0 : Int),
      Value.int IntKind.i64 (0 : Int)]]
      m' (Value.bool b) ∧
      Done (Value.bool b = Value.bool true))
      (Done (Value.bool false = Value.bool true)))
      (Done (Value.bool false = Value.bool true)))
      (Done (Value.bool false = Value.bool true)))
      (Done (Value.bool false = Value.bool true)))
      (∃ (S' : Nat → Prop),
      (∀ (b : Nat), S' b → m'.uf b ∧ (N ≤ b ∨ False)) ∧
      ∀ (n_1 : Nat),
      m'.sz ≤ n_1 →
      SpecW Try.prog (12 : Nat)
      [Value.slice a_2 n c,
      Value.agg
      #[Value.int IntKind.i64 o.kd, Value.string o.ky, Value.string o.ot, Value.int IntKind.i64 o.n, Value.int IntKind.i64 o.lo,
      Value.int IntKind.i64 o.hi]]
      { π := m'.π, sz := n_1, uf := m'.uf : M } S' fun (v : Value) (m' : M) =>
      ∃ (a_4 : Option Addr),
      ∃ (n_2 : Nat),
      ∃ (c_1 : Nat),
      ∃ (n_3 : Int),
      ∃ (n_4 : Int),
      ∃ (n_5 : Int),
      ∃ (n_6 : Int),
      v =
      Value.tuple
      #[Value.slice a_4 n_2 c_1,
      Value.agg #[Value.int IntKind.i64 n_3, Value.int IntKind.i64 n_4, Value.int IntKind.i64 n_5, Value.int IntKind.i64 n_6]] ∧
      ∃ (S' : Nat → Prop),
      (∀ (b : Nat), S' b → m'.uf b ∧ (N ≤ b ∨ False)) ∧
      ∀ (n_7 : Nat),
      m'.sz ≤ n_7 →
      SpecW Try.prog (13 : Nat)
      [Value.slice a l.length cp,
      Value.agg
      #[Value.int IntKind.i64 o.kd, Value.string o.ky, Value.string o.ot, Value.int IntKind.i64 o.n,
      Value.int IntKind.i64 o.lo, Value.int IntKind.i64 o.hi]]
      { π := m'.π, sz := n_7, uf := m'.uf : M } S' fun (v : Value) (m' : M) =>
      ∃ (a_6 : Option Addr),
      ∃ (n_8 : Nat),
      ∃ (c_2 : Nat),
      ∃ (n_9 : Int),
      ∃ (n_10 : Int),
      ∃ (n_11 : Int),
      ∃ (n_12 : Int),
      v =
      Value.tuple
      #[Value.slice a_6 n_8 c_2,
      Value.agg
      #[Value.int IntKind.i64 n_9, Value.int IntKind.i64 n_10, Value.int IntKind.i64 n_11,
      Value.int IntKind.i64 n_12]] ∧
      ∃ (b : Bool),
      QSpec Try.prog (14 : Nat) [] m' (Value.bool b) ∧
      ifB b
      (∃ (n_13 : Int),
      QSpec Try.prog (15 : Nat) [Value.slice a_2 n c] m' (Value.int IntKind.i64 n_13) ∧
      ifB (n_13 == (0 : Int))
      (∃ (b : Bool),
      QSpec Try.prog (16 : Nat) [Value.slice a_4 n_2 c_1, Value.slice a_6 n_8 c_2] m'
      (Value.bool b) ∧
      ifB b
      (ifB (n_3 == n_9 && (n_4 == n_10 && (n_5 == n_11 && (n_6 == n_12 && true))))
      (∃ (b : Bool),
      QSpec Try.prog (17 : Nat)
      [Value.slice a_2 n c, Value.slice a l.length cp,
      Value.agg
      #[Value.string { data := #[(55 : UInt8), (49 : UInt8)] : ByteArray },
      Value.int IntKind.i64 (0 : Int), Value.int IntKind.i64 (0 : Int),
      Value.int IntKind.i64 (0 : Int)]]
      m' (Value.bool b) ∧
      Done (Value.bool b = Value.bool true))
      (Done (Value.bool false = Value.bool true)))
      (Done (Value.bool false = Value.bool true)))
      (Done (Value.bool false = Value.bool true)))
      (Done (Value.bool false = Value.bool true)))) (by kernel_rfl) ?_
  have hd := do_len l o
  have R : Rs { m with sz := N } [(a, tts l)] := ⟨h.sz hN, trivial⟩
  refine ⟨rfl, _, noS, fun N1 hN1 => (tt_own a cp l mkT (by omega) _ ((R.sz hN1).1)).monoW fun v1 m1 ag1 q1 => ?_⟩
  obtain ⟨b1, e1, r1⟩ := q1.row
  refine ⟨_, _, _, e1, ?_⟩
  have R1 := Rs.cons r1 (Rs.step R hN1 ag1)
  refine ⟨_, rtright_q _ _ l (by omega) _ (R1.2.1), ?_⟩
  cases ht : totB none l
  all_goals first | refine ifB_true ?_ | refine ifB_false ?_
  all_goals
    refine ⟨_, noS, fun N2 hN2 => (wdo_s _ _ l o (by omega) hl ho _ ((R1.sz hN2).1.take)).monoW fun v2 m2 ag2 q2 => ?_⟩
    obtain ⟨x2, y2, e2, r2⟩ := q2
    refine ⟨_, _, _, _, _, _, _, e2, ?_⟩
    have R2 := Rs.cons r2 (Rs.step R1 hN2 ag2)
    refine ⟨_, noS, fun N3 hN3 => (rdo_s _ _ l o (by omega) hl ho _ ((R2.sz hN3).2.2.1)).monoW fun v3 m3 ag3 q3 => ?_⟩
    obtain ⟨x3, y3, e3, r3⟩ := q3
    refine ⟨_, _, _, _, _, _, _, e3, ?_⟩
    have R3 := Rs.cons r3 (Rs.step R2 hN3 ag3)
    refine ⟨_, wawake_q _, ifB_true ⟨_, wcheck_q _ _ l (by omega) _ (R3.2.2.1.take), ?_⟩⟩
    rw [ht]
    refine ifB_true ⟨_, tt_plain _ _ _ _ _ _ (by omega) _ (R3.2.1) (R3.1), ?_⟩
    rw [decide_eq_true (rfl : (doT l o).1 = (doT l o).1)]
    simp only [beq_self_eq_true, Bool.and_self]
    exact ifB_true (ifB_true ⟨_, tt_keptr b1 l a cp mkT (by omega) _ (R3.2.2.1) (R3.2.2.2.1), ⟨rfl⟩⟩)

end Go.Proofs.Ytbhlhnkjmncloaa
set_option linter.unusedVariables false
set_option linter.unusedSimpArgs false
namespace Go.Proofs.Ytbhlhnkjmncloaa
open Go.Vc Go.RowKit
set_option maxRecDepth 100000

/-- one number stands ahead of another: by f, and where f tells nothing, by itself -/
def lexN (f : Int → Int) (x y : Int) : Prop := f x < f y ∨ (f x = f y ∧ x < y)

theorem lexN_trans {f : Int → Int} {x y z : Int} (h1 : lexN f x y) (h2 : lexN f y z) : lexN f x z := by
  unfold lexN at *; omega

theorem lexN_irr {f : Int → Int} {x : Int} : ¬ lexN f x x := by unfold lexN; omega

/-- in order from a up to b -/
def Srt (f : Int → Int) (a b : Nat) (g : Nat → Int) : Prop := ∀ i j, a ≤ i → i < j → j < b → lexN f (g i) (g j)

/-- where f tells nothing, the smaller number stands ahead -/
def Stb (f : Int → Int) (a b : Nat) (g : Nat → Int) : Prop := ∀ i j, a ≤ i → i < j → j < b → f (g i) = f (g j) → g i < g j

/-- from a up to b there is the same, in what order whatever; elsewhere all stays -/
structure Mem (a b : Nat) (g g' : Nat → Int) : Prop where
  out : ∀ j, ¬ (a ≤ j ∧ j < b) → g' j = g j
  into : ∀ i, a ≤ i → i < b → ∃ j, a ≤ j ∧ j < b ∧ g' i = g j
  back : ∀ j, a ≤ j → j < b → ∃ i, a ≤ i ∧ i < b ∧ g' i = g j

section
variable {f : Int → Int} {a b c d i j s m e : Nat} {g g' g'' : Nat → Int}

theorem Mem.refl : Mem a b g g := ⟨fun _ _ => rfl, fun i h1 h2 => ⟨i, h1, h2, rfl⟩, fun i h1 h2 => ⟨i, h1, h2, rfl⟩⟩

theorem Mem.trans (h : Mem a b g g') (h2 : Mem a b g' g'') : Mem a b g g'' := by
  refine ⟨fun j hj => by rw [h2.out j hj, h.out j hj], fun i h3 h4 => ?_, fun j h3 h4 => ?_⟩
  · obtain ⟨j, h5, h6, h7⟩ := h2.into i h3 h4
    obtain ⟨k, h8, h9, h10⟩ := h.into j h5 h6
    exact ⟨k, h8, h9, by rw [h7, h10]⟩
  · obtain ⟨i, h5, h6, h7⟩ := h.back j h3 h4
    obtain ⟨k, h8, h9, h10⟩ := h2.back i h5 h6
    exact ⟨k, h8, h9, by rw [h10, h7]⟩

theorem Mem.wide (h : Mem a b g g') (h1 : c ≤ a) (h2 : b ≤ d) : Mem c d g g' := by
  refine ⟨fun j hj => h.out j (by omega), fun i h3 h4 => ?_, fun j h3 h4 => ?_⟩
  · by_cases hi : a ≤ i ∧ i < b
    · obtain ⟨j, h5, h6, h7⟩ := h.into i hi.1 hi.2
      exact ⟨j, by omega, by omega, h7⟩
    · exact ⟨i, h3, h4, h.out i hi⟩
  · by_cases hi : a ≤ j ∧ j < b
    · obtain ⟨i, h5, h6, h7⟩ := h.back j hi.1 hi.2
      exact ⟨i, by omega, by omega, h7⟩
    · exact ⟨j, h3, h4, h.out j hi⟩

theorem Srt.stb (h : Srt f a b g) : Stb f a b g := fun i j h1 h2 h3 h4 => by
  have := h i j h1 h2 h3
  unfold lexN at this; omega

theorem Srt.sub (h : Srt f a b g) (h1 : a ≤ c) (h2 : d ≤ b) : Srt f c d g := fun i j h3 h4 h5 => h i j (by omega) h4 (by omega)

theorem Stb.sub (h : Stb f a b g) (h1 : a ≤ c) (h2 : d ≤ b) : Stb f c d g := fun i j h3 h4 h5 => h i j (by omega) h4 (by omega)

theorem Stb.less (h : Stb f a b g) (h1 : a ≤ i) (h2 : i < j) (h3 : j < b) (h4 : f (g j) < f (g i)) : lexN f (g j) (g i) := .inl h4

theorem Stb.more (h : Stb f a b g) (h1 : a ≤ i) (h2 : i < j) (h3 : j < b) (h4 : ¬ f (g j) < f (g i)) : lexN f (g i) (g j) := by
  have := h i j h1 h2 h3
  unfold lexN; omega

theorem Srt.congr (h : Srt f a b g) (e : ∀ j, a ≤ j → j < b → g' j = g j) : Srt f a b g' := fun i j h1 h2 h3 => by
  rw [e i h1 (by omega), e j (by omega) h3]; exact h i j h1 h2 h3

theorem Stb.congr (h : Stb f a b g) (e : ∀ j, a ≤ j → j < b → g' j = g j) : Stb f a b g' := fun i j h1 h2 h3 => by
  rw [e i h1 (by omega), e j (by omega) h3]; exact h i j h1 h2 h3

theorem Stb.mem (h : Stb f c d g) (hm : Mem a b g g') (hs : Srt f a b g') (h1 : c ≤ a) (h2 : b ≤ d) : Stb f c d g' := by
  intro i j h3 h4 h5 h6
  by_cases hi : a ≤ i ∧ i < b
  · by_cases hj : a ≤ j ∧ j < b
    · exact hs.stb i j hi.1 h4 hj.2 h6
    · obtain ⟨k, h7, h8, h9⟩ := hm.into i hi.1 hi.2
      rw [hm.out j hj] at h6 ⊢
      rw [h9] at h6 ⊢
      exact h k j (by omega) (by omega) h5 h6
  · rw [hm.out i hi] at h6 ⊢
    by_cases hj : a ≤ j ∧ j < b
    · obtain ⟨k, h7, h8, h9⟩ := hm.into j hj.1 hj.2
      rw [h9] at h6 ⊢
      exact h i k h3 (by omega) (by omega) h6
    · rw [hm.out j hj] at h6 ⊢
      exact h i j h3 h4 h5 h6

theorem Srt.mem (h : Srt f c d g) (hm : Mem a b g g') (h1 : d ≤ a ∨ b ≤ c) : Srt f c d g' := h.congr fun j h2 h3 => hm.out j (by omega)
end

def upd (g : Nat → Int) (k : Nat) (v : Int) : Nat → Int := fun j => if j = k then v else g j

def swpF (x y k : Nat) (g : Nat → Int) : Nat → Int := fun j => if x ≤ j ∧ j < x + k then g (j - x + y) else if y ≤ j ∧ j < y + k then g (j - y + x) else g j

def rotF (a m b : Nat) (g : Nat → Int) : Nat → Int := fun j => if a ≤ j ∧ j < a + (b - m) then g (j + (m - a)) else if a + (b - m) ≤ j ∧ j < b then g (j - (b - m)) else g j

section
variable {f : Int → Int} {a b c d i j s m e : Nat} {g g' g'' : Nat → Int}

theorem rotF_lo (h1 : a ≤ j) (h2 : j < a + (b - m)) : rotF a m b g j = g (j + (m - a)) := by unfold rotF; rw [if_pos ⟨h1, h2⟩]
theorem rotF_hi (h1 : a + (b - m) ≤ j) (h2 : j < b) : rotF a m b g j = g (j - (b - m)) := by unfold rotF; rw [if_neg (by omega), if_pos ⟨h1, h2⟩]
theorem rotF_out (h1 : j < a ∨ b ≤ j) (hm : a ≤ m) (hm2 : m ≤ b) : rotF a m b g j = g j := by unfold rotF; rw [if_neg (by omega), if_neg (by omega)]

theorem rotF_mem (h1 : a ≤ m) (h2 : m ≤ b) : Mem a b g (rotF a m b g) := by
  refine ⟨fun j hj => rotF_out (by omega) h1 h2, fun i h3 h4 => ?_, fun j h3 h4 => ?_⟩
  · by_cases h : i < a + (b - m)
    · exact ⟨_, by omega, by omega, rotF_lo h3 h⟩
    · exact ⟨_, by omega, by omega, rotF_hi (by omega) h4⟩
  · by_cases h : j < m
    · exact ⟨j + (b - m), by omega, by omega, by rw [rotF_hi (by omega) (by omega)]; congr 1; omega⟩
    · exact ⟨j - (m - a), by omega, by omega, by rw [rotF_lo (by omega) (by omega)]; congr 1; omega⟩

/-- four parts that each are in order: the two in the midst are turned -/
theorem Srt.rot (h1 : a ≤ s) (h2 : s ≤ m) (h3 : m ≤ e) (h4 : e ≤ b) (hl : Srt f a m g) (hr : Srt f m b g) (hvu : ∀ p q, s ≤ p → p < m → m ≤ q → q < e → lexN f (g q) (g p)) :
    Srt f a (s + (e - m)) (rotF s m e g) → Srt f (s + (e - m)) b (rotF s m e g) → (∀ p q, a ≤ p → p < s → e ≤ q → q < b → lexN f (g p) (g q)) → Srt f a b (rotF s m e g) := by
  intro hA hB hx i j h5 h6 h7
  by_cases hj : j < s + (e - m)
  · exact hA i j h5 h6 hj
  by_cases hi : s + (e - m) ≤ i
  · exact hB i j hi h6 h7
  by_cases hi2 : i < s
  · rw [rotF_out (.inl hi2) h2 h3]
    by_cases hj2 : j < e
    · rw [rotF_hi (by omega) hj2]; exact hl _ _ h5 (by omega) (by omega)
    · rw [rotF_out (.inr (by omega)) h2 h3]; exact hx _ _ h5 hi2 (by omega) h7
  · rw [rotF_lo (by omega) (by omega)]
    by_cases hj2 : j < e
    · rw [rotF_hi (by omega) hj2]; exact hvu _ _ (by omega) (by omega) (by omega) (by omega)
    · rw [rotF_out (.inr (by omega)) h2 h3]; exact hr _ _ (by omega) (by omega) h7

theorem Srt.rotA (h1 : a ≤ s) (h2 : s ≤ m) (h3 : m ≤ e) (h4 : e ≤ b) (hl : Srt f a m g) (hr : Srt f m b g) (hav : ∀ p q, a ≤ p → p < s → m ≤ q → q < e → lexN f (g p) (g q)) : Srt f a (s + (e - m)) (rotF s m e g) := by
  intro i j h5 h6 h7
  by_cases hj : j < s
  · rw [rotF_out (.inl hj) h2 h3, rotF_out (.inl (by omega)) h2 h3]; exact hl _ _ h5 h6 (by omega)
  · rw [rotF_lo (j := j) (by omega) h7]
    by_cases hi : i < s
    · rw [rotF_out (.inl hi) h2 h3]; exact hav _ _ h5 hi (by omega) (by omega)
    · rw [rotF_lo (by omega) (by omega)]; exact hr _ _ (by omega) (by omega) (by omega)

theorem Srt.rotB (h1 : a ≤ s) (h2 : s ≤ m) (h3 : m ≤ e) (h4 : e ≤ b) (hl : Srt f a m g) (hr : Srt f m b g) (hub : ∀ p q, s ≤ p → p < m → e ≤ q → q < b → lexN f (g p) (g q)) : Srt f (s + (e - m)) b (rotF s m e g) := by
  intro i j h5 h6 h7
  by_cases hj : j < e
  · rw [rotF_hi (by omega) hj, rotF_hi (by omega) (by omega)]; exact hl _ _ (by omega) (by omega) (by omega)
  · rw [rotF_out (j := j) (.inr (by omega)) h2 h3]
    by_cases hi : i < e
    · rw [rotF_hi (by omega) hi]; exact hub _ _ (by omega) (by omega) (by omega) h7
    · rw [rotF_out (.inr (by omega)) h2 h3]; exact hr _ _ (by omega) (by omega) h7

/-- one that comes from behind, brought to its place -/
theorem Srt.insBack (h1 : a ≤ j) (h2 : j ≤ m) (hl : Srt f a m g) (hj : ∀ p, j ≤ p → p < m → lexN f (g m) (g p)) (hj2 : ∀ p, a ≤ p → p < j → lexN f (g p) (g m)) : Srt f a (m + 1) (rotF j m (m + 1) g) := by
  have hr : Srt f m (m + 1) g := fun i j h1 h2 h3 => by omega
  have eq : ∀ q, m ≤ q → q < m + 1 → q = m := fun q h1 h2 => by omega
  refine Srt.rot h1 h2 (by omega) (Nat.le_refl _) hl hr (fun p q h3 h4 h5 h6 => ?_) (Srt.rotA h1 h2 (by omega) (Nat.le_refl _) hl hr fun p q h3 h4 h5 h6 => ?_) (Srt.rotB h1 h2 (by omega) (Nat.le_refl _) hl hr fun p q h3 h4 h5 h6 => by omega) (fun p q h3 h4 h5 h6 => by omega)
  · rw [eq q h5 h6]; exact hj p h3 h4
  · rw [eq q h5 h6]; exact hj2 p h3 h4

/-- one that stands ahead, brought to its place -/
theorem Srt.insFwd (h1 : a + 1 ≤ i) (h2 : i ≤ b) (hr : Srt f (a + 1) b g) (hi : ∀ p, a + 1 ≤ p → p < i → lexN f (g p) (g a)) (hi2 : ∀ p, i ≤ p → p < b → lexN f (g a) (g p)) : Srt f a b (rotF a (a + 1) i g) := by
  have hl : Srt f a (a + 1) g := fun i j h1 h2 h3 => by omega
  have eq : ∀ q, a ≤ q → q < a + 1 → q = a := fun q h1 h2 => by omega
  refine Srt.rot (Nat.le_refl _) (by omega) h1 h2 hl hr (fun p q h3 h4 h5 h6 => ?_) (Srt.rotA (Nat.le_refl _) (by omega) h1 h2 hl hr fun p q h3 h4 h5 h6 => by omega) (Srt.rotB (Nat.le_refl _) (by omega) h1 h2 hl hr fun p q h3 h4 h5 h6 => ?_) (fun p q h3 h4 h5 h6 => by omega)
  · rw [eq p h3 h4]; exact hi q h5 h6
  · rw [eq p h3 h4]; exact hi2 q h5 h6

theorem rotF_id1 (h : a ≤ m) : rotF a m m g = g := by
  funext j
  by_cases h1 : a ≤ j ∧ j < m
  · rw [rotF_hi (by omega) h1.2]; congr 1; omega
  · exact rotF_out (by omega) h (Nat.le_refl _)

theorem rotF_id2 (h : a ≤ b) : rotF a a b g = g := by
  funext j
  by_cases h1 : a ≤ j ∧ j < b
  · rw [rotF_lo h1.1 (by omega)]; congr 1; omega
  · exact rotF_out (by omega) (Nat.le_refl _) h

/-- two halves, each put in order, all of the one ahead of all of the other -/
theorem Srt.halves (h1 : a ≤ c) (h2 : c ≤ b) (hx : ∀ p q, a ≤ p → p < c → c ≤ q → q < b → lexN f (g p) (g q)) (hm : Mem a c g g') (hm2 : Mem c b g' g'') (hs : Srt f a c g') (hs2 : Srt f c b g'') : Srt f a b g'' := by
  intro i j h3 h4 h5
  by_cases hj : j < c
  · rw [hm2.out i (by omega), hm2.out j (by omega)]; exact hs i j h3 h4 hj
  by_cases hi : c ≤ i
  · exact hs2 i j hi h4 h5
  obtain ⟨p, h6, h7, h8⟩ := hm.into i h3 (by omega)
  obtain ⟨q, h9, h10, h11⟩ := hm2.into j (by omega) h5
  rw [hm2.out i (by omega), h8, h11, hm.out q (by omega)]
  exact hx p q h6 h7 h9 h10

theorem swp_rot (h1 : i ≤ m) (h2 : j < i) : rotF (m - (i - j)) m (m + j) (swpF (m - i) m j g) = rotF (m - i) m (m + j) g := by
  funext p
  by_cases c1 : p < m - i ∨ m + j ≤ p
  · rw [rotF_out (by omega) (by omega) (by omega), rotF_out c1 (by omega) (by omega)]; unfold swpF; rw [if_neg (by omega), if_neg (by omega)]
  by_cases c2 : p < m - i + j
  · rw [rotF_out (by omega) (by omega) (by omega), rotF_lo (by omega) (by omega)]; unfold swpF; rw [if_pos (by omega)]; congr 1; omega
  rw [rotF_hi (a := m - i) (by omega) (by omega)]
  by_cases c3 : p < m - (i - j) + j
  · rw [rotF_lo (by omega) (by omega)]; unfold swpF; rw [if_neg (by omega), if_pos (by omega)]; congr 1; omega
  · rw [rotF_hi (by omega) (by omega)]; unfold swpF; rw [if_neg (by omega), if_neg (by omega)]

theorem swp_rot2 (h1 : i ≤ m) (h2 : i < j) : rotF (m - i) m (m + (j - i)) (swpF (m - i) (m + j - i) i g) = rotF (m - i) m (m + j) g := by
  funext p
  by_cases c1 : p < m - i ∨ m + j ≤ p
  · rw [rotF_out (by omega) (by omega) (by omega), rotF_out c1 (by omega) (by omega)]; unfold swpF; rw [if_neg (by omega), if_neg (by omega)]
  by_cases c2 : m + (j - i) ≤ p
  · rw [rotF_out (by omega) (by omega) (by omega), rotF_hi (by omega) (by omega)]; unfold swpF; rw [if_neg (by omega), if_pos (by omega)]; congr 1; omega
  by_cases c4 : p < m - i + (j - i)
  · rw [rotF_lo (b := m + (j - i)) (by omega) (by omega), rotF_lo (by omega) (by omega)]; unfold swpF; rw [if_neg (by omega), if_neg (by omega)]
  · rw [rotF_hi (b := m + (j - i)) (by omega) (by omega)]
    by_cases c3 : p < m - i + j
    · rw [rotF_lo (by omega) (by omega)]; unfold swpF; rw [if_pos (by omega)]; congr 1; omega
    · omega

theorem swp_rot3 (h1 : i ≤ m) : swpF (m - i) m i g = rotF (m - i) m (m + i) g := by
  funext p
  by_cases c1 : p < m - i ∨ m + i ≤ p
  · rw [rotF_out c1 (by omega) (by omega)]; unfold swpF; rw [if_neg (by omega), if_neg (by omega)]
  by_cases c2 : p < m
  · rw [rotF_lo (by omega) (by omega)]; unfold swpF; rw [if_pos (by omega)]; congr 1; omega
  · rw [rotF_hi (by omega) (by omega)]; unfold swpF; rw [if_neg (by omega), if_pos (by omega)]; congr 1; omega

theorem swp_lo {x y k j : Nat} (h : x ≤ j ∧ j < x + k) : swpF x y k g j = g (j - x + y) := by unfold swpF; rw [if_pos h]
theorem swp_hi {x y k j : Nat} (h : y ≤ j ∧ j < y + k) (hx : x + k ≤ y) : swpF x y k g j = g (j - y + x) := by unfold swpF; rw [if_neg (by omega), if_pos h]
theorem swp_out {x y k j : Nat} (h : ¬ (x ≤ j ∧ j < x + k)) (h2 : ¬ (y ≤ j ∧ j < y + k)) : swpF x y k g j = g j := by unfold swpF; rw [if_neg h, if_neg h2]

theorem swp_step {x y i k : Nat} (hxy : x + k ≤ y) (hi : i < k) (j : Nat) : upd (upd (swpF x y i g) (x + i) (swpF x y i g (y + i))) (y + i) (swpF x y i g (x + i)) j = swpF x y (i + 1) g j := by
  unfold upd
  by_cases e1 : j = y + i
  · rw [if_pos e1, swp_hi (k := i + 1) (by omega) (by omega), swp_out (by omega) (by omega)]; congr 1; omega
  rw [if_neg e1]
  by_cases e2 : j = x + i
  · rw [if_pos e2, swp_lo (k := i + 1) (by omega), swp_out (by omega) (by omega)]; congr 1; omega
  rw [if_neg e2]
  by_cases e3 : x ≤ j ∧ j < x + i
  · rw [swp_lo e3, swp_lo (k := i + 1) (by omega)]
  by_cases e4 : y ≤ j ∧ j < y + i
  · rw [swp_hi e4 (by omega), swp_hi (k := i + 1) (by omega) (by omega)]
  · rw [swp_out e3 e4, swp_out (by omega) (by omega)]

theorem rot_back {i j : Nat} (h1 : 1 ≤ j) (h2 : j ≤ i) (p : Nat) : upd (upd (rotF j i (i + 1) g) j (g (j - 1))) (j - 1) (g i) p = rotF (j - 1) i (i + 1) g p := by
  unfold upd
  by_cases e1 : p = j - 1
  · rw [if_pos e1, rotF_lo (by omega) (by omega)]; congr 1; omega
  rw [if_neg e1]
  by_cases e2 : p = j
  · rw [if_pos e2, rotF_hi (by omega) (by omega)]; congr 1; omega
  rw [if_neg e2]
  by_cases e3 : j ≤ p ∧ p < i + 1
  · rw [rotF_hi (by omega) (by omega), rotF_hi (by omega) (by omega)]
  · rw [rotF_out (by omega) (by omega) (by omega), rotF_out (by omega) (by omega) (by omega)]

theorem rot_fwd {a k : Nat} (h1 : a ≤ k) (p : Nat) : upd (upd (rotF a (a + 1) (k + 1) g) k (g (k + 1))) (k + 1) (g a) p = rotF a (a + 1) (k + 2) g p := by
  unfold upd
  by_cases e1 : p = k + 1
  · rw [if_pos e1, rotF_hi (by omega) (by omega)]; congr 1; omega
  rw [if_neg e1]
  by_cases e2 : p = k
  · rw [if_pos e2, rotF_lo (by omega) (by omega)]; congr 1; omega
  rw [if_neg e2]
  by_cases e3 : a ≤ p ∧ p < k
  · rw [rotF_lo (by omega) (by omega), rotF_lo (by omega) (by omega)]
  · rw [rotF_out (by omega) (by omega) (by omega), rotF_out (by omega) (by omega) (by omega)]

/-- where the search of a merge looks -/
structure SymL (x y z mid L R : Nat) : Prop where
  xy : x < y
  yz : y < z
  half : mid = (x + z) / 2
  a : mid < y → L = mid + y - z ∧ R = mid
  b : y ≤ mid → L = x ∧ R = y

structure SymB (f : Int → Int) (y mid L R s r : Nat) (g : Nat → Int) : Prop where
  lo : L ≤ s
  le : s ≤ r
  hi : r ≤ R
  low : ∀ c, L ≤ c → c < s → lexN f (g c) (g (mid + y - 1 - c))
  high : ∀ c, r ≤ c → c < R → lexN f (g (mid + y - 1 - c)) (g c)

structure SymR (f : Int → Int) (x mid z s e : Nat) (g : Nat → Int) : Prop where
  xs : x ≤ s
  sm : s ≤ mid
  me : mid ≤ e
  ez : e ≤ z
  a : Srt f x s g
  b : Srt f s mid g
  c : Srt f mid e g
  d : Srt f e z g
  st1 : Stb f x mid g
  st2 : Stb f mid z g
  cross : ∀ p q, x ≤ p → p < mid → mid ≤ q → q < z → lexN f (g p) (g q)

theorem SymL.start {x y z mid L R : Nat} (h : SymL x y z mid L R) : SymB f y mid L R L R g := by
  obtain ⟨h1, h2, h3, h4, h5⟩ := h
  refine ⟨Nat.le_refl _, ?_, Nat.le_refl _, fun c h6 h7 => by omega, fun c h6 h7 => by omega⟩
  by_cases h : mid < y
  · have := h4 h; omega
  · have := h5 (by omega); omega

/-- the places that a merge compares -/
theorem SymL.at {x y z mid L R c : Nat} (h : SymL x y z mid L R) (h1 : L ≤ c) (h2 : c < R) : x ≤ c ∧ c < y ∧ y ≤ mid + y - 1 - c ∧ mid + y - 1 - c < z := by
  obtain ⟨h3, h4, h5, h6, h7⟩ := h
  by_cases h : mid < y
  · have := h6 h; omega
  · have := h7 (by omega); omega

theorem SymB.less {x y z mid L R s r c : Nat} (h : SymB f y mid L R s r g) (l : SymL x y z mid L R) (ha : Srt f x y g) (hb : Srt f y z g) (h1 : s ≤ c) (h2 : c < r) (hc : lexN f (g (mid + y - 1 - c)) (g c)) : SymB f y mid L R s c g := by
  refine ⟨h.lo, h1, by have := h.hi; omega, h.low, fun d h3 h4 => ?_⟩
  have h5 := h.lo
  by_cases e : d = c
  · rw [e]; exact hc
  have p1 := l.at (c := d) (by omega) h4
  have p2 := l.at (c := c) (by omega) (by omega)
  exact lexN_trans (hb (mid + y - 1 - d) (mid + y - 1 - c) p1.2.2.1 (by omega) p2.2.2.2) (lexN_trans hc (ha c d p2.1 (by omega) p1.2.1))

theorem SymB.more {x y z mid L R s r c : Nat} (h : SymB f y mid L R s r g) (l : SymL x y z mid L R) (ha : Srt f x y g) (hb : Srt f y z g) (h1 : s ≤ c) (h2 : c < r) (hc : lexN f (g c) (g (mid + y - 1 - c))) : SymB f y mid L R (c + 1) r g := by
  refine ⟨by have := h.lo; omega, h2, h.hi, fun d h3 h4 => ?_, h.high⟩
  have h5 := h.lo
  have h6 := h.hi
  by_cases e : d = c
  · rw [e]; exact hc
  have p1 := l.at (c := d) h3 (by omega)
  have p2 := l.at (c := c) (by omega) (by omega)
  exact lexN_trans (ha d c p1.1 (by omega) p2.2.1) (lexN_trans hc (hb (mid + y - 1 - c) (mid + y - 1 - d) p2.2.2.1 (by omega) p1.2.2.2))

theorem SymL.range {x y z mid L R s : Nat} (h : SymL x y z mid L R) (h1 : L ≤ s) (h2 : s ≤ R) : x ≤ s ∧ s ≤ y ∧ s ≤ mid ∧ y ≤ mid + y - s ∧ mid + y - s ≤ z := by
  obtain ⟨h3, h4, h5, h6, h7⟩ := h
  by_cases h : mid < y
  · have := h6 h; omega
  · have := h7 (by omega); omega

theorem SymB.done {x y z mid L R s : Nat} (h : SymB f y mid L R s s g) (l : SymL x y z mid L R) (hst : Stb f x z g) (ha : Srt f x y g) (hb : Srt f y z g) : SymR f x mid z s (mid + y - s) (rotF s y (mid + y - s) g) := by
  obtain ⟨g1, g2, g3, g4, g5⟩ := l.range h.lo h.hi
  have hL : s = L → x = s ∨ mid + y - s = z := fun e => by
    obtain ⟨h3, h4, h5, h6, h7⟩ := l
    by_cases h : mid < y
    · have := h6 h; omega
    · have := h7 (by omega); omega
  have hR : s = R → s = y ∨ mid + y - s = y := fun e => by
    obtain ⟨h3, h4, h5, h6, h7⟩ := l
    by_cases h : mid < y
    · have := h6 h; omega
    · have := h7 (by omega); omega
  have hlo := h.lo
  have hhi := h.hi
  have low := h.low
  have high := h.high
  clear h l
  generalize he : mid + y - s = e at *
  have em : s + (e - y) = mid := by omega
  have hvu : ∀ p q, s ≤ p → p < y → y ≤ q → q < e → lexN f (g q) (g p) := fun p q h1 h2 h3 h4 => by
    by_cases h5 : s = R
    · rcases hR h5 with h6 | h6 <;> omega
    · have hh := high s (Nat.le_refl _) (by omega)
      have q1 : q = mid + y - 1 - s ∨ lexN f (g q) (g (mid + y - 1 - s)) := by
        by_cases e1 : q = mid + y - 1 - s
        · exact .inl e1
        · exact .inr (hb q _ h3 (by omega) (by omega))
      have p1 : p = s ∨ lexN f (g s) (g p) := by
        by_cases e1 : p = s
        · exact .inl e1
        · exact .inr (ha s p g1 (by omega) h2)
      have h6 : lexN f (g q) (g s) := by
        rcases q1 with e1 | e1
        · rw [e1]; exact hh
        · exact lexN_trans e1 hh
      rcases p1 with e1 | e1
      · rw [e1]; exact h6
      · exact lexN_trans h6 e1
  have hab : ∀ p q, x ≤ p → p < s → e ≤ q → q < z → lexN f (g p) (g q) := fun p q h1 h2 h3 h4 => by
    by_cases h5 : s = L
    · rcases hL h5 with h6 | h6 <;> omega
    · have hh := low (s - 1) (by omega) (by omega)
      rw [show mid + y - 1 - (s - 1) = e by omega] at hh
      have h6 : lexN f (g p) (g e) := by
        by_cases e1 : p = s - 1
        · rw [e1]; exact hh
        · exact lexN_trans (ha p (s - 1) h1 (by omega) (by omega)) hh
      by_cases e1 : q = e
      · rw [e1]; exact h6
      · exact lexN_trans h6 (hb e q g4 (by omega) h4)
  refine ⟨g1, g3, by omega, g5, ?_, ?_, ?_, ?_, ?_, ?_, ?_⟩
  · exact (ha.sub (Nat.le_refl _) g2).congr fun j h1 h2 => rotF_out (.inl h2) g2 g4
  · intro i j h1 h2 h3
    rw [rotF_lo h1 (by omega), rotF_lo (by omega) (by omega)]; exact hb _ _ (by omega) (by omega) (by omega)
  · intro i j h1 h2 h3
    rw [rotF_hi (by omega) (by omega), rotF_hi (by omega) h3]; exact ha _ _ (by omega) (by omega) (by omega)
  · exact (hb.sub g4 (Nat.le_refl _)).congr fun j h1 h2 => rotF_out (.inr h1) g2 g4
  · intro i j h1 h2 h3
    by_cases c1 : i < s
    · rw [rotF_out (.inl c1) g2 g4]
      by_cases c2 : j < s
      · rw [rotF_out (.inl c2) g2 g4]; exact hst _ _ h1 h2 (by omega)
      · rw [rotF_lo (by omega) (by omega)]; exact hst _ _ h1 (by omega) (by omega)
    · rw [rotF_lo (by omega) (by omega), rotF_lo (by omega) (by omega)]; exact hst _ _ (by omega) (by omega) (by omega)
  · intro i j h1 h2 h3
    by_cases c1 : j < e
    · rw [rotF_hi (by omega) (by omega), rotF_hi (by omega) c1]; exact hst _ _ (by omega) (by omega) (by omega)
    · rw [rotF_out (j := j) (.inr (by omega)) g2 g4]
      by_cases c2 : i < e
      · rw [rotF_hi (by omega) c2]; exact hst _ _ (by omega) (by omega) h3
      · rw [rotF_out (.inr (by omega)) g2 g4]; exact hst _ _ (by omega) h2 h3
  · intro p q h1 h2 h3 h4
    by_cases c1 : p < s
    · rw [rotF_out (.inl c1) g2 g4]
      by_cases c2 : q < e
      · rw [rotF_hi (by omega) c2]; exact ha _ _ h1 (by omega) (by omega)
      · rw [rotF_out (.inr (by omega)) g2 g4]; exact hab _ _ h1 c1 (by omega) h4
    · rw [rotF_lo (by omega) (by omega)]
      by_cases c2 : q < e
      · rw [rotF_hi (by omega) c2]; exact hvu _ _ (by omega) (by omega) (by omega) (by omega)
      · rw [rotF_out (.inr (by omega)) g2 g4]; exact hb _ _ (by omega) (by omega) h4

/-- blocks, each in order -/
def Blk (f : Int → Int) (B n : Nat) (g : Nat → Int) : Prop := ∀ t, t * B < n → Srt f (t * B) (min (t * B + B) n) g

/-- blocks of B, put together by two and two up to a -/
structure Pair (f : Int → Int) (B n q a : Nat) (g : Nat → Int) : Prop where
  pos : a = q * (2 * B)
  le : a ≤ n
  past : ∀ t, t < q → Srt f (t * (2 * B)) (t * (2 * B) + 2 * B) g
  rest : ∀ t, 2 * q ≤ t → t * B < n → Srt f (t * B) (min (t * B + B) n) g

theorem Blk.start {B n : Nat} (h : Blk f B n g) : Pair f B n 0 0 g := ⟨by simp, Nat.zero_le _, fun t h => by omega, fun t _ h2 => h t h2⟩

theorem two_mul2 (q B : Nat) : 2 * q * B = q * (2 * B) := by rw [Nat.mul_comm 2 q, Nat.mul_assoc]

theorem Pair.half {B n q a b : Nat} (h : Pair f B n q a g) (h1 : a + B < n) (h2 : b = min (a + 2 * B) n) : Srt f a (a + B) g ∧ Srt f (a + B) b g := by
  have e := h.pos
  have e1 : 2 * q * B = a := by rw [two_mul2, e]
  have e2 : (2 * q + 1) * B = a + B := by rw [Nat.add_mul, e1, Nat.one_mul]
  have r1 := h.rest (2 * q) (Nat.le_refl _) (by rw [e1]; omega)
  have r2 := h.rest (2 * q + 1) (by omega) (by rw [e2]; exact h1)
  rw [e1, Nat.min_eq_left (by omega)] at r1
  rw [e2] at r2
  refine ⟨r1, ?_⟩
  rw [h2, show a + 2 * B = a + B + B by omega]
  exact r2

theorem Pair.step {B n q a : Nat} (h : Pair f B n q a g) (h1 : a + 2 * B ≤ n) (hm : Mem a (a + 2 * B) g g') (hs : Srt f a (a + 2 * B) g') : Pair f B n (q + 1) (a + 2 * B) g' := by
  have e := h.pos
  have e2 : (q + 1) * (2 * B) = a + 2 * B := by rw [Nat.add_mul, ← e, Nat.one_mul]
  refine ⟨e2.symm, h1, fun t ht => ?_, fun t ht h2 => ?_⟩
  · by_cases ht2 : t = q
    · rw [ht2, ← e]; exact hs
    · have : (t + 1) * (2 * B) ≤ q * (2 * B) := Nat.mul_le_mul_right _ (by omega)
      rw [Nat.add_mul, Nat.one_mul] at this
      exact (h.past t (by omega)).mem hm (.inl (by omega))
  · have : (2 * (q + 1)) * B ≤ t * B := Nat.mul_le_mul_right _ ht
    rw [two_mul2, e2] at this
    exact (h.rest t (by omega) h2).mem hm (.inr this)

theorem Pair.last {B n q a : Nat} (h : Pair f B n q a g) (h1 : n < a + 2 * B) (hm : Mem a n g g') (hs : Srt f a n g') : Blk f (2 * B) n g' := by
  intro t ht
  have e := h.pos
  rcases Nat.lt_trichotomy t q with h2 | h2 | h2
  · have : (t + 1) * (2 * B) ≤ q * (2 * B) := Nat.mul_le_mul_right _ (by omega)
    rw [Nat.add_mul, Nat.one_mul, ← e] at this
    have hle := h.le
    rw [Nat.min_eq_left (by omega)]
    exact (h.past t h2).mem hm (.inl this)
  · rw [h2, ← e, Nat.min_eq_right (by omega)]; exact hs
  · have : (q + 1) * (2 * B) ≤ t * (2 * B) := Nat.mul_le_mul_right _ (by omega)
    rw [Nat.add_mul, Nat.one_mul, ← e] at this
    omega

theorem Pair.last2 {B n q a : Nat} (h : Pair f B n q a g) (h1 : n < a + 2 * B) (h2 : n ≤ a + B) : Blk f (2 * B) n g := by
  refine h.last h1 .refl ?_
  by_cases h3 : a < n
  · have e1 : 2 * q * B = a := by rw [two_mul2, h.pos]
    have r1 := h.rest (2 * q) (Nat.le_refl _) (by rw [e1]; exact h3)
    rw [e1, Nat.min_eq_right h2] at r1
    exact r1
  · intro i j h4 h5 h6; omega

theorem Blk.twenty {n k : Nat} (h : ∀ t, t < k → Srt f (t * 20) (t * 20 + 20) g) (h1 : k * 20 ≤ n) (h2 : n < k * 20 + 20) (hs : Srt f (k * 20) n g) : Blk f 20 n g := by
  intro t ht
  rcases Nat.lt_trichotomy t k with h3 | h3 | h3
  · rw [Nat.min_eq_left (by omega)]; exact h t h3
  · rw [h3, Nat.min_eq_right (by omega)]; exact hs
  · omega

theorem Blk.whole {B n : Nat} (h : Blk f B n g) (hb : n ≤ B) : Srt f 0 n g := by
  by_cases h0 : n = 0
  · intro i j h1 h2 h3; omega
  · have := h 0 (by omega)
    rw [Nat.zero_mul, Nat.zero_add, Nat.min_eq_right hb] at this
    exact this
end

end Go.Proofs.Ytbhlhnkjmncloaa
set_option linter.unusedVariables false
set_option linter.unusedSimpArgs false
namespace Go.Proofs.Ytbhlhnkjmncloaa
open Go.Vc Go.RowKit Go.ChangeShapes Go.WideShapes Go.ChangeAt
set_option maxRecDepth 100000

structure Cl where
  cl : Int
  sq : Int
  nd : Int
  op_kd : Int
  op_ky : ByteArray
  op_ot : ByteArray
  op_n : Int
  op_lo : Int
  op_hi : Int
  ca : Int
  mo : Int
  aw : Int
  an_er : Int
  an_va : Int
  an_le : Int
  an_mo : Int

def Cl.wf (x : Cl) : Prop := In64 x.cl ∧ In64 x.sq ∧ In64 x.nd ∧ In64 x.op_kd ∧ x.op_ky.size ≤ 9223372036854775807 ∧ x.op_ot.size ≤ 9223372036854775807 ∧ In64 x.op_n ∧ In64 x.op_lo ∧ In64 x.op_hi ∧ In64 x.ca ∧ In64 x.mo ∧ In64 x.aw ∧ In64 x.an_er ∧ In64 x.an_va ∧ In64 x.an_le ∧ In64 x.an_mo

abbrev encCl (x : Cl) : List Value := [I x.cl, I x.sq, I x.nd, I x.op_kd, .string x.op_ky, .string x.op_ot, I x.op_n, I x.op_lo, I x.op_hi, I x.ca, I x.mo, I x.aw, I x.an_er, I x.an_va, I x.an_le, I x.an_mo]

abbrev clv (x : Cl) : Value := .agg #[I x.cl, I x.sq, I x.nd, I x.op_kd, .string x.op_ky, .string x.op_ot, I x.op_n, I x.op_lo, I x.op_hi, I x.ca, I x.mo, I x.aw, I x.an_er, I x.an_va, I x.an_le, I x.an_mo]

abbrev cls (l : List Cl) : List Value := l.flatMap encCl

theorem cl_k (x : Cl) : (encCl x).length = 16 := rfl

theorem cl_len (l : List Cl) : (cls l).length = l.length * 16 := flat_len cl_k l

theorem cl_at {m : M} {b o i : Nat} {l : List Cl} (h : CellsAt m b o (cls l)) (hi : i < l.length) : CellsAt m b (o + i * 16) (encCl l[i]) := CellsAt.elem cl_k l o i hi h

theorem cl_ext {a b : Cl} : a = b ↔ a.cl = b.cl ∧ a.sq = b.sq ∧ a.nd = b.nd ∧ a.op_kd = b.op_kd ∧ a.op_ky = b.op_ky ∧ a.op_ot = b.op_ot ∧ a.op_n = b.op_n ∧ a.op_lo = b.op_lo ∧ a.op_hi = b.op_hi ∧ a.ca = b.ca ∧ a.mo = b.mo ∧ a.aw = b.aw ∧ a.an_er = b.an_er ∧ a.an_va = b.an_va ∧ a.an_le = b.an_le ∧ a.an_mo = b.an_mo := by
  cases a; cases b; simp

instance : DecidableEq Cl := fun _ _ => decidable_of_iff' _ cl_ext

theorem cl_one (l : List Cl) : oneCells (cls l) = true := by
  rw [oneCells_iff]; intro v hv
  obtain ⟨w, -, hw⟩ := List.mem_flatMap.1 hv
  exact oneCells_iff.1 (rfl : oneCells (encCl w) = true) v hw

theorem cl_zr (k : Nat) : (zeroRow Try.prog 51 k).length = k * 16 := zrLen (by kernel_rfl) k

theorem cl_cells : Try.prog.cellsOf 51 = 16 := by kernel_rfl

theorem cl_rd {m : M} {N d : Nat} {cs : List Value} (h : Rd Try.prog m N (d + 3) 51 cs) (hN : N ≤ 9223372036854775807) : ∃ x : Cl, cs = encCl x ∧ x.wf := by
  have hc1 := (by kernel_rfl : Try.prog.cellsOf 9 = 1)
  have hc2 := (by kernel_rfl : Try.prog.cellsOf 3 = 1)
  have hc3 := (by kernel_rfl : Try.prog.cellsOf 30 = 1)
  have hc4 := (by kernel_rfl : Try.prog.cellsOf 24 = 6)
  have hc5 := (by kernel_rfl : Try.prog.cellsOf 33 = 4)
  simp only [Rd, Try.underlying51, Try.underlying9, Try.underlying3, Try.underlying30, Try.underlying24, Try.underlying33, fieldsD, cl_cells, hc1, hc2, hc3, hc4, hc5] at h
  obtain ⟨hl, ⟨k1, e1, w1⟩, ⟨k2, e2, w2⟩, ⟨k3, e3, w3⟩, ⟨-, ⟨k4, e4, w4⟩, ⟨k5, e5, w5⟩, ⟨k6, e6, w6⟩, ⟨k7, e7, w7⟩, ⟨k8, e8, w8⟩, ⟨k9, e9, w9⟩, -⟩, ⟨k10, e10, w10⟩, ⟨k11, e11, w11⟩, ⟨k12, e12, w12⟩, ⟨-, ⟨k13, e13, w13⟩, ⟨k14, e14, w14⟩, ⟨k15, e15, w15⟩, ⟨k16, e16, w16⟩, -⟩, -⟩ := h
  obtain ⟨c1, c2, c3, c4, c5, c6, c7, c8, c9, c10, c11, c12, c13, c14, c15, c16, rfl⟩ : ∃ c1 c2 c3 c4 c5 c6 c7 c8 c9 c10 c11 c12 c13 c14 c15 c16, cs = [c1, c2, c3, c4, c5, c6, c7, c8, c9, c10, c11, c12, c13, c14, c15, c16] := by
    match cs, hl with
    | [c1, c2, c3, c4, c5, c6, c7, c8, c9, c10, c11, c12, c13, c14, c15, c16], _ => exact ⟨_, _, _, _, _, _, _, _, _, _, _, _, _, _, _, _, rfl⟩
  simp at e1 e2 e3 e4 e5 e6 e7 e8 e9 e10 e11 e12 e13 e14 e15 e16
  subst e1 e2 e3 e4 e5 e6 e7 e8 e9 e10 e11 e12 e13 e14 e15 e16
  exact ⟨⟨k1, k2, k3, k4, k5, k6, k7, k8, k9, k10, k11, k12, k13, k14, k15, k16⟩, rfl, in64_of w1, in64_of w2, in64_of w3, in64_of w4, Nat.le_trans w5 hN, Nat.le_trans w6 hN, in64_of w7, in64_of w8, in64_of w9, in64_of w10, in64_of w11, in64_of w12, in64_of w13, in64_of w14, in64_of w15, in64_of w16⟩

theorem open_cl {H : Type} {enc : TypeId × Value → H} {W : World} {r : Reach} {b0 : Nat} {v : Value} {d : DataW H} {p : List MemPlace} {N : Nat} {Bd : DataW H → Prop} (B : Bound N Bd) (hN : N ≤ 9223372036854775807) (hv : Value.okWide Try.prog W r b0 51 v) (h : DataW.Trod enc Try.prog W 0 (fun _ => true) true 51 v d p) (hb : Bd d) : ∃ x : Cl, v = clv x ∧ x.wf := by
  obtain ⟨cs, rfl, hl⟩ := open_agg Try.underlying51 cl_cells hv
  obtain ⟨fuel, hf⟩ := h
  have hr := rd_of_trod B 3 fuel 51 _ _ hf hb
  simp only [Value.cells] at hr
  obtain ⟨x, he, hw⟩ := cl_rd (d := 0) hr hN
  exact ⟨x, by rw [show cs = encCl x from he], hw⟩

theorem open_cls {H : Type} {enc : TypeId × Value → H} {W : World} {r : Reach} {b0 : Nat} {v : Value} {d : DataW H} {p : List MemPlace} {N : Nat} {Bd : DataW H → Prop} (B : Bound N Bd) (hN : N ≤ 9223372036854775807) (hv : Value.okWide Try.prog W r b0 48 v) (h : DataW.Trod enc Try.prog W 0 (fun _ => true) true 48 v d p) (hb : Bd d) :
    ∃ (a : Option Addr) (c : Nat) (z : List Cl), v = .slice a z.length c ∧ z.length ≤ N ∧ (∀ x ∈ z, x.wf) ∧ (a = none → z = []) ∧ Row (M.all W) a (cls z) := by
  obtain ⟨a, len, cap, rfl⟩ := okWide_slice Try.underlying48 hv
  obtain ⟨fuel, hf⟩ := h
  have hr := rd_of_trod B 4 fuel 48 _ _ hf hb
  rw [Rd] at hr
  simp only [Try.underlying48] at hr
  obtain ⟨a', cap', rows, hcs, h1, h2, h3, h4, h5⟩ := hr
  obtain ⟨z, hz, he, hi⟩ := rows_list (α := Cl) (e := encCl) (p := Cl.wf) rows fun r hr => cl_rd (d := 0) (h4 r hr).2 hN
  simp [Value.cells] at hcs
  obtain ⟨rfl, rfl, rfl⟩ := hcs
  rw [he] at h5
  exact ⟨a, cap, z, by rw [hz], by omega, hi, fun e => List.eq_nil_of_length_eq_zero (by have := h3 e; omega), h5⟩

theorem cl_plain (a a2 : Option Addr) (c c2 : Nat) (l l2 : List Cl) (hn1 : l.length ≤ 9223372036854775807) (m : M) (h : Row m a (cls l)) (h2 : Row m a2 (cls l2)) :
    QSpec Try.prog 23 [.slice a l.length c, .slice a2 l2.length c2] m (.bool (decide (l = l2))) := by
  refine QSpec.of_vc Try.func23 (ann := fun n _ => { A := Nat, inv := fun k => k ≤ l.length ∧ l.take k = l2.take k, st := fun k => [(5, .val (I k)), (0, .val (.slice a l.length c)), (1, .val (.slice a2 l2.length c2))], own := fun _ => [], m := fun _ => { m with sz := n }, μ := fun k => (l.length - k) }) fun n hn => ?_
  refine vc_by (X :=
      true = true ∧
      ifB ((↑l.length : Int) != (↑l2.length : Int)) (Done (Value.bool false = Value.bool (decide (l = l2))))
      ((∃ (a_1 : Nat),
      (a_1 ≤ l.length ∧ List.take a_1 l = List.take a_1 l2) ∧
      { π := m.π, sz := n, uf := m.uf : M } = { π := m.π, sz := n, uf := m.uf : M } ∧
      ((SV.val (Value.int IntKind.i64 (0 : Int)) = SV.val (Value.int IntKind.i64 (↑a_1 : Int)) ∧ true = true) ∧
      (SV.val (Value.slice a l.length c) = SV.val (Value.slice a l.length c) ∧ true = true) ∧
      (SV.val (Value.slice a2 l2.length c2) = SV.val (Value.slice a2 l2.length c2) ∧ true = true) ∧ True) ∧
      True) ∧
      ∀ (a_1 : Nat),
      a_1 ≤ l.length ∧ List.take a_1 l = List.take a_1 l2 →
      ifB (decide ((↑a_1 : Int) < (↑l.length : Int)))
      (true = true ∧
      ∃ (b : Nat),
      ∃ (off : Nat),
      a = some { block := b, off := off : Addr } ∧
      ((0 : Int) ≤ (↑a_1 : Int) ∧ (↑a_1 : Int) < (↑l.length : Int)) ∧
      ∃ (n_1 : Int),
      ∃ (n_2 : Int),
      ∃ (n_3 : Int),
      ∃ (n_4 : Int),
      ∃ (s : ByteArray),
      ∃ (s_1 : ByteArray),
      ∃ (n_5 : Int),
      ∃ (n_6 : Int),
      ∃ (n_7 : Int),
      ∃ (n_8 : Int),
      ∃ (n_9 : Int),
      ∃ (n_10 : Int),
      ∃ (n_11 : Int),
      ∃ (n_12 : Int),
      ∃ (n_13 : Int),
      ∃ (n_14 : Int),
      CellsAt { π := m.π, sz := n, uf := m.uf : M } b (off + (↑a_1 : Int).toNat * (16 : Nat))
      [Value.int IntKind.i64 n_1, Value.int IntKind.i64 n_2, Value.int IntKind.i64 n_3, Value.int IntKind.i64 n_4,
      Value.string s, Value.string s_1, Value.int IntKind.i64 n_5, Value.int IntKind.i64 n_6, Value.int IntKind.i64 n_7,
      Value.int IntKind.i64 n_8, Value.int IntKind.i64 n_9, Value.int IntKind.i64 n_10, Value.int IntKind.i64 n_11,
      Value.int IntKind.i64 n_12, Value.int IntKind.i64 n_13, Value.int IntKind.i64 n_14] ∧
      ∃ (b : Nat),
      ∃ (off : Nat),
      a2 = some { block := b, off := off : Addr } ∧
      ((0 : Int) ≤ (↑a_1 : Int) ∧ (↑a_1 : Int) < (↑l2.length : Int)) ∧
      ∃ (n_15 : Int),
      ∃ (n_16 : Int),
      ∃ (n_17 : Int),
      ∃ (n_18 : Int),
      ∃ (s_2 : ByteArray),
      ∃ (s_3 : ByteArray),
      ∃ (n_19 : Int),
      ∃ (n_20 : Int),
      ∃ (n_21 : Int),
      ∃ (n_22 : Int),
      ∃ (n_23 : Int),
      ∃ (n_24 : Int),
      ∃ (n_25 : Int),
      ∃ (n_26 : Int),
      ∃ (n_27 : Int),
      ∃ (n_28 : Int),
      CellsAt { π := m.π, sz := n, uf := m.uf : M } b
      (off + (↑a_1 : Int).toNat * (16 : Nat))
      [Value.int IntKind.i64 n_15, Value.int IntKind.i64 n_16,
      Value.int IntKind.i64 n_17, Value.int IntKind.i64 n_18, Value.string s_2,
      Value.string s_3, Value.int IntKind.i64 n_19, Value.int IntKind.i64 n_20,
      Value.int IntKind.i64 n_21, Value.int IntKind.i64 n_22,
      Value.int IntKind.i64 n_23, Value.int IntKind.i64 n_24,
      Value.int IntKind.i64 n_25, Value.int IntKind.i64 n_26,
      Value.int IntKind.i64 n_27, Value.int IntKind.i64 n_28] ∧
      ifB
      (!(n_1 == n_15 &&
      (n_2 == n_16 &&
      (n_3 == n_17 &&
      (n_4 == n_18 &&
      (s.toList == s_2.toList &&
      (s_1.toList == s_3.toList &&
      (n_5 == n_19 && (n_6 == n_20 && (n_7 == n_21 && true))))) &&
      (n_8 == n_22 &&
      (n_9 == n_23 &&
      (n_10 == n_24 &&
      (n_11 == n_25 &&
      (n_12 == n_26 &&
      (n_13 == n_27 && (n_14 == n_28 && true))) &&
      true)))))))))
      (Done (Value.bool false = Value.bool (decide (l = l2))))
      (∃ (a' : Nat),
      ((a' ≤ l.length ∧ List.take a' l = List.take a' l2) ∧
      { π := m.π, sz := n, uf := m.uf : M } =
      { π := m.π, sz := n, uf := m.uf : M } ∧
      ((SV.val
      (Value.int IntKind.i64
      (IntKind.i64.wrap ((↑a_1 : Int) + (1 : Int)))) =
      SV.val (Value.int IntKind.i64 (↑a' : Int)) ∧
      true = true) ∧
      (SV.val (Value.slice a l.length c) =
      SV.val (Value.slice a l.length c) ∧
      true = true) ∧
      (SV.val (Value.slice a2 l2.length c2) =
      SV.val (Value.slice a2 l2.length c2) ∧
      true = true) ∧
      True) ∧
      True) ∧
      l.length - a' < l.length - a_1))
      (Done (Value.bool true = Value.bool (decide (l = l2)))))) (by kernel_rfl) ?_
  have h' := h.sz hn
  have h2' := h2.sz hn
  refine ⟨rfl, ifB_intro (fun hb => ⟨?_⟩) (fun hb => ⟨⟨0, by simp⟩, fun k hk => ifB_intro (fun hb2 => ?_) (fun hb2 => ⟨?_⟩)⟩)⟩
  · have : l ≠ l2 := fun e => by subst e; simp at hb
    simp [this]
  · have hlen : l.length = l2.length := by simp at hb; omega
    have hk2 : k < l.length := by simpa using hb2
    obtain ⟨b, o, rfl, hc⟩ := h'.cells (by rw [cl_len]; omega)
    obtain ⟨b2, o2, rfl, hc2⟩ := h2'.cells (by rw [cl_len]; omega)
    have w1 : IntKind.i64.wrap ((k : Int) + 1) = ((k + 1 : Nat) : Int) := by simp [IntKind.wrap_i64]; omega
    refine ⟨rfl, b, o, rfl, by omega, _, _, _, _, _, _, _, _, _, _, _, _, _, _, _, _, by simpa using cl_at hc hk2, b2, o2, rfl, by omega, _, _, _, _, _, _, _, _, _, _, _, _, _, _, _, _, by simpa using cl_at hc2 (by omega : k < l2.length), ifB_intro (fun h3 => ⟨?_⟩) (fun h3 => ⟨k + 1, ⟨⟨hk2, ?_⟩, by simp [w1]⟩, by omega⟩)⟩
    · have : l ≠ l2 := fun e => by subst e; simp at h3
      simp [this]
    · have h3 : l[k] = l2[k] := by rw [cl_ext]; simpa [bytes_beq, and_assoc] using h3
      rw [List.take_succ_eq_append_getElem hk2, List.take_succ_eq_append_getElem (by omega : k < l2.length), hk.2, h3]
  · have hlen : l.length = l2.length := by simp at hb; omega
    have : k = l.length := by simp at hb2; omega
    have e := hk.2
    rw [this, List.take_length, hlen, List.take_length] at e
    simp [e]

theorem cl_own (a : Option Addr) (c : Nat) (l : List Cl) (mk : Cl) (hn : l.length ≤ 977343669130) (m : M) (h : Row m a (cls l)) :
    Vc.Spec Try.prog 26 [.slice a l.length c, clv mk] m (Owned m (cls l) (encCl mk ++ encCl mk) l.length (l.length + 2)) := by
  refine Vc.Spec.of_vc Try.func26 (ann := noAnn) ?_
  refine vc_by (X :=
      true = true ∧
      ((0 : Int) ≤ (0 : Int) ∧
      (0 : Int) ≤ IntKind.i64.wrap ((↑l.length : Int) + (2 : Int)) ∧
      (↑(144 : Nat) : Int) * IntKind.i64.wrap ((↑l.length : Int) + (2 : Int)) ≤ (281474976710656 : Int) ∧
      IntKind.i64.wrap ((↑l.length : Int) + (2 : Int)) ≤ (9223372036854775807 : Int)) ∧
      ∀ (b : Nat),
      m.sz ≤ b →
      ∃ (old : List Value),
      ∃ (src : List Value),
      AppPre m.sz (fun (x : Nat) => False)
      (m.newBlock b
      (madeCells
      #[Value.int IntKind.i64 (0 : Int), Value.int IntKind.i64 (0 : Int), Value.int IntKind.i64 (0 : Int), Value.int IntKind.i64 (0 : Int),
      Value.string { data := #[] : ByteArray }, Value.string { data := #[] : ByteArray }, Value.int IntKind.i64 (0 : Int), Value.int IntKind.i64 (0 : Int),
      Value.int IntKind.i64 (0 : Int), Value.int IntKind.i64 (0 : Int), Value.int IntKind.i64 (0 : Int), Value.int IntKind.i64 (0 : Int),
      Value.int IntKind.i64 (0 : Int), Value.int IntKind.i64 (0 : Int), Value.int IntKind.i64 (0 : Int), Value.int IntKind.i64 (0 : Int)]
      ((IntKind.i64.wrap ((↑l.length : Int) + (2 : Int))).toNat * (16 : Nat))).toList)
      (16 : Nat) (144 : Nat) (some { block := b, off := (0 : Nat) : Addr }) (0 : Nat) (IntKind.i64.wrap ((↑l.length : Int) + (2 : Int))).toNat a l.length old src ∧
      ∀ (a' : Option Addr) (c' : Nat) (m' : M),
      AppPost Try.prog (51 : Nat)
      (m.newBlock b
      (madeCells
      #[Value.int IntKind.i64 (0 : Int), Value.int IntKind.i64 (0 : Int), Value.int IntKind.i64 (0 : Int), Value.int IntKind.i64 (0 : Int),
      Value.string { data := #[] : ByteArray }, Value.string { data := #[] : ByteArray }, Value.int IntKind.i64 (0 : Int), Value.int IntKind.i64 (0 : Int),
      Value.int IntKind.i64 (0 : Int), Value.int IntKind.i64 (0 : Int), Value.int IntKind.i64 (0 : Int), Value.int IntKind.i64 (0 : Int),
      Value.int IntKind.i64 (0 : Int), Value.int IntKind.i64 (0 : Int), Value.int IntKind.i64 (0 : Int), Value.int IntKind.i64 (0 : Int)]
      ((IntKind.i64.wrap ((↑l.length : Int) + (2 : Int))).toNat * (16 : Nat))).toList)
      (16 : Nat) (some { block := b, off := (0 : Nat) : Addr }) (0 : Nat) (IntKind.i64.wrap ((↑l.length : Int) + (2 : Int))).toNat l.length old src a' c' m' →
      true = true ∧
      ∀ (b : Nat),
      m'.sz ≤ b →
      ∃ (old : List Value),
      ∃ (src : List Value),
      AppPre m.sz (fun (x : Nat) => False)
      (m'.newBlock b
      [Value.int IntKind.i64 mk.cl, Value.int IntKind.i64 mk.sq, Value.int IntKind.i64 mk.nd, Value.int IntKind.i64 mk.op_kd, Value.string mk.op_ky,
      Value.string mk.op_ot, Value.int IntKind.i64 mk.op_n, Value.int IntKind.i64 mk.op_lo, Value.int IntKind.i64 mk.op_hi,
      Value.int IntKind.i64 mk.ca, Value.int IntKind.i64 mk.mo, Value.int IntKind.i64 mk.aw, Value.int IntKind.i64 mk.an_er,
      Value.int IntKind.i64 mk.an_va, Value.int IntKind.i64 mk.an_le, Value.int IntKind.i64 mk.an_mo, Value.int IntKind.i64 mk.cl,
      Value.int IntKind.i64 mk.sq, Value.int IntKind.i64 mk.nd, Value.int IntKind.i64 mk.op_kd, Value.string mk.op_ky, Value.string mk.op_ot,
      Value.int IntKind.i64 mk.op_n, Value.int IntKind.i64 mk.op_lo, Value.int IntKind.i64 mk.op_hi, Value.int IntKind.i64 mk.ca,
      Value.int IntKind.i64 mk.mo, Value.int IntKind.i64 mk.aw, Value.int IntKind.i64 mk.an_er, Value.int IntKind.i64 mk.an_va,
      Value.int IntKind.i64 mk.an_le, Value.int IntKind.i64 mk.an_mo])
      (16 : Nat) (144 : Nat) a' ((0 : Nat) + l.length) c' (some { block := b, off := (0 : Nat) : Addr }) (2 : Nat) old src ∧
      ∀ (a'_1 : Option Addr) (c'_1 : Nat) (m'_1 : M),
      AppPost Try.prog (51 : Nat)
      (m'.newBlock b
      [Value.int IntKind.i64 mk.cl, Value.int IntKind.i64 mk.sq, Value.int IntKind.i64 mk.nd, Value.int IntKind.i64 mk.op_kd, Value.string mk.op_ky,
      Value.string mk.op_ot, Value.int IntKind.i64 mk.op_n, Value.int IntKind.i64 mk.op_lo, Value.int IntKind.i64 mk.op_hi,
      Value.int IntKind.i64 mk.ca, Value.int IntKind.i64 mk.mo, Value.int IntKind.i64 mk.aw, Value.int IntKind.i64 mk.an_er,
      Value.int IntKind.i64 mk.an_va, Value.int IntKind.i64 mk.an_le, Value.int IntKind.i64 mk.an_mo, Value.int IntKind.i64 mk.cl,
      Value.int IntKind.i64 mk.sq, Value.int IntKind.i64 mk.nd, Value.int IntKind.i64 mk.op_kd, Value.string mk.op_ky, Value.string mk.op_ot,
      Value.int IntKind.i64 mk.op_n, Value.int IntKind.i64 mk.op_lo, Value.int IntKind.i64 mk.op_hi, Value.int IntKind.i64 mk.ca,
      Value.int IntKind.i64 mk.mo, Value.int IntKind.i64 mk.aw, Value.int IntKind.i64 mk.an_er, Value.int IntKind.i64 mk.an_va,
      Value.int IntKind.i64 mk.an_le, Value.int IntKind.i64 mk.an_mo])
      (16 : Nat) a' ((0 : Nat) + l.length) c' (2 : Nat) old src a'_1 c'_1 m'_1 →
      (true = true ∧ (0 : Int) ≤ (0 : Int) ∧ (0 : Int) ≤ (↑l.length : Int) ∧ (↑l.length : Int) ≤ (↑c'_1 : Int) ∧ True) ∧
      Done
      (Owned m (cls l)
      [Value.int IntKind.i64 mk.cl, Value.int IntKind.i64 mk.sq, Value.int IntKind.i64 mk.nd, Value.int IntKind.i64 mk.op_kd,
      Value.string mk.op_ky, Value.string mk.op_ot, Value.int IntKind.i64 mk.op_n, Value.int IntKind.i64 mk.op_lo,
      Value.int IntKind.i64 mk.op_hi, Value.int IntKind.i64 mk.ca, Value.int IntKind.i64 mk.mo, Value.int IntKind.i64 mk.aw,
      Value.int IntKind.i64 mk.an_er, Value.int IntKind.i64 mk.an_va, Value.int IntKind.i64 mk.an_le, Value.int IntKind.i64 mk.an_mo,
      Value.int IntKind.i64 mk.cl, Value.int IntKind.i64 mk.sq, Value.int IntKind.i64 mk.nd, Value.int IntKind.i64 mk.op_kd,
      Value.string mk.op_ky, Value.string mk.op_ot, Value.int IntKind.i64 mk.op_n, Value.int IntKind.i64 mk.op_lo,
      Value.int IntKind.i64 mk.op_hi, Value.int IntKind.i64 mk.ca, Value.int IntKind.i64 mk.mo, Value.int IntKind.i64 mk.aw,
      Value.int IntKind.i64 mk.an_er, Value.int IntKind.i64 mk.an_va, Value.int IntKind.i64 mk.an_le, Value.int IntKind.i64 mk.an_mo]
      l.length (l.length + (2 : Nat))
      (Value.slice (if (↑c'_1 : Int).toNat = (0 : Nat) then a'_1 else Option.map (fun (x : Addr) => x) a'_1) ((↑l.length : Int).toNat - (0 : Nat))
      ((↑c'_1 : Int).toNat - (0 : Nat)))
      m'_1)) (by kernel_rfl) ?_
  have e : IntKind.i64.wrap ((l.length : Int) + 2) = ((l.length + 2 : Nat) : Int) := by simp [IntKind.wrap_i64]; omega
  rw [e]
  simp only [Int.toNat_natCast]
  refine ⟨trivial, by omega, fun b hb => ?_⟩
  obtain ⟨p1, p2⟩ := owned_calc (P := Try.prog) (e := 51) (size := 16) (bytes := 144) (len := l.length) (m := m) (b := b) (z := (madeCells #[I 0, I 0, I 0, I 0, .string .empty, .string .empty, I 0, I 0, I 0, I 0, I 0, I 0, I 0, I 0, I 0, I 0] ((l.length + 2) * 16)).toList) (cs := cls l) (marks := encCl mk ++ encCl mk) hb h (cl_len l) (cl_one l) rfl rfl cl_zr (by simp [madeCells]) (by omega)
  refine ⟨[], cls l, p1, fun a' c' m' hp => ⟨trivial, fun b2 hb2 => ?_⟩⟩
  obtain ⟨p3, p4⟩ := p2 a' c' m' hp b2 hb2
  refine ⟨cls l, encCl mk ++ encCl mk, p3, fun a'' c'' m'' hp2 => ?_⟩
  obtain ⟨rfl, rfl, q3, q5, q4⟩ := p4 a'' c'' m'' hp2
  exact ⟨⟨trivial, by omega, by omega, by omega, trivial⟩, ⟨⟨b, by simp, hb, q3, q5, q4⟩⟩⟩

theorem cl_kept (b : Nat) (l : List Cl) (a2 : Option Addr) (c2 : Nat) (mk : Cl) (hn : l.length ≤ 977343669130) (m : M) (hb : b < m.sz) (h : CellsAt m b 0 (cls l ++ (encCl mk ++ encCl mk))) (h2 : Row m a2 (cls l)) :
    QSpec Try.prog 30 [.slice (some ⟨b, 0, none⟩) l.length (l.length + 2), .slice a2 l.length c2, clv mk] m (.bool true) := by
  refine QSpec.of_vc Try.func30 (ann := fun _ => noAnn) fun n hn => ?_
  refine vc_by (X :=
      true = true ∧
      ifB ((↑l.length : Int) != (↑l.length : Int)) (Done (Value.bool false = Value.bool true))
      (ifB (decide ((↑(l.length + (2 : Nat)) : Int) < IntKind.i64.wrap ((↑l.length : Int) + (2 : Int)))) (Done (Value.bool false = Value.bool true))
      ((true = true ∧
      (0 : Int) ≤ (0 : Int) ∧
      (0 : Int) ≤ IntKind.i64.wrap ((↑l.length : Int) + (2 : Int)) ∧ IntKind.i64.wrap ((↑l.length : Int) + (2 : Int)) ≤ (↑(l.length + (2 : Nat)) : Int) ∧ True) ∧
      true = true ∧
      ∃ (b_1 : Bool),
      QSpec Try.prog (23 : Nat) [Value.slice (some { block := b, off := (0 : Nat) : Addr }) l.length (l.length + (2 : Nat)), Value.slice a2 l.length c2]
      { π := m.π, sz := n, uf := m.uf : M } (Value.bool b_1) ∧
      ifB b_1
      (∃ (b_2 : Nat),
      ∃ (off : Nat),
      some { block := b, off := (0 : Nat) : Addr } = some { block := b_2, off := off : Addr } ∧
      ((0 : Int) ≤ (↑l.length : Int) ∧ (↑l.length : Int) < (↑((IntKind.i64.wrap ((↑l.length : Int) + (2 : Int))).toNat - (0 : Nat)) : Int)) ∧
      ∃ (n_1 : Int),
      ∃ (n_2 : Int),
      ∃ (n_3 : Int),
      ∃ (n_4 : Int),
      ∃ (s : ByteArray),
      ∃ (s_1 : ByteArray),
      ∃ (n_5 : Int),
      ∃ (n_6 : Int),
      ∃ (n_7 : Int),
      ∃ (n_8 : Int),
      ∃ (n_9 : Int),
      ∃ (n_10 : Int),
      ∃ (n_11 : Int),
      ∃ (n_12 : Int),
      ∃ (n_13 : Int),
      ∃ (n_14 : Int),
      CellsAt { π := m.π, sz := n, uf := m.uf : M } b_2 (off + (↑l.length : Int).toNat * (16 : Nat))
      [Value.int IntKind.i64 n_1, Value.int IntKind.i64 n_2, Value.int IntKind.i64 n_3, Value.int IntKind.i64 n_4,
      Value.string s, Value.string s_1, Value.int IntKind.i64 n_5, Value.int IntKind.i64 n_6, Value.int IntKind.i64 n_7,
      Value.int IntKind.i64 n_8, Value.int IntKind.i64 n_9, Value.int IntKind.i64 n_10, Value.int IntKind.i64 n_11,
      Value.int IntKind.i64 n_12, Value.int IntKind.i64 n_13, Value.int IntKind.i64 n_14] ∧
      ifB
      (n_1 == mk.cl &&
      (n_2 == mk.sq &&
      (n_3 == mk.nd &&
      (n_4 == mk.op_kd &&
      (s.toList == mk.op_ky.toList &&
      (s_1.toList == mk.op_ot.toList && (n_5 == mk.op_n && (n_6 == mk.op_lo && (n_7 == mk.op_hi && true))))) &&
      (n_8 == mk.ca &&
      (n_9 == mk.mo &&
      (n_10 == mk.aw &&
      (n_11 == mk.an_er && (n_12 == mk.an_va && (n_13 == mk.an_le && (n_14 == mk.an_mo && true))) &&
      true))))))))
      (∃ (b_3 : Nat),
      ∃ (off : Nat),
      some { block := b, off := (0 : Nat) : Addr } = some { block := b_3, off := off : Addr } ∧
      ((0 : Int) ≤ IntKind.i64.wrap ((↑l.length : Int) + (1 : Int)) ∧
      IntKind.i64.wrap ((↑l.length : Int) + (1 : Int)) <
      (↑((IntKind.i64.wrap ((↑l.length : Int) + (2 : Int))).toNat - (0 : Nat)) : Int)) ∧
      ∃ (n_15 : Int),
      ∃ (n_16 : Int),
      ∃ (n_17 : Int),
      ∃ (n_18 : Int),
      ∃ (s : ByteArray),
      ∃ (s_2 : ByteArray),
      ∃ (n_19 : Int),
      ∃ (n_20 : Int),
      ∃ (n_21 : Int),
      ∃ (n_22 : Int),
      ∃ (n_23 : Int),
      ∃ (n_24 : Int),
      ∃ (n_25 : Int),
      ∃ (n_26 : Int),
      ∃ (n_27 : Int),
      ∃ (n_28 : Int),
      CellsAt { π := m.π, sz := n, uf := m.uf : M } b_3
      (off +
      (IntKind.i64.wrap ((↑l.length : Int) + (1 : Int))).toNat * (16 : Nat))
      [Value.int IntKind.i64 n_15, Value.int IntKind.i64 n_16,
      Value.int IntKind.i64 n_17, Value.int IntKind.i64 n_18, Value.string s,
      Value.string s_2, Value.int IntKind.i64 n_19, Value.int IntKind.i64 n_20,
      Value.int IntKind.i64 n_21, Value.int IntKind.i64 n_22,
      Value.int IntKind.i64 n_23, Value.int IntKind.i64 n_24,
      Value.int IntKind.i64 n_25, Value.int IntKind.i64 n_26,
      Value.int IntKind.i64 n_27, Value.int IntKind.i64 n_28] ∧
      Done
      (Value.bool
      (n_15 == mk.cl &&
      (n_16 == mk.sq &&
      (n_17 == mk.nd &&
      (n_18 == mk.op_kd &&
      (s.toList == mk.op_ky.toList &&
      (s_2.toList == mk.op_ot.toList &&
      (n_19 == mk.op_n &&
      (n_20 == mk.op_lo && (n_21 == mk.op_hi && true))))) &&
      (n_22 == mk.ca &&
      (n_23 == mk.mo &&
      (n_24 == mk.aw &&
      (n_25 == mk.an_er &&
      (n_26 == mk.an_va &&
      (n_27 == mk.an_le && (n_28 == mk.an_mo && true))) &&
      true)))))))) =
      Value.bool true))
      (Done (Value.bool false = Value.bool true)))
      (Done (Value.bool false = Value.bool true))))) (by kernel_rfl) ?_
  have e : IntKind.i64.wrap ((l.length : Int) + 2) = ((l.length + 2 : Nat) : Int) := by simp [IntKind.wrap_i64]; omega
  have e1 : IntKind.i64.wrap ((l.length : Int) + 1) = ((l.length + 1 : Nat) : Int) := by simp [IntKind.wrap_i64]; omega
  rw [e, e1]
  simp only [Int.toNat_natCast]
  have hk := h.drop
  rw [cl_len] at hk
  have k1 : CellsAt m b (0 + l.length * 16) (encCl mk) := hk.take
  have k2 : CellsAt m b (0 + (l.length + 1) * 16) (encCl mk) := by
    have := hk.drop (cs := encCl mk)
    rw [show 0 + (l.length + 1) * 16 = 0 + l.length * 16 + (encCl mk).length by rw [cl_k]; omega]
    exact this
  have hq := cl_plain (some ⟨b, 0, none⟩) a2 (l.length + 2) c2 l l (by omega) { m with sz := n } (.at _ _ _ (Nat.lt_of_lt_of_le hb hn) ⟨h.take.out⟩) (h2.sz hn)
  refine ⟨trivial, ifB_intro (fun h3 => by simp at h3) (fun h3 => ifB_intro (fun h4 => by simp at h4) (fun h4 => ⟨⟨trivial, by omega, by omega, by omega, trivial⟩, trivial, _, hq, ?_⟩))⟩
  have et : decide (l = l) = true := by simp
  rw [et]
  refine ifB_true ⟨b, 0, rfl, by constructor <;> simp <;> omega, _, _, _, _, _, _, _, _, _, _, _, _, _, _, _, _, ⟨k1.out⟩, ifB_intro (fun h5 => ⟨b, 0, rfl, by constructor <;> simp <;> omega, _, _, _, _, _, _, _, _, _, _, _, _, _, _, _, _, ⟨k2.out⟩, ⟨by simp⟩⟩) (fun h5 => by simp at h5)⟩

theorem cl_keptr (b : Nat) (l : List Cl) (a2 : Option Addr) (c2 : Nat) (mk : Cl) (hn : l.length ≤ 977343669130) (m : M) (h : Row m (some ⟨b, 0, none⟩) (cls l ++ (encCl mk ++ encCl mk))) (h2 : Row m a2 (cls l)) :
    QSpec Try.prog 30 [.slice (some ⟨b, 0, none⟩) l.length (l.length + 2), .slice a2 l.length c2, clv mk] m (.bool true) := by
  obtain ⟨b', o, e, hc⟩ := h.cells (by simp)
  cases e
  exact cl_kept b l a2 c2 mk hn m (h.lt (by simp) rfl) hc h2

end Go.Proofs.Ytbhlhnkjmncloaa
set_option linter.unusedVariables false
set_option linter.unusedSimpArgs false
namespace Go.Proofs.Ytbhlhnkjmncloaa
open Go.Vc Go.RowKit
set_option maxRecDepth 100000

/-- two lists by rising elements that have the same elements are one -/
theorem pw_ext {α : Type} {r : α → α → Prop} (irr : ∀ x, ¬ r x x) (tr : ∀ {x y z}, r x y → r y z → r x z) : ∀ {a b : List α}, a.Pairwise r → b.Pairwise r → (∀ x, x ∈ a ↔ x ∈ b) → a = b
  | [], [], _, _, _ => rfl
  | [], y :: ys, _, _, h => by have := (h y).2 (by simp); simp at this
  | x :: xs, [], _, _, h => by have := (h x).1 (by simp); simp at this
  | x :: xs, y :: ys, ha, hb, h => by
    obtain ⟨a1, a2⟩ := List.pairwise_cons.1 ha
    obtain ⟨b1, b2⟩ := List.pairwise_cons.1 hb
    have e : x = y := by
      rcases List.mem_cons.1 ((h x).1 (by simp)) with e | e
      · exact e
      · rcases List.mem_cons.1 ((h y).2 (by simp)) with e2 | e2
        · exact e2.symm
        · exact absurd (tr (b1 x e) (a1 y e2)) (irr _)
    subst e
    congr 1
    refine pw_ext irr tr a2 b2 fun z => ⟨fun hz => ?_, fun hz => ?_⟩
    · rcases List.mem_cons.1 ((h z).1 (by simp [hz])) with e | e
      · subst e; exact absurd (a1 _ hz) (irr _)
      · exact e
    · rcases List.mem_cons.1 ((h z).2 (by simp [hz])) with e | e
      · subst e; exact absurd (b1 _ hz) (irr _)
      · exact e

/-- the moment of the call with a number -/
def moA (l : List Cl) (i : Nat) : Int := ((l[i]?).map (·.mo)).getD 0

theorem moA_at {l : List Cl} {i : Nat} (h : i < l.length) : moA l i = l[i].mo := by simp [moA, List.getElem?_eq_getElem h]

def lexC (l : List Cl) (i j : Nat) : Prop := moA l i < moA l j ∨ (moA l i = moA l j ∧ i < j)

theorem lexC_irr {l : List Cl} (x : Nat) : ¬ lexC l x x := by unfold lexC; omega
theorem lexC_tr {l : List Cl} {x y z : Nat} (h1 : lexC l x y) (h2 : lexC l y z) : lexC l x z := by unfold lexC at *; omega

/-- the numbers below k of the calls that have a moment -/
def idxL (l : List Cl) (k : Nat) : List Nat := (List.range k).filter fun i => decide (0 < moA l i)

theorem idxL_succ (l : List Cl) (k : Nat) : idxL l (k + 1) = idxL l k ++ if 0 < moA l k then [k] else [] := by
  unfold idxL
  rw [List.range_succ, List.filter_append]
  congr 1
  by_cases h : 0 < moA l k <;> simp [h]

theorem idxL_mem {l : List Cl} {k i : Nat} : i ∈ idxL l k ↔ i < k ∧ 0 < moA l i := by simp [idxL]

theorem idxL_len (l : List Cl) (k : Nat) : (idxL l k).length ≤ k := by
  have := List.length_filter_le (fun i => decide (0 < moA l i)) (List.range k)
  rw [List.length_range] at this
  exact this

theorem idxL_lt (l : List Cl) (k : Nat) : (idxL l k).Pairwise (· < ·) := List.Pairwise.filter _ List.pairwise_lt_range

def leC (l : List Cl) (i j : Nat) : Bool := decide (moA l i < moA l j ∨ (moA l i = moA l j ∧ i ≤ j))

/-- the numbers of the calls that have a moment, by rising moments -/
def ordL (l : List Cl) : List Nat := (idxL l l.length).mergeSort (leC l)

structure IsOrd (l : List Cl) (p : Nat → Prop) (o : List Nat) : Prop where
  pw : o.Pairwise (lexC l)
  mem : ∀ i, i ∈ o ↔ p i

theorem IsOrd.uniq {l : List Cl} {p : Nat → Prop} {a b : List Nat} (h : IsOrd l p a) (h2 : IsOrd l p b) : a = b := pw_ext lexC_irr lexC_tr h.pw h2.pw fun x => by rw [h.mem, h2.mem]

theorem ordL_is (l : List Cl) : IsOrd l (fun i => i < l.length ∧ 0 < moA l i) (ordL l) := by
  have hp : (ordL l).Perm (idxL l l.length) := List.mergeSort_perm _ _
  have hs : (ordL l).Pairwise (fun a b => leC l a b = true) := List.pairwise_mergeSort (fun a b c h1 h2 => by simp only [leC, decide_eq_true_eq] at *; omega) (fun a b => by simp only [leC, Bool.or_eq_true, decide_eq_true_eq]; omega) _
  have hn : (ordL l).Nodup := hp.nodup_iff.2 ((idxL_lt l l.length).imp fun h => by omega)
  refine ⟨?_, fun i => by rw [hp.mem_iff, idxL_mem]⟩
  refine (hs.and hn).imp fun {a b} ⟨h1, h2⟩ => ?_
  simp only [leC, decide_eq_true_eq] at h1
  unfold lexC
  omega

/-- of these, those behind a moment -/
def ordG (l : List Cl) (v : Int) : List Nat := (ordL l).filter fun i => decide (v < moA l i)

/-- the numbers from k on that have just that moment -/
def eqsC (l : List Cl) (v : Int) (k : Nat) : List Nat := (List.range' k (l.length - k)).filter fun i => decide (moA l i = v)

theorem ordG_is (l : List Cl) {v : Int} (h : 0 ≤ v) : IsOrd l (fun i => i < l.length ∧ v < moA l i) (ordG l v) := by
  refine ⟨List.Pairwise.filter _ (ordL_is l).pw, fun i => ?_⟩
  simp only [ordG, List.mem_filter, (ordL_is l).mem, decide_eq_true_eq]
  omega

theorem eqsC_is (l : List Cl) (v : Int) : IsOrd l (fun i => i < l.length ∧ moA l i = v) (eqsC l v 0) := by
  refine ⟨?_, fun i => ?_⟩
  · unfold eqsC
    rw [List.pairwise_filter]
    refine (List.pairwise_lt_range').imp fun {a b} h h1 h2 => ?_
    simp only [decide_eq_true_eq] at h1 h2
    unfold lexC
    omega
  · simp [eqsC, List.mem_range']

theorem ordG_zero (l : List Cl) : ordG l 0 = ordL l := (ordG_is l (Int.le_refl 0)).uniq (ordL_is l)

/-- the next moment's calls, and those behind -/
theorem ordG_next (l : List Cl) {v w : Int} (h0 : 0 ≤ v) (hw : v < w) (hmin : ∀ i, i < l.length → v < moA l i → w ≤ moA l i) : ordG l v = eqsC l w 0 ++ ordG l w := by
  refine (ordG_is l h0).uniq ⟨?_, fun i => ?_⟩
  · refine List.pairwise_append.2 ⟨(eqsC_is l w).pw, (ordG_is l (by omega)).pw, fun a ha b hb => ?_⟩
    have h1 := ((eqsC_is l w).mem a).1 ha
    have h2 := ((ordG_is l (show (0 : Int) ≤ w by omega)).mem b).1 hb
    unfold lexC; omega
  · rw [List.mem_append, (eqsC_is l w).mem, (ordG_is l (by omega)).mem]
    constructor
    · rintro (⟨h1, h2⟩ | ⟨h1, h2⟩)
      · exact ⟨h1, by omega⟩
      · exact ⟨h1, by omega⟩
    · rintro ⟨h1, h2⟩
      have := hmin i h1 h2
      by_cases e : moA l i = w
      · exact .inl ⟨h1, e⟩
      · exact .inr ⟨h1, by omega⟩

theorem ordG_none (l : List Cl) {v : Int} (h0 : 0 ≤ v) (h : ∀ i, i < l.length → ¬ v < moA l i) : ordG l v = [] := by
  refine (ordG_is l h0).uniq ⟨List.Pairwise.nil, fun i => ?_⟩
  constructor
  · intro h; simp at h
  · rintro ⟨h1, h2⟩; exact absurd h2 (h i h1)

theorem eqsC_cons {l : List Cl} {v : Int} {k : Nat} (h : k < l.length) : eqsC l v k = (if moA l k = v then [k] else []) ++ eqsC l v (k + 1) := by
  unfold eqsC
  rw [show l.length - k = (l.length - (k + 1)) + 1 by omega, List.range'_succ, List.filter_cons]
  by_cases e : moA l k = v <;> simp [e]

theorem eqsC_end (l : List Cl) (v : Int) : eqsC l v l.length = [] := by simp [eqsC]

theorem ordL_lt {l : List Cl} {i : Nat} (h : i ∈ ordL l) : i < l.length := (((ordL_is l).mem i).1 h).1

theorem ordL_len (l : List Cl) : (ordL l).length ≤ l.length := by
  have hp : (ordL l).Perm (idxL l l.length) := List.mergeSort_perm _ _
  rw [hp.length_eq]; exact idxL_len _ _

/-- how many calls there are behind a moment -/
def behC (l : List Cl) (v : Int) : Nat := (List.range l.length).countP fun i => decide (v < moA l i)

theorem behC_lt {l : List Cl} {v w : Int} {i : Nat} (hi : i < l.length) (h1 : v < moA l i) (h2 : ¬ w < moA l i) (h3 : v ≤ w) : behC l w < behC l v := by
  have h : ∀ (L : List Nat), (L.countP fun i => decide (w < moA l i)) ≤ (L.countP fun i => decide (v < moA l i)) ∧ (i ∈ L → (L.countP fun i => decide (w < moA l i)) < (L.countP fun i => decide (v < moA l i))) := by
    intro L
    induction L with
    | nil => simp
    | cons x xs ih =>
      refine ⟨?_, fun hm => ?_⟩
      · rw [List.countP_cons, List.countP_cons]
        by_cases h : w < moA l x
        · have : v < moA l x := by omega
          simp [h, this]; exact ih.1
        · simp [h]; have := ih.1; omega
      · rw [List.countP_cons, List.countP_cons]
        rcases List.mem_cons.1 hm with rfl | hm
        · have := ih.1
          simp [h1, h2]; omega
        · have := ih.2 hm
          by_cases h : w < moA l x
          · have : v < moA l x := by omega
            simp [h, this]; assumption
          · simp [h]; omega
  exact (h _).2 (by simpa using hi)

end Go.Proofs.Ytbhlhnkjmncloaa
set_option linter.unusedVariables false
set_option linter.unusedSimpArgs false
namespace Go.Proofs.Ytbhlhnkjmncloaa
open Go.Vc Go.RowKit
set_option maxRecDepth 100000

/-- a list of ints that may be written, and what the comparing function looks at beside it -/
structure DatC (b o n : Nat) (env : M → Prop) (ok : Int → Prop) (g : Nat → Int) (m : M) : Prop where
  cell : ∀ j, j < n → m.π b (o + j) = some (I (g j))
  uf : 0 < n → m.uf b
  lt : 0 < n → b < m.sz
  env : env m
  ok : ∀ j, j < n → ok (g j)

/-- the closure that compares: below 0 just if the first's number is less -/
structure CmpC (b bl : Nat) (env : M → Prop) (ok : Int → Prop) (f : Int → Int) : Prop where
  q : ∀ m, env m → ∀ x y, ok x → ok y → ∃ v, QSpec Try.prog 58 [I x, I y, .pointer (some ⟨bl, 0, none⟩)] m (I v) ∧ (v < 0 ↔ f x < f y)
  sz : ∀ m n, env m → m.sz ≤ n → env { m with sz := n }
  set : ∀ m o cs, env m → env (m.setCells b o cs)

abbrev cmpV (bl : Nat) : Value := .func (.func 58) #[] #[.pointer (some ⟨bl, 0, none⟩)]

section
variable {b o n bl : Nat} {env : M → Prop} {g : Nat → Int} {m : M} {ok : Int → Prop} {f : Int → Int}

theorem DatC.sz (h : DatC b o n env ok g m) (C : CmpC b bl env ok f) {k : Nat} (hk : m.sz ≤ k) : DatC b o n env ok g { m with sz := k } :=
  ⟨h.cell, h.uf, fun h0 => Nat.lt_of_lt_of_le (h.lt h0) hk, C.sz _ _ h.env hk, h.ok⟩

theorem DatC.at (h : DatC b o n env ok g m) {j : Nat} (hj : j < n) : CellsAt m b (o + j * 1) [I (g j)] := ⟨fun i hi => by
  have : i = 0 := by simpa using hi
  subst this
  rw [Nat.mul_one]
  exact h.cell j hj⟩

theorem DatC.wr (h : DatC b o n env ok g m) {B : Nat} {S : Nat → Prop} {j : Nat} (hS : B ≤ b ∨ S b) (hj : j < n) : Wr B S m b (o + j * 1) 1 := ⟨hS, h.uf (by omega), fun i hi => ⟨I (g j), by
  have : i = 0 := by omega
  subst this
  rw [Nat.mul_one]
  exact h.cell j hj⟩⟩

theorem DatC.set (h : DatC b o n env ok g m) (C : CmpC b bl env ok f) {k : Nat} (hk : k < n) (v : Int) (hv : ok v) : DatC b o n env ok (upd g k v) (m.setCells b (o + k * 1) [I v]) := by
  refine ⟨fun j hj => ?_, h.uf, h.lt, C.set _ _ _ h.env, fun j hj => by unfold upd; split; exact hv; exact h.ok j hj⟩
  simp only [M.setCells, List.length_singleton]
  by_cases e : j = k
  · subst e; simp [upd]
  · rw [if_neg (by omega)]; simp only [upd, e, if_false]; exact h.cell j hj

theorem DatC.congr {g' : Nat → Int} (h : DatC b o n env ok g m) (e : ∀ j, j < n → g j = g' j) : DatC b o n env ok g' m := ⟨fun j hj => by rw [← e j hj]; exact h.cell j hj, h.uf, h.lt, h.env, fun j hj => by rw [← e j hj]; exact h.ok j hj⟩
end

structure SwX where
  i : Nat
  m : M

theorem wrapN {x : Int} {k : Nat} (h : x = (k : Int)) (hk : k ≤ 9223372036854775807) : IntKind.i64.wrap x = (k : Int) := by subst h; simp [IntKind.wrap_i64]; omega

theorem swaprange_s (av : Option Addr) (b o n c bl x y k : Nat) (ha : 0 < n → av = some ⟨b, o, none⟩) (env : M → Prop) (ok : Int → Prop) (f : Int → Int) (C : CmpC b bl env ok f) (g : Nat → Int) (hn : n ≤ 3518437208870) (hxy : x + k ≤ y) (hy : y + k ≤ n) (m : M) (h : DatC b o n env ok g m) :
    SpecW Try.prog 77 [.slice av n c, I x, I y, I k, cmpV bl] m (fun z => 0 < n ∧ z = b) fun v m' => v = .tuple #[] ∧ DatC b o n env ok (swpF x y k g) m' := by
  refine SpecW.of_vc Try.func77 (ann := fun r => { A := SwX, loose := Nat.beq r 3, inv := fun z => z.i ≤ k ∧ DatC b o n env ok (swpF x y z.i g) z.m ∧ m.sz ≤ z.m.sz, st := fun z => [(10, .val (I z.i)), (3, .val (I k)), (0, .val (.slice av n c)), (1, .val (I x)), (2, .val (I y))], own := fun _ => [], m := fun z => z.m, μ := fun z => k - z.i }) ?_
  refine vc_by (X :=
      true = true ∧
      (∃ (a : SwX),
      (a.i ≤ k ∧ DatC b o n env ok (swpF x y a.i g) a.m ∧ m.sz ≤ a.m.sz) ∧
      m = a.m ∧
      ((SV.val (Value.int IntKind.i64 (0 : Int)) = SV.val (Value.int IntKind.i64 (↑a.i : Int)) ∧ true = true) ∧
      (SV.val (Value.int IntKind.i64 (↑k : Int)) = SV.val (Value.int IntKind.i64 (↑k : Int)) ∧ true = true) ∧
      (SV.val (Value.slice av n c) = SV.val (Value.slice av n c) ∧ true = true) ∧
      (SV.val (Value.int IntKind.i64 (↑x : Int)) = SV.val (Value.int IntKind.i64 (↑x : Int)) ∧ true = true) ∧
      (SV.val (Value.int IntKind.i64 (↑y : Int)) = SV.val (Value.int IntKind.i64 (↑y : Int)) ∧ true = true) ∧ True) ∧
      True) ∧
      ∀ (a : SwX),
      a.i ≤ k ∧ DatC b o n env ok (swpF x y a.i g) a.m ∧ m.sz ≤ a.m.sz →
      ifB (decide ((↑a.i : Int) < (↑k : Int)))
      (true = true ∧
      ∃ (b_1 : Nat),
      ∃ (off : Nat),
      av = some { block := b_1, off := off : Addr } ∧
      ((0 : Int) ≤ IntKind.i64.wrap ((↑y : Int) + (↑a.i : Int)) ∧ IntKind.i64.wrap ((↑y : Int) + (↑a.i : Int)) < (↑n : Int)) ∧
      ∃ (n_1 : Int),
      CellsAt a.m b_1 (off + (IntKind.i64.wrap ((↑y : Int) + (↑a.i : Int))).toNat * (1 : Nat)) [Value.int IntKind.i64 n_1] ∧
      ∃ (b_2 : Nat),
      ∃ (off : Nat),
      av = some { block := b_2, off := off : Addr } ∧
      ((0 : Int) ≤ IntKind.i64.wrap ((↑x : Int) + (↑a.i : Int)) ∧ IntKind.i64.wrap ((↑x : Int) + (↑a.i : Int)) < (↑n : Int)) ∧
      ∃ (n_2 : Int),
      CellsAt a.m b_2 (off + (IntKind.i64.wrap ((↑x : Int) + (↑a.i : Int))).toNat * (1 : Nat)) [Value.int IntKind.i64 n_2] ∧
      ∃ (b_3 : Nat),
      ∃ (off : Nat),
      av = some { block := b_3, off := off : Addr } ∧
      ((0 : Int) ≤ IntKind.i64.wrap ((↑x : Int) + (↑a.i : Int)) ∧ IntKind.i64.wrap ((↑x : Int) + (↑a.i : Int)) < (↑n : Int)) ∧
      (Wr m.sz (fun (z : Nat) => (0 : Nat) < n ∧ z = b) a.m b_3 (off + (IntKind.i64.wrap ((↑x : Int) + (↑a.i : Int))).toNat * (1 : Nat))
      #[Value.int IntKind.i64 n_1].size ∧
      True ∧
      ∃ (b_4 : Nat),
      ∃ (off_1 : Nat),
      av = some { block := b_4, off := off_1 : Addr } ∧
      ((0 : Int) ≤ IntKind.i64.wrap ((↑y : Int) + (↑a.i : Int)) ∧ IntKind.i64.wrap ((↑y : Int) + (↑a.i : Int)) < (↑n : Int)) ∧
      (Wr m.sz (fun (z : Nat) => (0 : Nat) < n ∧ z = b)
      (a.m.setCells b_3 (off + (IntKind.i64.wrap ((↑x : Int) + (↑a.i : Int))).toNat * (1 : Nat))
      [Value.int IntKind.i64 n_1])
      b_4 (off_1 + (IntKind.i64.wrap ((↑y : Int) + (↑a.i : Int))).toNat * (1 : Nat)) #[Value.int IntKind.i64 n_2].size ∧
      ∃ (a' : SwX),
      ((a'.i ≤ k ∧ DatC b o n env ok (swpF x y a'.i g) a'.m ∧ m.sz ≤ a'.m.sz) ∧
      (a.m.setCells b_3 (off + (IntKind.i64.wrap ((↑x : Int) + (↑a.i : Int))).toNat * (1 : Nat))
      [Value.int IntKind.i64 n_1]).setCells
      b_4 (off_1 + (IntKind.i64.wrap ((↑y : Int) + (↑a.i : Int))).toNat * (1 : Nat))
      [Value.int IntKind.i64 n_2] =
      a'.m ∧
      ((SV.val (Value.int IntKind.i64 (IntKind.i64.wrap ((↑a.i : Int) + (1 : Int)))) =
      SV.val (Value.int IntKind.i64 (↑a'.i : Int)) ∧
      true = true) ∧
      (SV.val (Value.int IntKind.i64 (↑k : Int)) = SV.val (Value.int IntKind.i64 (↑k : Int)) ∧ true = true) ∧
      (SV.val (Value.slice av n c) = SV.val (Value.slice av n c) ∧ true = true) ∧
      (SV.val (Value.int IntKind.i64 (↑x : Int)) = SV.val (Value.int IntKind.i64 (↑x : Int)) ∧
      true = true) ∧
      (SV.val (Value.int IntKind.i64 (↑y : Int)) = SV.val (Value.int IntKind.i64 (↑y : Int)) ∧
      true = true) ∧
      True) ∧
      True) ∧
      k - a'.i < k - a.i) ∧
      True) ∧
      True)
      (Done (Value.tuple #[] = Value.tuple #[] ∧ DatC b o n env ok (swpF x y k g) a.m))) (by kernel_rfl) ?_
  refine ⟨rfl, ⟨⟨0, m⟩, ⟨Nat.zero_le _, h.congr fun j hj => by simp only [swpF]; rw [if_neg (by omega), if_neg (by omega)], Nat.le_refl _⟩, rfl, by simp⟩, fun z ⟨hz, hd, hs⟩ => ifB_intro (fun hb => ?_) (fun hb => ⟨rfl, ?_⟩)⟩
  · have hk : z.i < k := by simpa using hb
    have w1 : IntKind.i64.wrap ((x : Int) + z.i) = ((x + z.i : Nat) : Int) := wrapN (by simp) (by omega)
    have w2 : IntKind.i64.wrap ((y : Int) + z.i) = ((y + z.i : Nat) : Int) := wrapN (by simp) (by omega)
    have w3 : IntKind.i64.wrap ((z.i : Int) + 1) = ((z.i + 1 : Nat) : Int) := wrapN (by simp) (by omega)
    rw [w1, w2, w3]
    simp only [Int.toNat_natCast]
    have h1 : x + z.i < n := by omega
    have h2 : y + z.i < n := by omega
    have hS : m.sz ≤ b ∨ (0 < n ∧ b = b) := .inr ⟨by omega, rfl⟩
    have hd1 := hd.set C h1 (swpF x y z.i g (y + z.i)) (hd.ok _ h2)
    have hd2 := hd1.set C h2 (swpF x y z.i g (x + z.i)) (hd.ok _ h1)
    refine ⟨trivial, b, o, ha (by omega), by omega, _, hd.at h2, b, o, ha (by omega), by omega, _, hd.at h1, b, o, ha (by omega), by omega, ⟨hd.wr (S := fun z => 0 < n ∧ z = b) hS h1, trivial, b, o, ha (by omega), by omega, ⟨hd1.wr (S := fun z => 0 < n ∧ z = b) hS h2, ⟨z.i + 1, _⟩, ⟨⟨hk, hd2.congr fun j hj => ?_, hs⟩, rfl, by simp⟩, by simp only; omega⟩, trivial⟩, trivial⟩
    exact swp_step hxy hk j
  · have : z.i = k := by simp at hb; omega
    rw [← this]; exact hd

structure RoX where
  i : Nat
  j : Nat
  g : Nat → Int
  m : M

theorem rotate_s (av : Option Addr) (b o n c bl x y z : Nat) (ha : 0 < n → av = some ⟨b, o, none⟩) (env : M → Prop) (ok : Int → Prop) (f : Int → Int) (C : CmpC b bl env ok f) (g : Nat → Int) (hn : n ≤ 3518437208870) (hxy : x < y) (hy : y < z) (hz : z ≤ n) (m : M) (h : DatC b o n env ok g m) :
    SpecW Try.prog 76 [.slice av n c, I x, I y, I z, cmpV bl] m (fun z => 0 < n ∧ z = b) fun v m' => v = .tuple #[] ∧ DatC b o n env ok (rotF x y z g) m' := by
  refine SpecW.of_vc Try.func76 (ann := fun r => { A := RoX, inv := fun t => 0 < t.i ∧ 0 < t.j ∧ t.i ≤ y - x ∧ t.j ≤ z - y ∧ DatC b o n env ok t.g t.m ∧ rotF (y - t.i) y (y + t.j) t.g = rotF x y z g ∧ m.sz ≤ t.m.sz, st := fun t => [(10, .val (I t.i)), (11, .val (I t.j)), (0, .val (.slice av n c)), (2, .val (I y)), (4, .val (cmpV bl))], own := fun _ => [], m := fun t => t.m, μ := fun t => t.i + t.j }) ?_
  refine vc_by (X :=
      true = true ∧
      (∃ (a : RoX),
      ((0 : Nat) < a.i ∧ (0 : Nat) < a.j ∧ a.i ≤ y - x ∧ a.j ≤ z - y ∧ DatC b o n env ok a.g a.m ∧ rotF (y - a.i) y (y + a.j) a.g = rotF x y z g ∧ m.sz ≤ a.m.sz) ∧
      m = a.m ∧
      ((SV.val (Value.int IntKind.i64 (IntKind.i64.wrap ((↑y : Int) - (↑x : Int)))) = SV.val (Value.int IntKind.i64 (↑a.i : Int)) ∧ true = true) ∧
      (SV.val (Value.int IntKind.i64 (IntKind.i64.wrap ((↑z : Int) - (↑y : Int)))) = SV.val (Value.int IntKind.i64 (↑a.j : Int)) ∧ true = true) ∧
      (SV.val (Value.slice av n c) = SV.val (Value.slice av n c) ∧ true = true) ∧
      (SV.val (Value.int IntKind.i64 (↑y : Int)) = SV.val (Value.int IntKind.i64 (↑y : Int)) ∧ true = true) ∧
      (SV.val (Value.func (Fn.func (58 : FuncId)) #[] #[Value.pointer (some { block := bl, off := (0 : Nat) : Addr })]) =
      SV.val (Value.func (Fn.func (58 : FuncId)) #[] #[Value.pointer (some { block := bl, off := (0 : Nat) : Addr })]) ∧
      true = true) ∧
      True) ∧
      True) ∧
      ∀ (a : RoX),
      (0 : Nat) < a.i ∧ (0 : Nat) < a.j ∧ a.i ≤ y - x ∧ a.j ≤ z - y ∧ DatC b o n env ok a.g a.m ∧ rotF (y - a.i) y (y + a.j) a.g = rotF x y z g ∧ m.sz ≤ a.m.sz →
      ifB ((↑a.i : Int) != (↑a.j : Int))
      (ifB (decide ((↑a.i : Int) > (↑a.j : Int)))
      (∃ (S' : Nat → Prop),
      (∀ (b_1 : Nat), S' b_1 → a.m.uf b_1 ∧ (m.sz ≤ b_1 ∨ (0 : Nat) < n ∧ b_1 = b)) ∧
      ∀ (n_1 : Nat),
      a.m.sz ≤ n_1 →
      SpecW Try.prog (77 : Nat)
      [Value.slice av n c, Value.int IntKind.i64 (IntKind.i64.wrap ((↑y : Int) - (↑a.i : Int))), Value.int IntKind.i64 (↑y : Int),
      Value.int IntKind.i64 (↑a.j : Int), Value.func (Fn.func (58 : FuncId)) #[] #[Value.pointer (some { block := bl, off := (0 : Nat) : Addr })]]
      { π := a.m.π, sz := n_1, uf := a.m.uf : M } S' fun (v : Value) (m' : M) =>
      v = Value.tuple #[] ∧
      ∃ (a' : RoX),
      (((0 : Nat) < a'.i ∧
      (0 : Nat) < a'.j ∧ a'.i ≤ y - x ∧ a'.j ≤ z - y ∧ DatC b o n env ok a'.g a'.m ∧ rotF (y - a'.i) y (y + a'.j) a'.g = rotF x y z g ∧ m.sz ≤ a'.m.sz) ∧
      m' = a'.m ∧
      ((SV.val (Value.int IntKind.i64 (IntKind.i64.wrap ((↑a.i : Int) - (↑a.j : Int)))) = SV.val (Value.int IntKind.i64 (↑a'.i : Int)) ∧ true = true) ∧
      (SV.val (Value.int IntKind.i64 (↑a.j : Int)) = SV.val (Value.int IntKind.i64 (↑a'.j : Int)) ∧ true = true) ∧
      (SV.val (Value.slice av n c) = SV.val (Value.slice av n c) ∧ true = true) ∧
      (SV.val (Value.int IntKind.i64 (↑y : Int)) = SV.val (Value.int IntKind.i64 (↑y : Int)) ∧ true = true) ∧
      (SV.val (Value.func (Fn.func (58 : FuncId)) #[] #[Value.pointer (some { block := bl, off := (0 : Nat) : Addr })]) =
      SV.val (Value.func (Fn.func (58 : FuncId)) #[] #[Value.pointer (some { block := bl, off := (0 : Nat) : Addr })]) ∧
      true = true) ∧
      True) ∧
      True) ∧
      a'.i + a'.j < a.i + a.j)
      (∃ (S' : Nat → Prop),
      (∀ (b_1 : Nat), S' b_1 → a.m.uf b_1 ∧ (m.sz ≤ b_1 ∨ (0 : Nat) < n ∧ b_1 = b)) ∧
      ∀ (n_1 : Nat),
      a.m.sz ≤ n_1 →
      SpecW Try.prog (77 : Nat)
      [Value.slice av n c, Value.int IntKind.i64 (IntKind.i64.wrap ((↑y : Int) - (↑a.i : Int))),
      Value.int IntKind.i64 (IntKind.i64.wrap (IntKind.i64.wrap ((↑y : Int) + (↑a.j : Int)) - (↑a.i : Int))), Value.int IntKind.i64 (↑a.i : Int),
      Value.func (Fn.func (58 : FuncId)) #[] #[Value.pointer (some { block := bl, off := (0 : Nat) : Addr })]]
      { π := a.m.π, sz := n_1, uf := a.m.uf : M } S' fun (v : Value) (m' : M) =>
      v = Value.tuple #[] ∧
      ∃ (a' : RoX),
      (((0 : Nat) < a'.i ∧
      (0 : Nat) < a'.j ∧ a'.i ≤ y - x ∧ a'.j ≤ z - y ∧ DatC b o n env ok a'.g a'.m ∧ rotF (y - a'.i) y (y + a'.j) a'.g = rotF x y z g ∧ m.sz ≤ a'.m.sz) ∧
      m' = a'.m ∧
      ((SV.val (Value.int IntKind.i64 (↑a.i : Int)) = SV.val (Value.int IntKind.i64 (↑a'.i : Int)) ∧ true = true) ∧
      (SV.val (Value.int IntKind.i64 (IntKind.i64.wrap ((↑a.j : Int) - (↑a.i : Int)))) = SV.val (Value.int IntKind.i64 (↑a'.j : Int)) ∧ true = true) ∧
      (SV.val (Value.slice av n c) = SV.val (Value.slice av n c) ∧ true = true) ∧
      (SV.val (Value.int IntKind.i64 (↑y : Int)) = SV.val (Value.int IntKind.i64 (↑y : Int)) ∧ true = true) ∧
      (SV.val (Value.func (Fn.func (58 : FuncId)) #[] #[Value.pointer (some { block := bl, off := (0 : Nat) : Addr })]) =
      SV.val (Value.func (Fn.func (58 : FuncId)) #[] #[Value.pointer (some { block := bl, off := (0 : Nat) : Addr })]) ∧
      true = true) ∧
      True) ∧
      True) ∧
      a'.i + a'.j < a.i + a.j))
      (∃ (S' : Nat → Prop),
      (∀ (b_1 : Nat), S' b_1 → a.m.uf b_1 ∧ (m.sz ≤ b_1 ∨ (0 : Nat) < n ∧ b_1 = b)) ∧
      ∀ (n_1 : Nat),
      a.m.sz ≤ n_1 →
      SpecW Try.prog (77 : Nat)
      [Value.slice av n c, Value.int IntKind.i64 (IntKind.i64.wrap ((↑y : Int) - (↑a.i : Int))), Value.int IntKind.i64 (↑y : Int), Value.int IntKind.i64 (↑a.i : Int),
      Value.func (Fn.func (58 : FuncId)) #[] #[Value.pointer (some { block := bl, off := (0 : Nat) : Addr })]]
      { π := a.m.π, sz := n_1, uf := a.m.uf : M } S' fun (v : Value) (m' : M) =>
      v = Value.tuple #[] ∧ Done (Value.tuple #[] = Value.tuple #[] ∧ DatC b o n env ok (rotF x y z g) m'))) (by kernel_rfl) ?_
  have w1 : IntKind.i64.wrap ((y : Int) - x) = ((y - x : Nat) : Int) := wrapN (by omega) (by omega)
  have w2 : IntKind.i64.wrap ((z : Int) - y) = ((z - y : Nat) : Int) := wrapN (by omega) (by omega)
  rw [w1, w2]
  refine ⟨rfl, ⟨⟨y - x, z - y, g, m⟩, ⟨by simp only; omega, by simp only; omega, Nat.le_refl _, Nat.le_refl _, h, by congr 1 <;> simp only <;> omega, Nat.le_refl _⟩, rfl, by simp⟩, fun t ⟨h1, h2, h3, h4, hd, hr, hs⟩ => ?_⟩
  have v1 : IntKind.i64.wrap ((y : Int) - t.i) = ((y - t.i : Nat) : Int) := wrapN (by omega) (by omega)
  have hS : ∀ z, (0 < n ∧ z = b) → t.m.uf z ∧ (m.sz ≤ z ∨ (0 < n ∧ z = b)) := fun z ⟨h0, e⟩ => by subst e; exact ⟨hd.uf h0, .inr ⟨h0, rfl⟩⟩
  rw [v1]
  refine ifB_intro (fun hb => ifB_intro (fun hb2 => ?_) (fun hb2 => ?_)) (fun hb => ?_)
  · have hij : t.j < t.i := by simp at hb2; omega
    have v2 : IntKind.i64.wrap ((t.i : Int) - t.j) = ((t.i - t.j : Nat) : Int) := wrapN (by omega) (by omega)
    rw [v2]
    refine ⟨fun z => 0 < n ∧ z = b, hS, fun N hN => (swaprange_s av b o n c bl (y - t.i) y t.j ha env ok f C t.g hn (by omega) (by omega) _ (hd.sz C hN)).mono fun v m' hag ⟨e, hd'⟩ => ⟨e, ⟨t.i - t.j, t.j, swpF (y - t.i) y t.j t.g, m'⟩, ⟨⟨by simp only; omega, h2, by simp only; omega, h4, hd', ?_, ?_⟩, rfl, by simp⟩, by simp only; omega⟩⟩
    · simp only; rw [swp_rot (by omega) hij]; exact hr
    · have := hag.2.2; simp only at this ⊢; omega
  · have hij : t.i < t.j := by simp at hb hb2; omega
    have v2 : IntKind.i64.wrap ((t.j : Int) - t.i) = ((t.j - t.i : Nat) : Int) := wrapN (by omega) (by omega)
    have v3 : IntKind.i64.wrap ((y : Int) + t.j) = ((y + t.j : Nat) : Int) := wrapN (by omega) (by omega)
    rw [v3]
    have v4 : IntKind.i64.wrap (((y + t.j : Nat) : Int) - t.i) = ((y + t.j - t.i : Nat) : Int) := wrapN (by omega) (by omega)
    rw [v2, v4]
    refine ⟨fun z => 0 < n ∧ z = b, hS, fun N hN => (swaprange_s av b o n c bl (y - t.i) (y + t.j - t.i) t.i ha env ok f C t.g hn (by omega) (by omega) _ (hd.sz C hN)).mono fun v m' hag ⟨e, hd'⟩ => ⟨e, ⟨t.i, t.j - t.i, swpF (y - t.i) (y + t.j - t.i) t.i t.g, m'⟩, ⟨⟨h1, by simp only; omega, h3, by simp only; omega, hd', ?_, ?_⟩, rfl, by simp⟩, by simp only; omega⟩⟩
    · simp only; rw [swp_rot2 (by omega) hij]; exact hr
    · have := hag.2.2; simp only at this ⊢; omega
  · have hij : t.i = t.j := by simp at hb; omega
    refine ⟨fun z => 0 < n ∧ z = b, hS, fun N hN => (swaprange_s av b o n c bl (y - t.i) y t.i ha env ok f C t.g hn (by omega) (by omega) _ (hd.sz C hN)).mono fun v m' hag ⟨e, hd'⟩ => ⟨e, rfl, hd'.congr fun j hj => ?_⟩⟩
    rw [swp_rot3 (by omega), ← hr, hij]

structure InX where
  i : Nat
  j : Nat
  g : Nat → Int
  m : M

structure InI (b o n x z : Nat) (env : M → Prop) (ok : Int → Prop) (f : Int → Int) (g : Nat → Int) (m : M) (t : InX) : Prop where
  lo : x + 1 ≤ t.i
  hi : t.i ≤ z ∨ t.i = x + 1
  mem : Mem x z g t.g
  srt : Srt f x t.i t.g
  stb : Stb f x z t.g
  sz : m.sz ≤ t.m.sz

structure InJ (b o n x z : Nat) (env : M → Prop) (ok : Int → Prop) (f : Int → Int) (g : Nat → Int) (m : M) (t : InX) : Prop where
  i : InI b o n x z env ok f g m t
  lt : t.i < z
  lo : x ≤ t.j
  hi : t.j ≤ t.i
  dat : DatC b o n env ok (rotF t.j t.i (t.i + 1) t.g) t.m
  big : ∀ p, t.j ≤ p → p < t.i → lexN f (t.g t.i) (t.g p)

theorem inssort_s (av : Option Addr) (b o n c bl x z : Nat) (ha : 0 < n → av = some ⟨b, o, none⟩) (env : M → Prop) (ok : Int → Prop) (f : Int → Int) (C : CmpC b bl env ok f) (g : Nat → Int) (hn : n ≤ 3518437208870) (hxz : x ≤ z) (hz : z ≤ n) (hst : Stb f x z g) (m : M) (h : DatC b o n env ok g m) :
    SpecW Try.prog 72 [.slice av n c, I x, I z, cmpV bl] m (fun z => 0 < n ∧ z = b) fun v m' => v = .tuple #[] ∧ ∃ g', DatC b o n env ok g' m' ∧ Mem x z g g' ∧ Srt f x z g' := by
  refine SpecW.of_vc Try.func72 (ann := fun r => match r with
    | 1 => { A := InX, inv := fun t => InI b o n x z env ok f g m t ∧ DatC b o n env ok t.g t.m, st := fun t => [(8, .val (I t.i)), (2, .val (I z)), (1, .val (I x)), (3, .val (cmpV bl)), (0, .val (.slice av n c))], own := fun _ => [], m := fun t => t.m, μ := fun t => z - t.i }
    | 4 => { A := InX, inv := fun t => InJ b o n x z env ok f g m t, st := fun t => [(9, .val (I t.j)), (8, .val (I t.i)), (2, .val (I z)), (1, .val (I x)), (3, .val (cmpV bl)), (0, .val (.slice av n c))], own := fun _ => [], m := fun t => t.m, μ := fun t => t.j, link := some fun t ctx => ctx = [z - t.i] }
    | 6 => { noAnn 0 with loose := true }
    | _ => noAnn 0) ?_
  refine vc_by (X :=
      true = true ∧
      (∃ (a : InX),
      (InI b o n x z env ok f g m a ∧ DatC b o n env ok a.g a.m) ∧
      m = a.m ∧
      ((SV.val (Value.int IntKind.i64 (IntKind.i64.wrap ((↑x : Int) + (1 : Int)))) = SV.val (Value.int IntKind.i64 (↑a.i : Int)) ∧ true = true) ∧
      (SV.val (Value.int IntKind.i64 (↑z : Int)) = SV.val (Value.int IntKind.i64 (↑z : Int)) ∧ true = true) ∧
      (SV.val (Value.int IntKind.i64 (↑x : Int)) = SV.val (Value.int IntKind.i64 (↑x : Int)) ∧ true = true) ∧
      (SV.val (Value.func (Fn.func (58 : FuncId)) #[] #[Value.pointer (some { block := bl, off := (0 : Nat) : Addr })]) =
      SV.val (Value.func (Fn.func (58 : FuncId)) #[] #[Value.pointer (some { block := bl, off := (0 : Nat) : Addr })]) ∧
      true = true) ∧
      (SV.val (Value.slice av n c) = SV.val (Value.slice av n c) ∧ true = true) ∧ True) ∧
      True) ∧
      ∀ (a : InX),
      InI b o n x z env ok f g m a ∧ DatC b o n env ok a.g a.m →
      ifB (decide ((↑a.i : Int) < (↑z : Int)))
      ((∃ (a_2 : InX),
      (InJ b o n x z env ok f g m a_2 ∧
      a.m = a_2.m ∧
      ((SV.val (Value.int IntKind.i64 (↑a.i : Int)) = SV.val (Value.int IntKind.i64 (↑a_2.j : Int)) ∧ true = true) ∧
      (SV.val (Value.int IntKind.i64 (↑a.i : Int)) = SV.val (Value.int IntKind.i64 (↑a_2.i : Int)) ∧ true = true) ∧
      (SV.val (Value.int IntKind.i64 (↑z : Int)) = SV.val (Value.int IntKind.i64 (↑z : Int)) ∧ true = true) ∧
      (SV.val (Value.int IntKind.i64 (↑x : Int)) = SV.val (Value.int IntKind.i64 (↑x : Int)) ∧ true = true) ∧
      (SV.val (Value.func (Fn.func (58 : FuncId)) #[] #[Value.pointer (some { block := bl, off := (0 : Nat) : Addr })]) =
      SV.val (Value.func (Fn.func (58 : FuncId)) #[] #[Value.pointer (some { block := bl, off := (0 : Nat) : Addr })]) ∧
      true = true) ∧
      (SV.val (Value.slice av n c) = SV.val (Value.slice av n c) ∧ true = true) ∧ True) ∧
      True) ∧
      [z - a.i] = [z - a_2.i]) ∧
      ∀ (a_2 : InX),
      InJ b o n x z env ok f g m a_2 ∧ [z - a.i] = [z - a_2.i] →
      true = true ∧
      ifB (decide ((↑a_2.j : Int) > (↑x : Int)))
      (∃ (b_1 : Nat),
      ∃ (off : Nat),
      av = some { block := b_1, off := off : Addr } ∧
      ((0 : Int) ≤ (↑a_2.j : Int) ∧ (↑a_2.j : Int) < (↑n : Int)) ∧
      ∃ (n_1 : Int),
      CellsAt a_2.m b_1 (off + (↑a_2.j : Int).toNat * (1 : Nat)) [Value.int IntKind.i64 n_1] ∧
      ∃ (b_2 : Nat),
      ∃ (off : Nat),
      av = some { block := b_2, off := off : Addr } ∧
      ((0 : Int) ≤ IntKind.i64.wrap ((↑a_2.j : Int) - (1 : Int)) ∧ IntKind.i64.wrap ((↑a_2.j : Int) - (1 : Int)) < (↑n : Int)) ∧
      ∃ (n_2 : Int),
      CellsAt a_2.m b_2 (off + (IntKind.i64.wrap ((↑a_2.j : Int) - (1 : Int))).toNat * (1 : Nat)) [Value.int IntKind.i64 n_2] ∧
      ∃ (n_3 : Int),
      QSpec Try.prog (58 : FuncId)
      [Value.int IntKind.i64 n_1, Value.int IntKind.i64 n_2, Value.pointer (some { block := bl, off := (0 : Nat) : Addr })] a_2.m
      (Value.int IntKind.i64 n_3) ∧
      ifB (decide (n_3 < (0 : Int)))
      (true = true ∧
      ∃ (b_3 : Nat),
      ∃ (off : Nat),
      av = some { block := b_3, off := off : Addr } ∧
      ((0 : Int) ≤ IntKind.i64.wrap ((↑a_2.j : Int) - (1 : Int)) ∧ IntKind.i64.wrap ((↑a_2.j : Int) - (1 : Int)) < (↑n : Int)) ∧
      ∃ (n_4 : Int),
      CellsAt a_2.m b_3 (off + (IntKind.i64.wrap ((↑a_2.j : Int) - (1 : Int))).toNat * (1 : Nat))
      [Value.int IntKind.i64 n_4] ∧
      ∃ (b_4 : Nat),
      ∃ (off : Nat),
      av = some { block := b_4, off := off : Addr } ∧
      ((0 : Int) ≤ (↑a_2.j : Int) ∧ (↑a_2.j : Int) < (↑n : Int)) ∧
      ∃ (n_5 : Int),
      CellsAt a_2.m b_4 (off + (↑a_2.j : Int).toNat * (1 : Nat)) [Value.int IntKind.i64 n_5] ∧
      ∃ (b_5 : Nat),
      ∃ (off : Nat),
      av = some { block := b_5, off := off : Addr } ∧
      ((0 : Int) ≤ (↑a_2.j : Int) ∧ (↑a_2.j : Int) < (↑n : Int)) ∧
      (Wr m.sz (fun (z : Nat) => (0 : Nat) < n ∧ z = b) a_2.m b_5
      (off + (↑a_2.j : Int).toNat * (1 : Nat)) #[Value.int IntKind.i64 n_4].size ∧
      True ∧
      ∃ (b_6 : Nat),
      ∃ (off_1 : Nat),
      av = some { block := b_6, off := off_1 : Addr } ∧
      ((0 : Int) ≤ IntKind.i64.wrap ((↑a_2.j : Int) - (1 : Int)) ∧
      IntKind.i64.wrap ((↑a_2.j : Int) - (1 : Int)) < (↑n : Int)) ∧
      (Wr m.sz (fun (z : Nat) => (0 : Nat) < n ∧ z = b)
      (a_2.m.setCells b_5 (off + (↑a_2.j : Int).toNat * (1 : Nat))
      [Value.int IntKind.i64 n_4])
      b_6
      (off_1 + (IntKind.i64.wrap ((↑a_2.j : Int) - (1 : Int))).toNat * (1 : Nat))
      #[Value.int IntKind.i64 n_5].size ∧
      ∃ (a' : InX),
      ((InJ b o n x z env ok f g m a' ∧
      (a_2.m.setCells b_5 (off + (↑a_2.j : Int).toNat * (1 : Nat))
      [Value.int IntKind.i64 n_4]).setCells
      b_6
      (off_1 +
      (IntKind.i64.wrap ((↑a_2.j : Int) - (1 : Int))).toNat *
      (1 : Nat))
      [Value.int IntKind.i64 n_5] =
      a'.m ∧
      ((SV.val
      (Value.int IntKind.i64
      (IntKind.i64.wrap ((↑a_2.j : Int) - (1 : Int)))) =
      SV.val (Value.int IntKind.i64 (↑a'.j : Int)) ∧
      true = true) ∧
      (SV.val (Value.int IntKind.i64 (↑a_2.i : Int)) =
      SV.val (Value.int IntKind.i64 (↑a'.i : Int)) ∧
      true = true) ∧
      (SV.val (Value.int IntKind.i64 (↑z : Int)) =
      SV.val (Value.int IntKind.i64 (↑z : Int)) ∧
      true = true) ∧
      (SV.val (Value.int IntKind.i64 (↑x : Int)) =
      SV.val (Value.int IntKind.i64 (↑x : Int)) ∧
      true = true) ∧
      (SV.val
      (Value.func (Fn.func (58 : FuncId)) #[]
      #[Value.pointer
      (some
      { block := bl, off := (0 : Nat) : Addr })]) =
      SV.val
      (Value.func (Fn.func (58 : FuncId)) #[]
      #[Value.pointer
      (some
      { block := bl, off := (0 : Nat) : Addr })]) ∧
      true = true) ∧
      (SV.val (Value.slice av n c) =
      SV.val (Value.slice av n c) ∧
      true = true) ∧
      True) ∧
      True) ∧
      [z - a.i] = [z - a'.i]) ∧
      a'.j < a_2.j) ∧
      True) ∧
      True)
      (∃ (a' : InX),
      ((InI b o n x z env ok f g m a' ∧ DatC b o n env ok a'.g a'.m) ∧
      a_2.m = a'.m ∧
      ((SV.val (Value.int IntKind.i64 (IntKind.i64.wrap ((↑a_2.i : Int) + (1 : Int)))) =
      SV.val (Value.int IntKind.i64 (↑a'.i : Int)) ∧
      true = true) ∧
      (SV.val (Value.int IntKind.i64 (↑z : Int)) = SV.val (Value.int IntKind.i64 (↑z : Int)) ∧ true = true) ∧
      (SV.val (Value.int IntKind.i64 (↑x : Int)) = SV.val (Value.int IntKind.i64 (↑x : Int)) ∧ true = true) ∧
      (SV.val
      (Value.func (Fn.func (58 : FuncId)) #[]
      #[Value.pointer (some { block := bl, off := (0 : Nat) : Addr })]) =
      SV.val
      (Value.func (Fn.func (58 : FuncId)) #[]
      #[Value.pointer (some { block := bl, off := (0 : Nat) : Addr })]) ∧
      true = true) ∧
      (SV.val (Value.slice av n c) = SV.val (Value.slice av n c) ∧ true = true) ∧ True) ∧
      True) ∧
      z - a'.i < z - a.i))
      (∃ (a' : InX),
      ((InI b o n x z env ok f g m a' ∧ DatC b o n env ok a'.g a'.m) ∧
      a_2.m = a'.m ∧
      ((SV.val (Value.int IntKind.i64 (IntKind.i64.wrap ((↑a_2.i : Int) + (1 : Int)))) = SV.val (Value.int IntKind.i64 (↑a'.i : Int)) ∧ true = true) ∧
      (SV.val (Value.int IntKind.i64 (↑z : Int)) = SV.val (Value.int IntKind.i64 (↑z : Int)) ∧ true = true) ∧
      (SV.val (Value.int IntKind.i64 (↑x : Int)) = SV.val (Value.int IntKind.i64 (↑x : Int)) ∧ true = true) ∧
      (SV.val (Value.func (Fn.func (58 : FuncId)) #[] #[Value.pointer (some { block := bl, off := (0 : Nat) : Addr })]) =
      SV.val (Value.func (Fn.func (58 : FuncId)) #[] #[Value.pointer (some { block := bl, off := (0 : Nat) : Addr })]) ∧
      true = true) ∧
      (SV.val (Value.slice av n c) = SV.val (Value.slice av n c) ∧ true = true) ∧ True) ∧
      True) ∧
      z - a'.i < z - a.i))
      (Done (Value.tuple #[] = Value.tuple #[] ∧ ∃ (g' : Nat → Int), DatC b o n env ok g' a.m ∧ Mem x z g g' ∧ Srt f x z g'))) (by kernel_rfl) ?_
  have w1 : IntKind.i64.wrap ((x : Int) + 1) = ((x + 1 : Nat) : Int) := wrapN (by omega) (by omega)
  rw [w1]
  refine ⟨rfl, ⟨⟨x + 1, 0, g, m⟩, ⟨⟨Nat.le_refl _, .inr rfl, .refl, fun i j h1 h2 h3 => by simp only at h3; omega, hst, Nat.le_refl _⟩, h⟩, rfl, by simp⟩, fun t ⟨T, D⟩ => ifB_intro (fun hb => ⟨⟨⟨t.i, t.i, t.g, t.m⟩, ⟨⟨⟨T.lo, T.hi, T.mem, T.srt, T.stb, T.sz⟩, ?_, ?_, Nat.le_refl _, D.congr fun p hp => ?_, fun p h1 h2 => ?_⟩, rfl, by simp⟩, rfl⟩, fun u ⟨U, Uc⟩ => ?_⟩) (fun hb => ⟨rfl, t.g, D, T.mem, ?_⟩)⟩
  · simpa using hb
  · have := T.lo; simp only; omega
  · simp only; rw [rotF_id2 (by omega)]
  · simp only at h1 h2; omega
  · have hu := U.lt
    have hlo := U.lo
    have hhi := U.hi
    have hl1 := U.i.lo
    have hS : m.sz ≤ b ∨ (0 < n ∧ b = b) := .inr ⟨by omega, rfl⟩
    have hui : u.i = t.i := by simp at Uc hb; omega
    have w3 : IntKind.i64.wrap ((u.i : Int) + 1) = ((u.i + 1 : Nat) : Int) := wrapN (by omega) (by omega)
    rw [w3]
    have next : ∀ j, x ≤ j → j ≤ u.i → (∀ p, j ≤ p → p < u.i → lexN f (u.g u.i) (u.g p)) → (∀ p, x ≤ p → p < j → lexN f (u.g p) (u.g u.i)) → ∀ g', g' = rotF j u.i (u.i + 1) u.g → InI b o n x z env ok f g m ⟨u.i + 1, 0, g', u.m⟩ := fun j h1 h2 h3 h4 g' e => by
      subst e
      have hs := Srt.insBack h1 h2 U.i.srt h3 h4
      have hm : Mem j (u.i + 1) u.g (rotF j u.i (u.i + 1) u.g) := rotF_mem h2 (by omega)
      exact ⟨by simp only; omega, .inl (by simp only; omega), U.i.mem.trans (hm.wide h1 (by omega)), hs, U.i.stb.mem (hm.wide h1 (Nat.le_refl _)) hs (Nat.le_refl _) (by omega), U.i.sz⟩
    refine ⟨rfl, ifB_intro (fun hb2 => ?_) (fun hb2 => ?_)⟩
    · have hj : x < u.j := by simp at hb2; omega
      have w2 : IntKind.i64.wrap ((u.j : Int) - 1) = ((u.j - 1 : Nat) : Int) := wrapN (by omega) (by omega)
      rw [w2]
      simp only [Int.toNat_natCast]
      have l1 : u.j < n := by omega
      have l2 : u.j - 1 < n := by omega
      have e1 : rotF u.j u.i (u.i + 1) u.g u.j = u.g u.i := by rw [rotF_lo (by omega) (by omega)]; congr 1; omega
      have e2 : rotF u.j u.i (u.i + 1) u.g (u.j - 1) = u.g (u.j - 1) := rotF_out (by omega) (by omega) (by omega)
      have c1 := U.dat.at l1
      have c2 := U.dat.at l2
      have o1 := U.dat.ok _ l1
      have o2 := U.dat.ok _ l2
      rw [e1] at c1 o1
      rw [e2] at c2 o2
      obtain ⟨v, hq, hv⟩ := C.q u.m U.dat.env _ _ o1 o2
      refine ⟨b, o, ha (by omega), by omega, _, c1, b, o, ha (by omega), by omega, _, c2, v, hq, ifB_intro (fun hb3 => ?_) (fun hb3 => ?_)⟩
      · have hlt : f (u.g u.i) < f (u.g (u.j - 1)) := hv.1 (by simpa using hb3)
        have hd1 := U.dat.set C l1 _ o2
        have hd2 := hd1.set C l2 _ o1
        refine ⟨trivial, b, o, ha (by omega), by omega, _, c2, b, o, ha (by omega), by omega, _, c1, b, o, ha (by omega), by omega, ⟨U.dat.wr (S := fun z => 0 < n ∧ z = b) hS l1, trivial, b, o, ha (by omega), by omega, ⟨hd1.wr (S := fun z => 0 < n ∧ z = b) hS l2, ⟨⟨u.i, u.j - 1, u.g, (u.m.setCells b (o + u.j * 1) [I (u.g (u.j - 1))]).setCells b (o + (u.j - 1) * 1) [I (u.g u.i)]⟩, ⟨⟨⟨⟨U.i.lo, U.i.hi, U.i.mem, U.i.srt, U.i.stb, U.i.sz⟩, hu, by simp only; omega, by simp only; omega, hd2.congr fun p hp => ?_, fun p h1 h2 => ?_⟩, rfl, by simp⟩, Uc⟩, by simp only; omega⟩⟩, trivial⟩, trivial⟩
        · exact rot_back (by omega) hhi p
        · by_cases e : p = u.j - 1
          · rw [e]; exact .inl hlt
          · exact U.big p (by simp only at h1; omega) h2
      · have hge : ¬ f (u.g u.i) < f (u.g (u.j - 1)) := fun hh => by
          have := hv.2 hh
          simp at hb3; omega
        have hm := U.i.stb.more (i := u.j - 1) (j := u.i) (by omega) (by omega) hu hge
        refine ⟨⟨u.i + 1, 0, _, u.m⟩, ⟨⟨next u.j hlo hhi U.big (fun p h1 h2 => ?_) _ rfl, U.dat⟩, rfl, by simp⟩, by simp only; omega⟩
        by_cases e : p = u.j - 1
        · rw [e]; exact hm
        · exact lexN_trans (U.i.srt p (u.j - 1) h1 (by omega) (by omega)) hm
    · have hj : u.j = x := by simp at hb2; omega
      exact ⟨⟨u.i + 1, 0, _, u.m⟩, ⟨⟨next u.j hlo hhi U.big (fun p h1 h2 => by omega) _ rfl, U.dat⟩, rfl, by simp⟩, by simp only; omega⟩
  · refine T.srt.sub (Nat.le_refl _) ?_
    have := T.hi; simp at hb; omega

end Go.Proofs.Ytbhlhnkjmncloaa
set_option linter.unusedVariables false
set_option linter.unusedSimpArgs false
namespace Go.Proofs.Ytbhlhnkjmncloaa
open Go.Vc Go.RowKit
set_option maxRecDepth 100000

structure SyX where
  i : Nat
  j : Nat
  k : Nat
  g : Nat → Int
  m : M

def symAnn (av : Option Addr) (b o n c bl x y z mid L R : Nat) (env : M → Prop) (ok : Int → Prop) (f : Int → Int) (g : Nat → Int) (m : M) : Nat → Ann
  | 3 => { A := SyX, inv := fun t => y ≤ t.i ∧ t.i ≤ t.j ∧ t.j ≤ z ∧ (∀ p, y ≤ p → p < t.i → lexN f (g p) (g x)) ∧ (∀ p, t.j ≤ p → p < z → lexN f (g x) (g p)), st := fun t => [(10, .val (I t.i)), (11, .val (I t.j)), (4, .val (cmpV bl)), (0, .val (.slice av n c)), (1, .val (I x)), (3, .val (I z)), (2, .val (I y))], own := fun _ => [], m := fun _ => m, μ := fun t => t.j - t.i }
  | 9 => { A := SyX, inv := fun t => y ≤ t.i ∧ t.i ≤ z ∧ (∀ p, y ≤ p → p < t.i → lexN f (g p) (g x)) ∧ (∀ p, t.i ≤ p → p < z → lexN f (g x) (g p)) ∧ x ≤ t.k ∧ t.k + 1 ≤ t.i ∧ DatC b o n env ok (rotF x (x + 1) (t.k + 1) g) t.m ∧ m.sz ≤ t.m.sz, st := fun t => [(13, .val (I t.k)), (10, .val (I t.i)), (4, .val (cmpV bl)), (0, .val (.slice av n c)), (1, .val (I x)), (3, .val (I z)), (2, .val (I y))], own := fun _ => [], m := fun t => t.m, μ := fun t => t.i - t.k }
  | 15 => { A := SyX, inv := fun t => x ≤ t.i ∧ t.i ≤ t.j ∧ t.j ≤ y ∧ (∀ p, x ≤ p → p < t.i → lexN f (g p) (g y)) ∧ (∀ p, t.j ≤ p → p < y → lexN f (g y) (g p)), st := fun t => [(14, .val (I t.i)), (15, .val (I t.j)), (4, .val (cmpV bl)), (0, .val (.slice av n c)), (1, .val (I x)), (3, .val (I z)), (2, .val (I y))], own := fun _ => [], m := fun _ => m, μ := fun t => t.j - t.i }
  | 21 => { A := SyX, inv := fun t => x ≤ t.i ∧ t.i ≤ y ∧ (∀ p, x ≤ p → p < t.i → lexN f (g p) (g y)) ∧ (∀ p, t.i ≤ p → p < y → lexN f (g y) (g p)) ∧ t.i ≤ t.k ∧ t.k ≤ y ∧ DatC b o n env ok (rotF t.k y (y + 1) g) t.m ∧ m.sz ≤ t.m.sz, st := fun t => [(17, .val (I t.k)), (14, .val (I t.i)), (4, .val (cmpV bl)), (0, .val (.slice av n c)), (1, .val (I x)), (3, .val (I z)), (2, .val (I y))], own := fun _ => [], m := fun t => t.m, μ := fun t => t.k }
  | 32 => { A := SyX, inv := fun t => t.i = L ∧ t.j = R, st := fun t => [(20, .val (I t.i)), (21, .val (I t.j)), (4, .val (cmpV bl)), (0, .val (.slice av n c)), (19, .val (I (mid + y : Nat))), (2, .val (I y)), (1, .val (I x)), (18, .val (I mid)), (3, .val (I z))], own := fun _ => [], m := fun _ => m, μ := fun _ => 0, cut := true }
  | 33 => { A := SyX, inv := fun t => SymB f y mid L R t.i t.j g, st := fun t => [(20, .val (I t.i)), (21, .val (I t.j)), (4, .val (cmpV bl)), (0, .val (.slice av n c)), (22, .val (I (mid + y - 1 : Nat))), (19, .val (I (mid + y : Nat))), (2, .val (I y)), (1, .val (I x)), (18, .val (I mid)), (3, .val (I z))], own := fun _ => [], m := fun _ => m, μ := fun t => t.j - t.i }
  | 41 => { A := SyX, inv := fun t => SymR f x mid z t.i t.j t.g ∧ DatC b o n env ok t.g t.m ∧ Mem x z g t.g ∧ m.sz ≤ t.m.sz, st := fun t => [(20, .val (I t.i)), (24, .val (I t.j)), (4, .val (cmpV bl)), (0, .val (.slice av n c)), (1, .val (I x)), (18, .val (I mid)), (3, .val (I z))], own := fun _ => [], m := fun t => t.m, μ := fun _ => 0, cut := true }
  | 43 => { A := SyX, inv := fun t => mid ≤ t.j ∧ t.j ≤ z ∧ Srt f x mid t.g ∧ Srt f mid t.j t.g ∧ Srt f t.j z t.g ∧ Stb f mid z t.g ∧ (∀ p q, x ≤ p → p < mid → mid ≤ q → q < z → lexN f (t.g p) (t.g q)) ∧ DatC b o n env ok t.g t.m ∧ Mem x z g t.g ∧ m.sz ≤ t.m.sz, st := fun t => [(24, .val (I t.j)), (4, .val (cmpV bl)), (0, .val (.slice av n c)), (18, .val (I mid)), (3, .val (I z))], own := fun _ => [], m := fun t => t.m, μ := fun _ => 0, cut := true }
  | 11 => { noAnn 0 with loose := true }
  | 23 => { noAnn 0 with loose := true }
  | _ => noAnn 0

theorem halfN {i j : Nat} (hi : i ≤ 3518437208870) (hj : j ≤ 3518437208870) : IntKind.i64.wrap ((IntKind.u64.wrap (IntKind.i64.wrap ((i : Int) + (j : Int)))).fdiv (2 ^ 1)) = (((i + j) / 2 : Nat) : Int) := by
  rw [Int.fdiv_eq_ediv_of_nonneg _ (by decide)]
  simp [IntKind.wrap_i64, IntKind.wrap_u64]; omega

set_option maxHeartbeats 1000000 in
theorem symmerge_s (av : Option Addr) (b o n c bl : Nat) (ha : 0 < n → av = some ⟨b, o, none⟩) (env : M → Prop) (ok : Int → Prop) (f : Int → Int) (C : CmpC b bl env ok f) (hn : n ≤ 3518437208870) : ∀ (N x y z : Nat) (g : Nat → Int), z - x ≤ N → x < y → y < z → z ≤ n → Stb f x z g → Srt f x y g → Srt f y z g → ∀ (m : M) (h : DatC b o n env ok g m),
    SpecW Try.prog 73 [.slice av n c, I x, I y, I z, cmpV bl] m (fun z => 0 < n ∧ z = b) fun v m' => v = .tuple #[] ∧ ∃ g', DatC b o n env ok g' m' ∧ Mem x z g g' ∧ Srt f x z g' := by
  intro N
  induction N with
  | zero => intro x y z g h1 h2 h3; omega
  | succ N ih =>
  intro x y z g hN hxy hyz hz hst hl hr m h
  obtain ⟨L, R, hLR⟩ : ∃ L R, SymL x y z ((x + z) / 2) L R := by
    by_cases e : (x + z) / 2 < y
    · exact ⟨_, _, hxy, hyz, rfl, fun _ => ⟨rfl, rfl⟩, fun _ => by omega⟩
    · exact ⟨_, _, hxy, hyz, rfl, fun _ => by omega, fun _ => ⟨rfl, rfl⟩⟩
  generalize hmid : (x + z) / 2 = mid at hLR
  refine SpecW.of_vc Try.func73 (ann := symAnn av b o n c bl x y z mid L R env ok f g m) ?_
  refine vc_by (X :=
      true = true ∧
      ifB (IntKind.i64.wrap ((↑y : Int) - (↑x : Int)) == (1 : Int))
      ((∃ (a : SyX),
      (y ≤ a.i ∧ a.i ≤ a.j ∧ a.j ≤ z ∧ (∀ (p : Nat), y ≤ p → p < a.i → lexN f (g p) (g x)) ∧ ∀ (p : Nat), a.j ≤ p → p < z → lexN f (g x) (g p)) ∧
      m = m ∧
      ((SV.val (Value.int IntKind.i64 (↑y : Int)) = SV.val (Value.int IntKind.i64 (↑a.i : Int)) ∧ true = true) ∧
      (SV.val (Value.int IntKind.i64 (↑z : Int)) = SV.val (Value.int IntKind.i64 (↑a.j : Int)) ∧ true = true) ∧
      (SV.val (Value.func (Fn.func (58 : FuncId)) #[] #[Value.pointer (some { block := bl, off := (0 : Nat) : Addr })]) =
      SV.val (Value.func (Fn.func (58 : FuncId)) #[] #[Value.pointer (some { block := bl, off := (0 : Nat) : Addr })]) ∧
      true = true) ∧
      (SV.val (Value.slice av n c) = SV.val (Value.slice av n c) ∧ true = true) ∧
      (SV.val (Value.int IntKind.i64 (↑x : Int)) = SV.val (Value.int IntKind.i64 (↑x : Int)) ∧ true = true) ∧
      (SV.val (Value.int IntKind.i64 (↑z : Int)) = SV.val (Value.int IntKind.i64 (↑z : Int)) ∧ true = true) ∧
      (SV.val (Value.int IntKind.i64 (↑y : Int)) = SV.val (Value.int IntKind.i64 (↑y : Int)) ∧ true = true) ∧ True) ∧
      True) ∧
      ∀ (a : SyX),
      (y ≤ a.i ∧ a.i ≤ a.j ∧ a.j ≤ z ∧ (∀ (p : Nat), y ≤ p → p < a.i → lexN f (g p) (g x)) ∧ ∀ (p : Nat), a.j ≤ p → p < z → lexN f (g x) (g p)) →
      ifB (decide ((↑a.i : Int) < (↑a.j : Int)))
      (true = true ∧
      ∃ (b : Nat),
      ∃ (off : Nat),
      av = some { block := b, off := off : Addr } ∧
      ((0 : Int) ≤ IntKind.i64.wrap ((IntKind.u64.wrap (IntKind.i64.wrap ((↑a.i : Int) + (↑a.j : Int)))).fdiv ((2 : Int) ^ (1 : Nat))) ∧
      IntKind.i64.wrap ((IntKind.u64.wrap (IntKind.i64.wrap ((↑a.i : Int) + (↑a.j : Int)))).fdiv ((2 : Int) ^ (1 : Nat))) < (↑n : Int)) ∧
      ∃ (n_1 : Int),
      CellsAt m b (off + (IntKind.i64.wrap ((IntKind.u64.wrap (IntKind.i64.wrap ((↑a.i : Int) + (↑a.j : Int)))).fdiv ((2 : Int) ^ (1 : Nat)))).toNat * (1 : Nat))
      [Value.int IntKind.i64 n_1] ∧
      ∃ (b : Nat),
      ∃ (off : Nat),
      av = some { block := b, off := off : Addr } ∧
      ((0 : Int) ≤ (↑x : Int) ∧ (↑x : Int) < (↑n : Int)) ∧
      ∃ (n_2 : Int),
      CellsAt m b (off + (↑x : Int).toNat * (1 : Nat)) [Value.int IntKind.i64 n_2] ∧
      ∃ (n_3 : Int),
      QSpec Try.prog (58 : FuncId)
      [Value.int IntKind.i64 n_1, Value.int IntKind.i64 n_2, Value.pointer (some { block := bl, off := (0 : Nat) : Addr })] m
      (Value.int IntKind.i64 n_3) ∧
      ifB (decide (n_3 < (0 : Int)))
      (∃ (a' : SyX),
      ((y ≤ a'.i ∧
      a'.i ≤ a'.j ∧
      a'.j ≤ z ∧ (∀ (p : Nat), y ≤ p → p < a'.i → lexN f (g p) (g x)) ∧ ∀ (p : Nat), a'.j ≤ p → p < z → lexN f (g x) (g p)) ∧
      m = m ∧
      ((SV.val
      (Value.int IntKind.i64
      (IntKind.i64.wrap
      (IntKind.i64.wrap
      ((IntKind.u64.wrap (IntKind.i64.wrap ((↑a.i : Int) + (↑a.j : Int)))).fdiv ((2 : Int) ^ (1 : Nat))) +
      (1 : Int)))) =
      SV.val (Value.int IntKind.i64 (↑a'.i : Int)) ∧
      true = true) ∧
      (SV.val (Value.int IntKind.i64 (↑a.j : Int)) = SV.val (Value.int IntKind.i64 (↑a'.j : Int)) ∧ true = true) ∧
      (SV.val (Value.func (Fn.func (58 : FuncId)) #[] #[Value.pointer (some { block := bl, off := (0 : Nat) : Addr })]) =
      SV.val (Value.func (Fn.func (58 : FuncId)) #[] #[Value.pointer (some { block := bl, off := (0 : Nat) : Addr })]) ∧
      true = true) ∧
      (SV.val (Value.slice av n c) = SV.val (Value.slice av n c) ∧ true = true) ∧
      (SV.val (Value.int IntKind.i64 (↑x : Int)) = SV.val (Value.int IntKind.i64 (↑x : Int)) ∧ true = true) ∧
      (SV.val (Value.int IntKind.i64 (↑z : Int)) = SV.val (Value.int IntKind.i64 (↑z : Int)) ∧ true = true) ∧
      (SV.val (Value.int IntKind.i64 (↑y : Int)) = SV.val (Value.int IntKind.i64 (↑y : Int)) ∧ true = true) ∧ True) ∧
      True) ∧
      a'.j - a'.i < a.j - a.i)
      (∃ (a' : SyX),
      ((y ≤ a'.i ∧
      a'.i ≤ a'.j ∧
      a'.j ≤ z ∧ (∀ (p : Nat), y ≤ p → p < a'.i → lexN f (g p) (g x)) ∧ ∀ (p : Nat), a'.j ≤ p → p < z → lexN f (g x) (g p)) ∧
      m = m ∧
      ((SV.val (Value.int IntKind.i64 (↑a.i : Int)) = SV.val (Value.int IntKind.i64 (↑a'.i : Int)) ∧ true = true) ∧
      (SV.val
      (Value.int IntKind.i64
      (IntKind.i64.wrap
      ((IntKind.u64.wrap (IntKind.i64.wrap ((↑a.i : Int) + (↑a.j : Int)))).fdiv ((2 : Int) ^ (1 : Nat))))) =
      SV.val (Value.int IntKind.i64 (↑a'.j : Int)) ∧
      true = true) ∧
      (SV.val (Value.func (Fn.func (58 : FuncId)) #[] #[Value.pointer (some { block := bl, off := (0 : Nat) : Addr })]) =
      SV.val (Value.func (Fn.func (58 : FuncId)) #[] #[Value.pointer (some { block := bl, off := (0 : Nat) : Addr })]) ∧
      true = true) ∧
      (SV.val (Value.slice av n c) = SV.val (Value.slice av n c) ∧ true = true) ∧
      (SV.val (Value.int IntKind.i64 (↑x : Int)) = SV.val (Value.int IntKind.i64 (↑x : Int)) ∧ true = true) ∧
      (SV.val (Value.int IntKind.i64 (↑z : Int)) = SV.val (Value.int IntKind.i64 (↑z : Int)) ∧ true = true) ∧
      (SV.val (Value.int IntKind.i64 (↑y : Int)) = SV.val (Value.int IntKind.i64 (↑y : Int)) ∧ true = true) ∧ True) ∧
      True) ∧
      a'.j - a'.i < a.j - a.i))
      ((∃ (a_2 : SyX),
      (y ≤ a_2.i ∧
      a_2.i ≤ z ∧
      (∀ (p : Nat), y ≤ p → p < a_2.i → lexN f (g p) (g x)) ∧
      (∀ (p : Nat), a_2.i ≤ p → p < z → lexN f (g x) (g p)) ∧
      x ≤ a_2.k ∧ a_2.k + (1 : Nat) ≤ a_2.i ∧ DatC b o n env ok (rotF x (x + (1 : Nat)) (a_2.k + (1 : Nat)) g) a_2.m ∧ m.sz ≤ a_2.m.sz) ∧
      m = a_2.m ∧
      ((SV.val (Value.int IntKind.i64 (↑x : Int)) = SV.val (Value.int IntKind.i64 (↑a_2.k : Int)) ∧ true = true) ∧
      (SV.val (Value.int IntKind.i64 (↑a.i : Int)) = SV.val (Value.int IntKind.i64 (↑a_2.i : Int)) ∧ true = true) ∧
      (SV.val (Value.func (Fn.func (58 : FuncId)) #[] #[Value.pointer (some { block := bl, off := (0 : Nat) : Addr })]) =
      SV.val (Value.func (Fn.func (58 : FuncId)) #[] #[Value.pointer (some { block := bl, off := (0 : Nat) : Addr })]) ∧
      true = true) ∧
      (SV.val (Value.slice av n c) = SV.val (Value.slice av n c) ∧ true = true) ∧
      (SV.val (Value.int IntKind.i64 (↑x : Int)) = SV.val (Value.int IntKind.i64 (↑x : Int)) ∧ true = true) ∧
      (SV.val (Value.int IntKind.i64 (↑z : Int)) = SV.val (Value.int IntKind.i64 (↑z : Int)) ∧ true = true) ∧
      (SV.val (Value.int IntKind.i64 (↑y : Int)) = SV.val (Value.int IntKind.i64 (↑y : Int)) ∧ true = true) ∧ True) ∧
      True) ∧
      ∀ (a : SyX),
      y ≤ a.i ∧
      a.i ≤ z ∧
      (∀ (p : Nat), y ≤ p → p < a.i → lexN f (g p) (g x)) ∧
      (∀ (p : Nat), a.i ≤ p → p < z → lexN f (g x) (g p)) ∧
      x ≤ a.k ∧ a.k + (1 : Nat) ≤ a.i ∧ DatC b o n env ok (rotF x (x + (1 : Nat)) (a.k + (1 : Nat)) g) a.m ∧ m.sz ≤ a.m.sz →
      ifB (decide ((↑a.k : Int) < IntKind.i64.wrap ((↑a.i : Int) - (1 : Int))))
      (true = true ∧
      ∃ (b_1 : Nat),
      ∃ (off : Nat),
      av = some { block := b_1, off := off : Addr } ∧
      ((0 : Int) ≤ IntKind.i64.wrap ((↑a.k : Int) + (1 : Int)) ∧ IntKind.i64.wrap ((↑a.k : Int) + (1 : Int)) < (↑n : Int)) ∧
      ∃ (n_1 : Int),
      CellsAt a.m b_1 (off + (IntKind.i64.wrap ((↑a.k : Int) + (1 : Int))).toNat * (1 : Nat)) [Value.int IntKind.i64 n_1] ∧
      ∃ (b_2 : Nat),
      ∃ (off : Nat),
      av = some { block := b_2, off := off : Addr } ∧
      ((0 : Int) ≤ (↑a.k : Int) ∧ (↑a.k : Int) < (↑n : Int)) ∧
      ∃ (n_2 : Int),
      CellsAt a.m b_2 (off + (↑a.k : Int).toNat * (1 : Nat)) [Value.int IntKind.i64 n_2] ∧
      ∃ (b_3 : Nat),
      ∃ (off : Nat),
      av = some { block := b_3, off := off : Addr } ∧
      ((0 : Int) ≤ (↑a.k : Int) ∧ (↑a.k : Int) < (↑n : Int)) ∧
      (Wr m.sz (fun (z : Nat) => (0 : Nat) < n ∧ z = b) a.m b_3 (off + (↑a.k : Int).toNat * (1 : Nat))
      #[Value.int IntKind.i64 n_1].size ∧
      True ∧
      ∃ (b_4 : Nat),
      ∃ (off_1 : Nat),
      av = some { block := b_4, off := off_1 : Addr } ∧
      ((0 : Int) ≤ IntKind.i64.wrap ((↑a.k : Int) + (1 : Int)) ∧
      IntKind.i64.wrap ((↑a.k : Int) + (1 : Int)) < (↑n : Int)) ∧
      (Wr m.sz (fun (z : Nat) => (0 : Nat) < n ∧ z = b)
      (a.m.setCells b_3 (off + (↑a.k : Int).toNat * (1 : Nat)) [Value.int IntKind.i64 n_1]) b_4
      (off_1 + (IntKind.i64.wrap ((↑a.k : Int) + (1 : Int))).toNat * (1 : Nat))
      #[Value.int IntKind.i64 n_2].size ∧
      ∃ (a' : SyX),
      ((y ≤ a'.i ∧
      a'.i ≤ z ∧
      (∀ (p : Nat), y ≤ p → p < a'.i → lexN f (g p) (g x)) ∧
      (∀ (p : Nat), a'.i ≤ p → p < z → lexN f (g x) (g p)) ∧
      x ≤ a'.k ∧
      a'.k + (1 : Nat) ≤ a'.i ∧
      DatC b o n env ok (rotF x (x + (1 : Nat)) (a'.k + (1 : Nat)) g) a'.m ∧ m.sz ≤ a'.m.sz) ∧
      (a.m.setCells b_3 (off + (↑a.k : Int).toNat * (1 : Nat)) [Value.int IntKind.i64 n_1]).setCells b_4
      (off_1 + (IntKind.i64.wrap ((↑a.k : Int) + (1 : Int))).toNat * (1 : Nat))
      [Value.int IntKind.i64 n_2] =
      a'.m ∧
      ((SV.val (Value.int IntKind.i64 (IntKind.i64.wrap ((↑a.k : Int) + (1 : Int)))) =
      SV.val (Value.int IntKind.i64 (↑a'.k : Int)) ∧
      true = true) ∧
      (SV.val (Value.int IntKind.i64 (↑a.i : Int)) = SV.val (Value.int IntKind.i64 (↑a'.i : Int)) ∧
      true = true) ∧
      (SV.val
      (Value.func (Fn.func (58 : FuncId)) #[]
      #[Value.pointer (some { block := bl, off := (0 : Nat) : Addr })]) =
      SV.val
      (Value.func (Fn.func (58 : FuncId)) #[]
      #[Value.pointer (some { block := bl, off := (0 : Nat) : Addr })]) ∧
      true = true) ∧
      (SV.val (Value.slice av n c) = SV.val (Value.slice av n c) ∧ true = true) ∧
      (SV.val (Value.int IntKind.i64 (↑x : Int)) = SV.val (Value.int IntKind.i64 (↑x : Int)) ∧
      true = true) ∧
      (SV.val (Value.int IntKind.i64 (↑z : Int)) = SV.val (Value.int IntKind.i64 (↑z : Int)) ∧
      true = true) ∧
      (SV.val (Value.int IntKind.i64 (↑y : Int)) =
      SV.val (Value.int IntKind.i64 (↑y : Int)) ∧
      true = true) ∧
      True) ∧
      True) ∧
      a'.i - a'.k < a.i - a.k) ∧
      True) ∧
      True)
      (Done (Value.tuple #[] = Value.tuple #[] ∧ ∃ (g' : Nat → Int), DatC b o n env ok g' a.m ∧ Mem x z g g' ∧ Srt f x z g'))))
      (ifB (IntKind.i64.wrap ((↑z : Int) - (↑y : Int)) == (1 : Int))
      ((∃ (a : SyX),
      (x ≤ a.i ∧ a.i ≤ a.j ∧ a.j ≤ y ∧ (∀ (p : Nat), x ≤ p → p < a.i → lexN f (g p) (g y)) ∧ ∀ (p : Nat), a.j ≤ p → p < y → lexN f (g y) (g p)) ∧
      m = m ∧
      ((SV.val (Value.int IntKind.i64 (↑x : Int)) = SV.val (Value.int IntKind.i64 (↑a.i : Int)) ∧ true = true) ∧
      (SV.val (Value.int IntKind.i64 (↑y : Int)) = SV.val (Value.int IntKind.i64 (↑a.j : Int)) ∧ true = true) ∧
      (SV.val (Value.func (Fn.func (58 : FuncId)) #[] #[Value.pointer (some { block := bl, off := (0 : Nat) : Addr })]) =
      SV.val (Value.func (Fn.func (58 : FuncId)) #[] #[Value.pointer (some { block := bl, off := (0 : Nat) : Addr })]) ∧
      true = true) ∧
      (SV.val (Value.slice av n c) = SV.val (Value.slice av n c) ∧ true = true) ∧
      (SV.val (Value.int IntKind.i64 (↑x : Int)) = SV.val (Value.int IntKind.i64 (↑x : Int)) ∧ true = true) ∧
      (SV.val (Value.int IntKind.i64 (↑z : Int)) = SV.val (Value.int IntKind.i64 (↑z : Int)) ∧ true = true) ∧
      (SV.val (Value.int IntKind.i64 (↑y : Int)) = SV.val (Value.int IntKind.i64 (↑y : Int)) ∧ true = true) ∧ True) ∧
      True) ∧
      ∀ (a : SyX),
      (x ≤ a.i ∧ a.i ≤ a.j ∧ a.j ≤ y ∧ (∀ (p : Nat), x ≤ p → p < a.i → lexN f (g p) (g y)) ∧ ∀ (p : Nat), a.j ≤ p → p < y → lexN f (g y) (g p)) →
      ifB (decide ((↑a.i : Int) < (↑a.j : Int)))
      (true = true ∧
      ∃ (b : Nat),
      ∃ (off : Nat),
      av = some { block := b, off := off : Addr } ∧
      ((0 : Int) ≤ (↑y : Int) ∧ (↑y : Int) < (↑n : Int)) ∧
      ∃ (n_1 : Int),
      CellsAt m b (off + (↑y : Int).toNat * (1 : Nat)) [Value.int IntKind.i64 n_1] ∧
      ∃ (b : Nat),
      ∃ (off : Nat),
      av = some { block := b, off := off : Addr } ∧
      ((0 : Int) ≤ IntKind.i64.wrap ((IntKind.u64.wrap (IntKind.i64.wrap ((↑a.i : Int) + (↑a.j : Int)))).fdiv ((2 : Int) ^ (1 : Nat))) ∧
      IntKind.i64.wrap ((IntKind.u64.wrap (IntKind.i64.wrap ((↑a.i : Int) + (↑a.j : Int)))).fdiv ((2 : Int) ^ (1 : Nat))) < (↑n : Int)) ∧
      ∃ (n_2 : Int),
      CellsAt m b
      (off +
      (IntKind.i64.wrap ((IntKind.u64.wrap (IntKind.i64.wrap ((↑a.i : Int) + (↑a.j : Int)))).fdiv ((2 : Int) ^ (1 : Nat)))).toNat * (1 : Nat))
      [Value.int IntKind.i64 n_2] ∧
      ∃ (n_3 : Int),
      QSpec Try.prog (58 : FuncId)
      [Value.int IntKind.i64 n_1, Value.int IntKind.i64 n_2, Value.pointer (some { block := bl, off := (0 : Nat) : Addr })] m
      (Value.int IntKind.i64 n_3) ∧
      ifB (!decide (n_3 < (0 : Int)))
      (∃ (a' : SyX),
      ((x ≤ a'.i ∧
      a'.i ≤ a'.j ∧
      a'.j ≤ y ∧ (∀ (p : Nat), x ≤ p → p < a'.i → lexN f (g p) (g y)) ∧ ∀ (p : Nat), a'.j ≤ p → p < y → lexN f (g y) (g p)) ∧
      m = m ∧
      ((SV.val
      (Value.int IntKind.i64
      (IntKind.i64.wrap
      (IntKind.i64.wrap
      ((IntKind.u64.wrap (IntKind.i64.wrap ((↑a.i : Int) + (↑a.j : Int)))).fdiv ((2 : Int) ^ (1 : Nat))) +
      (1 : Int)))) =
      SV.val (Value.int IntKind.i64 (↑a'.i : Int)) ∧
      true = true) ∧
      (SV.val (Value.int IntKind.i64 (↑a.j : Int)) = SV.val (Value.int IntKind.i64 (↑a'.j : Int)) ∧ true = true) ∧
      (SV.val (Value.func (Fn.func (58 : FuncId)) #[] #[Value.pointer (some { block := bl, off := (0 : Nat) : Addr })]) =
      SV.val (Value.func (Fn.func (58 : FuncId)) #[] #[Value.pointer (some { block := bl, off := (0 : Nat) : Addr })]) ∧
      true = true) ∧
      (SV.val (Value.slice av n c) = SV.val (Value.slice av n c) ∧ true = true) ∧
      (SV.val (Value.int IntKind.i64 (↑x : Int)) = SV.val (Value.int IntKind.i64 (↑x : Int)) ∧ true = true) ∧
      (SV.val (Value.int IntKind.i64 (↑z : Int)) = SV.val (Value.int IntKind.i64 (↑z : Int)) ∧ true = true) ∧
      (SV.val (Value.int IntKind.i64 (↑y : Int)) = SV.val (Value.int IntKind.i64 (↑y : Int)) ∧ true = true) ∧ True) ∧
      True) ∧
      a'.j - a'.i < a.j - a.i)
      (∃ (a' : SyX),
      ((x ≤ a'.i ∧
      a'.i ≤ a'.j ∧
      a'.j ≤ y ∧ (∀ (p : Nat), x ≤ p → p < a'.i → lexN f (g p) (g y)) ∧ ∀ (p : Nat), a'.j ≤ p → p < y → lexN f (g y) (g p)) ∧
      m = m ∧
      ((SV.val (Value.int IntKind.i64 (↑a.i : Int)) = SV.val (Value.int IntKind.i64 (↑a'.i : Int)) ∧ true = true) ∧
      (SV.val
      (Value.int IntKind.i64
      (IntKind.i64.wrap
      ((IntKind.u64.wrap (IntKind.i64.wrap ((↑a.i : Int) + (↑a.j : Int)))).fdiv ((2 : Int) ^ (1 : Nat))))) =
      SV.val (Value.int IntKind.i64 (↑a'.j : Int)) ∧
      true = true) ∧
      (SV.val (Value.func (Fn.func (58 : FuncId)) #[] #[Value.pointer (some { block := bl, off := (0 : Nat) : Addr })]) =
      SV.val (Value.func (Fn.func (58 : FuncId)) #[] #[Value.pointer (some { block := bl, off := (0 : Nat) : Addr })]) ∧
      true = true) ∧
      (SV.val (Value.slice av n c) = SV.val (Value.slice av n c) ∧ true = true) ∧
      (SV.val (Value.int IntKind.i64 (↑x : Int)) = SV.val (Value.int IntKind.i64 (↑x : Int)) ∧ true = true) ∧
      (SV.val (Value.int IntKind.i64 (↑z : Int)) = SV.val (Value.int IntKind.i64 (↑z : Int)) ∧ true = true) ∧
      (SV.val (Value.int IntKind.i64 (↑y : Int)) = SV.val (Value.int IntKind.i64 (↑y : Int)) ∧ true = true) ∧ True) ∧
      True) ∧
      a'.j - a'.i < a.j - a.i))
      ((∃ (a_2 : SyX),
      (x ≤ a_2.i ∧
      a_2.i ≤ y ∧
      (∀ (p : Nat), x ≤ p → p < a_2.i → lexN f (g p) (g y)) ∧
      (∀ (p : Nat), a_2.i ≤ p → p < y → lexN f (g y) (g p)) ∧
      a_2.i ≤ a_2.k ∧ a_2.k ≤ y ∧ DatC b o n env ok (rotF a_2.k y (y + (1 : Nat)) g) a_2.m ∧ m.sz ≤ a_2.m.sz) ∧
      m = a_2.m ∧
      ((SV.val (Value.int IntKind.i64 (↑y : Int)) = SV.val (Value.int IntKind.i64 (↑a_2.k : Int)) ∧ true = true) ∧
      (SV.val (Value.int IntKind.i64 (↑a.i : Int)) = SV.val (Value.int IntKind.i64 (↑a_2.i : Int)) ∧ true = true) ∧
      (SV.val (Value.func (Fn.func (58 : FuncId)) #[] #[Value.pointer (some { block := bl, off := (0 : Nat) : Addr })]) =
      SV.val (Value.func (Fn.func (58 : FuncId)) #[] #[Value.pointer (some { block := bl, off := (0 : Nat) : Addr })]) ∧
      true = true) ∧
      (SV.val (Value.slice av n c) = SV.val (Value.slice av n c) ∧ true = true) ∧
      (SV.val (Value.int IntKind.i64 (↑x : Int)) = SV.val (Value.int IntKind.i64 (↑x : Int)) ∧ true = true) ∧
      (SV.val (Value.int IntKind.i64 (↑z : Int)) = SV.val (Value.int IntKind.i64 (↑z : Int)) ∧ true = true) ∧
      (SV.val (Value.int IntKind.i64 (↑y : Int)) = SV.val (Value.int IntKind.i64 (↑y : Int)) ∧ true = true) ∧ True) ∧
      True) ∧
      ∀ (a : SyX),
      x ≤ a.i ∧
      a.i ≤ y ∧
      (∀ (p : Nat), x ≤ p → p < a.i → lexN f (g p) (g y)) ∧
      (∀ (p : Nat), a.i ≤ p → p < y → lexN f (g y) (g p)) ∧ a.i ≤ a.k ∧ a.k ≤ y ∧ DatC b o n env ok (rotF a.k y (y + (1 : Nat)) g) a.m ∧ m.sz ≤ a.m.sz →
      ifB (decide ((↑a.k : Int) > (↑a.i : Int)))
      (true = true ∧
      ∃ (b_1 : Nat),
      ∃ (off : Nat),
      av = some { block := b_1, off := off : Addr } ∧
      ((0 : Int) ≤ IntKind.i64.wrap ((↑a.k : Int) - (1 : Int)) ∧ IntKind.i64.wrap ((↑a.k : Int) - (1 : Int)) < (↑n : Int)) ∧
      ∃ (n_1 : Int),
      CellsAt a.m b_1 (off + (IntKind.i64.wrap ((↑a.k : Int) - (1 : Int))).toNat * (1 : Nat)) [Value.int IntKind.i64 n_1] ∧
      ∃ (b_2 : Nat),
      ∃ (off : Nat),
      av = some { block := b_2, off := off : Addr } ∧
      ((0 : Int) ≤ (↑a.k : Int) ∧ (↑a.k : Int) < (↑n : Int)) ∧
      ∃ (n_2 : Int),
      CellsAt a.m b_2 (off + (↑a.k : Int).toNat * (1 : Nat)) [Value.int IntKind.i64 n_2] ∧
      ∃ (b_3 : Nat),
      ∃ (off : Nat),
      av = some { block := b_3, off := off : Addr } ∧
      ((0 : Int) ≤ (↑a.k : Int) ∧ (↑a.k : Int) < (↑n : Int)) ∧
      (Wr m.sz (fun (z : Nat) => (0 : Nat) < n ∧ z = b) a.m b_3 (off + (↑a.k : Int).toNat * (1 : Nat))
      #[Value.int IntKind.i64 n_1].size ∧
      True ∧
      ∃ (b_4 : Nat),
      ∃ (off_1 : Nat),
      av = some { block := b_4, off := off_1 : Addr } ∧
      ((0 : Int) ≤ IntKind.i64.wrap ((↑a.k : Int) - (1 : Int)) ∧
      IntKind.i64.wrap ((↑a.k : Int) - (1 : Int)) < (↑n : Int)) ∧
      (Wr m.sz (fun (z : Nat) => (0 : Nat) < n ∧ z = b)
      (a.m.setCells b_3 (off + (↑a.k : Int).toNat * (1 : Nat)) [Value.int IntKind.i64 n_1]) b_4
      (off_1 + (IntKind.i64.wrap ((↑a.k : Int) - (1 : Int))).toNat * (1 : Nat))
      #[Value.int IntKind.i64 n_2].size ∧
      ∃ (a' : SyX),
      ((x ≤ a'.i ∧
      a'.i ≤ y ∧
      (∀ (p : Nat), x ≤ p → p < a'.i → lexN f (g p) (g y)) ∧
      (∀ (p : Nat), a'.i ≤ p → p < y → lexN f (g y) (g p)) ∧
      a'.i ≤ a'.k ∧
      a'.k ≤ y ∧ DatC b o n env ok (rotF a'.k y (y + (1 : Nat)) g) a'.m ∧ m.sz ≤ a'.m.sz) ∧
      (a.m.setCells b_3 (off + (↑a.k : Int).toNat * (1 : Nat)) [Value.int IntKind.i64 n_1]).setCells b_4
      (off_1 + (IntKind.i64.wrap ((↑a.k : Int) - (1 : Int))).toNat * (1 : Nat))
      [Value.int IntKind.i64 n_2] =
      a'.m ∧
      ((SV.val (Value.int IntKind.i64 (IntKind.i64.wrap ((↑a.k : Int) - (1 : Int)))) =
      SV.val (Value.int IntKind.i64 (↑a'.k : Int)) ∧
      true = true) ∧
      (SV.val (Value.int IntKind.i64 (↑a.i : Int)) = SV.val (Value.int IntKind.i64 (↑a'.i : Int)) ∧
      true = true) ∧
      (SV.val
      (Value.func (Fn.func (58 : FuncId)) #[]
      #[Value.pointer (some { block := bl, off := (0 : Nat) : Addr })]) =
      SV.val
      (Value.func (Fn.func (58 : FuncId)) #[]
      #[Value.pointer (some { block := bl, off := (0 : Nat) : Addr })]) ∧
      true = true) ∧
      (SV.val (Value.slice av n c) = SV.val (Value.slice av n c) ∧ true = true) ∧
      (SV.val (Value.int IntKind.i64 (↑x : Int)) = SV.val (Value.int IntKind.i64 (↑x : Int)) ∧
      true = true) ∧
      (SV.val (Value.int IntKind.i64 (↑z : Int)) =
      SV.val (Value.int IntKind.i64 (↑z : Int)) ∧
      true = true) ∧
      (SV.val (Value.int IntKind.i64 (↑y : Int)) =
      SV.val (Value.int IntKind.i64 (↑y : Int)) ∧
      true = true) ∧
      True) ∧
      True) ∧
      a'.k < a.k) ∧
      True) ∧
      True)
      (Done (Value.tuple #[] = Value.tuple #[] ∧ ∃ (g' : Nat → Int), DatC b o n env ok g' a.m ∧ Mem x z g g' ∧ Srt f x z g'))))
      (ifB (decide ((↑y : Int) > IntKind.i64.wrap ((IntKind.u64.wrap (IntKind.i64.wrap ((↑x : Int) + (↑z : Int)))).fdiv ((2 : Int) ^ (1 : Nat)))))
      (∃ (x_1 : SyX),
      (x_1.i = L ∧ x_1.j = R) ∧
      m = m ∧
      ((SV.val
      (Value.int IntKind.i64
      (IntKind.i64.wrap
      (IntKind.i64.wrap (IntKind.i64.wrap ((IntKind.u64.wrap (IntKind.i64.wrap ((↑x : Int) + (↑z : Int)))).fdiv ((2 : Int) ^ (1 : Nat))) + (↑y : Int)) -
      (↑z : Int)))) =
      SV.val (Value.int IntKind.i64 (↑x_1.i : Int)) ∧
      true = true) ∧
      (SV.val (Value.int IntKind.i64 (IntKind.i64.wrap ((IntKind.u64.wrap (IntKind.i64.wrap ((↑x : Int) + (↑z : Int)))).fdiv ((2 : Int) ^ (1 : Nat))))) =
      SV.val (Value.int IntKind.i64 (↑x_1.j : Int)) ∧
      true = true) ∧
      (SV.val (Value.func (Fn.func (58 : FuncId)) #[] #[Value.pointer (some { block := bl, off := (0 : Nat) : Addr })]) =
      SV.val (Value.func (Fn.func (58 : FuncId)) #[] #[Value.pointer (some { block := bl, off := (0 : Nat) : Addr })]) ∧
      true = true) ∧
      (SV.val (Value.slice av n c) = SV.val (Value.slice av n c) ∧ true = true) ∧
      (SV.val
      (Value.int IntKind.i64
      (IntKind.i64.wrap
      (IntKind.i64.wrap ((IntKind.u64.wrap (IntKind.i64.wrap ((↑x : Int) + (↑z : Int)))).fdiv ((2 : Int) ^ (1 : Nat))) + (↑y : Int)))) =
      SV.val (Value.int IntKind.i64 (↑(mid + y) : Int)) ∧
      true = true) ∧
      (SV.val (Value.int IntKind.i64 (↑y : Int)) = SV.val (Value.int IntKind.i64 (↑y : Int)) ∧ true = true) ∧
      (SV.val (Value.int IntKind.i64 (↑x : Int)) = SV.val (Value.int IntKind.i64 (↑x : Int)) ∧ true = true) ∧
      (SV.val (Value.int IntKind.i64 (IntKind.i64.wrap ((IntKind.u64.wrap (IntKind.i64.wrap ((↑x : Int) + (↑z : Int)))).fdiv ((2 : Int) ^ (1 : Nat))))) =
      SV.val (Value.int IntKind.i64 (↑mid : Int)) ∧
      true = true) ∧
      (SV.val (Value.int IntKind.i64 (↑z : Int)) = SV.val (Value.int IntKind.i64 (↑z : Int)) ∧ true = true) ∧ True) ∧
      True)
      (∃ (x_1 : SyX),
      (x_1.i = L ∧ x_1.j = R) ∧
      m = m ∧
      ((SV.val (Value.int IntKind.i64 (↑x : Int)) = SV.val (Value.int IntKind.i64 (↑x_1.i : Int)) ∧ true = true) ∧
      (SV.val (Value.int IntKind.i64 (↑y : Int)) = SV.val (Value.int IntKind.i64 (↑x_1.j : Int)) ∧ true = true) ∧
      (SV.val (Value.func (Fn.func (58 : FuncId)) #[] #[Value.pointer (some { block := bl, off := (0 : Nat) : Addr })]) =
      SV.val (Value.func (Fn.func (58 : FuncId)) #[] #[Value.pointer (some { block := bl, off := (0 : Nat) : Addr })]) ∧
      true = true) ∧
      (SV.val (Value.slice av n c) = SV.val (Value.slice av n c) ∧ true = true) ∧
      (SV.val
      (Value.int IntKind.i64
      (IntKind.i64.wrap
      (IntKind.i64.wrap ((IntKind.u64.wrap (IntKind.i64.wrap ((↑x : Int) + (↑z : Int)))).fdiv ((2 : Int) ^ (1 : Nat))) + (↑y : Int)))) =
      SV.val (Value.int IntKind.i64 (↑(mid + y) : Int)) ∧
      true = true) ∧
      (SV.val (Value.int IntKind.i64 (↑y : Int)) = SV.val (Value.int IntKind.i64 (↑y : Int)) ∧ true = true) ∧
      (SV.val (Value.int IntKind.i64 (↑x : Int)) = SV.val (Value.int IntKind.i64 (↑x : Int)) ∧ true = true) ∧
      (SV.val (Value.int IntKind.i64 (IntKind.i64.wrap ((IntKind.u64.wrap (IntKind.i64.wrap ((↑x : Int) + (↑z : Int)))).fdiv ((2 : Int) ^ (1 : Nat))))) =
      SV.val (Value.int IntKind.i64 (↑mid : Int)) ∧
      true = true) ∧
      (SV.val (Value.int IntKind.i64 (↑z : Int)) = SV.val (Value.int IntKind.i64 (↑z : Int)) ∧ true = true) ∧ True) ∧
      True) ∧
      ∀ (x_1 : SyX),
      x_1.i = L ∧ x_1.j = R →
      (∃ (a : SyX),
      SymB f y mid L R a.i a.j g ∧
      m = m ∧
      ((SV.val (Value.int IntKind.i64 (↑x_1.i : Int)) = SV.val (Value.int IntKind.i64 (↑a.i : Int)) ∧ true = true) ∧
      (SV.val (Value.int IntKind.i64 (↑x_1.j : Int)) = SV.val (Value.int IntKind.i64 (↑a.j : Int)) ∧ true = true) ∧
      (SV.val (Value.func (Fn.func (58 : FuncId)) #[] #[Value.pointer (some { block := bl, off := (0 : Nat) : Addr })]) =
      SV.val (Value.func (Fn.func (58 : FuncId)) #[] #[Value.pointer (some { block := bl, off := (0 : Nat) : Addr })]) ∧
      true = true) ∧
      (SV.val (Value.slice av n c) = SV.val (Value.slice av n c) ∧ true = true) ∧
      (SV.val (Value.int IntKind.i64 (IntKind.i64.wrap ((↑(mid + y) : Int) - (1 : Int)))) = SV.val (Value.int IntKind.i64 (↑(mid + y - (1 : Nat)) : Int)) ∧
      true = true) ∧
      (SV.val (Value.int IntKind.i64 (↑(mid + y) : Int)) = SV.val (Value.int IntKind.i64 (↑(mid + y) : Int)) ∧ true = true) ∧
      (SV.val (Value.int IntKind.i64 (↑y : Int)) = SV.val (Value.int IntKind.i64 (↑y : Int)) ∧ true = true) ∧
      (SV.val (Value.int IntKind.i64 (↑x : Int)) = SV.val (Value.int IntKind.i64 (↑x : Int)) ∧ true = true) ∧
      (SV.val (Value.int IntKind.i64 (↑mid : Int)) = SV.val (Value.int IntKind.i64 (↑mid : Int)) ∧ true = true) ∧
      (SV.val (Value.int IntKind.i64 (↑z : Int)) = SV.val (Value.int IntKind.i64 (↑z : Int)) ∧ true = true) ∧ True) ∧
      True) ∧
      ∀ (a : SyX),
      SymB f y mid L R a.i a.j g →
      ifB (decide ((↑a.i : Int) < (↑a.j : Int)))
      (true = true ∧
      ∃ (b : Nat),
      ∃ (off : Nat),
      av = some { block := b, off := off : Addr } ∧
      ((0 : Int) ≤
      IntKind.i64.wrap
      ((↑(mid + y - (1 : Nat)) : Int) -
      IntKind.i64.wrap ((IntKind.u64.wrap (IntKind.i64.wrap ((↑a.i : Int) + (↑a.j : Int)))).fdiv ((2 : Int) ^ (1 : Nat)))) ∧
      IntKind.i64.wrap
      ((↑(mid + y - (1 : Nat)) : Int) -
      IntKind.i64.wrap ((IntKind.u64.wrap (IntKind.i64.wrap ((↑a.i : Int) + (↑a.j : Int)))).fdiv ((2 : Int) ^ (1 : Nat)))) <
      (↑n : Int)) ∧
      ∃ (n_1 : Int),
      CellsAt m b
      (off +
      (IntKind.i64.wrap
      ((↑(mid + y - (1 : Nat)) : Int) -
      IntKind.i64.wrap ((IntKind.u64.wrap (IntKind.i64.wrap ((↑a.i : Int) + (↑a.j : Int)))).fdiv ((2 : Int) ^ (1 : Nat))))).toNat *
      (1 : Nat))
      [Value.int IntKind.i64 n_1] ∧
      ∃ (b : Nat),
      ∃ (off : Nat),
      av = some { block := b, off := off : Addr } ∧
      ((0 : Int) ≤ IntKind.i64.wrap ((IntKind.u64.wrap (IntKind.i64.wrap ((↑a.i : Int) + (↑a.j : Int)))).fdiv ((2 : Int) ^ (1 : Nat))) ∧
      IntKind.i64.wrap ((IntKind.u64.wrap (IntKind.i64.wrap ((↑a.i : Int) + (↑a.j : Int)))).fdiv ((2 : Int) ^ (1 : Nat))) < (↑n : Int)) ∧
      ∃ (n_2 : Int),
      CellsAt m b
      (off +
      (IntKind.i64.wrap ((IntKind.u64.wrap (IntKind.i64.wrap ((↑a.i : Int) + (↑a.j : Int)))).fdiv ((2 : Int) ^ (1 : Nat)))).toNat *
      (1 : Nat))
      [Value.int IntKind.i64 n_2] ∧
      ∃ (n_3 : Int),
      QSpec Try.prog (58 : FuncId)
      [Value.int IntKind.i64 n_1, Value.int IntKind.i64 n_2, Value.pointer (some { block := bl, off := (0 : Nat) : Addr })] m
      (Value.int IntKind.i64 n_3) ∧
      ifB (!decide (n_3 < (0 : Int)))
      (∃ (a' : SyX),
      (SymB f y mid L R a'.i a'.j g ∧
      m = m ∧
      ((SV.val
      (Value.int IntKind.i64
      (IntKind.i64.wrap
      (IntKind.i64.wrap
      ((IntKind.u64.wrap (IntKind.i64.wrap ((↑a.i : Int) + (↑a.j : Int)))).fdiv ((2 : Int) ^ (1 : Nat))) +
      (1 : Int)))) =
      SV.val (Value.int IntKind.i64 (↑a'.i : Int)) ∧
      true = true) ∧
      (SV.val (Value.int IntKind.i64 (↑a.j : Int)) = SV.val (Value.int IntKind.i64 (↑a'.j : Int)) ∧ true = true) ∧
      (SV.val
      (Value.func (Fn.func (58 : FuncId)) #[]
      #[Value.pointer (some { block := bl, off := (0 : Nat) : Addr })]) =
      SV.val
      (Value.func (Fn.func (58 : FuncId)) #[]
      #[Value.pointer (some { block := bl, off := (0 : Nat) : Addr })]) ∧
      true = true) ∧
      (SV.val (Value.slice av n c) = SV.val (Value.slice av n c) ∧ true = true) ∧
      (SV.val (Value.int IntKind.i64 (↑(mid + y - (1 : Nat)) : Int)) =
      SV.val (Value.int IntKind.i64 (↑(mid + y - (1 : Nat)) : Int)) ∧
      true = true) ∧
      (SV.val (Value.int IntKind.i64 (↑(mid + y) : Int)) = SV.val (Value.int IntKind.i64 (↑(mid + y) : Int)) ∧
      true = true) ∧
      (SV.val (Value.int IntKind.i64 (↑y : Int)) = SV.val (Value.int IntKind.i64 (↑y : Int)) ∧ true = true) ∧
      (SV.val (Value.int IntKind.i64 (↑x : Int)) = SV.val (Value.int IntKind.i64 (↑x : Int)) ∧ true = true) ∧
      (SV.val (Value.int IntKind.i64 (↑mid : Int)) = SV.val (Value.int IntKind.i64 (↑mid : Int)) ∧
      true = true) ∧
      (SV.val (Value.int IntKind.i64 (↑z : Int)) = SV.val (Value.int IntKind.i64 (↑z : Int)) ∧
      true = true) ∧
      True) ∧
      True) ∧
      a'.j - a'.i < a.j - a.i)
      (∃ (a' : SyX),
      (SymB f y mid L R a'.i a'.j g ∧
      m = m ∧
      ((SV.val (Value.int IntKind.i64 (↑a.i : Int)) = SV.val (Value.int IntKind.i64 (↑a'.i : Int)) ∧ true = true) ∧
      (SV.val
      (Value.int IntKind.i64
      (IntKind.i64.wrap
      ((IntKind.u64.wrap (IntKind.i64.wrap ((↑a.i : Int) + (↑a.j : Int)))).fdiv ((2 : Int) ^ (1 : Nat))))) =
      SV.val (Value.int IntKind.i64 (↑a'.j : Int)) ∧
      true = true) ∧
      (SV.val
      (Value.func (Fn.func (58 : FuncId)) #[]
      #[Value.pointer (some { block := bl, off := (0 : Nat) : Addr })]) =
      SV.val
      (Value.func (Fn.func (58 : FuncId)) #[]
      #[Value.pointer (some { block := bl, off := (0 : Nat) : Addr })]) ∧
      true = true) ∧
      (SV.val (Value.slice av n c) = SV.val (Value.slice av n c) ∧ true = true) ∧
      (SV.val (Value.int IntKind.i64 (↑(mid + y - (1 : Nat)) : Int)) =
      SV.val (Value.int IntKind.i64 (↑(mid + y - (1 : Nat)) : Int)) ∧
      true = true) ∧
      (SV.val (Value.int IntKind.i64 (↑(mid + y) : Int)) = SV.val (Value.int IntKind.i64 (↑(mid + y) : Int)) ∧
      true = true) ∧
      (SV.val (Value.int IntKind.i64 (↑y : Int)) = SV.val (Value.int IntKind.i64 (↑y : Int)) ∧ true = true) ∧
      (SV.val (Value.int IntKind.i64 (↑x : Int)) = SV.val (Value.int IntKind.i64 (↑x : Int)) ∧ true = true) ∧
      (SV.val (Value.int IntKind.i64 (↑mid : Int)) = SV.val (Value.int IntKind.i64 (↑mid : Int)) ∧
      true = true) ∧
      (SV.val (Value.int IntKind.i64 (↑z : Int)) = SV.val (Value.int IntKind.i64 (↑z : Int)) ∧
      true = true) ∧
      True) ∧
      True) ∧
      a'.j - a'.i < a.j - a.i))
      (ifB (decide ((↑a.i : Int) < (↑y : Int)))
      (ifB (decide ((↑y : Int) < IntKind.i64.wrap ((↑(mid + y) : Int) - (↑a.i : Int))))
      (∃ (S' : Nat → Prop),
      (∀ (b_1 : Nat), S' b_1 → m.uf b_1 ∧ (m.sz ≤ b_1 ∨ (0 : Nat) < n ∧ b_1 = b)) ∧
      ∀ (n_1 : Nat),
      m.sz ≤ n_1 →
      SpecW Try.prog (76 : Nat)
      [Value.slice av n c, Value.int IntKind.i64 (↑a.i : Int), Value.int IntKind.i64 (↑y : Int),
      Value.int IntKind.i64 (IntKind.i64.wrap ((↑(mid + y) : Int) - (↑a.i : Int))),
      Value.func (Fn.func (58 : FuncId)) #[] #[Value.pointer (some { block := bl, off := (0 : Nat) : Addr })]]
      { π := m.π, sz := n_1, uf := m.uf : M } S' fun (v : Value) (m' : M) =>
      v = Value.tuple #[] ∧
      ∃ (x_2 : SyX),
      (SymR f x mid z x_2.i x_2.j x_2.g ∧ DatC b o n env ok x_2.g x_2.m ∧ Mem x z g x_2.g ∧ m.sz ≤ x_2.m.sz) ∧
      m' = x_2.m ∧
      ((SV.val (Value.int IntKind.i64 (↑a.i : Int)) = SV.val (Value.int IntKind.i64 (↑x_2.i : Int)) ∧ true = true) ∧
      (SV.val (Value.int IntKind.i64 (IntKind.i64.wrap ((↑(mid + y) : Int) - (↑a.i : Int)))) =
      SV.val (Value.int IntKind.i64 (↑x_2.j : Int)) ∧
      true = true) ∧
      (SV.val (Value.func (Fn.func (58 : FuncId)) #[] #[Value.pointer (some { block := bl, off := (0 : Nat) : Addr })]) =
      SV.val (Value.func (Fn.func (58 : FuncId)) #[] #[Value.pointer (some { block := bl, off := (0 : Nat) : Addr })]) ∧
      true = true) ∧
      (SV.val (Value.slice av n c) = SV.val (Value.slice av n c) ∧ true = true) ∧
      (SV.val (Value.int IntKind.i64 (↑x : Int)) = SV.val (Value.int IntKind.i64 (↑x : Int)) ∧ true = true) ∧
      (SV.val (Value.int IntKind.i64 (↑mid : Int)) = SV.val (Value.int IntKind.i64 (↑mid : Int)) ∧ true = true) ∧
      (SV.val (Value.int IntKind.i64 (↑z : Int)) = SV.val (Value.int IntKind.i64 (↑z : Int)) ∧ true = true) ∧ True) ∧
      True)
      (∃ (x_2 : SyX),
      (SymR f x mid z x_2.i x_2.j x_2.g ∧ DatC b o n env ok x_2.g x_2.m ∧ Mem x z g x_2.g ∧ m.sz ≤ x_2.m.sz) ∧
      m = x_2.m ∧
      ((SV.val (Value.int IntKind.i64 (↑a.i : Int)) = SV.val (Value.int IntKind.i64 (↑x_2.i : Int)) ∧ true = true) ∧
      (SV.val (Value.int IntKind.i64 (IntKind.i64.wrap ((↑(mid + y) : Int) - (↑a.i : Int)))) = SV.val (Value.int IntKind.i64 (↑x_2.j : Int)) ∧
      true = true) ∧
      (SV.val (Value.func (Fn.func (58 : FuncId)) #[] #[Value.pointer (some { block := bl, off := (0 : Nat) : Addr })]) =
      SV.val (Value.func (Fn.func (58 : FuncId)) #[] #[Value.pointer (some { block := bl, off := (0 : Nat) : Addr })]) ∧
      true = true) ∧
      (SV.val (Value.slice av n c) = SV.val (Value.slice av n c) ∧ true = true) ∧
      (SV.val (Value.int IntKind.i64 (↑x : Int)) = SV.val (Value.int IntKind.i64 (↑x : Int)) ∧ true = true) ∧
      (SV.val (Value.int IntKind.i64 (↑mid : Int)) = SV.val (Value.int IntKind.i64 (↑mid : Int)) ∧ true = true) ∧
      (SV.val (Value.int IntKind.i64 (↑z : Int)) = SV.val (Value.int IntKind.i64 (↑z : Int)) ∧ true = true) ∧ True) ∧
      True))
      (∃ (x_2 : SyX),
      (SymR f x mid z x_2.i x_2.j x_2.g ∧ DatC b o n env ok x_2.g x_2.m ∧ Mem x z g x_2.g ∧ m.sz ≤ x_2.m.sz) ∧
      m = x_2.m ∧
      ((SV.val (Value.int IntKind.i64 (↑a.i : Int)) = SV.val (Value.int IntKind.i64 (↑x_2.i : Int)) ∧ true = true) ∧
      (SV.val (Value.int IntKind.i64 (IntKind.i64.wrap ((↑(mid + y) : Int) - (↑a.i : Int)))) = SV.val (Value.int IntKind.i64 (↑x_2.j : Int)) ∧
      true = true) ∧
      (SV.val (Value.func (Fn.func (58 : FuncId)) #[] #[Value.pointer (some { block := bl, off := (0 : Nat) : Addr })]) =
      SV.val (Value.func (Fn.func (58 : FuncId)) #[] #[Value.pointer (some { block := bl, off := (0 : Nat) : Addr })]) ∧
      true = true) ∧
      (SV.val (Value.slice av n c) = SV.val (Value.slice av n c) ∧ true = true) ∧
      (SV.val (Value.int IntKind.i64 (↑x : Int)) = SV.val (Value.int IntKind.i64 (↑x : Int)) ∧ true = true) ∧
      (SV.val (Value.int IntKind.i64 (↑mid : Int)) = SV.val (Value.int IntKind.i64 (↑mid : Int)) ∧ true = true) ∧
      (SV.val (Value.int IntKind.i64 (↑z : Int)) = SV.val (Value.int IntKind.i64 (↑z : Int)) ∧ true = true) ∧ True) ∧
      True) ∧
      ∀ (x_2 : SyX),
      SymR f x mid z x_2.i x_2.j x_2.g ∧ DatC b o n env ok x_2.g x_2.m ∧ Mem x z g x_2.g ∧ m.sz ≤ x_2.m.sz →
      ifB (decide ((↑x : Int) < (↑x_2.i : Int)))
      (ifB (decide ((↑x_2.i : Int) < (↑mid : Int)))
      (∃ (S' : Nat → Prop),
      (∀ (b_1 : Nat), S' b_1 → x_2.m.uf b_1 ∧ (m.sz ≤ b_1 ∨ (0 : Nat) < n ∧ b_1 = b)) ∧
      ∀ (n_1 : Nat),
      x_2.m.sz ≤ n_1 →
      SpecW Try.prog (73 : Nat)
      [Value.slice av n c, Value.int IntKind.i64 (↑x : Int), Value.int IntKind.i64 (↑x_2.i : Int), Value.int IntKind.i64 (↑mid : Int),
      Value.func (Fn.func (58 : FuncId)) #[] #[Value.pointer (some { block := bl, off := (0 : Nat) : Addr })]]
      { π := x_2.m.π, sz := n_1, uf := x_2.m.uf : M } S' fun (v : Value) (m' : M) =>
      v = Value.tuple #[] ∧
      ∃ (x_3 : SyX),
      (mid ≤ x_3.j ∧
      x_3.j ≤ z ∧
      Srt f x mid x_3.g ∧
      Srt f mid x_3.j x_3.g ∧
      Srt f x_3.j z x_3.g ∧
      Stb f mid z x_3.g ∧
      (∀ (p q : Nat), x ≤ p → p < mid → mid ≤ q → q < z → lexN f (x_3.4 p) (x_3.4 q)) ∧
      DatC b o n env ok x_3.g x_3.m ∧ Mem x z g x_3.g ∧ m.sz ≤ x_3.m.sz) ∧
      m' = x_3.m ∧
      ((SV.val (Value.int IntKind.i64 (↑x_2.j : Int)) = SV.val (Value.int IntKind.i64 (↑x_3.j : Int)) ∧ true = true) ∧
      (SV.val (Value.func (Fn.func (58 : FuncId)) #[] #[Value.pointer (some { block := bl, off := (0 : Nat) : Addr })]) =
      SV.val (Value.func (Fn.func (58 : FuncId)) #[] #[Value.pointer (some { block := bl, off := (0 : Nat) : Addr })]) ∧
      true = true) ∧
      (SV.val (Value.slice av n c) = SV.val (Value.slice av n c) ∧ true = true) ∧
      (SV.val (Value.int IntKind.i64 (↑mid : Int)) = SV.val (Value.int IntKind.i64 (↑mid : Int)) ∧ true = true) ∧
      (SV.val (Value.int IntKind.i64 (↑z : Int)) = SV.val (Value.int IntKind.i64 (↑z : Int)) ∧ true = true) ∧ True) ∧
      True)
      (∃ (x_3 : SyX),
      (mid ≤ x_3.j ∧
      x_3.j ≤ z ∧
      Srt f x mid x_3.g ∧
      Srt f mid x_3.j x_3.g ∧
      Srt f x_3.j z x_3.g ∧
      Stb f mid z x_3.g ∧
      (∀ (p q : Nat), x ≤ p → p < mid → mid ≤ q → q < z → lexN f (x_3.4 p) (x_3.4 q)) ∧
      DatC b o n env ok x_3.g x_3.m ∧ Mem x z g x_3.g ∧ m.sz ≤ x_3.m.sz) ∧
      x_2.m = x_3.m ∧
      ((SV.val (Value.int IntKind.i64 (↑x_2.j : Int)) = SV.val (Value.int IntKind.i64 (↑x_3.j : Int)) ∧ true = true) ∧
      (SV.val (Value.func (Fn.func (58 : FuncId)) #[] #[Value.pointer (some { block := bl, off := (0 : Nat) : Addr })]) =
      SV.val (Value.func (Fn.func (58 : FuncId)) #[] #[Value.pointer (some { block := bl, off := (0 : Nat) : Addr })]) ∧
      true = true) ∧
      (SV.val (Value.slice av n c) = SV.val (Value.slice av n c) ∧ true = true) ∧
      (SV.val (Value.int IntKind.i64 (↑mid : Int)) = SV.val (Value.int IntKind.i64 (↑mid : Int)) ∧ true = true) ∧
      (SV.val (Value.int IntKind.i64 (↑z : Int)) = SV.val (Value.int IntKind.i64 (↑z : Int)) ∧ true = true) ∧ True) ∧
      True))
      (∃ (x_3 : SyX),
      (mid ≤ x_3.j ∧
      x_3.j ≤ z ∧
      Srt f x mid x_3.g ∧
      Srt f mid x_3.j x_3.g ∧
      Srt f x_3.j z x_3.g ∧
      Stb f mid z x_3.g ∧
      (∀ (p q : Nat), x ≤ p → p < mid → mid ≤ q → q < z → lexN f (x_3.4 p) (x_3.4 q)) ∧
      DatC b o n env ok x_3.g x_3.m ∧ Mem x z g x_3.g ∧ m.sz ≤ x_3.m.sz) ∧
      x_2.m = x_3.m ∧
      ((SV.val (Value.int IntKind.i64 (↑x_2.j : Int)) = SV.val (Value.int IntKind.i64 (↑x_3.j : Int)) ∧ true = true) ∧
      (SV.val (Value.func (Fn.func (58 : FuncId)) #[] #[Value.pointer (some { block := bl, off := (0 : Nat) : Addr })]) =
      SV.val (Value.func (Fn.func (58 : FuncId)) #[] #[Value.pointer (some { block := bl, off := (0 : Nat) : Addr })]) ∧
      true = true) ∧
      (SV.val (Value.slice av n c) = SV.val (Value.slice av n c) ∧ true = true) ∧
      (SV.val (Value.int IntKind.i64 (↑mid : Int)) = SV.val (Value.int IntKind.i64 (↑mid : Int)) ∧ true = true) ∧
      (SV.val (Value.int IntKind.i64 (↑z : Int)) = SV.val (Value.int IntKind.i64 (↑z : Int)) ∧ true = true) ∧ True) ∧
      True) ∧
      ∀ (x_3 : SyX),
      mid ≤ x_3.j ∧
      x_3.j ≤ z ∧
      Srt f x mid x_3.g ∧
      Srt f mid x_3.j x_3.g ∧
      Srt f x_3.j z x_3.g ∧
      Stb f mid z x_3.g ∧
      (∀ (p q : Nat), x ≤ p → p < mid → mid ≤ q → q < z → lexN f (x_3.4 p) (x_3.4 q)) ∧
      DatC b o n env ok x_3.g x_3.m ∧ Mem x z g x_3.g ∧ m.sz ≤ x_3.m.sz →
      ifB (decide ((↑mid : Int) < (↑x_3.j : Int)))
      (ifB (decide ((↑x_3.j : Int) < (↑z : Int)))
      (∃ (S' : Nat → Prop),
      (∀ (b_1 : Nat), S' b_1 → x_3.m.uf b_1 ∧ (m.sz ≤ b_1 ∨ (0 : Nat) < n ∧ b_1 = b)) ∧
      ∀ (n_1 : Nat),
      x_3.m.sz ≤ n_1 →
      SpecW Try.prog (73 : Nat)
      [Value.slice av n c, Value.int IntKind.i64 (↑mid : Int), Value.int IntKind.i64 (↑x_3.j : Int), Value.int IntKind.i64 (↑z : Int),
      Value.func (Fn.func (58 : FuncId)) #[] #[Value.pointer (some { block := bl, off := (0 : Nat) : Addr })]]
      { π := x_3.m.π, sz := n_1, uf := x_3.m.uf : M } S' fun (v : Value) (m' : M) =>
      v = Value.tuple #[] ∧
      Done (Value.tuple #[] = Value.tuple #[] ∧ ∃ (g' : Nat → Int), DatC b o n env ok g' m' ∧ Mem x z g g' ∧ Srt f x z g'))
      (Done (Value.tuple #[] = Value.tuple #[] ∧ ∃ (g' : Nat → Int), DatC b o n env ok g' x_3.m ∧ Mem x z g g' ∧ Srt f x z g')))
      (Done (Value.tuple #[] = Value.tuple #[] ∧ ∃ (g' : Nat → Int), DatC b o n env ok g' x_3.m ∧ Mem x z g g' ∧ Srt f x z g')))))) (by kernel_rfl) ?_
  have hm1 : x ≤ mid := by omega
  have hm2 : mid ≤ z := by omega
  have hmz : mid < z := by omega
  have hxm : x < mid ∨ (x = mid ∧ z = x + 1) := by omega
  have hLR2 := hLR.start (f := f) (g := g)
  have hst0 : L ≤ R := hLR2.le
  have hRle : R ≤ y ∧ R ≤ mid := by
    by_cases e : mid < y
    · have := hLR.a e; omega
    · have := hLR.b (by omega); omega
  have hS0 : m.sz ≤ b ∨ (0 < n ∧ b = b) := .inr ⟨by omega, rfl⟩
  have hS : ∀ (t : M) (g' : Nat → Int), DatC b o n env ok g' t → ∀ z, (0 < n ∧ z = b) → t.uf z ∧ (m.sz ≤ z ∨ (0 < n ∧ z = b)) := fun t g' D z ⟨h0, e⟩ => by subst e; exact ⟨D.uf h0, .inr ⟨h0, rfl⟩⟩
  have wm := halfN (i := x) (j := z) (by omega) (by omega)
  rw [hmid] at wm
  have wn : IntKind.i64.wrap ((mid : Int) + y) = ((mid + y : Nat) : Int) := wrapN (by simp) (by omega)
  have wp : IntKind.i64.wrap (((mid + y : Nat) : Int) - 1) = ((mid + y - 1 : Nat) : Int) := wrapN (by omega) (by omega)
  rw [wm, wn]
  rw [wp]
  have w1 : IntKind.i64.wrap ((y : Int) - x) = ((y - x : Nat) : Int) := wrapN (by omega) (by omega)
  have w2 : IntKind.i64.wrap ((z : Int) - y) = ((z - y : Nat) : Int) := wrapN (by omega) (by omega)
  rw [w1, w2]
  refine ⟨rfl, ifB_intro (fun hb => ?_) (fun hb => ifB_intro (fun hb2 => ?_) (fun hb2 => ?_))⟩
  · have ey : y = x + 1 := by simp at hb; omega
    refine ⟨⟨⟨y, z, 0, g, m⟩, ⟨Nat.le_refl _, by simp only; omega, Nat.le_refl _, fun p h1 h2 => by simp only at h2; omega, fun p h1 h2 => by simp only at h1; omega⟩, rfl, by simp⟩, fun t ⟨t1, t2, t3, t4, t5⟩ => ifB_intro (fun hb3 => ?_) (fun hb3 => ?_)⟩
    · have hij : t.i < t.j := by simp at hb3; omega
      have wh := halfN (i := t.i) (j := t.j) (by omega) (by omega)
      rw [wh]
      have wh1 : IntKind.i64.wrap ((((t.i + t.j) / 2 : Nat) : Int) + 1) = (((t.i + t.j) / 2 + 1 : Nat) : Int) := wrapN (by simp) (by omega)
      rw [wh1]
      simp only [Int.toNat_natCast]
      have l1 : (t.i + t.j) / 2 < n := by omega
      have l2 : x < n := by omega
      obtain ⟨v, hq, hv⟩ := C.q m h.env _ _ (h.ok _ l1) (h.ok _ l2)
      refine ⟨trivial, b, o, ha (by omega), by omega, _, h.at l1, b, o, ha (by omega), by omega, _, h.at l2, v, hq, ifB_intro (fun hb4 => ⟨⟨(t.i + t.j) / 2 + 1, t.j, 0, g, m⟩, ⟨⟨by simp only; omega, by simp only; omega, t3, fun p h1 h2 => ?_, t5⟩, trivial, by simp⟩, by simp only; omega⟩) (fun hb4 => ⟨⟨t.i, (t.i + t.j) / 2, 0, g, m⟩, ⟨⟨t1, by simp only; omega, by simp only; omega, t4, fun p h1 h2 => ?_⟩, trivial, by simp⟩, by simp only; omega⟩)⟩
      · have hlt : lexN f (g ((t.i + t.j) / 2)) (g x) := .inl (hv.1 (by simpa using hb4))
        by_cases e : p = (t.i + t.j) / 2
        · rw [e]; exact hlt
        · exact lexN_trans (hr p ((t.i + t.j) / 2) h1 (by simp only at h2; omega) (by omega)) hlt
      · have hge : lexN f (g x) (g ((t.i + t.j) / 2)) := hst.more (Nat.le_refl _) (by omega) (by omega) fun hh => by
          have := hv.2 hh
          simp at hb4; omega
        by_cases e : p = (t.i + t.j) / 2
        · rw [e]; exact hge
        · exact lexN_trans hge (hr ((t.i + t.j) / 2) p (by omega) (by simp only at h1; omega) h2)
    · have hij : t.i = t.j := by simp at hb3; omega
      refine ⟨⟨⟨t.i, t.j, x, g, m⟩, ⟨t1, by simp only; omega, t4, fun p h1 h2 => t5 p (by simp only at h1; omega) h2, Nat.le_refl _, by simp only; omega, h.congr fun j hj => by simp only; rw [rotF_id1 (by omega)], Nat.le_refl _⟩, rfl, by simp⟩, fun u ⟨u1, u2, u3, u4, u5, u6, u7, u8⟩ => ?_⟩
      have wi : IntKind.i64.wrap ((u.i : Int) - 1) = ((u.i - 1 : Nat) : Int) := wrapN (by omega) (by omega)
      have wk : IntKind.i64.wrap ((u.k : Int) + 1) = ((u.k + 1 : Nat) : Int) := wrapN (by simp) (by omega)
      rw [wi, wk]
      refine ifB_intro (fun hb4 => ?_) (fun hb4 => ⟨rfl, _, u7, ?_, ?_⟩)
      · have hk : u.k < u.i - 1 := by simp at hb4; omega
        simp only [Int.toNat_natCast]
        have l1 : u.k + 1 < n := by omega
        have l2 : u.k < n := by omega
        have e1 : rotF x (x + 1) (u.k + 1) g (u.k + 1) = g (u.k + 1) := rotF_out (by omega) (by omega) (by omega)
        have e2 : rotF x (x + 1) (u.k + 1) g u.k = g x := by rw [rotF_hi (by omega) (by omega)]; congr 1; omega
        have c1 := u7.at l1
        have c2 := u7.at l2
        have o1 := u7.ok _ l1
        have o2 := u7.ok _ l2
        rw [e1] at c1 o1
        rw [e2] at c2 o2
        have hd1 := u7.set C l2 _ o1
        have hd2 := hd1.set C l1 _ o2
        refine ⟨trivial, b, o, ha (by omega), by omega, _, c1, b, o, ha (by omega), by omega, _, c2, b, o, ha (by omega), by omega, ⟨u7.wr (S := fun z => 0 < n ∧ z = b) hS0 l2, trivial, b, o, ha (by omega), by omega, ⟨hd1.wr (S := fun z => 0 < n ∧ z = b) hS0 l1, ⟨⟨u.i, 0, u.k + 1, g, (u.m.setCells b (o + u.k * 1) [I (g (u.k + 1))]).setCells b (o + (u.k + 1) * 1) [I (g x)]⟩, ⟨⟨u1, u2, u3, u4, by simp only; omega, by simp only; omega, hd2.congr fun j hj => rot_fwd u5 j, u8⟩, rfl, by simp⟩, by simp only; omega⟩⟩, trivial⟩, trivial⟩
      · exact (rotF_mem (by omega) (by omega)).wide (Nat.le_refl _) (by omega)
      · have hk : u.k + 1 = u.i := by simp at hb4; omega
        rw [hk]
        exact Srt.insFwd (by omega) u2 (by rw [← ey]; exact hr) (fun p h1 h2 => u3 p (by omega) h2) u4
  · have ez : z = y + 1 := by simp at hb2; omega
    refine ⟨⟨⟨x, y, 0, g, m⟩, ⟨Nat.le_refl _, by simp only; omega, Nat.le_refl _, fun p h1 h2 => by simp only at h2; omega, fun p h1 h2 => by simp only at h1; omega⟩, rfl, by simp⟩, fun t ⟨t1, t2, t3, t4, t5⟩ => ifB_intro (fun hb3 => ?_) (fun hb3 => ?_)⟩
    · have hij : t.i < t.j := by simp at hb3; omega
      have wh := halfN (i := t.i) (j := t.j) (by omega) (by omega)
      rw [wh]
      have wh1 : IntKind.i64.wrap ((((t.i + t.j) / 2 : Nat) : Int) + 1) = (((t.i + t.j) / 2 + 1 : Nat) : Int) := wrapN (by simp) (by omega)
      rw [wh1]
      simp only [Int.toNat_natCast]
      have l1 : (t.i + t.j) / 2 < n := by omega
      have l2 : y < n := by omega
      obtain ⟨v, hq, hv⟩ := C.q m h.env _ _ (h.ok _ l2) (h.ok _ l1)
      refine ⟨trivial, b, o, ha (by omega), by omega, _, h.at l2, b, o, ha (by omega), by omega, _, h.at l1, v, hq, ifB_intro (fun hb4 => ⟨⟨(t.i + t.j) / 2 + 1, t.j, 0, g, m⟩, ⟨⟨by simp only; omega, by simp only; omega, t3, fun p h1 h2 => ?_, t5⟩, trivial, by simp⟩, by simp only; omega⟩) (fun hb4 => ⟨⟨t.i, (t.i + t.j) / 2, 0, g, m⟩, ⟨⟨t1, by simp only; omega, by simp only; omega, t4, fun p h1 h2 => ?_⟩, trivial, by simp⟩, by simp only; omega⟩)⟩
      · have hge : lexN f (g ((t.i + t.j) / 2)) (g y) := hst.more (by omega) (by omega) (by omega) fun hh => by
          have := hv.2 hh
          simp at hb4; omega
        by_cases e : p = (t.i + t.j) / 2
        · rw [e]; exact hge
        · exact lexN_trans (hl p ((t.i + t.j) / 2) h1 (by simp only at h2; omega) (by omega)) hge
      · have hlt : lexN f (g y) (g ((t.i + t.j) / 2)) := .inl (hv.1 (by simpa using hb4))
        by_cases e : p = (t.i + t.j) / 2
        · rw [e]; exact hlt
        · exact lexN_trans hlt (hl ((t.i + t.j) / 2) p (by omega) (by simp only at h1; omega) h2)
    · have hij : t.i = t.j := by simp at hb3; omega
      refine ⟨⟨⟨t.i, t.j, y, g, m⟩, ⟨t1, by simp only; omega, t4, fun p h1 h2 => t5 p (by simp only at h1; omega) h2, by simp only; omega, Nat.le_refl _, h.congr fun j hj => by simp only; rw [rotF_id2 (by omega)], Nat.le_refl _⟩, rfl, by simp⟩, fun u ⟨u1, u2, u3, u4, u5, u6, u7, u8⟩ => ?_⟩
      refine ifB_intro (fun hb4 => ?_) (fun hb4 => ⟨rfl, _, u7, ?_, ?_⟩)
      · have hk : u.i < u.k := by simp at hb4; omega
        have wk : IntKind.i64.wrap ((u.k : Int) - 1) = ((u.k - 1 : Nat) : Int) := wrapN (by omega) (by omega)
        rw [wk]
        simp only [Int.toNat_natCast]
        have l1 : u.k - 1 < n := by omega
        have l2 : u.k < n := by omega
        have e1 : rotF u.k y (y + 1) g (u.k - 1) = g (u.k - 1) := rotF_out (by omega) (by omega) (by omega)
        have e2 : rotF u.k y (y + 1) g u.k = g y := by rw [rotF_lo (by omega) (by omega)]; congr 1; omega
        have c1 := u7.at l1
        have c2 := u7.at l2
        have o1 := u7.ok _ l1
        have o2 := u7.ok _ l2
        rw [e1] at c1 o1
        rw [e2] at c2 o2
        have hd1 := u7.set C l2 _ o1
        have hd2 := hd1.set C l1 _ o2
        refine ⟨trivial, b, o, ha (by omega), by omega, _, c1, b, o, ha (by omega), by omega, _, c2, b, o, ha (by omega), by omega, ⟨u7.wr (S := fun z => 0 < n ∧ z = b) hS0 l2, trivial, b, o, ha (by omega), by omega, ⟨hd1.wr (S := fun z => 0 < n ∧ z = b) hS0 l1, ⟨⟨u.i, 0, u.k - 1, g, (u.m.setCells b (o + u.k * 1) [I (g (u.k - 1))]).setCells b (o + (u.k - 1) * 1) [I (g y)]⟩, ⟨⟨u1, u2, u3, u4, by simp only; omega, by simp only; omega, hd2.congr fun j hj => rot_back (by omega) u6 j, u8⟩, rfl, by simp⟩, by simp only; omega⟩⟩, trivial⟩, trivial⟩
      · exact (rotF_mem (by omega) (by omega)).wide (by omega) (by omega)
      · have hk : u.k = u.i := by simp at hb4; omega
        rw [hk, ez]
        exact Srt.insBack u1 u2 hl u4 u3
  · refine ⟨ifB_intro (fun hb3 => ?_) (fun hb3 => ?_), fun t0 ⟨t01, t02⟩ => ⟨⟨⟨L, R, 0, g, m⟩, hLR2, rfl, by simp [t01, t02]⟩, fun t B => ifB_intro (fun hb3 => ?_) (fun hb3 => ⟨?_, fun u ⟨U, uD, uM, uz⟩ => ⟨?_, fun w ⟨w1, w2, w3, w4, w5, w6, w7, wD, wM, wz⟩ => ?_⟩⟩)⟩⟩
    · have hy : mid < y := by simp at hb3; omega
      have hh := hLR.a hy
      have wq : IntKind.i64.wrap (((mid + y : Nat) : Int) - z) = ((mid + y - z : Nat) : Int) := wrapN (by omega) (by omega)
      rw [wq]
      exact ⟨⟨L, R, 0, g, m⟩, ⟨rfl, rfl⟩, rfl, by simp [hh.1, hh.2]⟩
    · have hy : y ≤ mid := by simp at hb3; omega
      have hh := hLR.b hy
      exact ⟨⟨L, R, 0, g, m⟩, ⟨rfl, rfl⟩, rfl, by simp [hh.1, hh.2]⟩
    · have hij : t.i < t.j := by simp at hb3; omega
      have t1 := B.lo
      have t3 := B.hi
      have wh := halfN (i := t.i) (j := t.j) (by omega) (by omega)
      rw [wh]
      have p1 := hLR.at (c := (t.i + t.j) / 2) (by omega) (by omega)
      have wc : IntKind.i64.wrap (((mid + y - 1 : Nat) : Int) - (((t.i + t.j) / 2 : Nat) : Int)) = ((mid + y - 1 - (t.i + t.j) / 2 : Nat) : Int) := wrapN (by omega) (by omega)
      have wh1 : IntKind.i64.wrap ((((t.i + t.j) / 2 : Nat) : Int) + 1) = (((t.i + t.j) / 2 + 1 : Nat) : Int) := wrapN (by simp) (by omega)
      rw [wh1, wc]
      simp only [Int.toNat_natCast]
      have l1 : (t.i + t.j) / 2 < n := by omega
      have l2 : mid + y - 1 - (t.i + t.j) / 2 < n := by omega
      obtain ⟨v, hq, hv⟩ := C.q m h.env _ _ (h.ok _ l2) (h.ok _ l1)
      refine ⟨trivial, b, o, ha (by omega), by omega, _, h.at l2, b, o, ha (by omega), by omega, _, h.at l1, v, hq, ifB_intro (fun hb4 => ⟨⟨(t.i + t.j) / 2 + 1, t.j, 0, g, m⟩, ⟨B.more (c := (t.i + t.j) / 2) hLR hl hr (by omega) (by omega) (hst.more (by omega) (by omega) (by omega) fun hh => ?_), trivial, by simp⟩, by simp only; omega⟩) (fun hb4 => ⟨⟨t.i, (t.i + t.j) / 2, 0, g, m⟩, ⟨B.less (c := (t.i + t.j) / 2) hLR hl hr (by omega) (by omega) (.inl (hv.1 (by simpa using hb4))), trivial, by simp⟩, by simp only; omega⟩)⟩
      have := hv.2 hh
      simp at hb4; omega
    · have hij : t.i = t.j := by have := B.le; simp at hb3; omega
      have B2 : SymB f y mid L R t.i t.i g := by rw [← hij] at B; exact B
      have D := B2.done hLR hst hl hr
      obtain ⟨g1, g2, g3, g4, g5⟩ := hLR.range B2.lo B2.hi
      have we : IntKind.i64.wrap (((mid + y : Nat) : Int) - t.i) = ((mid + y - t.i : Nat) : Int) := wrapN (by omega) (by omega)
      rw [we]
      have hM : Mem x z g (rotF t.i y (mid + y - t.i) g) := (rotF_mem g2 g4).wide g1 g5
      refine ifB_intro (fun hb4 => ifB_intro (fun hb5 => ?_) (fun hb5 => ?_)) (fun hb4 => ?_)
      · refine ⟨fun z => 0 < n ∧ z = b, hS m g h, fun N' hN' => (rotate_s av b o n c bl t.i y (mid + y - t.i) ha env ok f C g hn (by simpa using hb4) (by simp at hb5; omega) (by omega) _ (h.sz C hN')).mono fun v m' hag ⟨e, hd'⟩ => ⟨e, ⟨t.i, mid + y - t.i, 0, _, m'⟩, ⟨D, hd', hM, by have := hag.2.2; simp only at this ⊢; omega⟩, rfl, by simp⟩⟩
      · have e : mid + y - t.i = y := by simp at hb5; omega
        have er : rotF t.i y (mid + y - t.i) g = g := by rw [e, rotF_id1 g2]
        rw [er] at D hM
        exact ⟨⟨t.i, mid + y - t.i, 0, g, m⟩, ⟨D, h, hM, Nat.le_refl _⟩, rfl, by simp⟩
      · have e : t.i = y := by simp at hb4; omega
        have er : rotF t.i y (mid + y - t.i) g = g := by rw [e, rotF_id2 (by omega)]
        rw [er] at D hM
        exact ⟨⟨t.i, mid + y - t.i, 0, g, m⟩, ⟨D, h, hM, Nat.le_refl _⟩, rfl, by simp⟩
    · have u1 := U.xs
      have u2 := U.sm
      refine ifB_intro (fun hb4 => ifB_intro (fun hb5 => ?_) (fun hb5 => ?_)) (fun hb4 => ?_)
      · have c1 : x < u.i := by simpa using hb4
        have c2 : u.i < mid := by simpa using hb5
        refine ⟨fun z => 0 < n ∧ z = b, hS u.m u.g uD, fun N' hN' => (ih x u.i mid u.g (by omega) c1 c2 (by omega) U.st1 U.a U.b _ (uD.sz C hN')).mono fun v m' hag ⟨e, g', hd', hm', hs'⟩ => ⟨e, ⟨0, u.j, 0, g', m'⟩, ⟨U.me, U.ez, hs', U.c.mem hm' (.inr (Nat.le_refl _)), U.d.mem hm' (.inr U.me), U.st2.congr fun j h1 h2 => hm'.out j (by omega), fun p q h1 h2 h3 h4 => ?_, hd', uM.trans (hm'.wide (Nat.le_refl _) (by omega)), by have := hag.2.2; simp only at this ⊢; omega⟩, rfl, by simp⟩⟩
        obtain ⟨k, k1, k2, k3⟩ := hm'.into p h1 h2
        simp only
        rw [k3, hm'.out q (by omega)]
        exact U.cross k q k1 k2 h3 h4
      · have c2 : u.i = mid := by simp at hb5; omega
        exact ⟨⟨0, u.j, 0, u.g, u.m⟩, ⟨U.me, U.ez, by have := U.a; rw [c2] at this; exact this, U.c, U.d, U.st2, U.cross, uD, uM, uz⟩, rfl, by simp⟩
      · have c2 : u.i = x := by simp at hb4; omega
        exact ⟨⟨0, u.j, 0, u.g, u.m⟩, ⟨U.me, U.ez, by have := U.b; rw [c2] at this; exact this, U.c, U.d, U.st2, U.cross, uD, uM, uz⟩, rfl, by simp⟩
    · have fin : ∀ g' , Mem mid z w.g g' → Srt f mid z g' → Mem x z g g' ∧ Srt f x z g' := fun g' hm' hs' => ⟨wM.trans (hm'.wide hm1 (Nat.le_refl _)), Srt.halves hm1 hm2 w7 (.refl (g := w.g)) hm' w3 hs'⟩
      refine ifB_intro (fun hb4 => ifB_intro (fun hb5 => ?_) (fun hb5 => ⟨rfl, w.g, wD, fin w.g .refl ?_⟩)) (fun hb4 => ⟨rfl, w.g, wD, fin w.g .refl ?_⟩)
      · have c1 : mid < w.j := by simpa using hb4
        have c2 : w.j < z := by simpa using hb5
        exact ⟨fun z => 0 < n ∧ z = b, hS w.m w.g wD, fun N' hN' => (ih mid w.j z w.g (by omega) c1 c2 hz w6 w4 w5 _ (wD.sz C hN')).mono fun v m' hag ⟨e, g', hd', hm', hs'⟩ => ⟨e, rfl, g', hd', fin g' hm' hs'⟩⟩
      · have c2 : w.j = z := by simp at hb5; omega
        rw [c2] at w4; exact w4
      · have c2 : w.j = mid := by simp at hb4; omega
        rw [c2] at w5; exact w5

end Go.Proofs.Ytbhlhnkjmncloaa
