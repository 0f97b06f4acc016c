/-
  Contracts of functions of this seat: what each hands back, and what it leaves of memory (deal10). Nothing here is trusted: Lean checks it.
-/
import Derived.Test.YtoilbbfidnhekaaDeal7
set_option linter.unusedVariables false
set_option linter.unusedSimpArgs false
namespace Go.Proofs.Ytoilbbfidnhekaa
open Go.Vc Go.RowKit Go.ChangeShapes Go.WideShapes Go.ChangeAt
set_option maxRecDepth 100000

theorem row_none {B : List Dl} {a : Option Addr} {m : M} (h : Row m a (dls B)) (e : a = none) : B = [] := by
  cases B with
  | nil => rfl
  | cons x xs =>
    obtain ⟨b, o, e2, -⟩ := h.cells (by rw [dl_len]; simp)
    rw [e] at e2; simp at e2

theorem OnB.to {d : Dl} {n : Nat} {m m' : M} {y : OnX} {mi th ft : Int} (Y : OnB d n m y mi th ft) {N : Nat} (hN : y.m.sz ≤ N) (hag : Agree N { y.m with sz := N } m') : Agree m.sz m m' :=
  Y.ag.trans ((Agree.szl (B := m.sz) (m := y.m) hN).trans (hag.mono (Nat.le_trans Y.ag.2.2 hN)))

theorem dec_give (ft : Int) : decV ft + (if decide (ft = 0) = true then 1 else 0) = decV (if ft = 0 then 2 else ft) ∧ 0 ≤ decV ft := by
  by_cases h : ft = 0 <;> simp [decV, h]

theorem dec_say (x : OnX) (h2 : x.dec = decV x.ft) (h3 : x.yes = decide (x.ft = 0 ∧ x.ft2 ≠ 0)) : x.dec + (if x.yes = true then 1 else 0) = decV x.ft2 ∧ 0 ≤ x.dec := by
  rw [h2, h3]
  by_cases h : x.ft = 0
  · by_cases h' : x.ft2 = 0 <;> simp [decV, h, h']
  · have : x.ft2 = x.ft := by simp [OnX.ft2, h]
    simp [decV, h, this]

theorem dealonce (a : Option Addr) (cp : Nat) (l : List Dl) (d : Dl) (aw : Option Addr) (cw : Nat) (ws : List Wd) (hn : l.length ≤ 1048576) (hw : ws.length ≤ 1048576) (m : M) (h : Row m a (dls l)) (hws : Row m aw (wds ws)) :
    QSpec Try.prog 4 [.slice a l.length cp, dlv d, .slice aw ws.length cw] m (.bool true) := by
  refine QSpec.of_vc Try.func4 (ann := fun n => onceAnn d l a cp aw cw ws { m with sz := n }) fun N hN => ?_
  refine vc_by (X :=
      true = true ∧
      ∃ (b : Bool),
      QSpec Try.prog (15 : Nat) [] { π := m.π, sz := N, uf := m.uf : M } (Value.bool b) ∧
      ifB (!b) (Done (Value.bool false = Value.bool true))
      (true = true ∧
      (∃ (S' : Nat → Prop),
      (∀ (b : Nat), S' b → m.uf b ∧ (N ≤ b ∨ False)) ∧
      ∀ (n : Nat),
      N ≤ n →
      SpecW Try.prog (9 : Nat) [Value.slice a l.length cp] { π := m.π, sz := n, uf := m.uf : M } S' fun (v : Value) (m' : M) =>
      ∃ (a_2 : Option Addr),
      ∃ (n : Nat),
      ∃ (c : Nat),
      v = Value.slice a_2 n c ∧
      MLe { π := m.π, sz := N, uf := m.uf : M } m' ∧
      (∃ (S' : Nat → Prop),
      (∀ (b : Nat), S' b → m'.uf b ∧ (N ≤ b ∨ False)) ∧
      ∀ (n_1 : Nat),
      m'.sz ≤ n_1 →
      SpecW Try.prog (13 : Nat)
      [Value.slice a_2 n c,
      Value.agg
      #[Value.int IntKind.i64 d.cl, Value.int IntKind.i64 d.sq, Value.string d.ky, Value.string d.ot, Value.int IntKind.i64 d.n,
      Value.int IntKind.i64 d.mi, Value.int IntKind.i64 d.th, Value.int IntKind.i64 d.ft]]
      { π := m'.π, sz := n_1, uf := m'.uf : M } S' fun (v : Value) (m' : M) =>
      ∃ (a_4 : Option Addr),
      ∃ (n : Nat),
      ∃ (c : Nat),
      ∃ (n_2 : Int),
      v = Value.tuple #[Value.slice a_4 n c, Value.int IntKind.i64 n_2] ∧
      ifB (n_2 != (0 : Int)) (Done (Value.bool ((↑n : Int) == (0 : Int)) = Value.bool true))
      ((∃ (a_5 : OnX),
      (a_5.k ≤ ws.length ∧ OnB d l.length { π := m.π, sz := N, uf := m.uf : M } a_5 a_5.mi a_5.th a_5.ft) ∧
      m' = a_5.m ∧
      ((SV.val (Value.int IntKind.i64 (0 : Int)) = SV.val (Value.int IntKind.i64 (↑a_5.k : Int)) ∧ true = true) ∧
      (SV.val (Value.slice aw ws.length cw) = SV.val (Value.slice aw ws.length cw) ∧ true = true) ∧
      (SV.val (Value.slice a_4 n c) = SV.val (Value.slice a_5.a a_5.B.length a_5.c) ∧ true = true) ∧
      (SV.own ((0 : Nat) + (0 : Nat)) (0 : Nat) = SV.own (0 : Nat) (0 : Nat) ∧ true = true) ∧
      (SV.val (Value.slice a l.length cp) = SV.val (Value.slice a l.length cp) ∧ true = true) ∧
      (SV.val (Value.int IntKind.i64 (0 : Int)) = SV.val (Value.int IntKind.i64 a_5.mi) ∧ true = true) ∧
      (SV.val (Value.int IntKind.i64 (0 : Int)) = SV.val (Value.int IntKind.i64 a_5.th) ∧ true = true) ∧
      (SV.val (Value.int IntKind.i64 (0 : Int)) = SV.val (Value.int IntKind.i64 a_5.ft) ∧ true = true) ∧
      (SV.val (Value.int IntKind.i64 (0 : Int)) = SV.val (Value.int IntKind.i64 (decV a_5.ft)) ∧
      true = true) ∧
      True) ∧
      (some
      { ty := (24 : Nat), cs := [Value.int IntKind.i64 d.cl, Value.int IntKind.i64 d.sq, Value.string d.ky, Value.string d.ot, Value.int IntKind.i64 d.n, Value.int IntKind.i64 d.mi, Value.int IntKind.i64 d.th, Value.int IntKind.i64 d.ft] : Bx } =
      some
      { ty := (24 : TypeId), cs := [Value.int IntKind.i64 d.cl, Value.int IntKind.i64 d.sq, Value.string d.ky, Value.string d.ot, Value.int IntKind.i64 d.n, Value.int IntKind.i64 d.mi, Value.int IntKind.i64 d.th, Value.int IntKind.i64 d.ft] : Bx } ∧
      true = true) ∧
      True) ∧
      ∀ (a_5 : OnX),
      a_5.k ≤ ws.length ∧ OnB d l.length { π := m.π, sz := N, uf := m.uf : M } a_5 a_5.mi a_5.th a_5.ft →
      ifB (decide ((↑a_5.k : Int) < (↑ws.length : Int)))
      (∃ (b : Nat),
      ∃ (off : Nat),
      aw = some { block := b, off := off : Addr } ∧
      ((0 : Int) ≤ (↑a_5.k : Int) ∧ (↑a_5.k : Int) < (↑ws.length : Int)) ∧
      ∃ (b_1 : Bool),
      ∃ (b_2 : Bool),
      ∃ (b_3 : Bool),
      CellsAt a_5.m b (off + (↑a_5.k : Int).toNat * (3 : Nat))
      [Value.bool b_1, Value.bool b_2, Value.bool b_3] ∧
      ifB b_1
      (∃ (S' : Nat → Prop),
      (∀ (b : Nat), S' b → a_5.m.uf b ∧ (N ≤ b ∨ False)) ∧
      ∀ (n : Nat),
      a_5.m.sz ≤ n →
      SpecW Try.prog (20 : Nat)
      [Value.slice a_5.a a_5.B.length a_5.c, Value.int IntKind.i64 d.cl,
      Value.int IntKind.i64 d.sq]
      { π := a_5.m.π, sz := n, uf := a_5.m.uf : M } S' fun (v : Value) (m' : M) =>
      ∃ (a_8 : Option Addr),
      ∃ (n : Nat),
      ∃ (c : Nat),
      ∃ (b : Bool),
      ∃ (n_3 : Int),
      v =
      Value.tuple
      #[Value.slice a_8 n c, Value.bool b, Value.int IntKind.i64 n_3] ∧
      ifB (a_5.ft == (0 : Int))
      (∃ (x : OnX),
      ((x.k < ws.length ∧
      (x.dec + if x.yes = true then (1 : Int) else (0 : Int)) =
      decV x.ft ∧
      (0 : Int) ≤ x.dec ∧
      OnB d l.length { π := m.π, sz := N, uf := m.uf : M } x x.mi
      x.th x.ft) ∧
      m' = x.m ∧
      ((SV.val (Value.int IntKind.i64 (↑a_5.k : Int)) =
      SV.val (Value.int IntKind.i64 (↑x.k : Int)) ∧
      true = true) ∧
      (SV.val (Value.slice aw ws.length cw) =
      SV.val (Value.slice aw ws.length cw) ∧
      true = true) ∧
      (SV.val (Value.slice a_8 n c) =
      SV.val (Value.slice x.a x.B.length x.c) ∧
      true = true) ∧
      (SV.own (0 : Nat) (0 : Nat) =
      SV.own (0 : Nat) (0 : Nat) ∧
      true = true) ∧
      (SV.val (Value.slice a l.length cp) =
      SV.val (Value.slice a l.length cp) ∧
      true = true) ∧
      (SV.val (Value.int IntKind.i64 a_5.mi) =
      SV.val (Value.int IntKind.i64 x.mi) ∧
      true = true) ∧
      (SV.val (Value.int IntKind.i64 a_5.th) =
      SV.val (Value.int IntKind.i64 x.th) ∧
      true = true) ∧
      (SV.val (Value.int IntKind.i64 (2 : Int)) =
      SV.val (Value.int IntKind.i64 x.ft) ∧
      true = true) ∧
      (SV.val
      (Value.int IntKind.i64
      (decV a_5.ft)) =
      SV.val (Value.int IntKind.i64 x.dec) ∧
      true = true) ∧
      (SV.val (Value.bool b) =
      SV.val (Value.bool x.yes) ∧
      true = true) ∧
      (SV.val (Value.int IntKind.i64 n_3) =
      SV.val
      (Value.int IntKind.i64
      (0 : Int)) ∧
      true = true) ∧
      True) ∧
      (some
      { ty := (24 : TypeId), cs := [Value.int IntKind.i64 d.cl, Value.int IntKind.i64 d.sq, Value.string d.ky, Value.string d.ot, Value.int IntKind.i64 d.n, Value.int IntKind.i64 d.mi, Value.int IntKind.i64 d.th, Value.int IntKind.i64 d.ft] : Bx } =
      some
      { ty := (24 : TypeId), cs := [Value.int IntKind.i64 d.cl, Value.int IntKind.i64 d.sq, Value.string d.ky, Value.string d.ot, Value.int IntKind.i64 d.n, Value.int IntKind.i64 d.mi, Value.int IntKind.i64 d.th, Value.int IntKind.i64 d.ft] : Bx } ∧
      true = true) ∧
      True) ∧
      [ws.length - a_5.k] = [ws.length - x.k])
      (∃ (x : OnX),
      ((x.k < ws.length ∧
      (x.dec + if x.yes = true then (1 : Int) else (0 : Int)) =
      decV x.ft ∧
      (0 : Int) ≤ x.dec ∧
      OnB d l.length { π := m.π, sz := N, uf := m.uf : M } x x.mi
      x.th x.ft) ∧
      m' = x.m ∧
      ((SV.val (Value.int IntKind.i64 (↑a_5.k : Int)) =
      SV.val (Value.int IntKind.i64 (↑x.k : Int)) ∧
      true = true) ∧
      (SV.val (Value.slice aw ws.length cw) =
      SV.val (Value.slice aw ws.length cw) ∧
      true = true) ∧
      (SV.val (Value.slice a_8 n c) =
      SV.val (Value.slice x.a x.B.length x.c) ∧
      true = true) ∧
      (SV.own (0 : Nat) (0 : Nat) =
      SV.own (0 : Nat) (0 : Nat) ∧
      true = true) ∧
      (SV.val (Value.slice a l.length cp) =
      SV.val (Value.slice a l.length cp) ∧
      true = true) ∧
      (SV.val (Value.int IntKind.i64 a_5.mi) =
      SV.val (Value.int IntKind.i64 x.mi) ∧
      true = true) ∧
      (SV.val (Value.int IntKind.i64 a_5.th) =
      SV.val (Value.int IntKind.i64 x.th) ∧
      true = true) ∧
      (SV.val (Value.int IntKind.i64 a_5.ft) =
      SV.val (Value.int IntKind.i64 x.ft) ∧
      true = true) ∧
      (SV.val
      (Value.int IntKind.i64
      (decV a_5.ft)) =
      SV.val (Value.int IntKind.i64 x.dec) ∧
      true = true) ∧
      (SV.val (Value.bool b) =
      SV.val (Value.bool x.yes) ∧
      true = true) ∧
      (SV.val (Value.int IntKind.i64 n_3) =
      SV.val
      (Value.int IntKind.i64
      (0 : Int)) ∧
      true = true) ∧
      True) ∧
      (some
      { ty := (24 : TypeId), cs := [Value.int IntKind.i64 d.cl, Value.int IntKind.i64 d.sq, Value.string d.ky, Value.string d.ot, Value.int IntKind.i64 d.n, Value.int IntKind.i64 d.mi, Value.int IntKind.i64 d.th, Value.int IntKind.i64 d.ft] : Bx } =
      some
      { ty := (24 : TypeId), cs := [Value.int IntKind.i64 d.cl, Value.int IntKind.i64 d.sq, Value.string d.ky, Value.string d.ot, Value.int IntKind.i64 d.n, Value.int IntKind.i64 d.mi, Value.int IntKind.i64 d.th, Value.int IntKind.i64 d.ft] : Bx } ∧
      true = true) ∧
      True) ∧
      [ws.length - a_5.k] = [ws.length - x.k]))
      (∃ (S' : Nat → Prop),
      (∀ (b : Nat), S' b → a_5.m.uf b ∧ (N ≤ b ∨ False)) ∧
      ∀ (n : Nat),
      a_5.m.sz ≤ n →
      SpecW Try.prog (18 : Nat)
      [Value.slice a_5.a a_5.B.length a_5.c, Value.int IntKind.i64 d.cl,
      Value.int IntKind.i64 d.sq, Value.bool b_2, Value.bool b_3]
      { π := a_5.m.π, sz := n, uf := a_5.m.uf : M } S' fun (v : Value) (m' : M) =>
      ∃ (a_8 : Option Addr),
      ∃ (n : Nat),
      ∃ (c : Nat),
      ∃ (b : Bool),
      ∃ (n_3 : Int),
      v =
      Value.tuple
      #[Value.slice a_8 n c, Value.bool b, Value.int IntKind.i64 n_3] ∧
      ifB b_3
      (∃ (x : OnX),
      ((x.k < ws.length ∧
      x.dec = decV x.ft ∧
      x.yes = decide (x.ft = (0 : Int) ∧ x.ft2 ≠ (0 : Int)) ∧
      OnB d l.length { π := m.π, sz := N, uf := m.uf : M } x
      x.mi2 x.th2 x.ft2) ∧
      m' = x.m ∧
      ((SV.val (Value.int IntKind.i64 (↑a_5.k : Int)) =
      SV.val (Value.int IntKind.i64 (↑x.k : Int)) ∧
      true = true) ∧
      (SV.val (Value.slice aw ws.length cw) =
      SV.val (Value.slice aw ws.length cw) ∧
      true = true) ∧
      (SV.val (Value.slice a_8 n c) =
      SV.val (Value.slice x.a x.B.length x.c) ∧
      true = true) ∧
      (SV.own (0 : Nat) (0 : Nat) =
      SV.own (0 : Nat) (0 : Nat) ∧
      true = true) ∧
      (SV.val (Value.slice a l.length cp) =
      SV.val (Value.slice a l.length cp) ∧
      true = true) ∧
      (SV.val (Value.int IntKind.i64 a_5.mi) =
      SV.val (Value.int IntKind.i64 x.mi) ∧
      true = true) ∧
      (SV.val (Value.int IntKind.i64 a_5.th) =
      SV.val (Value.int IntKind.i64 x.th) ∧
      true = true) ∧
      (SV.val (Value.int IntKind.i64 a_5.ft) =
      SV.val (Value.int IntKind.i64 x.ft) ∧
      true = true) ∧
      (SV.val
      (Value.int IntKind.i64
      (decV a_5.ft)) =
      SV.val (Value.int IntKind.i64 x.dec) ∧
      true = true) ∧
      (SV.val (Value.bool b) =
      SV.val (Value.bool x.yes) ∧
      true = true) ∧
      (SV.val (Value.int IntKind.i64 n_3) =
      SV.val
      (Value.int IntKind.i64
      (0 : Int)) ∧
      true = true) ∧
      (SV.own
      ((0 : Nat) + (2 : Nat) +
      (2 : Nat) +
      (9 : Nat) +
      (2 : Nat) +
      (4 : Nat) +
      (1 : Nat) +
      (4 : Nat) +
      (4 : Nat))
      (0 : Nat) =
      SV.own (28 : Nat) (0 : Nat) ∧
      true = true) ∧
      (SV.val
      (Value.int IntKind.i64
      (1 : Int)) =
      SV.val
      (Value.int IntKind.i64
      (wordD x.wd.is)) ∧
      true = true) ∧
      True) ∧
      (some
      { ty := (24 : TypeId), cs := [Value.int IntKind.i64 d.cl, Value.int IntKind.i64 d.sq, Value.string d.ky, Value.string d.ot, Value.int IntKind.i64 d.n, Value.int IntKind.i64 d.mi, Value.int IntKind.i64 d.th, Value.int IntKind.i64 d.ft] : Bx } =
      some
      { ty := (24 : TypeId), cs := [Value.int IntKind.i64 d.cl, Value.int IntKind.i64 d.sq, Value.string d.ky, Value.string d.ot, Value.int IntKind.i64 d.n, Value.int IntKind.i64 d.mi, Value.int IntKind.i64 d.th, Value.int IntKind.i64 d.ft] : Bx } ∧
      true = true) ∧
      (some
      { ty := (42 : Nat), cs := [Value.bool b_1, Value.bool b_2, Value.bool b_3] : Bx } =
      some
      { ty := (42 : TypeId), cs := [Value.bool x.wd.gv, Value.bool x.wd.mi, Value.bool x.wd.is] : Bx } ∧
      true = true) ∧
      True) ∧
      [ws.length - a_5.k] = [ws.length - x.k])
      (∃ (x : OnX),
      ((x.k < ws.length ∧
      x.dec = decV x.ft ∧
      x.yes = decide (x.ft = (0 : Int) ∧ x.ft2 ≠ (0 : Int)) ∧
      OnB d l.length { π := m.π, sz := N, uf := m.uf : M } x
      x.mi2 x.th2 x.ft2) ∧
      m' = x.m ∧
      ((SV.val (Value.int IntKind.i64 (↑a_5.k : Int)) =
      SV.val (Value.int IntKind.i64 (↑x.k : Int)) ∧
      true = true) ∧
      (SV.val (Value.slice aw ws.length cw) =
      SV.val (Value.slice aw ws.length cw) ∧
      true = true) ∧
      (SV.val (Value.slice a_8 n c) =
      SV.val (Value.slice x.a x.B.length x.c) ∧
      true = true) ∧
      (SV.own (0 : Nat) (0 : Nat) =
      SV.own (0 : Nat) (0 : Nat) ∧
      true = true) ∧
      (SV.val (Value.slice a l.length cp) =
      SV.val (Value.slice a l.length cp) ∧
      true = true) ∧
      (SV.val (Value.int IntKind.i64 a_5.mi) =
      SV.val (Value.int IntKind.i64 x.mi) ∧
      true = true) ∧
      (SV.val (Value.int IntKind.i64 a_5.th) =
      SV.val (Value.int IntKind.i64 x.th) ∧
      true = true) ∧
      (SV.val (Value.int IntKind.i64 a_5.ft) =
      SV.val (Value.int IntKind.i64 x.ft) ∧
      true = true) ∧
      (SV.val
      (Value.int IntKind.i64
      (decV a_5.ft)) =
      SV.val (Value.int IntKind.i64 x.dec) ∧
      true = true) ∧
      (SV.val (Value.bool b) =
      SV.val (Value.bool x.yes) ∧
      true = true) ∧
      (SV.val (Value.int IntKind.i64 n_3) =
      SV.val
      (Value.int IntKind.i64
      (0 : Int)) ∧
      true = true) ∧
      (SV.own
      ((0 : Nat) + (2 : Nat) +
      (2 : Nat) +
      (9 : Nat) +
      (2 : Nat) +
      (4 : Nat) +
      (1 : Nat) +
      (4 : Nat) +
      (4 : Nat))
      (0 : Nat) =
      SV.own (28 : Nat) (0 : Nat) ∧
      true = true) ∧
      (SV.val
      (Value.int IntKind.i64
      (2 : Int)) =
      SV.val
      (Value.int IntKind.i64
      (wordD x.wd.is)) ∧
      true = true) ∧
      True) ∧
      (some
      { ty := (24 : TypeId), cs := [Value.int IntKind.i64 d.cl, Value.int IntKind.i64 d.sq, Value.string d.ky, Value.string d.ot, Value.int IntKind.i64 d.n, Value.int IntKind.i64 d.mi, Value.int IntKind.i64 d.th, Value.int IntKind.i64 d.ft] : Bx } =
      some
      { ty := (24 : TypeId), cs := [Value.int IntKind.i64 d.cl, Value.int IntKind.i64 d.sq, Value.string d.ky, Value.string d.ot, Value.int IntKind.i64 d.n, Value.int IntKind.i64 d.mi, Value.int IntKind.i64 d.th, Value.int IntKind.i64 d.ft] : Bx } ∧
      true = true) ∧
      (some
      { ty := (42 : Nat), cs := [Value.bool b_1, Value.bool b_2, Value.bool b_3] : Bx } =
      some
      { ty := (42 : TypeId), cs := [Value.bool x.wd.gv, Value.bool x.wd.mi, Value.bool x.wd.is] : Bx } ∧
      true = true) ∧
      True) ∧
      [ws.length - a_5.k] = [ws.length - x.k]) ∧
      ∀ (x : OnX),
      (x.k < ws.length ∧
      x.dec = decV x.ft ∧
      x.yes = decide (x.ft = (0 : Int) ∧ x.ft2 ≠ (0 : Int)) ∧
      OnB d l.length { π := m.π, sz := N, uf := m.uf : M } x x.mi2
      x.th2 x.ft2) ∧
      [ws.length - a_5.k] = [ws.length - x.k] →
      ifB (x.ft == (0 : Int))
      (ifB x.wd.mi
      (ifB (x.mi == (0 : Int))
      (∃ (x_1 : OnX),
      ((x_1.k < ws.length ∧
      x_1.dec = decV x_1.ft ∧
      x_1.yes =
      decide
      (x_1.ft = (0 : Int) ∧ x_1.ft2 ≠ (0 : Int)) ∧
      OnB d l.length
      { π := m.π, sz := N, uf := m.uf : M } x_1
      x_1.mi2 x_1.th2 x_1.ft2) ∧
      x.m = x_1.m ∧
      ((SV.val (Value.int IntKind.i64 (↑x.k : Int)) =
      SV.val
      (Value.int IntKind.i64 (↑x_1.k : Int)) ∧
      true = true) ∧
      (SV.val (Value.slice aw ws.length cw) =
      SV.val (Value.slice aw ws.length cw) ∧
      true = true) ∧
      (SV.val (Value.slice x.a x.B.length x.c) =
      SV.val
      (Value.slice x_1.a x_1.B.length
      x_1.c) ∧
      true = true) ∧
      (SV.own (0 : Nat) (0 : Nat) =
      SV.own (0 : Nat) (0 : Nat) ∧
      true = true) ∧
      (SV.val (Value.slice a l.length cp) =
      SV.val (Value.slice a l.length cp) ∧
      true = true) ∧
      (SV.val
      (Value.int IntKind.i64
      (wordD x.wd.is)) =
      SV.val
      (Value.int IntKind.i64
      x_1.mi2) ∧
      true = true) ∧
      (SV.val (Value.int IntKind.i64 x.th) =
      SV.val
      (Value.int IntKind.i64
      x_1.th) ∧
      true = true) ∧
      (SV.val
      (Value.int IntKind.i64
      x.ft) =
      SV.val
      (Value.int IntKind.i64
      x_1.ft) ∧
      true = true) ∧
      (SV.val
      (Value.int IntKind.i64
      x.dec) =
      SV.val
      (Value.int IntKind.i64
      x_1.dec) ∧
      true = true) ∧
      (SV.val (Value.bool x.yes) =
      SV.val
      (Value.bool x_1.yes) ∧
      true = true) ∧
      (SV.val
      (Value.int IntKind.i64
      (0 : Int)) =
      SV.val
      (Value.int IntKind.i64
      (0 : Int)) ∧
      true = true) ∧
      (SV.own (28 : Nat)
      (0 : Nat) =
      SV.own (28 : Nat)
      (0 : Nat) ∧
      true = true) ∧
      (SV.val
      (Value.int
      IntKind.i64
      (wordD
      x.wd.is)) =
      SV.val
      (Value.int
      IntKind.i64
      (wordD
      x_1.wd.is)) ∧
      true = true) ∧
      True) ∧
      (some
      { ty := (24 : TypeId), cs := [Value.int IntKind.i64 d.cl, Value.int IntKind.i64 d.sq, Value.string d.ky, Value.string d.ot, Value.int IntKind.i64 d.n, Value.int IntKind.i64 d.mi, Value.int IntKind.i64 d.th, Value.int IntKind.i64 d.ft] : Bx } =
      some
      { ty := (24 : TypeId), cs := [Value.int IntKind.i64 d.cl, Value.int IntKind.i64 d.sq, Value.string d.ky, Value.string d.ot, Value.int IntKind.i64 d.n, Value.int IntKind.i64 d.mi, Value.int IntKind.i64 d.th, Value.int IntKind.i64 d.ft] : Bx } ∧
      true = true) ∧
      (some
      { ty := (42 : TypeId), cs := [Value.bool x.wd.gv, Value.bool x.wd.mi, Value.bool x.wd.is] : Bx } =
      some
      { ty := (42 : TypeId), cs := [Value.bool x_1.wd.gv, Value.bool x_1.wd.mi, Value.bool x_1.wd.is] : Bx } ∧
      true = true) ∧
      True) ∧
      [ws.length - a_5.k] = [ws.length - x_1.k])
      (∃ (x_1 : OnX),
      ((x_1.k < ws.length ∧
      x_1.dec = decV x_1.ft ∧
      x_1.yes =
      decide
      (x_1.ft = (0 : Int) ∧ x_1.ft2 ≠ (0 : Int)) ∧
      OnB d l.length
      { π := m.π, sz := N, uf := m.uf : M } x_1
      x_1.mi2 x_1.th2 x_1.ft2) ∧
      x.m = x_1.m ∧
      ((SV.val (Value.int IntKind.i64 (↑x.k : Int)) =
      SV.val
      (Value.int IntKind.i64 (↑x_1.k : Int)) ∧
      true = true) ∧
      (SV.val (Value.slice aw ws.length cw) =
      SV.val (Value.slice aw ws.length cw) ∧
      true = true) ∧
      (SV.val (Value.slice x.a x.B.length x.c) =
      SV.val
      (Value.slice x_1.a x_1.B.length
      x_1.c) ∧
      true = true) ∧
      (SV.own (0 : Nat) (0 : Nat) =
      SV.own (0 : Nat) (0 : Nat) ∧
      true = true) ∧
      (SV.val (Value.slice a l.length cp) =
      SV.val (Value.slice a l.length cp) ∧
      true = true) ∧
      (SV.val (Value.int IntKind.i64 x.mi) =
      SV.val
      (Value.int IntKind.i64
      x_1.mi2) ∧
      true = true) ∧
      (SV.val (Value.int IntKind.i64 x.th) =
      SV.val
      (Value.int IntKind.i64
      x_1.th) ∧
      true = true) ∧
      (SV.val
      (Value.int IntKind.i64
      x.ft) =
      SV.val
      (Value.int IntKind.i64
      x_1.ft) ∧
      true = true) ∧
      (SV.val
      (Value.int IntKind.i64
      x.dec) =
      SV.val
      (Value.int IntKind.i64
      x_1.dec) ∧
      true = true) ∧
      (SV.val (Value.bool x.yes) =
      SV.val
      (Value.bool x_1.yes) ∧
      true = true) ∧
      (SV.val
      (Value.int IntKind.i64
      (0 : Int)) =
      SV.val
      (Value.int IntKind.i64
      (0 : Int)) ∧
      true = true) ∧
      (SV.own (28 : Nat)
      (0 : Nat) =
      SV.own (28 : Nat)
      (0 : Nat) ∧
      true = true) ∧
      (SV.val
      (Value.int
      IntKind.i64
      (wordD
      x.wd.is)) =
      SV.val
      (Value.int
      IntKind.i64
      (wordD
      x_1.wd.is)) ∧
      true = true) ∧
      True) ∧
      (some
      { ty := (24 : TypeId), cs := [Value.int IntKind.i64 d.cl, Value.int IntKind.i64 d.sq, Value.string d.ky, Value.string d.ot, Value.int IntKind.i64 d.n, Value.int IntKind.i64 d.mi, Value.int IntKind.i64 d.th, Value.int IntKind.i64 d.ft] : Bx } =
      some
      { ty := (24 : TypeId), cs := [Value.int IntKind.i64 d.cl, Value.int IntKind.i64 d.sq, Value.string d.ky, Value.string d.ot, Value.int IntKind.i64 d.n, Value.int IntKind.i64 d.mi, Value.int IntKind.i64 d.th, Value.int IntKind.i64 d.ft] : Bx } ∧
      true = true) ∧
      (some
      { ty := (42 : TypeId), cs := [Value.bool x.wd.gv, Value.bool x.wd.mi, Value.bool x.wd.is] : Bx } =
      some
      { ty := (42 : TypeId), cs := [Value.bool x_1.wd.gv, Value.bool x_1.wd.mi, Value.bool x_1.wd.is] : Bx } ∧
      true = true) ∧
      True) ∧
      [ws.length - a_5.k] = [ws.length - x_1.k]))
      (∃ (x_1 : OnX),
      ((x_1.k < ws.length ∧
      x_1.dec = decV x_1.ft ∧
      x_1.yes =
      decide
      (x_1.ft = (0 : Int) ∧ x_1.ft2 ≠ (0 : Int)) ∧
      OnB d l.length
      { π := m.π, sz := N, uf := m.uf : M } x_1
      x_1.mi2 x_1.th2 x_1.ft2) ∧
      x.m = x_1.m ∧
      ((SV.val (Value.int IntKind.i64 (↑x.k : Int)) =
      SV.val
      (Value.int IntKind.i64 (↑x_1.k : Int)) ∧
      true = true) ∧
      (SV.val (Value.slice aw ws.length cw) =
      SV.val (Value.slice aw ws.length cw) ∧
      true = true) ∧
      (SV.val (Value.slice x.a x.B.length x.c) =
      SV.val
      (Value.slice x_1.a x_1.B.length x_1.c) ∧
      true = true) ∧
      (SV.own (0 : Nat) (0 : Nat) =
      SV.own (0 : Nat) (0 : Nat) ∧
      true = true) ∧
      (SV.val (Value.slice a l.length cp) =
      SV.val (Value.slice a l.length cp) ∧
      true = true) ∧
      (SV.val (Value.int IntKind.i64 x.mi) =
      SV.val
      (Value.int IntKind.i64 x_1.mi2) ∧
      true = true) ∧
      (SV.val (Value.int IntKind.i64 x.th) =
      SV.val
      (Value.int IntKind.i64 x_1.th) ∧
      true = true) ∧
      (SV.val (Value.int IntKind.i64 x.ft) =
      SV.val
      (Value.int IntKind.i64
      x_1.ft) ∧
      true = true) ∧
      (SV.val
      (Value.int IntKind.i64
      x.dec) =
      SV.val
      (Value.int IntKind.i64
      x_1.dec) ∧
      true = true) ∧
      (SV.val (Value.bool x.yes) =
      SV.val
      (Value.bool x_1.yes) ∧
      true = true) ∧
      (SV.val
      (Value.int IntKind.i64
      (0 : Int)) =
      SV.val
      (Value.int IntKind.i64
      (0 : Int)) ∧
      true = true) ∧
      (SV.own (28 : Nat) (0 : Nat) =
      SV.own (28 : Nat)
      (0 : Nat) ∧
      true = true) ∧
      (SV.val
      (Value.int
      IntKind.i64
      (wordD x.wd.is)) =
      SV.val
      (Value.int
      IntKind.i64
      (wordD
      x_1.wd.is)) ∧
      true = true) ∧
      True) ∧
      (some
      { ty := (24 : TypeId), cs := [Value.int IntKind.i64 d.cl, Value.int IntKind.i64 d.sq, Value.string d.ky, Value.string d.ot, Value.int IntKind.i64 d.n, Value.int IntKind.i64 d.mi, Value.int IntKind.i64 d.th, Value.int IntKind.i64 d.ft] : Bx } =
      some
      { ty := (24 : TypeId), cs := [Value.int IntKind.i64 d.cl, Value.int IntKind.i64 d.sq, Value.string d.ky, Value.string d.ot, Value.int IntKind.i64 d.n, Value.int IntKind.i64 d.mi, Value.int IntKind.i64 d.th, Value.int IntKind.i64 d.ft] : Bx } ∧
      true = true) ∧
      (some
      { ty := (42 : TypeId), cs := [Value.bool x.wd.gv, Value.bool x.wd.mi, Value.bool x.wd.is] : Bx } =
      some
      { ty := (42 : TypeId), cs := [Value.bool x_1.wd.gv, Value.bool x_1.wd.mi, Value.bool x_1.wd.is] : Bx } ∧
      true = true) ∧
      True) ∧
      [ws.length - a_5.k] = [ws.length - x_1.k]))
      (∃ (x_1 : OnX),
      ((x_1.k < ws.length ∧
      x_1.dec = decV x_1.ft ∧
      x_1.yes =
      decide
      (x_1.ft = (0 : Int) ∧ x_1.ft2 ≠ (0 : Int)) ∧
      OnB d l.length { π := m.π, sz := N, uf := m.uf : M }
      x_1 x_1.mi2 x_1.th2 x_1.ft2) ∧
      x.m = x_1.m ∧
      ((SV.val (Value.int IntKind.i64 (↑x.k : Int)) =
      SV.val (Value.int IntKind.i64 (↑x_1.k : Int)) ∧
      true = true) ∧
      (SV.val (Value.slice aw ws.length cw) =
      SV.val (Value.slice aw ws.length cw) ∧
      true = true) ∧
      (SV.val (Value.slice x.a x.B.length x.c) =
      SV.val
      (Value.slice x_1.a x_1.B.length x_1.c) ∧
      true = true) ∧
      (SV.own (0 : Nat) (0 : Nat) =
      SV.own (0 : Nat) (0 : Nat) ∧
      true = true) ∧
      (SV.val (Value.slice a l.length cp) =
      SV.val (Value.slice a l.length cp) ∧
      true = true) ∧
      (SV.val (Value.int IntKind.i64 x.mi) =
      SV.val
      (Value.int IntKind.i64 x_1.mi2) ∧
      true = true) ∧
      (SV.val (Value.int IntKind.i64 x.th) =
      SV.val
      (Value.int IntKind.i64 x_1.th) ∧
      true = true) ∧
      (SV.val (Value.int IntKind.i64 x.ft) =
      SV.val
      (Value.int IntKind.i64 x_1.ft) ∧
      true = true) ∧
      (SV.val
      (Value.int IntKind.i64
      x.dec) =
      SV.val
      (Value.int IntKind.i64
      x_1.dec) ∧
      true = true) ∧
      (SV.val (Value.bool x.yes) =
      SV.val (Value.bool x_1.yes) ∧
      true = true) ∧
      (SV.val
      (Value.int IntKind.i64
      (0 : Int)) =
      SV.val
      (Value.int IntKind.i64
      (0 : Int)) ∧
      true = true) ∧
      (SV.own (28 : Nat) (0 : Nat) =
      SV.own (28 : Nat)
      (0 : Nat) ∧
      true = true) ∧
      (SV.val
      (Value.int IntKind.i64
      (wordD x.wd.is)) =
      SV.val
      (Value.int IntKind.i64
      (wordD x_1.wd.is)) ∧
      true = true) ∧
      True) ∧
      (some
      { ty := (24 : TypeId), cs := [Value.int IntKind.i64 d.cl, Value.int IntKind.i64 d.sq, Value.string d.ky, Value.string d.ot, Value.int IntKind.i64 d.n, Value.int IntKind.i64 d.mi, Value.int IntKind.i64 d.th, Value.int IntKind.i64 d.ft] : Bx } =
      some
      { ty := (24 : TypeId), cs := [Value.int IntKind.i64 d.cl, Value.int IntKind.i64 d.sq, Value.string d.ky, Value.string d.ot, Value.int IntKind.i64 d.n, Value.int IntKind.i64 d.mi, Value.int IntKind.i64 d.th, Value.int IntKind.i64 d.ft] : Bx } ∧
      true = true) ∧
      (some
      { ty := (42 : TypeId), cs := [Value.bool x.wd.gv, Value.bool x.wd.mi, Value.bool x.wd.is] : Bx } =
      some
      { ty := (42 : TypeId), cs := [Value.bool x_1.wd.gv, Value.bool x_1.wd.mi, Value.bool x_1.wd.is] : Bx } ∧
      true = true) ∧
      True) ∧
      [ws.length - a_5.k] = [ws.length - x_1.k]) ∧
      ∀ (x : OnX),
      (x.k < ws.length ∧
      x.dec = decV x.ft ∧
      x.yes = decide (x.ft = (0 : Int) ∧ x.ft2 ≠ (0 : Int)) ∧
      OnB d l.length { π := m.π, sz := N, uf := m.uf : M } x
      x.mi2 x.th2 x.ft2) ∧
      [ws.length - a_5.k] = [ws.length - x.k] →
      ifB (x.ft == (0 : Int))
      (ifB (!x.wd.mi)
      (ifB (x.th == (0 : Int))
      (∃ (x_1 : OnX),
      ((x_1.k < ws.length ∧
      x_1.dec = decV x_1.ft ∧
      x_1.yes =
      decide
      (x_1.ft = (0 : Int) ∧
      x_1.ft2 ≠ (0 : Int)) ∧
      OnB d l.length
      { π := m.π, sz := N, uf := m.uf : M }
      x_1 x_1.mi2 x_1.th2 x_1.ft2) ∧
      x.m = x_1.m ∧
      ((SV.val
      (Value.int IntKind.i64
      (↑x.k : Int)) =
      SV.val
      (Value.int IntKind.i64
      (↑x_1.k : Int)) ∧
      true = true) ∧
      (SV.val (Value.slice aw ws.length cw) =
      SV.val
      (Value.slice aw ws.length cw) ∧
      true = true) ∧
      (SV.val
      (Value.slice x.a x.B.length
      x.c) =
      SV.val
      (Value.slice x_1.a x_1.B.length
      x_1.c) ∧
      true = true) ∧
      (SV.own (0 : Nat) (0 : Nat) =
      SV.own (0 : Nat) (0 : Nat) ∧
      true = true) ∧
      (SV.val
      (Value.slice a l.length
      cp) =
      SV.val
      (Value.slice a l.length
      cp) ∧
      true = true) ∧
      (SV.val
      (Value.int IntKind.i64
      x.mi2) =
      SV.val
      (Value.int IntKind.i64
      x_1.mi2) ∧
      true = true) ∧
      (SV.val
      (Value.int IntKind.i64
      (wordD x.wd.is)) =
      SV.val
      (Value.int IntKind.i64
      x_1.th2) ∧
      true = true) ∧
      (SV.val
      (Value.int IntKind.i64
      x.ft) =
      SV.val
      (Value.int IntKind.i64
      x_1.ft) ∧
      true = true) ∧
      (SV.val
      (Value.int
      IntKind.i64
      x.dec) =
      SV.val
      (Value.int
      IntKind.i64
      x_1.dec) ∧
      true = true) ∧
      (SV.val
      (Value.bool
      x.yes) =
      SV.val
      (Value.bool
      x_1.yes) ∧
      true = true) ∧
      (SV.val
      (Value.int
      IntKind.i64
      (0 : Int)) =
      SV.val
      (Value.int
      IntKind.i64
      (0 : Int)) ∧
      true = true) ∧
      True) ∧
      (some
      { ty := (24 : TypeId), cs := [Value.int IntKind.i64 d.cl, Value.int IntKind.i64 d.sq, Value.string d.ky, Value.string d.ot, Value.int IntKind.i64 d.n, Value.int IntKind.i64 d.mi, Value.int IntKind.i64 d.th, Value.int IntKind.i64 d.ft] : Bx } =
      some
      { ty := (24 : TypeId), cs := [Value.int IntKind.i64 d.cl, Value.int IntKind.i64 d.sq, Value.string d.ky, Value.string d.ot, Value.int IntKind.i64 d.n, Value.int IntKind.i64 d.mi, Value.int IntKind.i64 d.th, Value.int IntKind.i64 d.ft] : Bx } ∧
      true = true) ∧
      True) ∧
      [ws.length - a_5.k] = [ws.length - x_1.k])
      (∃ (x_1 : OnX),
      ((x_1.k < ws.length ∧
      x_1.dec = decV x_1.ft ∧
      x_1.yes =
      decide
      (x_1.ft = (0 : Int) ∧
      x_1.ft2 ≠ (0 : Int)) ∧
      OnB d l.length
      { π := m.π, sz := N, uf := m.uf : M }
      x_1 x_1.mi2 x_1.th2 x_1.ft2) ∧
      x.m = x_1.m ∧
      ((SV.val
      (Value.int IntKind.i64
      (↑x.k : Int)) =
      SV.val
      (Value.int IntKind.i64
      (↑x_1.k : Int)) ∧
      true = true) ∧
      (SV.val (Value.slice aw ws.length cw) =
      SV.val
      (Value.slice aw ws.length cw) ∧
      true = true) ∧
      (SV.val
      (Value.slice x.a x.B.length
      x.c) =
      SV.val
      (Value.slice x_1.a x_1.B.length
      x_1.c) ∧
      true = true) ∧
      (SV.own (0 : Nat) (0 : Nat) =
      SV.own (0 : Nat) (0 : Nat) ∧
      true = true) ∧
      (SV.val
      (Value.slice a l.length
      cp) =
      SV.val
      (Value.slice a l.length
      cp) ∧
      true = true) ∧
      (SV.val
      (Value.int IntKind.i64
      x.mi2) =
      SV.val
      (Value.int IntKind.i64
      x_1.mi2) ∧
      true = true) ∧
      (SV.val
      (Value.int IntKind.i64
      x.th) =
      SV.val
      (Value.int IntKind.i64
      x_1.th2) ∧
      true = true) ∧
      (SV.val
      (Value.int IntKind.i64
      x.ft) =
      SV.val
      (Value.int IntKind.i64
      x_1.ft) ∧
      true = true) ∧
      (SV.val
      (Value.int
      IntKind.i64
      x.dec) =
      SV.val
      (Value.int
      IntKind.i64
      x_1.dec) ∧
      true = true) ∧
      (SV.val
      (Value.bool
      x.yes) =
      SV.val
      (Value.bool
      x_1.yes) ∧
      true = true) ∧
      (SV.val
      (Value.int
      IntKind.i64
      (0 : Int)) =
      SV.val
      (Value.int
      IntKind.i64
      (0 : Int)) ∧
      true = true) ∧
      True) ∧
      (some
      { ty := (24 : TypeId), cs := [Value.int IntKind.i64 d.cl, Value.int IntKind.i64 d.sq, Value.string d.ky, Value.string d.ot, Value.int IntKind.i64 d.n, Value.int IntKind.i64 d.mi, Value.int IntKind.i64 d.th, Value.int IntKind.i64 d.ft] : Bx } =
      some
      { ty := (24 : TypeId), cs := [Value.int IntKind.i64 d.cl, Value.int IntKind.i64 d.sq, Value.string d.ky, Value.string d.ot, Value.int IntKind.i64 d.n, Value.int IntKind.i64 d.mi, Value.int IntKind.i64 d.th, Value.int IntKind.i64 d.ft] : Bx } ∧
      true = true) ∧
      True) ∧
      [ws.length - a_5.k] = [ws.length - x_1.k]))
      (∃ (x_1 : OnX),
      ((x_1.k < ws.length ∧
      x_1.dec = decV x_1.ft ∧
      x_1.yes =
      decide
      (x_1.ft = (0 : Int) ∧
      x_1.ft2 ≠ (0 : Int)) ∧
      OnB d l.length
      { π := m.π, sz := N, uf := m.uf : M } x_1
      x_1.mi2 x_1.th2 x_1.ft2) ∧
      x.m = x_1.m ∧
      ((SV.val (Value.int IntKind.i64 (↑x.k : Int)) =
      SV.val
      (Value.int IntKind.i64
      (↑x_1.k : Int)) ∧
      true = true) ∧
      (SV.val (Value.slice aw ws.length cw) =
      SV.val (Value.slice aw ws.length cw) ∧
      true = true) ∧
      (SV.val (Value.slice x.a x.B.length x.c) =
      SV.val
      (Value.slice x_1.a x_1.B.length
      x_1.c) ∧
      true = true) ∧
      (SV.own (0 : Nat) (0 : Nat) =
      SV.own (0 : Nat) (0 : Nat) ∧
      true = true) ∧
      (SV.val (Value.slice a l.length cp) =
      SV.val
      (Value.slice a l.length cp) ∧
      true = true) ∧
      (SV.val
      (Value.int IntKind.i64
      x.mi2) =
      SV.val
      (Value.int IntKind.i64
      x_1.mi2) ∧
      true = true) ∧
      (SV.val
      (Value.int IntKind.i64
      x.th) =
      SV.val
      (Value.int IntKind.i64
      x_1.th2) ∧
      true = true) ∧
      (SV.val
      (Value.int IntKind.i64
      x.ft) =
      SV.val
      (Value.int IntKind.i64
      x_1.ft) ∧
      true = true) ∧
      (SV.val
      (Value.int IntKind.i64
      x.dec) =
      SV.val
      (Value.int IntKind.i64
      x_1.dec) ∧
      true = true) ∧
      (SV.val (Value.bool x.yes) =
      SV.val
      (Value.bool
      x_1.yes) ∧
      true = true) ∧
      (SV.val
      (Value.int
      IntKind.i64
      (0 : Int)) =
      SV.val
      (Value.int
      IntKind.i64
      (0 : Int)) ∧
      true = true) ∧
      True) ∧
      (some
      { ty := (24 : TypeId), cs := [Value.int IntKind.i64 d.cl, Value.int IntKind.i64 d.sq, Value.string d.ky, Value.string d.ot, Value.int IntKind.i64 d.n, Value.int IntKind.i64 d.mi, Value.int IntKind.i64 d.th, Value.int IntKind.i64 d.ft] : Bx } =
      some
      { ty := (24 : TypeId), cs := [Value.int IntKind.i64 d.cl, Value.int IntKind.i64 d.sq, Value.string d.ky, Value.string d.ot, Value.int IntKind.i64 d.n, Value.int IntKind.i64 d.mi, Value.int IntKind.i64 d.th, Value.int IntKind.i64 d.ft] : Bx } ∧
      true = true) ∧
      True) ∧
      [ws.length - a_5.k] = [ws.length - x_1.k]))
      (∃ (x_1 : OnX),
      ((x_1.k < ws.length ∧
      x_1.dec = decV x_1.ft ∧
      x_1.yes =
      decide
      (x_1.ft = (0 : Int) ∧
      x_1.ft2 ≠ (0 : Int)) ∧
      OnB d l.length
      { π := m.π, sz := N, uf := m.uf : M } x_1
      x_1.mi2 x_1.th2 x_1.ft2) ∧
      x.m = x_1.m ∧
      ((SV.val (Value.int IntKind.i64 (↑x.k : Int)) =
      SV.val
      (Value.int IntKind.i64 (↑x_1.k : Int)) ∧
      true = true) ∧
      (SV.val (Value.slice aw ws.length cw) =
      SV.val (Value.slice aw ws.length cw) ∧
      true = true) ∧
      (SV.val (Value.slice x.a x.B.length x.c) =
      SV.val
      (Value.slice x_1.a x_1.B.length
      x_1.c) ∧
      true = true) ∧
      (SV.own (0 : Nat) (0 : Nat) =
      SV.own (0 : Nat) (0 : Nat) ∧
      true = true) ∧
      (SV.val (Value.slice a l.length cp) =
      SV.val
      (Value.slice a l.length cp) ∧
      true = true) ∧
      (SV.val
      (Value.int IntKind.i64
      x.mi2) =
      SV.val
      (Value.int IntKind.i64
      x_1.mi2) ∧
      true = true) ∧
      (SV.val
      (Value.int IntKind.i64
      x.th) =
      SV.val
      (Value.int IntKind.i64
      x_1.th2) ∧
      true = true) ∧
      (SV.val
      (Value.int IntKind.i64
      x.ft) =
      SV.val
      (Value.int IntKind.i64
      x_1.ft) ∧
      true = true) ∧
      (SV.val
      (Value.int IntKind.i64
      x.dec) =
      SV.val
      (Value.int IntKind.i64
      x_1.dec) ∧
      true = true) ∧
      (SV.val (Value.bool x.yes) =
      SV.val
      (Value.bool x_1.yes) ∧
      true = true) ∧
      (SV.val
      (Value.int
      IntKind.i64
      (0 : Int)) =
      SV.val
      (Value.int
      IntKind.i64
      (0 : Int)) ∧
      true = true) ∧
      True) ∧
      (some
      { ty := (24 : TypeId), cs := [Value.int IntKind.i64 d.cl, Value.int IntKind.i64 d.sq, Value.string d.ky, Value.string d.ot, Value.int IntKind.i64 d.n, Value.int IntKind.i64 d.mi, Value.int IntKind.i64 d.th, Value.int IntKind.i64 d.ft] : Bx } =
      some
      { ty := (24 : TypeId), cs := [Value.int IntKind.i64 d.cl, Value.int IntKind.i64 d.sq, Value.string d.ky, Value.string d.ot, Value.int IntKind.i64 d.n, Value.int IntKind.i64 d.mi, Value.int IntKind.i64 d.th, Value.int IntKind.i64 d.ft] : Bx } ∧
      true = true) ∧
      True) ∧
      [ws.length - a_5.k] = [ws.length - x_1.k]) ∧
      ∀ (x : OnX),
      (x.k < ws.length ∧
      x.dec = decV x.ft ∧
      x.yes =
      decide
      (x.ft = (0 : Int) ∧ x.ft2 ≠ (0 : Int)) ∧
      OnB d l.length
      { π := m.π, sz := N, uf := m.uf : M } x x.mi2
      x.th2 x.ft2) ∧
      [ws.length - a_5.k] = [ws.length - x.k] →
      ifB (x.ft != (0 : Int))
      (∃ (x_1 : OnX),
      ((x_1.k < ws.length ∧
      (x_1.dec +
      if x_1.yes = true then (1 : Int)
      else (0 : Int)) =
      decV x_1.ft ∧
      (0 : Int) ≤ x_1.dec ∧
      OnB d l.length
      { π := m.π, sz := N, uf := m.uf : M }
      x_1 x_1.mi x_1.th x_1.ft) ∧
      x.m = x_1.m ∧
      ((SV.val
      (Value.int IntKind.i64
      (↑x.k : Int)) =
      SV.val
      (Value.int IntKind.i64
      (↑x_1.k : Int)) ∧
      true = true) ∧
      (SV.val (Value.slice aw ws.length cw) =
      SV.val
      (Value.slice aw ws.length cw) ∧
      true = true) ∧
      (SV.val
      (Value.slice x.a x.B.length
      x.c) =
      SV.val
      (Value.slice x_1.a x_1.B.length
      x_1.c) ∧
      true = true) ∧
      (SV.own (0 : Nat) (0 : Nat) =
      SV.own (0 : Nat) (0 : Nat) ∧
      true = true) ∧
      (SV.val
      (Value.slice a l.length
      cp) =
      SV.val
      (Value.slice a l.length
      cp) ∧
      true = true) ∧
      (SV.val
      (Value.int IntKind.i64
      x.mi2) =
      SV.val
      (Value.int IntKind.i64
      x_1.mi) ∧
      true = true) ∧
      (SV.val
      (Value.int IntKind.i64
      x.th2) =
      SV.val
      (Value.int IntKind.i64
      x_1.th) ∧
      true = true) ∧
      (SV.val
      (Value.int IntKind.i64
      x.ft) =
      SV.val
      (Value.int IntKind.i64
      x_1.ft) ∧
      true = true) ∧
      (SV.val
      (Value.int
      IntKind.i64
      x.dec) =
      SV.val
      (Value.int
      IntKind.i64
      x_1.dec) ∧
      true = true) ∧
      (SV.val
      (Value.bool
      x.yes) =
      SV.val
      (Value.bool
      x_1.yes) ∧
      true = true) ∧
      (SV.val
      (Value.int
      IntKind.i64
      (0 : Int)) =
      SV.val
      (Value.int
      IntKind.i64
      (0 : Int)) ∧
      true = true) ∧
      True) ∧
      (some
      { ty := (24 : TypeId), cs := [Value.int IntKind.i64 d.cl, Value.int IntKind.i64 d.sq, Value.string d.ky, Value.string d.ot, Value.int IntKind.i64 d.n, Value.int IntKind.i64 d.mi, Value.int IntKind.i64 d.th, Value.int IntKind.i64 d.ft] : Bx } =
      some
      { ty := (24 : TypeId), cs := [Value.int IntKind.i64 d.cl, Value.int IntKind.i64 d.sq, Value.string d.ky, Value.string d.ot, Value.int IntKind.i64 d.n, Value.int IntKind.i64 d.mi, Value.int IntKind.i64 d.th, Value.int IntKind.i64 d.ft] : Bx } ∧
      true = true) ∧
      True) ∧
      [ws.length - a_5.k] = [ws.length - x_1.k])
      (ifB (x.mi2 == (2 : Int))
      (∃ (x_1 : OnX),
      ((x_1.k < ws.length ∧
      (x_1.dec +
      if x_1.yes = true then (1 : Int)
      else (0 : Int)) =
      decV x_1.ft ∧
      (0 : Int) ≤ x_1.dec ∧
      OnB d l.length
      { π := m.π, sz := N, uf := m.uf : M }
      x_1 x_1.mi x_1.th x_1.ft) ∧
      x.m = x_1.m ∧
      ((SV.val
      (Value.int IntKind.i64
      (↑x.k : Int)) =
      SV.val
      (Value.int IntKind.i64
      (↑x_1.k : Int)) ∧
      true = true) ∧
      (SV.val (Value.slice aw ws.length cw) =
      SV.val
      (Value.slice aw ws.length cw) ∧
      true = true) ∧
      (SV.val
      (Value.slice x.a x.B.length
      x.c) =
      SV.val
      (Value.slice x_1.a
      x_1.B.length x_1.c) ∧
      true = true) ∧
      (SV.own (0 : Nat) (0 : Nat) =
      SV.own (0 : Nat) (0 : Nat) ∧
      true = true) ∧
      (SV.val
      (Value.slice a l.length
      cp) =
      SV.val
      (Value.slice a l.length
      cp) ∧
      true = true) ∧
      (SV.val
      (Value.int IntKind.i64
      x.mi2) =
      SV.val
      (Value.int IntKind.i64
      x_1.mi) ∧
      true = true) ∧
      (SV.val
      (Value.int IntKind.i64
      x.th2) =
      SV.val
      (Value.int IntKind.i64
      x_1.th) ∧
      true = true) ∧
      (SV.val
      (Value.int
      IntKind.i64
      (2 : Int)) =
      SV.val
      (Value.int
      IntKind.i64
      x_1.ft) ∧
      true = true) ∧
      (SV.val
      (Value.int
      IntKind.i64
      x.dec) =
      SV.val
      (Value.int
      IntKind.i64
      x_1.dec) ∧
      true = true) ∧
      (SV.val
      (Value.bool
      x.yes) =
      SV.val
      (Value.bool
      x_1.yes) ∧
      true = true) ∧
      (SV.val
      (Value.int
      IntKind.i64
      (0 : Int)) =
      SV.val
      (Value.int
      IntKind.i64
      (0 : Int)) ∧
      true = true) ∧
      True) ∧
      (some
      { ty := (24 : TypeId), cs := [Value.int IntKind.i64 d.cl, Value.int IntKind.i64 d.sq, Value.string d.ky, Value.string d.ot, Value.int IntKind.i64 d.n, Value.int IntKind.i64 d.mi, Value.int IntKind.i64 d.th, Value.int IntKind.i64 d.ft] : Bx } =
      some
      { ty := (24 : TypeId), cs := [Value.int IntKind.i64 d.cl, Value.int IntKind.i64 d.sq, Value.string d.ky, Value.string d.ot, Value.int IntKind.i64 d.n, Value.int IntKind.i64 d.mi, Value.int IntKind.i64 d.th, Value.int IntKind.i64 d.ft] : Bx } ∧
      true = true) ∧
      True) ∧
      [ws.length - a_5.k] = [ws.length - x_1.k])
      (ifB (x.th2 == (2 : Int))
      (∃ (x_1 : OnX),
      ((x_1.k < ws.length ∧
      (x_1.dec +
      if x_1.yes = true then (1 : Int)
      else (0 : Int)) =
      decV x_1.ft ∧
      (0 : Int) ≤ x_1.dec ∧
      OnB d l.length
      { π := m.π, sz := N, uf := m.uf : M }
      x_1 x_1.mi x_1.th x_1.ft) ∧
      x.m = x_1.m ∧
      ((SV.val
      (Value.int IntKind.i64
      (↑x.k : Int)) =
      SV.val
      (Value.int IntKind.i64
      (↑x_1.k : Int)) ∧
      true = true) ∧
      (SV.val
      (Value.slice aw ws.length
      cw) =
      SV.val
      (Value.slice aw ws.length
      cw) ∧
      true = true) ∧
      (SV.val
      (Value.slice x.a x.B.length
      x.c) =
      SV.val
      (Value.slice x_1.a
      x_1.B.length x_1.c) ∧
      true = true) ∧
      (SV.own (0 : Nat) (0 : Nat) =
      SV.own (0 : Nat) (0 : Nat) ∧
      true = true) ∧
      (SV.val
      (Value.slice a l.length
      cp) =
      SV.val
      (Value.slice a l.length
      cp) ∧
      true = true) ∧
      (SV.val
      (Value.int IntKind.i64
      x.mi2) =
      SV.val
      (Value.int IntKind.i64
      x_1.mi) ∧
      true = true) ∧
      (SV.val
      (Value.int
      IntKind.i64
      x.th2) =
      SV.val
      (Value.int
      IntKind.i64
      x_1.th) ∧
      true = true) ∧
      (SV.val
      (Value.int
      IntKind.i64
      (2 : Int)) =
      SV.val
      (Value.int
      IntKind.i64
      x_1.ft) ∧
      true = true) ∧
      (SV.val
      (Value.int
      IntKind.i64
      x.dec) =
      SV.val
      (Value.int
      IntKind.i64
      x_1.dec) ∧
      true = true) ∧
      (SV.val
      (Value.bool
      x.yes) =
      SV.val
      (Value.bool
      x_1.yes) ∧
      true = true) ∧
      (SV.val
      (Value.int
      IntKind.i64
      (0 :
      Int)) =
      SV.val
      (Value.int
      IntKind.i64
      (0 :
      Int)) ∧
      true = true) ∧
      True) ∧
      (some
      { ty := (24 : TypeId), cs := [Value.int IntKind.i64 d.cl, Value.int IntKind.i64 d.sq, Value.string d.ky, Value.string d.ot, Value.int IntKind.i64 d.n, Value.int IntKind.i64 d.mi, Value.int IntKind.i64 d.th, Value.int IntKind.i64 d.ft] : Bx } =
      some
      { ty := (24 : TypeId), cs := [Value.int IntKind.i64 d.cl, Value.int IntKind.i64 d.sq, Value.string d.ky, Value.string d.ot, Value.int IntKind.i64 d.n, Value.int IntKind.i64 d.mi, Value.int IntKind.i64 d.th, Value.int IntKind.i64 d.ft] : Bx } ∧
      true = true) ∧
      True) ∧
      [ws.length - a_5.k] = [ws.length - x_1.k])
      (ifB (x.mi2 == (1 : Int))
      (ifB (x.th2 == (1 : Int))
      (∃ (x_1 : OnX),
      ((x_1.k < ws.length ∧
      (x_1.dec +
      if x_1.yes = true then (1 : Int)
      else (0 : Int)) =
      decV x_1.ft ∧
      (0 : Int) ≤ x_1.dec ∧
      OnB d l.length
      { π := m.π, sz := N, uf := m.uf : M }
      x_1 x_1.mi x_1.th x_1.ft) ∧
      x.m = x_1.m ∧
      ((SV.val
      (Value.int IntKind.i64
      (↑x.k : Int)) =
      SV.val
      (Value.int IntKind.i64
      (↑x_1.k : Int)) ∧
      true = true) ∧
      (SV.val
      (Value.slice aw ws.length
      cw) =
      SV.val
      (Value.slice aw ws.length
      cw) ∧
      true = true) ∧
      (SV.val
      (Value.slice x.a
      x.B.length x.c) =
      SV.val
      (Value.slice x_1.a
      x_1.B.length x_1.c) ∧
      true = true) ∧
      (SV.own (0 : Nat) (0 : Nat) =
      SV.own (0 : Nat)
      (0 : Nat) ∧
      true = true) ∧
      (SV.val
      (Value.slice a
      l.length cp) =
      SV.val
      (Value.slice a
      l.length cp) ∧
      true = true) ∧
      (SV.val
      (Value.int
      IntKind.i64
      x.mi2) =
      SV.val
      (Value.int
      IntKind.i64
      x_1.mi) ∧
      true = true) ∧
      (SV.val
      (Value.int
      IntKind.i64
      x.th2) =
      SV.val
      (Value.int
      IntKind.i64
      x_1.th) ∧
      true = true) ∧
      (SV.val
      (Value.int
      IntKind.i64
      (1 : Int)) =
      SV.val
      (Value.int
      IntKind.i64
      x_1.ft) ∧
      true = true) ∧
      (SV.val
      (Value.int
      IntKind.i64
      x.dec) =
      SV.val
      (Value.int
      IntKind.i64
      x_1.dec) ∧
      true = true) ∧
      (SV.val
      (Value.bool
      x.yes) =
      SV.val
      (Value.bool
      x_1.yes) ∧
      true = true) ∧
      (SV.val
      (Value.int
      IntKind.i64
      (0 :
      Int)) =
      SV.val
      (Value.int
      IntKind.i64
      (0 :
      Int)) ∧
      true =
      true) ∧
      True) ∧
      (some
      { ty := (24 : TypeId), cs := [Value.int IntKind.i64 d.cl, Value.int IntKind.i64 d.sq, Value.string d.ky, Value.string d.ot, Value.int IntKind.i64 d.n, Value.int IntKind.i64 d.mi, Value.int IntKind.i64 d.th, Value.int IntKind.i64 d.ft] : Bx } =
      some
      { ty := (24 : TypeId), cs := [Value.int IntKind.i64 d.cl, Value.int IntKind.i64 d.sq, Value.string d.ky, Value.string d.ot, Value.int IntKind.i64 d.n, Value.int IntKind.i64 d.mi, Value.int IntKind.i64 d.th, Value.int IntKind.i64 d.ft] : Bx } ∧
      true = true) ∧
      True) ∧
      [ws.length - a_5.k] = [ws.length - x_1.k])
      (∃ (x_1 : OnX),
      ((x_1.k < ws.length ∧
      (x_1.dec +
      if x_1.yes = true then (1 : Int)
      else (0 : Int)) =
      decV x_1.ft ∧
      (0 : Int) ≤ x_1.dec ∧
      OnB d l.length
      { π := m.π, sz := N, uf := m.uf : M }
      x_1 x_1.mi x_1.th x_1.ft) ∧
      x.m = x_1.m ∧
      ((SV.val
      (Value.int IntKind.i64
      (↑x.k : Int)) =
      SV.val
      (Value.int IntKind.i64
      (↑x_1.k : Int)) ∧
      true = true) ∧
      (SV.val
      (Value.slice aw ws.length
      cw) =
      SV.val
      (Value.slice aw ws.length
      cw) ∧
      true = true) ∧
      (SV.val
      (Value.slice x.a
      x.B.length x.c) =
      SV.val
      (Value.slice x_1.a
      x_1.B.length x_1.c) ∧
      true = true) ∧
      (SV.own (0 : Nat) (0 : Nat) =
      SV.own (0 : Nat)
      (0 : Nat) ∧
      true = true) ∧
      (SV.val
      (Value.slice a
      l.length cp) =
      SV.val
      (Value.slice a
      l.length cp) ∧
      true = true) ∧
      (SV.val
      (Value.int
      IntKind.i64
      x.mi2) =
      SV.val
      (Value.int
      IntKind.i64
      x_1.mi) ∧
      true = true) ∧
      (SV.val
      (Value.int
      IntKind.i64
      x.th2) =
      SV.val
      (Value.int
      IntKind.i64
      x_1.th) ∧
      true = true) ∧
      (SV.val
      (Value.int
      IntKind.i64
      x.ft) =
      SV.val
      (Value.int
      IntKind.i64
      x_1.ft) ∧
      true = true) ∧
      (SV.val
      (Value.int
      IntKind.i64
      x.dec) =
      SV.val
      (Value.int
      IntKind.i64
      x_1.dec) ∧
      true = true) ∧
      (SV.val
      (Value.bool
      x.yes) =
      SV.val
      (Value.bool
      x_1.yes) ∧
      true = true) ∧
      (SV.val
      (Value.int
      IntKind.i64
      (0 :
      Int)) =
      SV.val
      (Value.int
      IntKind.i64
      (0 :
      Int)) ∧
      true =
      true) ∧
      True) ∧
      (some
      { ty := (24 : TypeId), cs := [Value.int IntKind.i64 d.cl, Value.int IntKind.i64 d.sq, Value.string d.ky, Value.string d.ot, Value.int IntKind.i64 d.n, Value.int IntKind.i64 d.mi, Value.int IntKind.i64 d.th, Value.int IntKind.i64 d.ft] : Bx } =
      some
      { ty := (24 : TypeId), cs := [Value.int IntKind.i64 d.cl, Value.int IntKind.i64 d.sq, Value.string d.ky, Value.string d.ot, Value.int IntKind.i64 d.n, Value.int IntKind.i64 d.mi, Value.int IntKind.i64 d.th, Value.int IntKind.i64 d.ft] : Bx } ∧
      true = true) ∧
      True) ∧
      [ws.length - a_5.k] =
      [ws.length - x_1.k]))
      (∃ (x_1 : OnX),
      ((x_1.k < ws.length ∧
      (x_1.dec +
      if x_1.yes = true then (1 : Int)
      else (0 : Int)) =
      decV x_1.ft ∧
      (0 : Int) ≤ x_1.dec ∧
      OnB d l.length
      { π := m.π, sz := N, uf := m.uf : M }
      x_1 x_1.mi x_1.th x_1.ft) ∧
      x.m = x_1.m ∧
      ((SV.val
      (Value.int IntKind.i64
      (↑x.k : Int)) =
      SV.val
      (Value.int IntKind.i64
      (↑x_1.k : Int)) ∧
      true = true) ∧
      (SV.val
      (Value.slice aw ws.length
      cw) =
      SV.val
      (Value.slice aw ws.length
      cw) ∧
      true = true) ∧
      (SV.val
      (Value.slice x.a
      x.B.length x.c) =
      SV.val
      (Value.slice x_1.a
      x_1.B.length x_1.c) ∧
      true = true) ∧
      (SV.own (0 : Nat) (0 : Nat) =
      SV.own (0 : Nat)
      (0 : Nat) ∧
      true = true) ∧
      (SV.val
      (Value.slice a
      l.length cp) =
      SV.val
      (Value.slice a
      l.length cp) ∧
      true = true) ∧
      (SV.val
      (Value.int
      IntKind.i64
      x.mi2) =
      SV.val
      (Value.int
      IntKind.i64
      x_1.mi) ∧
      true = true) ∧
      (SV.val
      (Value.int
      IntKind.i64
      x.th2) =
      SV.val
      (Value.int
      IntKind.i64
      x_1.th) ∧
      true = true) ∧
      (SV.val
      (Value.int
      IntKind.i64
      x.ft) =
      SV.val
      (Value.int
      IntKind.i64
      x_1.ft) ∧
      true = true) ∧
      (SV.val
      (Value.int
      IntKind.i64
      x.dec) =
      SV.val
      (Value.int
      IntKind.i64
      x_1.dec) ∧
      true = true) ∧
      (SV.val
      (Value.bool
      x.yes) =
      SV.val
      (Value.bool
      x_1.yes) ∧
      true = true) ∧
      (SV.val
      (Value.int
      IntKind.i64
      (0 :
      Int)) =
      SV.val
      (Value.int
      IntKind.i64
      (0 :
      Int)) ∧
      true = true) ∧
      True) ∧
      (some
      { ty := (24 : TypeId), cs := [Value.int IntKind.i64 d.cl, Value.int IntKind.i64 d.sq, Value.string d.ky, Value.string d.ot, Value.int IntKind.i64 d.n, Value.int IntKind.i64 d.mi, Value.int IntKind.i64 d.th, Value.int IntKind.i64 d.ft] : Bx } =
      some
      { ty := (24 : TypeId), cs := [Value.int IntKind.i64 d.cl, Value.int IntKind.i64 d.sq, Value.string d.ky, Value.string d.ot, Value.int IntKind.i64 d.n, Value.int IntKind.i64 d.mi, Value.int IntKind.i64 d.th, Value.int IntKind.i64 d.ft] : Bx } ∧
      true = true) ∧
      True) ∧
      [ws.length - a_5.k] =
      [ws.length - x_1.k]))))) ∧
      ∀ (x : OnX),
      (x.k < ws.length ∧
      (x.dec + if x.yes = true then (1 : Int) else (0 : Int)) = decV x.ft ∧
      (0 : Int) ≤ x.dec ∧
      OnB d l.length { π := m.π, sz := N, uf := m.uf : M } x x.mi x.th x.ft) ∧
      [ws.length - a_5.k] = [ws.length - x.k] →
      ifB x.yes
      (∃ (n : Int),
      ∃ (n_3 : Int),
      ∃ (s : ByteArray),
      ∃ (s_1 : ByteArray),
      ∃ (n_4 : Int),
      ∃ (n_5 : Int),
      ∃ (n_6 : Int),
      ∃ (n_7 : Int),
      ∃ (b : Bool),
      QSpec Try.prog (11 : Nat)
      [Value.slice x.a x.B.length x.c, Value.int IntKind.i64 d.cl,
      Value.int IntKind.i64 d.sq]
      x.m
      (Value.tuple
      #[Value.agg
      #[Value.int IntKind.i64 n, Value.int IntKind.i64 n_3,
      Value.string s, Value.string s_1, Value.int IntKind.i64 n_4,
      Value.int IntKind.i64 n_5, Value.int IntKind.i64 n_6,
      Value.int IntKind.i64 n_7],
      Value.bool b]) ∧
      ifB (!b) (Done (Value.bool false = Value.bool true))
      (ifB (n_7 != x.ft) (Done (Value.bool false = Value.bool true))
      (ifB (n_5 != x.mi) (Done (Value.bool false = Value.bool true))
      (ifB (n_6 != x.th) (Done (Value.bool false = Value.bool true))
      (ifB (decide (IntKind.i64.wrap (x.dec + (1 : Int)) > (1 : Int)))
      (Done (Value.bool false = Value.bool true))
      (ifB
      (!(IntKind.i64.wrap (x.dec + (1 : Int)) == (1 : Int)) ==
      (x.ft != (0 : Int)))
      (Done (Value.bool false = Value.bool true))
      (∃ (a' : OnX),
      ((a'.k ≤ ws.length ∧
      OnB d l.length { π := m.π, sz := N, uf := m.uf : M }
      a' a'.mi a'.th a'.ft) ∧
      x.m = a'.m ∧
      ((SV.val
      (Value.int IntKind.i64
      (IntKind.i64.wrap
      ((↑x.k : Int) + (1 : Int)))) =
      SV.val
      (Value.int IntKind.i64 (↑a'.k : Int)) ∧
      true = true) ∧
      (SV.val (Value.slice aw ws.length cw) =
      SV.val (Value.slice aw ws.length cw) ∧
      true = true) ∧
      (SV.val (Value.slice x.a x.B.length x.c) =
      SV.val
      (Value.slice a'.a a'.B.length a'.c) ∧
      true = true) ∧
      (SV.own (0 : Nat) (0 : Nat) =
      SV.own (0 : Nat) (0 : Nat) ∧
      true = true) ∧
      (SV.val (Value.slice a l.length cp) =
      SV.val (Value.slice a l.length cp) ∧
      true = true) ∧
      (SV.val (Value.int IntKind.i64 x.mi) =
      SV.val
      (Value.int IntKind.i64 a'.mi) ∧
      true = true) ∧
      (SV.val (Value.int IntKind.i64 x.th) =
      SV.val
      (Value.int IntKind.i64
      a'.th) ∧
      true = true) ∧
      (SV.val
      (Value.int IntKind.i64
      x.ft) =
      SV.val
      (Value.int IntKind.i64
      a'.ft) ∧
      true = true) ∧
      (SV.val
      (Value.int IntKind.i64
      (IntKind.i64.wrap
      (x.dec +
      (1 : Int)))) =
      SV.val
      (Value.int IntKind.i64
      (decV a'.ft)) ∧
      true = true) ∧
      True) ∧
      (some
      { ty := (24 : TypeId), cs := [Value.int IntKind.i64 d.cl, Value.int IntKind.i64 d.sq, Value.string d.ky, Value.string d.ot, Value.int IntKind.i64 d.n, Value.int IntKind.i64 d.mi, Value.int IntKind.i64 d.th, Value.int IntKind.i64 d.ft] : Bx } =
      some
      { ty := (24 : TypeId), cs := [Value.int IntKind.i64 d.cl, Value.int IntKind.i64 d.sq, Value.string d.ky, Value.string d.ot, Value.int IntKind.i64 d.n, Value.int IntKind.i64 d.mi, Value.int IntKind.i64 d.th, Value.int IntKind.i64 d.ft] : Bx } ∧
      true = true) ∧
      True) ∧
      ws.length - a'.k < ws.length - a_5.k)))))))
      (∃ (n : Int),
      ∃ (n_3 : Int),
      ∃ (s : ByteArray),
      ∃ (s_1 : ByteArray),
      ∃ (n_4 : Int),
      ∃ (n_5 : Int),
      ∃ (n_6 : Int),
      ∃ (n_7 : Int),
      ∃ (b : Bool),
      QSpec Try.prog (11 : Nat)
      [Value.slice x.a x.B.length x.c, Value.int IntKind.i64 d.cl,
      Value.int IntKind.i64 d.sq]
      x.m
      (Value.tuple
      #[Value.agg
      #[Value.int IntKind.i64 n, Value.int IntKind.i64 n_3,
      Value.string s, Value.string s_1, Value.int IntKind.i64 n_4,
      Value.int IntKind.i64 n_5, Value.int IntKind.i64 n_6,
      Value.int IntKind.i64 n_7],
      Value.bool b]) ∧
      ifB (!b) (Done (Value.bool false = Value.bool true))
      (ifB (n_7 != x.ft) (Done (Value.bool false = Value.bool true))
      (ifB (n_5 != x.mi) (Done (Value.bool false = Value.bool true))
      (ifB (n_6 != x.th) (Done (Value.bool false = Value.bool true))
      (ifB (decide (x.dec > (1 : Int)))
      (Done (Value.bool false = Value.bool true))
      (ifB (!(x.dec == (1 : Int)) == (x.ft != (0 : Int)))
      (Done (Value.bool false = Value.bool true))
      (∃ (a' : OnX),
      ((a'.k ≤ ws.length ∧
      OnB d l.length { π := m.π, sz := N, uf := m.uf : M }
      a' a'.mi a'.th a'.ft) ∧
      x.m = a'.m ∧
      ((SV.val
      (Value.int IntKind.i64
      (IntKind.i64.wrap
      ((↑x.k : Int) + (1 : Int)))) =
      SV.val
      (Value.int IntKind.i64 (↑a'.k : Int)) ∧
      true = true) ∧
      (SV.val (Value.slice aw ws.length cw) =
      SV.val (Value.slice aw ws.length cw) ∧
      true = true) ∧
      (SV.val (Value.slice x.a x.B.length x.c) =
      SV.val
      (Value.slice a'.a a'.B.length a'.c) ∧
      true = true) ∧
      (SV.own (0 : Nat) (0 : Nat) =
      SV.own (0 : Nat) (0 : Nat) ∧
      true = true) ∧
      (SV.val (Value.slice a l.length cp) =
      SV.val (Value.slice a l.length cp) ∧
      true = true) ∧
      (SV.val (Value.int IntKind.i64 x.mi) =
      SV.val
      (Value.int IntKind.i64 a'.mi) ∧
      true = true) ∧
      (SV.val (Value.int IntKind.i64 x.th) =
      SV.val
      (Value.int IntKind.i64
      a'.th) ∧
      true = true) ∧
      (SV.val
      (Value.int IntKind.i64
      x.ft) =
      SV.val
      (Value.int IntKind.i64
      a'.ft) ∧
      true = true) ∧
      (SV.val
      (Value.int IntKind.i64
      x.dec) =
      SV.val
      (Value.int IntKind.i64
      (decV a'.ft)) ∧
      true = true) ∧
      True) ∧
      (some
      { ty := (24 : TypeId), cs := [Value.int IntKind.i64 d.cl, Value.int IntKind.i64 d.sq, Value.string d.ky, Value.string d.ot, Value.int IntKind.i64 d.n, Value.int IntKind.i64 d.mi, Value.int IntKind.i64 d.th, Value.int IntKind.i64 d.ft] : Bx } =
      some
      { ty := (24 : TypeId), cs := [Value.int IntKind.i64 d.cl, Value.int IntKind.i64 d.sq, Value.string d.ky, Value.string d.ot, Value.int IntKind.i64 d.n, Value.int IntKind.i64 d.mi, Value.int IntKind.i64 d.th, Value.int IntKind.i64 d.ft] : Bx } ∧
      true = true) ∧
      True) ∧
      ws.length - a'.k < ws.length - a_5.k))))))))
      (∃ (S' : Nat → Prop),
      (∀ (b : Nat), S' b → a_5.m.uf b ∧ (N ≤ b ∨ False)) ∧
      ∀ (n : Nat),
      a_5.m.sz ≤ n →
      SpecW Try.prog (22 : Nat)
      [Value.slice a_5.a a_5.B.length a_5.c, Value.int IntKind.i64 d.cl, Value.int IntKind.i64 d.sq]
      { π := a_5.m.π, sz := n, uf := a_5.m.uf : M } S' fun (v : Value) (m' : M) =>
      ∃ (a : Option Addr),
      ∃ (n : Nat),
      ∃ (c : Nat),
      ∃ (n_3 : Int),
      v = Value.tuple #[Value.slice a n c, Value.int IntKind.i64 n_3] ∧
      ifB ((n_3 == (0 : Int)) == (a_5.ft != (0 : Int)))
      (Done
      (Value.bool ((↑a_5.B.length : Int) == IntKind.i64.wrap ((↑l.length : Int) + (1 : Int))) =
      Value.bool true))
      (Done (Value.bool false = Value.bool true))))) ∧
      True) ∧
      True)) (by kernel_rfl) ?_
  have hh : l.length ≤ 9223372036854775807 := by omega
  refine ⟨rfl, _, awake_q _, ifB_false ⟨rfl, ⟨_, noS, fun N1 hN1 => (own_r a cp l hn _ (h.sz (by omega))).monoW fun v1 m1 ag1 ⟨b1, c1, e1, r1⟩ => ⟨_, _, _, e1, MLe.ofAgree hN1 ag1, ⟨_, noS, fun N2 hN2 => (dopen_s _ _ l d hh (fun e => by simp at e) _ (r1.sz hN2)).monoW fun v2 m2 ag2 ⟨a2, c2, e2, r2⟩ => ⟨_, _, _, _, e2, ifB_intro (fun h1 => ⟨?_⟩) (fun h1 => ?_)⟩⟩, trivial⟩⟩, trivial⟩⟩
  · have h1 : (openD l d).2 ≠ 0 := by simpa using h1
    rw [open_off h1]; rfl
  have h1 : (openD l d).2 = 0 := by simpa using h1
  obtain ⟨o1, o2, o3⟩ := open_on h1
  have A1 : Agree N { m with sz := N } m2 := by
    have g1 : Agree N { m with sz := N } m1 := (Agree.szl (B := N) (m := { m with sz := N }) hN1).trans (ag1.mono hN1)
    have := ag1.2.2
    exact g1.trans ((Agree.szl (B := N) (m := m1) hN2).trans (ag2.mono (by simp only at *; omega)))
  have r3 := r2.row
  rw [o1] at r3 ⊢
  refine ⟨⟨⟨0, 0, 0, 0, 0, false, ⟨false, false, false⟩, l ++ [d], a2, c2, m2⟩, ⟨Nat.zero_le _, o2, by simp, o3, r3, A1⟩, rfl, by simp [decV], ⟨rfl, rfl⟩, trivial⟩, fun y ⟨hk, Y⟩ => ifB_intro (fun hb => ?_) (fun hb => ?_)⟩
  · have hk2 : y.k < ws.length := by simpa using hb
    obtain ⟨b, o, rfl, hc⟩ := ((hws.sz hN).agree Y.ag).cells (by rw [wd_len]; omega)
    have hBl : y.B.length ≤ 9223372036854775807 := by rw [Y.len]; omega
    refine ⟨b, o, rfl, by omega, ws[y.k].gv, ws[y.k].mi, ws[y.k].is, by simpa using wd_at hc hk2, ifB_intro (fun g => ?_) (fun g => ?_), fun z ⟨⟨Z1, Z2, Z3, Z⟩, Z0⟩ => ?_⟩
    · obtain ⟨G1, G2, G3, G4⟩ := give_law Y.right Y.fnd
      rw [given_dW] at G3
      obtain ⟨D1, D2⟩ := dec_give y.ft
      refine ⟨_, noS, fun N3 hN3 => (give_s y.a y.c y.B d.cl d.sq hBl (row_none Y.row) _ (Y.row.sz hN3)).monoW fun v3 m3 ag3 ⟨a3, c3, e3, r3⟩ => ⟨_, _, _, _, _, e3, ?_⟩⟩
      rw [G4]
      refine ifB_intro (fun q => ?_) (fun q => ?_)
      · have q : y.ft = 0 := by simpa using q
        exact ⟨⟨y.k, y.mi, y.th, 2, decV y.ft, decide (y.ft = 0), y.wd, _, a3, c3, m3⟩, ⟨⟨hk2, by rw [D1, if_pos q], D2, ⟨G1, G2.trans Y.len, by rw [G3, if_pos q], r3.row, Y.to hN3 ag3⟩⟩, rfl, (by simp [dW]; rfl), ⟨rfl, rfl⟩, trivial⟩, rfl⟩
      · have q : ¬ y.ft = 0 := by simpa using q
        exact ⟨⟨y.k, y.mi, y.th, y.ft, decV y.ft, decide (y.ft = 0), y.wd, _, a3, c3, m3⟩, ⟨⟨hk2, by rw [D1, if_neg q], D2, ⟨G1, G2.trans Y.len, by rw [G3, if_neg q], r3.row, Y.to hN3 ag3⟩⟩, rfl, (by simp [dW]; rfl), ⟨rfl, rfl⟩, trivial⟩, rfl⟩
    · obtain ⟨S1, S2, S3, S4⟩ := say_law Y.right Y.fnd ws[y.k].mi ws[y.k].is
      have hm := (call_law Y.right Y.fnd).2.1
      refine ⟨_, noS, fun N3 hN3 => (saying_s y.a y.c y.B d.cl d.sq ws[y.k].mi ws[y.k].is hBl (row_none Y.row) _ (Y.row.sz hN3)).monoW fun v3 m3 ag3 ⟨a3, c3, e3, r3⟩ => ⟨_, _, _, _, _, e3, ?_, fun x ⟨⟨X1, X2, X3, X⟩, X0⟩ => ⟨?_, fun x ⟨⟨X1, X2, X3, X⟩, X0⟩ => ⟨?_, fun x ⟨⟨X1, X2, X3, X⟩, X0⟩ => ?_⟩⟩⟩⟩
      · let w : OnX := ⟨y.k, y.mi, y.th, y.ft, decV y.ft, false, ws[y.k], y.B, y.a, y.c, y.m⟩
        have hs := said_dW d w hm
        have S3 : (sayD y.B d.cl d.sq ws[y.k].mi ws[y.k].is).1.find? (isD d.cl d.sq) = some (dW d w.mi2 w.th2 w.ft2) := by rw [S3]; exact congrArg some hs
        have S4 : (sayD y.B d.cl d.sq ws[y.k].mi ws[y.k].is).2 = (decide (y.ft = 0 ∧ w.ft2 ≠ 0), 0) := by
          rw [S4]; rw [show saidD (dW d y.mi y.th y.ft) ws[y.k].mi ws[y.k].is = _ from hs]; rfl
        rw [S4]
        refine ifB_intro (fun q => ?_) (fun q => ?_)
        · exact ⟨⟨y.k, y.mi, y.th, y.ft, decV y.ft, decide (y.ft = 0 ∧ w.ft2 ≠ 0), ws[y.k], _, a3, c3, m3⟩, ⟨⟨hk2, rfl, rfl, ⟨S1, S2.trans Y.len, S3, r3.row, Y.to hN3 ag3⟩⟩, rfl, by simp [wordD, q], ⟨rfl, rfl⟩, ⟨rfl, rfl⟩, trivial⟩, rfl⟩
        · exact ⟨⟨y.k, y.mi, y.th, y.ft, decV y.ft, decide (y.ft = 0 ∧ w.ft2 ≠ 0), ws[y.k], _, a3, c3, m3⟩, ⟨⟨hk2, rfl, rfl, ⟨S1, S2.trans Y.len, S3, r3.row, Y.to hN3 ag3⟩⟩, rfl, by simp [wordD, q], ⟨rfl, rfl⟩, ⟨rfl, rfl⟩, trivial⟩, rfl⟩
      · refine ifB_intro (fun q1 => ifB_intro (fun q2 => ifB_intro (fun q3 => ?_) (fun q3 => ?_)) (fun q2 => ?_)) (fun q1 => ?_)
        · have e : wordD x.wd.is = x.mi2 := by simp at q1 q3; simp [OnX.mi2, q1, q2, q3]
          exact ⟨x, ⟨⟨X1, X2, X3, X⟩, rfl, (by simp; exact e), ⟨rfl, rfl⟩, ⟨rfl, rfl⟩, trivial⟩, X0⟩
        · have e : x.mi = x.mi2 := by simp at q3; simp [OnX.mi2, q3]
          exact ⟨x, ⟨⟨X1, X2, X3, X⟩, rfl, (by simp; exact e), ⟨rfl, rfl⟩, ⟨rfl, rfl⟩, trivial⟩, X0⟩
        · have e : x.mi = x.mi2 := by simp [OnX.mi2, q2]
          exact ⟨x, ⟨⟨X1, X2, X3, X⟩, rfl, (by simp; exact e), ⟨rfl, rfl⟩, ⟨rfl, rfl⟩, trivial⟩, X0⟩
        · have e : x.mi = x.mi2 := by simp at q1; simp [OnX.mi2, q1]
          exact ⟨x, ⟨⟨X1, X2, X3, X⟩, rfl, (by simp; exact e), ⟨rfl, rfl⟩, ⟨rfl, rfl⟩, trivial⟩, X0⟩
      · refine ifB_intro (fun q1 => ifB_intro (fun q2 => ifB_intro (fun q3 => ?_) (fun q3 => ?_)) (fun q2 => ?_)) (fun q1 => ?_)
        · have e : wordD x.wd.is = x.th2 := by simp at q1 q2 q3; simp [OnX.th2, q1, q2, q3]
          exact ⟨x, ⟨⟨X1, X2, X3, X⟩, rfl, (by simp; exact e), ⟨rfl, rfl⟩, trivial⟩, X0⟩
        · have e : x.th = x.th2 := by simp at q3; simp [OnX.th2, q3]
          exact ⟨x, ⟨⟨X1, X2, X3, X⟩, rfl, (by simp; exact e), ⟨rfl, rfl⟩, trivial⟩, X0⟩
        · have e : x.th = x.th2 := by simp at q2; simp [OnX.th2, q2]
          exact ⟨x, ⟨⟨X1, X2, X3, X⟩, rfl, (by simp; exact e), ⟨rfl, rfl⟩, trivial⟩, X0⟩
        · have e : x.th = x.th2 := by simp at q1; simp [OnX.th2, q1]
          exact ⟨x, ⟨⟨X1, X2, X3, X⟩, rfl, (by simp; exact e), ⟨rfl, rfl⟩, trivial⟩, X0⟩
      · obtain ⟨D1, D2⟩ := dec_say x X2 X3
        have fits : ∀ f : Int, f = x.ft2 → ∃ x1 : OnX, x1 = ⟨x.k, x.mi2, x.th2, f, x.dec, x.yes, x.wd, x.B, x.a, x.c, x.m⟩ ∧ x1.k < ws.length ∧ x1.dec + (if x1.yes = true then 1 else 0) = decV x1.ft ∧ 0 ≤ x1.dec ∧ OnB d l.length { m with sz := N } x1 x1.mi x1.th x1.ft := fun f e => by
          subst e
          exact ⟨_, rfl, X1, D1, D2, X.right, X.len, X.fnd, X.row, X.ag⟩
        have e0 : x.ft = 0 → x.ft2 = fateV x.mi2 x.th2 := fun e => by simp [OnX.ft2, e]
        refine ifB_intro (fun q1 => ?_) (fun q1 => ifB_intro (fun q2 => ?_) (fun q2 => ifB_intro (fun q3 => ?_) (fun q3 => ifB_intro (fun q4 => ifB_intro (fun q5 => ?_) (fun q5 => ?_)) (fun q4 => ?_))))
        · obtain ⟨x1, rfl, g1, g2, g3, g4⟩ := fits x.ft (by simp at q1; simp [OnX.ft2, q1])
          exact ⟨_, ⟨⟨g1, g2, g3, g4⟩, rfl, (by simp), ⟨rfl, rfl⟩, trivial⟩, X0⟩
        all_goals
          have q1 : x.ft = 0 := by simpa using q1
        · obtain ⟨x1, rfl, g1, g2, g3, g4⟩ := fits 2 (by simp at q2; rw [e0 q1]; simp [fateV, q2])
          exact ⟨_, ⟨⟨g1, g2, g3, g4⟩, rfl, (by simp), ⟨rfl, rfl⟩, trivial⟩, X0⟩
        · obtain ⟨x1, rfl, g1, g2, g3, g4⟩ := fits 2 (by simp at q3; rw [e0 q1]; simp [fateV, q3])
          exact ⟨_, ⟨⟨g1, g2, g3, g4⟩, rfl, (by simp), ⟨rfl, rfl⟩, trivial⟩, X0⟩
        · obtain ⟨x1, rfl, g1, g2, g3, g4⟩ := fits 1 (by simp at q4 q5; rw [e0 q1]; simp [fateV, q4, q5])
          exact ⟨_, ⟨⟨g1, g2, g3, g4⟩, rfl, (by simp), ⟨rfl, rfl⟩, trivial⟩, X0⟩
        · obtain ⟨x1, rfl, g1, g2, g3, g4⟩ := fits x.ft (by simp at q2 q3 q5; rw [e0 q1, q1]; simp [fateV, q2, q3, q5])
          exact ⟨_, ⟨⟨g1, g2, g3, g4⟩, rfl, (by simp), ⟨rfl, rfl⟩, trivial⟩, X0⟩
        · obtain ⟨x1, rfl, g1, g2, g3, g4⟩ := fits x.ft (by simp at q2 q3 q4; rw [e0 q1, q1]; simp [fateV, q2, q3, q4])
          exact ⟨_, ⟨⟨g1, g2, g3, g4⟩, rfl, (by simp), ⟨rfl, rfl⟩, trivial⟩, X0⟩
    · have hzk : z.k = y.k := by simp at Z0; omega
      have hzl : z.B.length ≤ 9223372036854775807 := by rw [Z.len]; omega
      have hfd := find_on Z.right Z.fnd
      have w1 : IntKind.i64.wrap ((z.k : Int) + 1) = ((z.k + 1 : Nat) : Int) := by simp [IntKind.wrap_i64]; omega
      have hq := find_q z.a z.c z.B d.cl d.sq hzl z.m Z.row
      rw [hfd] at hq
      refine ifB_intro (fun q => ⟨_, _, _, _, _, _, _, _, _, hq, ?_⟩) (fun q => ⟨_, _, _, _, _, _, _, _, _, hq, ?_⟩)
      · have hd : z.dec = 0 ∧ z.ft ≠ 0 := by
          rw [q] at Z2
          by_cases h0 : z.ft = 0
          · simp [decV, h0] at Z2; omega
          · simp [decV, h0] at Z2; exact ⟨by omega, h0⟩
        have w2 : IntKind.i64.wrap (z.dec + 1) = 1 := by rw [hd.1]; rfl
        rw [w2, w1]
        have h0 : (z.ft != 0) = true := by simpa using hd.2
        rw [h0]
        simp only [dW, bne_self_eq_false, Bool.not_true]
        refine ifB_false (ifB_false (ifB_false (ifB_false (ifB_false (ifB_false ⟨⟨z.k + 1, z.mi, z.th, z.ft, 0, false, z.wd, z.B, z.a, z.c, z.m⟩, ⟨⟨Z1, Z.right, Z.len, Z.fnd, Z.row, Z.ag⟩, rfl, ?_, (by simp)⟩, by simp only; omega⟩)))))
        simp [decV, hd.2]
      · have hd : z.dec = decV z.ft := by rw [q] at Z2; simpa using Z2
        rw [hd, w1]
        have h0 : (decide (decV z.ft > 1)) = false := by unfold decV; split <;> simp
        have h1 : (decV z.ft == 1) = (z.ft != 0) := by by_cases h : z.ft = 0 <;> simp [decV, h]
        rw [h0, h1]
        simp only [dW, bne_self_eq_false, Bool.not_true, beq_self_eq_true]
        refine ifB_false (ifB_false (ifB_false (ifB_false (ifB_false (ifB_false ⟨⟨z.k + 1, z.mi, z.th, z.ft, 0, false, z.wd, z.B, z.a, z.c, z.m⟩, ⟨⟨Z1, Z.right, Z.len, Z.fnd, Z.row, Z.ag⟩, rfl, ?_, (by simp)⟩, by simp only; omega⟩)))))
        simp
  · have hBl : y.B.length ≤ 9223372036854775807 := by rw [Y.len]; omega
    obtain ⟨h1, -, -, k, hk3, h4, h5, h6⟩ := call_law Y.right Y.fnd
    have hf : (forgetD y.B d.cl d.sq).2 = if y.ft = 0 then 60 else 0 := by
      simp only [forgetD, h1, h6]
      by_cases h : y.ft = 0 <;> simp [dW, h]
    refine ⟨_, noS, fun N3 hN3 => (forget_s y.a y.c y.B d.cl d.sq hBl (row_none Y.row) _ (Y.row.sz hN3)).monoW fun v3 m3 ag3 ⟨a3, c3, e3, r3⟩ => ⟨_, _, _, _, e3, ?_⟩⟩
    rw [hf, Y.len]
    have w1 : IntKind.i64.wrap ((l.length : Int) + 1) = ((l.length + 1 : Nat) : Int) := by simp [IntKind.wrap_i64]; omega
    rw [w1]
    by_cases h : y.ft = 0
    · rw [if_pos h, h]; exact ifB_true ⟨by simp⟩
    · rw [if_neg h, show (y.ft != 0) = true by simpa using h]; exact ifB_true ⟨by simp⟩

end Go.Proofs.Ytoilbbfidnhekaa
