/-
  Contracts of functions of this seat: what each hands back, and what it leaves of memory (deal10, opw, deal8, deal9, ins_en, deal11, deal12, deal13, deal14, deal15, deal16). Nothing here is trusted: Lean checks it.
-/
import Derived.Test.YtoilbbfidnhekaaPart1
import Derived.Test.YtoilbbfidnhekaaVcList
import Derived.Test.YtoilbbfidnhekaaVcOver
set_option linter.unusedVariables false
set_option linter.unusedSimpArgs false
namespace Go.Proofs.Ytoilbbfidnhekaa
open Go.Vc Go.RowKit Go.ChangeShapes Go.WideShapes Go.ChangeAt
set_option maxRecDepth 100000

theorem row_none {B : List Dl} {a : Option Addr} {m : M} (h : Row m a (dls B)) (e : a = none) : B = [] := by
  cases B with
  | nil => rfl
  | cons x xs =>
    obtain ⟨b, o, e2, -⟩ := h.cells (by rw [dl_len]; simp)
    rw [e] at e2; simp at e2

theorem OnB.to {d : Dl} {n : Nat} {m m' : M} {y : OnX} {mi th ft : Int} (Y : OnB d n m y mi th ft) {N : Nat} (hN : y.m.sz ≤ N) (hag : Agree N { y.m with sz := N } m') : Agree m.sz m m' :=
  Y.ag.trans ((Agree.szl (B := m.sz) (m := y.m) hN).trans (hag.mono (Nat.le_trans Y.ag.2.2 hN)))

theorem dec_give (ft : Int) : decV ft + (if decide (ft = 0) = true then 1 else 0) = decV (if ft = 0 then 2 else ft) ∧ 0 ≤ decV ft := by
  by_cases h : ft = 0 <;> simp [decV, h]

theorem dec_say (x : OnX) (h2 : x.dec = decV x.ft) (h3 : x.yes = decide (x.ft = 0 ∧ x.ft2 ≠ 0)) : x.dec + (if x.yes = true then 1 else 0) = decV x.ft2 ∧ 0 ≤ x.dec := by
  rw [h2, h3]
  by_cases h : x.ft = 0
  · by_cases h' : x.ft2 = 0 <;> simp [decV, h, h']
  · have : x.ft2 = x.ft := by simp [OnX.ft2, h]
    simp [decV, h, this]

theorem dealonce (a : Option Addr) (cp : Nat) (l : List Dl) (d : Dl) (aw : Option Addr) (cw : Nat) (ws : List Wd) (hn : l.length ≤ 1759218604410) (hw : ws.length ≤ 140737488351232) (m : M) (h : Row m a (dls l)) (hws : Row m aw (wds ws)) :
    QSpec Try.prog 4 [.slice a l.length cp, dlv d, .slice aw ws.length cw] m (.bool true) := by
  refine QSpec.of_vc Try.func4 (ann := fun n => onceAnn d l a cp aw cw ws { m with sz := n }) fun N hN => ?_
  refine vc_by (X :=
      true = true ∧
      ∃ (b : Bool),
      QSpec Try.prog (15 : Nat) [] { π := m.π, sz := N, uf := m.uf : M } (Value.bool b) ∧
      ifB (!b) (Done (Value.bool false = Value.bool true))
      (true = true ∧
      (∃ (S' : Nat → Prop),
      (∀ (b : Nat), S' b → m.uf b ∧ (N ≤ b ∨ False)) ∧
      ∀ (n : Nat),
      N ≤ n →
      SpecW Try.prog (9 : Nat) [Value.slice a l.length cp] { π := m.π, sz := n, uf := m.uf : M } S' fun (v : Value) (m' : M) =>
      ∃ (a_2 : Option Addr),
      ∃ (n : Nat),
      ∃ (c : Nat),
      v = Value.slice a_2 n c ∧
      MLe { π := m.π, sz := N, uf := m.uf : M } m' ∧
      (∃ (S' : Nat → Prop),
      (∀ (b : Nat), S' b → m'.uf b ∧ (N ≤ b ∨ False)) ∧
      ∀ (n_1 : Nat),
      m'.sz ≤ n_1 →
      SpecW Try.prog (13 : Nat)
      [Value.slice a_2 n c,
      Value.agg
      #[Value.int IntKind.i64 d.cl, Value.int IntKind.i64 d.sq, Value.string d.ky, Value.string d.ot, Value.int IntKind.i64 d.n,
      Value.int IntKind.i64 d.mi, Value.int IntKind.i64 d.th, Value.int IntKind.i64 d.ft]]
      { π := m'.π, sz := n_1, uf := m'.uf : M } S' fun (v : Value) (m' : M) =>
      ∃ (a_4 : Option Addr),
      ∃ (n : Nat),
      ∃ (c : Nat),
      ∃ (n_2 : Int),
      v = Value.tuple #[Value.slice a_4 n c, Value.int IntKind.i64 n_2] ∧
      ifB (n_2 != (0 : Int)) (Done (Value.bool ((↑n : Int) == (0 : Int)) = Value.bool true))
      ((∃ (a_5 : OnX),
      (a_5.k ≤ ws.length ∧ OnB d l.length { π := m.π, sz := N, uf := m.uf : M } a_5 a_5.mi a_5.th a_5.ft) ∧
      m' = a_5.m ∧
      ((SV.val (Value.int IntKind.i64 (0 : Int)) = SV.val (Value.int IntKind.i64 (↑a_5.k : Int)) ∧ true = true) ∧
      (SV.val (Value.slice aw ws.length cw) = SV.val (Value.slice aw ws.length cw) ∧ true = true) ∧
      (SV.val (Value.slice a_4 n c) = SV.val (Value.slice a_5.a a_5.B.length a_5.c) ∧ true = true) ∧
      (SV.own ((0 : Nat) + (0 : Nat)) (0 : Nat) = SV.own (0 : Nat) (0 : Nat) ∧ true = true) ∧
      (SV.val (Value.slice a l.length cp) = SV.val (Value.slice a l.length cp) ∧ true = true) ∧
      (SV.val (Value.int IntKind.i64 (0 : Int)) = SV.val (Value.int IntKind.i64 a_5.mi) ∧ true = true) ∧
      (SV.val (Value.int IntKind.i64 (0 : Int)) = SV.val (Value.int IntKind.i64 a_5.th) ∧ true = true) ∧
      (SV.val (Value.int IntKind.i64 (0 : Int)) = SV.val (Value.int IntKind.i64 a_5.ft) ∧ true = true) ∧
      (SV.val (Value.int IntKind.i64 (0 : Int)) = SV.val (Value.int IntKind.i64 (decV a_5.ft)) ∧
      true = true) ∧
      True) ∧
      (some
      { ty := (24 : Nat), cs := [Value.int IntKind.i64 d.cl, Value.int IntKind.i64 d.sq, Value.string d.ky, Value.string d.ot, Value.int IntKind.i64 d.n, Value.int IntKind.i64 d.mi, Value.int IntKind.i64 d.th, Value.int IntKind.i64 d.ft] : Bx } =
      some
      { ty := (24 : TypeId), cs := [Value.int IntKind.i64 d.cl, Value.int IntKind.i64 d.sq, Value.string d.ky, Value.string d.ot, Value.int IntKind.i64 d.n, Value.int IntKind.i64 d.mi, Value.int IntKind.i64 d.th, Value.int IntKind.i64 d.ft] : Bx } ∧
      true = true) ∧
      True) ∧
      ∀ (a_5 : OnX),
      a_5.k ≤ ws.length ∧ OnB d l.length { π := m.π, sz := N, uf := m.uf : M } a_5 a_5.mi a_5.th a_5.ft →
      ifB (decide ((↑a_5.k : Int) < (↑ws.length : Int)))
      (∃ (b : Nat),
      ∃ (off : Nat),
      aw = some { block := b, off := off : Addr } ∧
      ((0 : Int) ≤ (↑a_5.k : Int) ∧ (↑a_5.k : Int) < (↑ws.length : Int)) ∧
      ∃ (b_1 : Bool),
      ∃ (b_2 : Bool),
      ∃ (b_3 : Bool),
      CellsAt a_5.m b (off + (↑a_5.k : Int).toNat * (3 : Nat))
      [Value.bool b_1, Value.bool b_2, Value.bool b_3] ∧
      ifB b_1
      (∃ (S' : Nat → Prop),
      (∀ (b : Nat), S' b → a_5.m.uf b ∧ (N ≤ b ∨ False)) ∧
      ∀ (n : Nat),
      a_5.m.sz ≤ n →
      SpecW Try.prog (20 : Nat)
      [Value.slice a_5.a a_5.B.length a_5.c, Value.int IntKind.i64 d.cl,
      Value.int IntKind.i64 d.sq]
      { π := a_5.m.π, sz := n, uf := a_5.m.uf : M } S' fun (v : Value) (m' : M) =>
      ∃ (a_8 : Option Addr),
      ∃ (n : Nat),
      ∃ (c : Nat),
      ∃ (b : Bool),
      ∃ (n_3 : Int),
      v =
      Value.tuple
      #[Value.slice a_8 n c, Value.bool b, Value.int IntKind.i64 n_3] ∧
      ifB (a_5.ft == (0 : Int))
      (∃ (x : OnX),
      ((x.k < ws.length ∧
      (x.dec + if x.yes = true then (1 : Int) else (0 : Int)) =
      decV x.ft ∧
      (0 : Int) ≤ x.dec ∧
      OnB d l.length { π := m.π, sz := N, uf := m.uf : M } x x.mi
      x.th x.ft) ∧
      m' = x.m ∧
      ((SV.val (Value.int IntKind.i64 (↑a_5.k : Int)) =
      SV.val (Value.int IntKind.i64 (↑x.k : Int)) ∧
      true = true) ∧
      (SV.val (Value.slice aw ws.length cw) =
      SV.val (Value.slice aw ws.length cw) ∧
      true = true) ∧
      (SV.val (Value.slice a_8 n c) =
      SV.val (Value.slice x.a x.B.length x.c) ∧
      true = true) ∧
      (SV.own (0 : Nat) (0 : Nat) =
      SV.own (0 : Nat) (0 : Nat) ∧
      true = true) ∧
      (SV.val (Value.slice a l.length cp) =
      SV.val (Value.slice a l.length cp) ∧
      true = true) ∧
      (SV.val (Value.int IntKind.i64 a_5.mi) =
      SV.val (Value.int IntKind.i64 x.mi) ∧
      true = true) ∧
      (SV.val (Value.int IntKind.i64 a_5.th) =
      SV.val (Value.int IntKind.i64 x.th) ∧
      true = true) ∧
      (SV.val (Value.int IntKind.i64 (2 : Int)) =
      SV.val (Value.int IntKind.i64 x.ft) ∧
      true = true) ∧
      (SV.val
      (Value.int IntKind.i64
      (decV a_5.ft)) =
      SV.val (Value.int IntKind.i64 x.dec) ∧
      true = true) ∧
      (SV.val (Value.bool b) =
      SV.val (Value.bool x.yes) ∧
      true = true) ∧
      (SV.val (Value.int IntKind.i64 n_3) =
      SV.val
      (Value.int IntKind.i64
      (0 : Int)) ∧
      true = true) ∧
      True) ∧
      (some
      { ty := (24 : TypeId), cs := [Value.int IntKind.i64 d.cl, Value.int IntKind.i64 d.sq, Value.string d.ky, Value.string d.ot, Value.int IntKind.i64 d.n, Value.int IntKind.i64 d.mi, Value.int IntKind.i64 d.th, Value.int IntKind.i64 d.ft] : Bx } =
      some
      { ty := (24 : TypeId), cs := [Value.int IntKind.i64 d.cl, Value.int IntKind.i64 d.sq, Value.string d.ky, Value.string d.ot, Value.int IntKind.i64 d.n, Value.int IntKind.i64 d.mi, Value.int IntKind.i64 d.th, Value.int IntKind.i64 d.ft] : Bx } ∧
      true = true) ∧
      True) ∧
      [ws.length - a_5.k] = [ws.length - x.k])
      (∃ (x : OnX),
      ((x.k < ws.length ∧
      (x.dec + if x.yes = true then (1 : Int) else (0 : Int)) =
      decV x.ft ∧
      (0 : Int) ≤ x.dec ∧
      OnB d l.length { π := m.π, sz := N, uf := m.uf : M } x x.mi
      x.th x.ft) ∧
      m' = x.m ∧
      ((SV.val (Value.int IntKind.i64 (↑a_5.k : Int)) =
      SV.val (Value.int IntKind.i64 (↑x.k : Int)) ∧
      true = true) ∧
      (SV.val (Value.slice aw ws.length cw) =
      SV.val (Value.slice aw ws.length cw) ∧
      true = true) ∧
      (SV.val (Value.slice a_8 n c) =
      SV.val (Value.slice x.a x.B.length x.c) ∧
      true = true) ∧
      (SV.own (0 : Nat) (0 : Nat) =
      SV.own (0 : Nat) (0 : Nat) ∧
      true = true) ∧
      (SV.val (Value.slice a l.length cp) =
      SV.val (Value.slice a l.length cp) ∧
      true = true) ∧
      (SV.val (Value.int IntKind.i64 a_5.mi) =
      SV.val (Value.int IntKind.i64 x.mi) ∧
      true = true) ∧
      (SV.val (Value.int IntKind.i64 a_5.th) =
      SV.val (Value.int IntKind.i64 x.th) ∧
      true = true) ∧
      (SV.val (Value.int IntKind.i64 a_5.ft) =
      SV.val (Value.int IntKind.i64 x.ft) ∧
      true = true) ∧
      (SV.val
      (Value.int IntKind.i64
      (decV a_5.ft)) =
      SV.val (Value.int IntKind.i64 x.dec) ∧
      true = true) ∧
      (SV.val (Value.bool b) =
      SV.val (Value.bool x.yes) ∧
      true = true) ∧
      (SV.val (Value.int IntKind.i64 n_3) =
      SV.val
      (Value.int IntKind.i64
      (0 : Int)) ∧
      true = true) ∧
      True) ∧
      (some
      { ty := (24 : TypeId), cs := [Value.int IntKind.i64 d.cl, Value.int IntKind.i64 d.sq, Value.string d.ky, Value.string d.ot, Value.int IntKind.i64 d.n, Value.int IntKind.i64 d.mi, Value.int IntKind.i64 d.th, Value.int IntKind.i64 d.ft] : Bx } =
      some
      { ty := (24 : TypeId), cs := [Value.int IntKind.i64 d.cl, Value.int IntKind.i64 d.sq, Value.string d.ky, Value.string d.ot, Value.int IntKind.i64 d.n, Value.int IntKind.i64 d.mi, Value.int IntKind.i64 d.th, Value.int IntKind.i64 d.ft] : Bx } ∧
      true = true) ∧
      True) ∧
      [ws.length - a_5.k] = [ws.length - x.k]))
      (∃ (S' : Nat → Prop),
      (∀ (b : Nat), S' b → a_5.m.uf b ∧ (N ≤ b ∨ False)) ∧
      ∀ (n : Nat),
      a_5.m.sz ≤ n →
      SpecW Try.prog (18 : Nat)
      [Value.slice a_5.a a_5.B.length a_5.c, Value.int IntKind.i64 d.cl,
      Value.int IntKind.i64 d.sq, Value.bool b_2, Value.bool b_3]
      { π := a_5.m.π, sz := n, uf := a_5.m.uf : M } S' fun (v : Value) (m' : M) =>
      ∃ (a_8 : Option Addr),
      ∃ (n : Nat),
      ∃ (c : Nat),
      ∃ (b : Bool),
      ∃ (n_3 : Int),
      v =
      Value.tuple
      #[Value.slice a_8 n c, Value.bool b, Value.int IntKind.i64 n_3] ∧
      ifB b_3
      (∃ (x : OnX),
      ((x.k < ws.length ∧
      x.dec = decV x.ft ∧
      x.yes = decide (x.ft = (0 : Int) ∧ x.ft2 ≠ (0 : Int)) ∧
      OnB d l.length { π := m.π, sz := N, uf := m.uf : M } x
      x.mi2 x.th2 x.ft2) ∧
      m' = x.m ∧
      ((SV.val (Value.int IntKind.i64 (↑a_5.k : Int)) =
      SV.val (Value.int IntKind.i64 (↑x.k : Int)) ∧
      true = true) ∧
      (SV.val (Value.slice aw ws.length cw) =
      SV.val (Value.slice aw ws.length cw) ∧
      true = true) ∧
      (SV.val (Value.slice a_8 n c) =
      SV.val (Value.slice x.a x.B.length x.c) ∧
      true = true) ∧
      (SV.own (0 : Nat) (0 : Nat) =
      SV.own (0 : Nat) (0 : Nat) ∧
      true = true) ∧
      (SV.val (Value.slice a l.length cp) =
      SV.val (Value.slice a l.length cp) ∧
      true = true) ∧
      (SV.val (Value.int IntKind.i64 a_5.mi) =
      SV.val (Value.int IntKind.i64 x.mi) ∧
      true = true) ∧
      (SV.val (Value.int IntKind.i64 a_5.th) =
      SV.val (Value.int IntKind.i64 x.th) ∧
      true = true) ∧
      (SV.val (Value.int IntKind.i64 a_5.ft) =
      SV.val (Value.int IntKind.i64 x.ft) ∧
      true = true) ∧
      (SV.val
      (Value.int IntKind.i64
      (decV a_5.ft)) =
      SV.val (Value.int IntKind.i64 x.dec) ∧
      true = true) ∧
      (SV.val (Value.bool b) =
      SV.val (Value.bool x.yes) ∧
      true = true) ∧
      (SV.val (Value.int IntKind.i64 n_3) =
      SV.val
      (Value.int IntKind.i64
      (0 : Int)) ∧
      true = true) ∧
      (SV.own
      ((0 : Nat) + (2 : Nat) +
      (2 : Nat) +
      (9 : Nat) +
      (2 : Nat) +
      (4 : Nat) +
      (1 : Nat) +
      (4 : Nat) +
      (4 : Nat))
      (0 : Nat) =
      SV.own (28 : Nat) (0 : Nat) ∧
      true = true) ∧
      (SV.val
      (Value.int IntKind.i64
      (1 : Int)) =
      SV.val
      (Value.int IntKind.i64
      (wordD x.wd.is)) ∧
      true = true) ∧
      True) ∧
      (some
      { ty := (24 : TypeId), cs := [Value.int IntKind.i64 d.cl, Value.int IntKind.i64 d.sq, Value.string d.ky, Value.string d.ot, Value.int IntKind.i64 d.n, Value.int IntKind.i64 d.mi, Value.int IntKind.i64 d.th, Value.int IntKind.i64 d.ft] : Bx } =
      some
      { ty := (24 : TypeId), cs := [Value.int IntKind.i64 d.cl, Value.int IntKind.i64 d.sq, Value.string d.ky, Value.string d.ot, Value.int IntKind.i64 d.n, Value.int IntKind.i64 d.mi, Value.int IntKind.i64 d.th, Value.int IntKind.i64 d.ft] : Bx } ∧
      true = true) ∧
      (some
      { ty := (42 : Nat), cs := [Value.bool b_1, Value.bool b_2, Value.bool b_3] : Bx } =
      some
      { ty := (42 : TypeId), cs := [Value.bool x.wd.gv, Value.bool x.wd.mi, Value.bool x.wd.is] : Bx } ∧
      true = true) ∧
      True) ∧
      [ws.length - a_5.k] = [ws.length - x.k])
      (∃ (x : OnX),
      ((x.k < ws.length ∧
      x.dec = decV x.ft ∧
      x.yes = decide (x.ft = (0 : Int) ∧ x.ft2 ≠ (0 : Int)) ∧
      OnB d l.length { π := m.π, sz := N, uf := m.uf : M } x
      x.mi2 x.th2 x.ft2) ∧
      m' = x.m ∧
      ((SV.val (Value.int IntKind.i64 (↑a_5.k : Int)) =
      SV.val (Value.int IntKind.i64 (↑x.k : Int)) ∧
      true = true) ∧
      (SV.val (Value.slice aw ws.length cw) =
      SV.val (Value.slice aw ws.length cw) ∧
      true = true) ∧
      (SV.val (Value.slice a_8 n c) =
      SV.val (Value.slice x.a x.B.length x.c) ∧
      true = true) ∧
      (SV.own (0 : Nat) (0 : Nat) =
      SV.own (0 : Nat) (0 : Nat) ∧
      true = true) ∧
      (SV.val (Value.slice a l.length cp) =
      SV.val (Value.slice a l.length cp) ∧
      true = true) ∧
      (SV.val (Value.int IntKind.i64 a_5.mi) =
      SV.val (Value.int IntKind.i64 x.mi) ∧
      true = true) ∧
      (SV.val (Value.int IntKind.i64 a_5.th) =
      SV.val (Value.int IntKind.i64 x.th) ∧
      true = true) ∧
      (SV.val (Value.int IntKind.i64 a_5.ft) =
      SV.val (Value.int IntKind.i64 x.ft) ∧
      true = true) ∧
      (SV.val
      (Value.int IntKind.i64
      (decV a_5.ft)) =
      SV.val (Value.int IntKind.i64 x.dec) ∧
      true = true) ∧
      (SV.val (Value.bool b) =
      SV.val (Value.bool x.yes) ∧
      true = true) ∧
      (SV.val (Value.int IntKind.i64 n_3) =
      SV.val
      (Value.int IntKind.i64
      (0 : Int)) ∧
      true = true) ∧
      (SV.own
      ((0 : Nat) + (2 : Nat) +
      (2 : Nat) +
      (9 : Nat) +
      (2 : Nat) +
      (4 : Nat) +
      (1 : Nat) +
      (4 : Nat) +
      (4 : Nat))
      (0 : Nat) =
      SV.own (28 : Nat) (0 : Nat) ∧
      true = true) ∧
      (SV.val
      (Value.int IntKind.i64
      (2 : Int)) =
      SV.val
      (Value.int IntKind.i64
      (wordD x.wd.is)) ∧
      true = true) ∧
      True) ∧
      (some
      { ty := (24 : TypeId), cs := [Value.int IntKind.i64 d.cl, Value.int IntKind.i64 d.sq, Value.string d.ky, Value.string d.ot, Value.int IntKind.i64 d.n, Value.int IntKind.i64 d.mi, Value.int IntKind.i64 d.th, Value.int IntKind.i64 d.ft] : Bx } =
      some
      { ty := (24 : TypeId), cs := [Value.int IntKind.i64 d.cl, Value.int IntKind.i64 d.sq, Value.string d.ky, Value.string d.ot, Value.int IntKind.i64 d.n, Value.int IntKind.i64 d.mi, Value.int IntKind.i64 d.th, Value.int IntKind.i64 d.ft] : Bx } ∧
      true = true) ∧
      (some
      { ty := (42 : Nat), cs := [Value.bool b_1, Value.bool b_2, Value.bool b_3] : Bx } =
      some
      { ty := (42 : TypeId), cs := [Value.bool x.wd.gv, Value.bool x.wd.mi, Value.bool x.wd.is] : Bx } ∧
      true = true) ∧
      True) ∧
      [ws.length - a_5.k] = [ws.length - x.k]) ∧
      ∀ (x : OnX),
      (x.k < ws.length ∧
      x.dec = decV x.ft ∧
      x.yes = decide (x.ft = (0 : Int) ∧ x.ft2 ≠ (0 : Int)) ∧
      OnB d l.length { π := m.π, sz := N, uf := m.uf : M } x x.mi2
      x.th2 x.ft2) ∧
      [ws.length - a_5.k] = [ws.length - x.k] →
      ifB (x.ft == (0 : Int))
      (ifB x.wd.mi
      (ifB (x.mi == (0 : Int))
      (∃ (x_1 : OnX),
      ((x_1.k < ws.length ∧
      x_1.dec = decV x_1.ft ∧
      x_1.yes =
      decide
      (x_1.ft = (0 : Int) ∧ x_1.ft2 ≠ (0 : Int)) ∧
      OnB d l.length
      { π := m.π, sz := N, uf := m.uf : M } x_1
      x_1.mi2 x_1.th2 x_1.ft2) ∧
      x.m = x_1.m ∧
      ((SV.val (Value.int IntKind.i64 (↑x.k : Int)) =
      SV.val
      (Value.int IntKind.i64 (↑x_1.k : Int)) ∧
      true = true) ∧
      (SV.val (Value.slice aw ws.length cw) =
      SV.val (Value.slice aw ws.length cw) ∧
      true = true) ∧
      (SV.val (Value.slice x.a x.B.length x.c) =
      SV.val
      (Value.slice x_1.a x_1.B.length
      x_1.c) ∧
      true = true) ∧
      (SV.own (0 : Nat) (0 : Nat) =
      SV.own (0 : Nat) (0 : Nat) ∧
      true = true) ∧
      (SV.val (Value.slice a l.length cp) =
      SV.val (Value.slice a l.length cp) ∧
      true = true) ∧
      (SV.val
      (Value.int IntKind.i64
      (wordD x.wd.is)) =
      SV.val
      (Value.int IntKind.i64
      x_1.mi2) ∧
      true = true) ∧
      (SV.val (Value.int IntKind.i64 x.th) =
      SV.val
      (Value.int IntKind.i64
      x_1.th) ∧
      true = true) ∧
      (SV.val
      (Value.int IntKind.i64
      x.ft) =
      SV.val
      (Value.int IntKind.i64
      x_1.ft) ∧
      true = true) ∧
      (SV.val
      (Value.int IntKind.i64
      x.dec) =
      SV.val
      (Value.int IntKind.i64
      x_1.dec) ∧
      true = true) ∧
      (SV.val (Value.bool x.yes) =
      SV.val
      (Value.bool x_1.yes) ∧
      true = true) ∧
      (SV.val
      (Value.int IntKind.i64
      (0 : Int)) =
      SV.val
      (Value.int IntKind.i64
      (0 : Int)) ∧
      true = true) ∧
      (SV.own (28 : Nat)
      (0 : Nat) =
      SV.own (28 : Nat)
      (0 : Nat) ∧
      true = true) ∧
      (SV.val
      (Value.int
      IntKind.i64
      (wordD
      x.wd.is)) =
      SV.val
      (Value.int
      IntKind.i64
      (wordD
      x_1.wd.is)) ∧
      true = true) ∧
      True) ∧
      (some
      { ty := (24 : TypeId), cs := [Value.int IntKind.i64 d.cl, Value.int IntKind.i64 d.sq, Value.string d.ky, Value.string d.ot, Value.int IntKind.i64 d.n, Value.int IntKind.i64 d.mi, Value.int IntKind.i64 d.th, Value.int IntKind.i64 d.ft] : Bx } =
      some
      { ty := (24 : TypeId), cs := [Value.int IntKind.i64 d.cl, Value.int IntKind.i64 d.sq, Value.string d.ky, Value.string d.ot, Value.int IntKind.i64 d.n, Value.int IntKind.i64 d.mi, Value.int IntKind.i64 d.th, Value.int IntKind.i64 d.ft] : Bx } ∧
      true = true) ∧
      (some
      { ty := (42 : TypeId), cs := [Value.bool x.wd.gv, Value.bool x.wd.mi, Value.bool x.wd.is] : Bx } =
      some
      { ty := (42 : TypeId), cs := [Value.bool x_1.wd.gv, Value.bool x_1.wd.mi, Value.bool x_1.wd.is] : Bx } ∧
      true = true) ∧
      True) ∧
      [ws.length - a_5.k] = [ws.length - x_1.k])
      (∃ (x_1 : OnX),
      ((x_1.k < ws.length ∧
      x_1.dec = decV x_1.ft ∧
      x_1.yes =
      decide
      (x_1.ft = (0 : Int) ∧ x_1.ft2 ≠ (0 : Int)) ∧
      OnB d l.length
      { π := m.π, sz := N, uf := m.uf : M } x_1
      x_1.mi2 x_1.th2 x_1.ft2) ∧
      x.m = x_1.m ∧
      ((SV.val (Value.int IntKind.i64 (↑x.k : Int)) =
      SV.val
      (Value.int IntKind.i64 (↑x_1.k : Int)) ∧
      true = true) ∧
      (SV.val (Value.slice aw ws.length cw) =
      SV.val (Value.slice aw ws.length cw) ∧
      true = true) ∧
      (SV.val (Value.slice x.a x.B.length x.c) =
      SV.val
      (Value.slice x_1.a x_1.B.length
      x_1.c) ∧
      true = true) ∧
      (SV.own (0 : Nat) (0 : Nat) =
      SV.own (0 : Nat) (0 : Nat) ∧
      true = true) ∧
      (SV.val (Value.slice a l.length cp) =
      SV.val (Value.slice a l.length cp) ∧
      true = true) ∧
      (SV.val (Value.int IntKind.i64 x.mi) =
      SV.val
      (Value.int IntKind.i64
      x_1.mi2) ∧
      true = true) ∧
      (SV.val (Value.int IntKind.i64 x.th) =
      SV.val
      (Value.int IntKind.i64
      x_1.th) ∧
      true = true) ∧
      (SV.val
      (Value.int IntKind.i64
      x.ft) =
      SV.val
      (Value.int IntKind.i64
      x_1.ft) ∧
      true = true) ∧
      (SV.val
      (Value.int IntKind.i64
      x.dec) =
      SV.val
      (Value.int IntKind.i64
      x_1.dec) ∧
      true = true) ∧
      (SV.val (Value.bool x.yes) =
      SV.val
      (Value.bool x_1.yes) ∧
      true = true) ∧
      (SV.val
      (Value.int IntKind.i64
      (0 : Int)) =
      SV.val
      (Value.int IntKind.i64
      (0 : Int)) ∧
      true = true) ∧
      (SV.own (28 : Nat)
      (0 : Nat) =
      SV.own (28 : Nat)
      (0 : Nat) ∧
      true = true) ∧
      (SV.val
      (Value.int
      IntKind.i64
      (wordD
      x.wd.is)) =
      SV.val
      (Value.int
      IntKind.i64
      (wordD
      x_1.wd.is)) ∧
      true = true) ∧
      True) ∧
      (some
      { ty := (24 : TypeId), cs := [Value.int IntKind.i64 d.cl, Value.int IntKind.i64 d.sq, Value.string d.ky, Value.string d.ot, Value.int IntKind.i64 d.n, Value.int IntKind.i64 d.mi, Value.int IntKind.i64 d.th, Value.int IntKind.i64 d.ft] : Bx } =
      some
      { ty := (24 : TypeId), cs := [Value.int IntKind.i64 d.cl, Value.int IntKind.i64 d.sq, Value.string d.ky, Value.string d.ot, Value.int IntKind.i64 d.n, Value.int IntKind.i64 d.mi, Value.int IntKind.i64 d.th, Value.int IntKind.i64 d.ft] : Bx } ∧
      true = true) ∧
      (some
      { ty := (42 : TypeId), cs := [Value.bool x.wd.gv, Value.bool x.wd.mi, Value.bool x.wd.is] : Bx } =
      some
      { ty := (42 : TypeId), cs := [Value.bool x_1.wd.gv, Value.bool x_1.wd.mi, Value.bool x_1.wd.is] : Bx } ∧
      true = true) ∧
      True) ∧
      [ws.length - a_5.k] = [ws.length - x_1.k]))
      (∃ (x_1 : OnX),
      ((x_1.k < ws.length ∧
      x_1.dec = decV x_1.ft ∧
      x_1.yes =
      decide
      (x_1.ft = (0 : Int) ∧ x_1.ft2 ≠ (0 : Int)) ∧
      OnB d l.length
      { π := m.π, sz := N, uf := m.uf : M } x_1
      x_1.mi2 x_1.th2 x_1.ft2) ∧
      x.m = x_1.m ∧
      ((SV.val (Value.int IntKind.i64 (↑x.k : Int)) =
      SV.val
      (Value.int IntKind.i64 (↑x_1.k : Int)) ∧
      true = true) ∧
      (SV.val (Value.slice aw ws.length cw) =
      SV.val (Value.slice aw ws.length cw) ∧
      true = true) ∧
      (SV.val (Value.slice x.a x.B.length x.c) =
      SV.val
      (Value.slice x_1.a x_1.B.length x_1.c) ∧
      true = true) ∧
      (SV.own (0 : Nat) (0 : Nat) =
      SV.own (0 : Nat) (0 : Nat) ∧
      true = true) ∧
      (SV.val (Value.slice a l.length cp) =
      SV.val (Value.slice a l.length cp) ∧
      true = true) ∧
      (SV.val (Value.int IntKind.i64 x.mi) =
      SV.val
      (Value.int IntKind.i64 x_1.mi2) ∧
      true = true) ∧
      (SV.val (Value.int IntKind.i64 x.th) =
      SV.val
      (Value.int IntKind.i64 x_1.th) ∧
      true = true) ∧
      (SV.val (Value.int IntKind.i64 x.ft) =
      SV.val
      (Value.int IntKind.i64
      x_1.ft) ∧
      true = true) ∧
      (SV.val
      (Value.int IntKind.i64
      x.dec) =
      SV.val
      (Value.int IntKind.i64
      x_1.dec) ∧
      true = true) ∧
      (SV.val (Value.bool x.yes) =
      SV.val
      (Value.bool x_1.yes) ∧
      true = true) ∧
      (SV.val
      (Value.int IntKind.i64
      (0 : Int)) =
      SV.val
      (Value.int IntKind.i64
      (0 : Int)) ∧
      true = true) ∧
      (SV.own (28 : Nat) (0 : Nat) =
      SV.own (28 : Nat)
      (0 : Nat) ∧
      true = true) ∧
      (SV.val
      (Value.int
      IntKind.i64
      (wordD x.wd.is)) =
      SV.val
      (Value.int
      IntKind.i64
      (wordD
      x_1.wd.is)) ∧
      true = true) ∧
      True) ∧
      (some
      { ty := (24 : TypeId), cs := [Value.int IntKind.i64 d.cl, Value.int IntKind.i64 d.sq, Value.string d.ky, Value.string d.ot, Value.int IntKind.i64 d.n, Value.int IntKind.i64 d.mi, Value.int IntKind.i64 d.th, Value.int IntKind.i64 d.ft] : Bx } =
      some
      { ty := (24 : TypeId), cs := [Value.int IntKind.i64 d.cl, Value.int IntKind.i64 d.sq, Value.string d.ky, Value.string d.ot, Value.int IntKind.i64 d.n, Value.int IntKind.i64 d.mi, Value.int IntKind.i64 d.th, Value.int IntKind.i64 d.ft] : Bx } ∧
      true = true) ∧
      (some
      { ty := (42 : TypeId), cs := [Value.bool x.wd.gv, Value.bool x.wd.mi, Value.bool x.wd.is] : Bx } =
      some
      { ty := (42 : TypeId), cs := [Value.bool x_1.wd.gv, Value.bool x_1.wd.mi, Value.bool x_1.wd.is] : Bx } ∧
      true = true) ∧
      True) ∧
      [ws.length - a_5.k] = [ws.length - x_1.k]))
      (∃ (x_1 : OnX),
      ((x_1.k < ws.length ∧
      x_1.dec = decV x_1.ft ∧
      x_1.yes =
      decide
      (x_1.ft = (0 : Int) ∧ x_1.ft2 ≠ (0 : Int)) ∧
      OnB d l.length { π := m.π, sz := N, uf := m.uf : M }
      x_1 x_1.mi2 x_1.th2 x_1.ft2) ∧
      x.m = x_1.m ∧
      ((SV.val (Value.int IntKind.i64 (↑x.k : Int)) =
      SV.val (Value.int IntKind.i64 (↑x_1.k : Int)) ∧
      true = true) ∧
      (SV.val (Value.slice aw ws.length cw) =
      SV.val (Value.slice aw ws.length cw) ∧
      true = true) ∧
      (SV.val (Value.slice x.a x.B.length x.c) =
      SV.val
      (Value.slice x_1.a x_1.B.length x_1.c) ∧
      true = true) ∧
      (SV.own (0 : Nat) (0 : Nat) =
      SV.own (0 : Nat) (0 : Nat) ∧
      true = true) ∧
      (SV.val (Value.slice a l.length cp) =
      SV.val (Value.slice a l.length cp) ∧
      true = true) ∧
      (SV.val (Value.int IntKind.i64 x.mi) =
      SV.val
      (Value.int IntKind.i64 x_1.mi2) ∧
      true = true) ∧
      (SV.val (Value.int IntKind.i64 x.th) =
      SV.val
      (Value.int IntKind.i64 x_1.th) ∧
      true = true) ∧
      (SV.val (Value.int IntKind.i64 x.ft) =
      SV.val
      (Value.int IntKind.i64 x_1.ft) ∧
      true = true) ∧
      (SV.val
      (Value.int IntKind.i64
      x.dec) =
      SV.val
      (Value.int IntKind.i64
      x_1.dec) ∧
      true = true) ∧
      (SV.val (Value.bool x.yes) =
      SV.val (Value.bool x_1.yes) ∧
      true = true) ∧
      (SV.val
      (Value.int IntKind.i64
      (0 : Int)) =
      SV.val
      (Value.int IntKind.i64
      (0 : Int)) ∧
      true = true) ∧
      (SV.own (28 : Nat) (0 : Nat) =
      SV.own (28 : Nat)
      (0 : Nat) ∧
      true = true) ∧
      (SV.val
      (Value.int IntKind.i64
      (wordD x.wd.is)) =
      SV.val
      (Value.int IntKind.i64
      (wordD x_1.wd.is)) ∧
      true = true) ∧
      True) ∧
      (some
      { ty := (24 : TypeId), cs := [Value.int IntKind.i64 d.cl, Value.int IntKind.i64 d.sq, Value.string d.ky, Value.string d.ot, Value.int IntKind.i64 d.n, Value.int IntKind.i64 d.mi, Value.int IntKind.i64 d.th, Value.int IntKind.i64 d.ft] : Bx } =
      some
      { ty := (24 : TypeId), cs := [Value.int IntKind.i64 d.cl, Value.int IntKind.i64 d.sq, Value.string d.ky, Value.string d.ot, Value.int IntKind.i64 d.n, Value.int IntKind.i64 d.mi, Value.int IntKind.i64 d.th, Value.int IntKind.i64 d.ft] : Bx } ∧
      true = true) ∧
      (some
      { ty := (42 : TypeId), cs := [Value.bool x.wd.gv, Value.bool x.wd.mi, Value.bool x.wd.is] : Bx } =
      some
      { ty := (42 : TypeId), cs := [Value.bool x_1.wd.gv, Value.bool x_1.wd.mi, Value.bool x_1.wd.is] : Bx } ∧
      true = true) ∧
      True) ∧
      [ws.length - a_5.k] = [ws.length - x_1.k]) ∧
      ∀ (x : OnX),
      (x.k < ws.length ∧
      x.dec = decV x.ft ∧
      x.yes = decide (x.ft = (0 : Int) ∧ x.ft2 ≠ (0 : Int)) ∧
      OnB d l.length { π := m.π, sz := N, uf := m.uf : M } x
      x.mi2 x.th2 x.ft2) ∧
      [ws.length - a_5.k] = [ws.length - x.k] →
      ifB (x.ft == (0 : Int))
      (ifB (!x.wd.mi)
      (ifB (x.th == (0 : Int))
      (∃ (x_1 : OnX),
      ((x_1.k < ws.length ∧
      x_1.dec = decV x_1.ft ∧
      x_1.yes =
      decide
      (x_1.ft = (0 : Int) ∧
      x_1.ft2 ≠ (0 : Int)) ∧
      OnB d l.length
      { π := m.π, sz := N, uf := m.uf : M }
      x_1 x_1.mi2 x_1.th2 x_1.ft2) ∧
      x.m = x_1.m ∧
      ((SV.val
      (Value.int IntKind.i64
      (↑x.k : Int)) =
      SV.val
      (Value.int IntKind.i64
      (↑x_1.k : Int)) ∧
      true = true) ∧
      (SV.val (Value.slice aw ws.length cw) =
      SV.val
      (Value.slice aw ws.length cw) ∧
      true = true) ∧
      (SV.val
      (Value.slice x.a x.B.length
      x.c) =
      SV.val
      (Value.slice x_1.a x_1.B.length
      x_1.c) ∧
      true = true) ∧
      (SV.own (0 : Nat) (0 : Nat) =
      SV.own (0 : Nat) (0 : Nat) ∧
      true = true) ∧
      (SV.val
      (Value.slice a l.length
      cp) =
      SV.val
      (Value.slice a l.length
      cp) ∧
      true = true) ∧
      (SV.val
      (Value.int IntKind.i64
      x.mi2) =
      SV.val
      (Value.int IntKind.i64
      x_1.mi2) ∧
      true = true) ∧
      (SV.val
      (Value.int IntKind.i64
      (wordD x.wd.is)) =
      SV.val
      (Value.int IntKind.i64
      x_1.th2) ∧
      true = true) ∧
      (SV.val
      (Value.int IntKind.i64
      x.ft) =
      SV.val
      (Value.int IntKind.i64
      x_1.ft) ∧
      true = true) ∧
      (SV.val
      (Value.int
      IntKind.i64
      x.dec) =
      SV.val
      (Value.int
      IntKind.i64
      x_1.dec) ∧
      true = true) ∧
      (SV.val
      (Value.bool
      x.yes) =
      SV.val
      (Value.bool
      x_1.yes) ∧
      true = true) ∧
      (SV.val
      (Value.int
      IntKind.i64
      (0 : Int)) =
      SV.val
      (Value.int
      IntKind.i64
      (0 : Int)) ∧
      true = true) ∧
      True) ∧
      (some
      { ty := (24 : TypeId), cs := [Value.int IntKind.i64 d.cl, Value.int IntKind.i64 d.sq, Value.string d.ky, Value.string d.ot, Value.int IntKind.i64 d.n, Value.int IntKind.i64 d.mi, Value.int IntKind.i64 d.th, Value.int IntKind.i64 d.ft] : Bx } =
      some
      { ty := (24 : TypeId), cs := [Value.int IntKind.i64 d.cl, Value.int IntKind.i64 d.sq, Value.string d.ky, Value.string d.ot, Value.int IntKind.i64 d.n, Value.int IntKind.i64 d.mi, Value.int IntKind.i64 d.th, Value.int IntKind.i64 d.ft] : Bx } ∧
      true = true) ∧
      True) ∧
      [ws.length - a_5.k] = [ws.length - x_1.k])
      (∃ (x_1 : OnX),
      ((x_1.k < ws.length ∧
      x_1.dec = decV x_1.ft ∧
      x_1.yes =
      decide
      (x_1.ft = (0 : Int) ∧
      x_1.ft2 ≠ (0 : Int)) ∧
      OnB d l.length
      { π := m.π, sz := N, uf := m.uf : M }
      x_1 x_1.mi2 x_1.th2 x_1.ft2) ∧
      x.m = x_1.m ∧
      ((SV.val
      (Value.int IntKind.i64
      (↑x.k : Int)) =
      SV.val
      (Value.int IntKind.i64
      (↑x_1.k : Int)) ∧
      true = true) ∧
      (SV.val (Value.slice aw ws.length cw) =
      SV.val
      (Value.slice aw ws.length cw) ∧
      true = true) ∧
      (SV.val
      (Value.slice x.a x.B.length
      x.c) =
      SV.val
      (Value.slice x_1.a x_1.B.length
      x_1.c) ∧
      true = true) ∧
      (SV.own (0 : Nat) (0 : Nat) =
      SV.own (0 : Nat) (0 : Nat) ∧
      true = true) ∧
      (SV.val
      (Value.slice a l.length
      cp) =
      SV.val
      (Value.slice a l.length
      cp) ∧
      true = true) ∧
      (SV.val
      (Value.int IntKind.i64
      x.mi2) =
      SV.val
      (Value.int IntKind.i64
      x_1.mi2) ∧
      true = true) ∧
      (SV.val
      (Value.int IntKind.i64
      x.th) =
      SV.val
      (Value.int IntKind.i64
      x_1.th2) ∧
      true = true) ∧
      (SV.val
      (Value.int IntKind.i64
      x.ft) =
      SV.val
      (Value.int IntKind.i64
      x_1.ft) ∧
      true = true) ∧
      (SV.val
      (Value.int
      IntKind.i64
      x.dec) =
      SV.val
      (Value.int
      IntKind.i64
      x_1.dec) ∧
      true = true) ∧
      (SV.val
      (Value.bool
      x.yes) =
      SV.val
      (Value.bool
      x_1.yes) ∧
      true = true) ∧
      (SV.val
      (Value.int
      IntKind.i64
      (0 : Int)) =
      SV.val
      (Value.int
      IntKind.i64
      (0 : Int)) ∧
      true = true) ∧
      True) ∧
      (some
      { ty := (24 : TypeId), cs := [Value.int IntKind.i64 d.cl, Value.int IntKind.i64 d.sq, Value.string d.ky, Value.string d.ot, Value.int IntKind.i64 d.n, Value.int IntKind.i64 d.mi, Value.int IntKind.i64 d.th, Value.int IntKind.i64 d.ft] : Bx } =
      some
      { ty := (24 : TypeId), cs := [Value.int IntKind.i64 d.cl, Value.int IntKind.i64 d.sq, Value.string d.ky, Value.string d.ot, Value.int IntKind.i64 d.n, Value.int IntKind.i64 d.mi, Value.int IntKind.i64 d.th, Value.int IntKind.i64 d.ft] : Bx } ∧
      true = true) ∧
      True) ∧
      [ws.length - a_5.k] = [ws.length - x_1.k]))
      (∃ (x_1 : OnX),
      ((x_1.k < ws.length ∧
      x_1.dec = decV x_1.ft ∧
      x_1.yes =
      decide
      (x_1.ft = (0 : Int) ∧
      x_1.ft2 ≠ (0 : Int)) ∧
      OnB d l.length
      { π := m.π, sz := N, uf := m.uf : M } x_1
      x_1.mi2 x_1.th2 x_1.ft2) ∧
      x.m = x_1.m ∧
      ((SV.val (Value.int IntKind.i64 (↑x.k : Int)) =
      SV.val
      (Value.int IntKind.i64
      (↑x_1.k : Int)) ∧
      true = true) ∧
      (SV.val (Value.slice aw ws.length cw) =
      SV.val (Value.slice aw ws.length cw) ∧
      true = true) ∧
      (SV.val (Value.slice x.a x.B.length x.c) =
      SV.val
      (Value.slice x_1.a x_1.B.length
      x_1.c) ∧
      true = true) ∧
      (SV.own (0 : Nat) (0 : Nat) =
      SV.own (0 : Nat) (0 : Nat) ∧
      true = true) ∧
      (SV.val (Value.slice a l.length cp) =
      SV.val
      (Value.slice a l.length cp) ∧
      true = true) ∧
      (SV.val
      (Value.int IntKind.i64
      x.mi2) =
      SV.val
      (Value.int IntKind.i64
      x_1.mi2) ∧
      true = true) ∧
      (SV.val
      (Value.int IntKind.i64
      x.th) =
      SV.val
      (Value.int IntKind.i64
      x_1.th2) ∧
      true = true) ∧
      (SV.val
      (Value.int IntKind.i64
      x.ft) =
      SV.val
      (Value.int IntKind.i64
      x_1.ft) ∧
      true = true) ∧
      (SV.val
      (Value.int IntKind.i64
      x.dec) =
      SV.val
      (Value.int IntKind.i64
      x_1.dec) ∧
      true = true) ∧
      (SV.val (Value.bool x.yes) =
      SV.val
      (Value.bool
      x_1.yes) ∧
      true = true) ∧
      (SV.val
      (Value.int
      IntKind.i64
      (0 : Int)) =
      SV.val
      (Value.int
      IntKind.i64
      (0 : Int)) ∧
      true = true) ∧
      True) ∧
      (some
      { ty := (24 : TypeId), cs := [Value.int IntKind.i64 d.cl, Value.int IntKind.i64 d.sq, Value.string d.ky, Value.string d.ot, Value.int IntKind.i64 d.n, Value.int IntKind.i64 d.mi, Value.int IntKind.i64 d.th, Value.int IntKind.i64 d.ft] : Bx } =
      some
      { ty := (24 : TypeId), cs := [Value.int IntKind.i64 d.cl, Value.int IntKind.i64 d.sq, Value.string d.ky, Value.string d.ot, Value.int IntKind.i64 d.n, Value.int IntKind.i64 d.mi, Value.int IntKind.i64 d.th, Value.int IntKind.i64 d.ft] : Bx } ∧
      true = true) ∧
      True) ∧
      [ws.length - a_5.k] = [ws.length - x_1.k]))
      (∃ (x_1 : OnX),
      ((x_1.k < ws.length ∧
      x_1.dec = decV x_1.ft ∧
      x_1.yes =
      decide
      (x_1.ft = (0 : Int) ∧
      x_1.ft2 ≠ (0 : Int)) ∧
      OnB d l.length
      { π := m.π, sz := N, uf := m.uf : M } x_1
      x_1.mi2 x_1.th2 x_1.ft2) ∧
      x.m = x_1.m ∧
      ((SV.val (Value.int IntKind.i64 (↑x.k : Int)) =
      SV.val
      (Value.int IntKind.i64 (↑x_1.k : Int)) ∧
      true = true) ∧
      (SV.val (Value.slice aw ws.length cw) =
      SV.val (Value.slice aw ws.length cw) ∧
      true = true) ∧
      (SV.val (Value.slice x.a x.B.length x.c) =
      SV.val
      (Value.slice x_1.a x_1.B.length
      x_1.c) ∧
      true = true) ∧
      (SV.own (0 : Nat) (0 : Nat) =
      SV.own (0 : Nat) (0 : Nat) ∧
      true = true) ∧
      (SV.val (Value.slice a l.length cp) =
      SV.val
      (Value.slice a l.length cp) ∧
      true = true) ∧
      (SV.val
      (Value.int IntKind.i64
      x.mi2) =
      SV.val
      (Value.int IntKind.i64
      x_1.mi2) ∧
      true = true) ∧
      (SV.val
      (Value.int IntKind.i64
      x.th) =
      SV.val
      (Value.int IntKind.i64
      x_1.th2) ∧
      true = true) ∧
      (SV.val
      (Value.int IntKind.i64
      x.ft) =
      SV.val
      (Value.int IntKind.i64
      x_1.ft) ∧
      true = true) ∧
      (SV.val
      (Value.int IntKind.i64
      x.dec) =
      SV.val
      (Value.int IntKind.i64
      x_1.dec) ∧
      true = true) ∧
      (SV.val (Value.bool x.yes) =
      SV.val
      (Value.bool x_1.yes) ∧
      true = true) ∧
      (SV.val
      (Value.int
      IntKind.i64
      (0 : Int)) =
      SV.val
      (Value.int
      IntKind.i64
      (0 : Int)) ∧
      true = true) ∧
      True) ∧
      (some
      { ty := (24 : TypeId), cs := [Value.int IntKind.i64 d.cl, Value.int IntKind.i64 d.sq, Value.string d.ky, Value.string d.ot, Value.int IntKind.i64 d.n, Value.int IntKind.i64 d.mi, Value.int IntKind.i64 d.th, Value.int IntKind.i64 d.ft] : Bx } =
      some
      { ty := (24 : TypeId), cs := [Value.int IntKind.i64 d.cl, Value.int IntKind.i64 d.sq, Value.string d.ky, Value.string d.ot, Value.int IntKind.i64 d.n, Value.int IntKind.i64 d.mi, Value.int IntKind.i64 d.th, Value.int IntKind.i64 d.ft] : Bx } ∧
      true = true) ∧
      True) ∧
      [ws.length - a_5.k] = [ws.length - x_1.k]) ∧
      ∀ (x : OnX),
      (x.k < ws.length ∧
      x.dec = decV x.ft ∧
      x.yes =
      decide
      (x.ft = (0 : Int) ∧ x.ft2 ≠ (0 : Int)) ∧
      OnB d l.length
      { π := m.π, sz := N, uf := m.uf : M } x x.mi2
      x.th2 x.ft2) ∧
      [ws.length - a_5.k] = [ws.length - x.k] →
      ifB (x.ft != (0 : Int))
      (∃ (x_1 : OnX),
      ((x_1.k < ws.length ∧
      (x_1.dec +
      if x_1.yes = true then (1 : Int)
      else (0 : Int)) =
      decV x_1.ft ∧
      (0 : Int) ≤ x_1.dec ∧
      OnB d l.length
      { π := m.π, sz := N, uf := m.uf : M }
      x_1 x_1.mi x_1.th x_1.ft) ∧
      x.m = x_1.m ∧
      ((SV.val
      (Value.int IntKind.i64
      (↑x.k : Int)) =
      SV.val
      (Value.int IntKind.i64
      (↑x_1.k : Int)) ∧
      true = true) ∧
      (SV.val (Value.slice aw ws.length cw) =
      SV.val
      (Value.slice aw ws.length cw) ∧
      true = true) ∧
      (SV.val
      (Value.slice x.a x.B.length
      x.c) =
      SV.val
      (Value.slice x_1.a x_1.B.length
      x_1.c) ∧
      true = true) ∧
      (SV.own (0 : Nat) (0 : Nat) =
      SV.own (0 : Nat) (0 : Nat) ∧
      true = true) ∧
      (SV.val
      (Value.slice a l.length
      cp) =
      SV.val
      (Value.slice a l.length
      cp) ∧
      true = true) ∧
      (SV.val
      (Value.int IntKind.i64
      x.mi2) =
      SV.val
      (Value.int IntKind.i64
      x_1.mi) ∧
      true = true) ∧
      (SV.val
      (Value.int IntKind.i64
      x.th2) =
      SV.val
      (Value.int IntKind.i64
      x_1.th) ∧
      true = true) ∧
      (SV.val
      (Value.int IntKind.i64
      x.ft) =
      SV.val
      (Value.int IntKind.i64
      x_1.ft) ∧
      true = true) ∧
      (SV.val
      (Value.int
      IntKind.i64
      x.dec) =
      SV.val
      (Value.int
      IntKind.i64
      x_1.dec) ∧
      true = true) ∧
      (SV.val
      (Value.bool
      x.yes) =
      SV.val
      (Value.bool
      x_1.yes) ∧
      true = true) ∧
      (SV.val
      (Value.int
      IntKind.i64
      (0 : Int)) =
      SV.val
      (Value.int
      IntKind.i64
      (0 : Int)) ∧
      true = true) ∧
      True) ∧
      (some
      { ty := (24 : TypeId), cs := [Value.int IntKind.i64 d.cl, Value.int IntKind.i64 d.sq, Value.string d.ky, Value.string d.ot, Value.int IntKind.i64 d.n, Value.int IntKind.i64 d.mi, Value.int IntKind.i64 d.th, Value.int IntKind.i64 d.ft] : Bx } =
      some
      { ty := (24 : TypeId), cs := [Value.int IntKind.i64 d.cl, Value.int IntKind.i64 d.sq, Value.string d.ky, Value.string d.ot, Value.int IntKind.i64 d.n, Value.int IntKind.i64 d.mi, Value.int IntKind.i64 d.th, Value.int IntKind.i64 d.ft] : Bx } ∧
      true = true) ∧
      True) ∧
      [ws.length - a_5.k] = [ws.length - x_1.k])
      (ifB (x.mi2 == (2 : Int))
      (∃ (x_1 : OnX),
      ((x_1.k < ws.length ∧
      (x_1.dec +
      if x_1.yes = true then (1 : Int)
      else (0 : Int)) =
      decV x_1.ft ∧
      (0 : Int) ≤ x_1.dec ∧
      OnB d l.length
      { π := m.π, sz := N, uf := m.uf : M }
      x_1 x_1.mi x_1.th x_1.ft) ∧
      x.m = x_1.m ∧
      ((SV.val
      (Value.int IntKind.i64
      (↑x.k : Int)) =
      SV.val
      (Value.int IntKind.i64
      (↑x_1.k : Int)) ∧
      true = true) ∧
      (SV.val (Value.slice aw ws.length cw) =
      SV.val
      (Value.slice aw ws.length cw) ∧
      true = true) ∧
      (SV.val
      (Value.slice x.a x.B.length
      x.c) =
      SV.val
      (Value.slice x_1.a
      x_1.B.length x_1.c) ∧
      true = true) ∧
      (SV.own (0 : Nat) (0 : Nat) =
      SV.own (0 : Nat) (0 : Nat) ∧
      true = true) ∧
      (SV.val
      (Value.slice a l.length
      cp) =
      SV.val
      (Value.slice a l.length
      cp) ∧
      true = true) ∧
      (SV.val
      (Value.int IntKind.i64
      x.mi2) =
      SV.val
      (Value.int IntKind.i64
      x_1.mi) ∧
      true = true) ∧
      (SV.val
      (Value.int IntKind.i64
      x.th2) =
      SV.val
      (Value.int IntKind.i64
      x_1.th) ∧
      true = true) ∧
      (SV.val
      (Value.int
      IntKind.i64
      (2 : Int)) =
      SV.val
      (Value.int
      IntKind.i64
      x_1.ft) ∧
      true = true) ∧
      (SV.val
      (Value.int
      IntKind.i64
      x.dec) =
      SV.val
      (Value.int
      IntKind.i64
      x_1.dec) ∧
      true = true) ∧
      (SV.val
      (Value.bool
      x.yes) =
      SV.val
      (Value.bool
      x_1.yes) ∧
      true = true) ∧
      (SV.val
      (Value.int
      IntKind.i64
      (0 : Int)) =
      SV.val
      (Value.int
      IntKind.i64
      (0 : Int)) ∧
      true = true) ∧
      True) ∧
      (some
      { ty := (24 : TypeId), cs := [Value.int IntKind.i64 d.cl, Value.int IntKind.i64 d.sq, Value.string d.ky, Value.string d.ot, Value.int IntKind.i64 d.n, Value.int IntKind.i64 d.mi, Value.int IntKind.i64 d.th, Value.int IntKind.i64 d.ft] : Bx } =
      some
      { ty := (24 : TypeId), cs := [Value.int IntKind.i64 d.cl, Value.int IntKind.i64 d.sq, Value.string d.ky, Value.string d.ot, Value.int IntKind.i64 d.n, Value.int IntKind.i64 d.mi, Value.int IntKind.i64 d.th, Value.int IntKind.i64 d.ft] : Bx } ∧
      true = true) ∧
      True) ∧
      [ws.length - a_5.k] = [ws.length - x_1.k])
      (ifB (x.th2 == (2 : Int))
      (∃ (x_1 : OnX),
      ((x_1.k < ws.length ∧
      (x_1.dec +
      if x_1.yes = true then (1 : Int)
      else (0 : Int)) =
      decV x_1.ft ∧
      (0 : Int) ≤ x_1.dec ∧
      OnB d l.length
      { π := m.π, sz := N, uf := m.uf : M }
      x_1 x_1.mi x_1.th x_1.ft) ∧
      x.m = x_1.m ∧
      ((SV.val
      (Value.int IntKind.i64
      (↑x.k : Int)) =
      SV.val
      (Value.int IntKind.i64
      (↑x_1.k : Int)) ∧
      true = true) ∧
      (SV.val
      (Value.slice aw ws.length
      cw) =
      SV.val
      (Value.slice aw ws.length
      cw) ∧
      true = true) ∧
      (SV.val
      (Value.slice x.a x.B.length
      x.c) =
      SV.val
      (Value.slice x_1.a
      x_1.B.length x_1.c) ∧
      true = true) ∧
      (SV.own (0 : Nat) (0 : Nat) =
      SV.own (0 : Nat) (0 : Nat) ∧
      true = true) ∧
      (SV.val
      (Value.slice a l.length
      cp) =
      SV.val
      (Value.slice a l.length
      cp) ∧
      true = true) ∧
      (SV.val
      (Value.int IntKind.i64
      x.mi2) =
      SV.val
      (Value.int IntKind.i64
      x_1.mi) ∧
      true = true) ∧
      (SV.val
      (Value.int
      IntKind.i64
      x.th2) =
      SV.val
      (Value.int
      IntKind.i64
      x_1.th) ∧
      true = true) ∧
      (SV.val
      (Value.int
      IntKind.i64
      (2 : Int)) =
      SV.val
      (Value.int
      IntKind.i64
      x_1.ft) ∧
      true = true) ∧
      (SV.val
      (Value.int
      IntKind.i64
      x.dec) =
      SV.val
      (Value.int
      IntKind.i64
      x_1.dec) ∧
      true = true) ∧
      (SV.val
      (Value.bool
      x.yes) =
      SV.val
      (Value.bool
      x_1.yes) ∧
      true = true) ∧
      (SV.val
      (Value.int
      IntKind.i64
      (0 :
      Int)) =
      SV.val
      (Value.int
      IntKind.i64
      (0 :
      Int)) ∧
      true = true) ∧
      True) ∧
      (some
      { ty := (24 : TypeId), cs := [Value.int IntKind.i64 d.cl, Value.int IntKind.i64 d.sq, Value.string d.ky, Value.string d.ot, Value.int IntKind.i64 d.n, Value.int IntKind.i64 d.mi, Value.int IntKind.i64 d.th, Value.int IntKind.i64 d.ft] : Bx } =
      some
      { ty := (24 : TypeId), cs := [Value.int IntKind.i64 d.cl, Value.int IntKind.i64 d.sq, Value.string d.ky, Value.string d.ot, Value.int IntKind.i64 d.n, Value.int IntKind.i64 d.mi, Value.int IntKind.i64 d.th, Value.int IntKind.i64 d.ft] : Bx } ∧
      true = true) ∧
      True) ∧
      [ws.length - a_5.k] = [ws.length - x_1.k])
      (ifB (x.mi2 == (1 : Int))
      (ifB (x.th2 == (1 : Int))
      (∃ (x_1 : OnX),
      ((x_1.k < ws.length ∧
      (x_1.dec +
      if x_1.yes = true then (1 : Int)
      else (0 : Int)) =
      decV x_1.ft ∧
      (0 : Int) ≤ x_1.dec ∧
      OnB d l.length
      { π := m.π, sz := N, uf := m.uf : M }
      x_1 x_1.mi x_1.th x_1.ft) ∧
      x.m = x_1.m ∧
      ((SV.val
      (Value.int IntKind.i64
      (↑x.k : Int)) =
      SV.val
      (Value.int IntKind.i64
      (↑x_1.k : Int)) ∧
      true = true) ∧
      (SV.val
      (Value.slice aw ws.length
      cw) =
      SV.val
      (Value.slice aw ws.length
      cw) ∧
      true = true) ∧
      (SV.val
      (Value.slice x.a
      x.B.length x.c) =
      SV.val
      (Value.slice x_1.a
      x_1.B.length x_1.c) ∧
      true = true) ∧
      (SV.own (0 : Nat) (0 : Nat) =
      SV.own (0 : Nat)
      (0 : Nat) ∧
      true = true) ∧
      (SV.val
      (Value.slice a
      l.length cp) =
      SV.val
      (Value.slice a
      l.length cp) ∧
      true = true) ∧
      (SV.val
      (Value.int
      IntKind.i64
      x.mi2) =
      SV.val
      (Value.int
      IntKind.i64
      x_1.mi) ∧
      true = true) ∧
      (SV.val
      (Value.int
      IntKind.i64
      x.th2) =
      SV.val
      (Value.int
      IntKind.i64
      x_1.th) ∧
      true = true) ∧
      (SV.val
      (Value.int
      IntKind.i64
      (1 : Int)) =
      SV.val
      (Value.int
      IntKind.i64
      x_1.ft) ∧
      true = true) ∧
      (SV.val
      (Value.int
      IntKind.i64
      x.dec) =
      SV.val
      (Value.int
      IntKind.i64
      x_1.dec) ∧
      true = true) ∧
      (SV.val
      (Value.bool
      x.yes) =
      SV.val
      (Value.bool
      x_1.yes) ∧
      true = true) ∧
      (SV.val
      (Value.int
      IntKind.i64
      (0 :
      Int)) =
      SV.val
      (Value.int
      IntKind.i64
      (0 :
      Int)) ∧
      true =
      true) ∧
      True) ∧
      (some
      { ty := (24 : TypeId), cs := [Value.int IntKind.i64 d.cl, Value.int IntKind.i64 d.sq, Value.string d.ky, Value.string d.ot, Value.int IntKind.i64 d.n, Value.int IntKind.i64 d.mi, Value.int IntKind.i64 d.th, Value.int IntKind.i64 d.ft] : Bx } =
      some
      { ty := (24 : TypeId), cs := [Value.int IntKind.i64 d.cl, Value.int IntKind.i64 d.sq, Value.string d.ky, Value.string d.ot, Value.int IntKind.i64 d.n, Value.int IntKind.i64 d.mi, Value.int IntKind.i64 d.th, Value.int IntKind.i64 d.ft] : Bx } ∧
      true = true) ∧
      True) ∧
      [ws.length - a_5.k] = [ws.length - x_1.k])
      (∃ (x_1 : OnX),
      ((x_1.k < ws.length ∧
      (x_1.dec +
      if x_1.yes = true then (1 : Int)
      else (0 : Int)) =
      decV x_1.ft ∧
      (0 : Int) ≤ x_1.dec ∧
      OnB d l.length
      { π := m.π, sz := N, uf := m.uf : M }
      x_1 x_1.mi x_1.th x_1.ft) ∧
      x.m = x_1.m ∧
      ((SV.val
      (Value.int IntKind.i64
      (↑x.k : Int)) =
      SV.val
      (Value.int IntKind.i64
      (↑x_1.k : Int)) ∧
      true = true) ∧
      (SV.val
      (Value.slice aw ws.length
      cw) =
      SV.val
      (Value.slice aw ws.length
      cw) ∧
      true = true) ∧
      (SV.val
      (Value.slice x.a
      x.B.length x.c) =
      SV.val
      (Value.slice x_1.a
      x_1.B.length x_1.c) ∧
      true = true) ∧
      (SV.own (0 : Nat) (0 : Nat) =
      SV.own (0 : Nat)
      (0 : Nat) ∧
      true = true) ∧
      (SV.val
      (Value.slice a
      l.length cp) =
      SV.val
      (Value.slice a
      l.length cp) ∧
      true = true) ∧
      (SV.val
      (Value.int
      IntKind.i64
      x.mi2) =
      SV.val
      (Value.int
      IntKind.i64
      x_1.mi) ∧
      true = true) ∧
      (SV.val
      (Value.int
      IntKind.i64
      x.th2) =
      SV.val
      (Value.int
      IntKind.i64
      x_1.th) ∧
      true = true) ∧
      (SV.val
      (Value.int
      IntKind.i64
      x.ft) =
      SV.val
      (Value.int
      IntKind.i64
      x_1.ft) ∧
      true = true) ∧
      (SV.val
      (Value.int
      IntKind.i64
      x.dec) =
      SV.val
      (Value.int
      IntKind.i64
      x_1.dec) ∧
      true = true) ∧
      (SV.val
      (Value.bool
      x.yes) =
      SV.val
      (Value.bool
      x_1.yes) ∧
      true = true) ∧
      (SV.val
      (Value.int
      IntKind.i64
      (0 :
      Int)) =
      SV.val
      (Value.int
      IntKind.i64
      (0 :
      Int)) ∧
      true =
      true) ∧
      True) ∧
      (some
      { ty := (24 : TypeId), cs := [Value.int IntKind.i64 d.cl, Value.int IntKind.i64 d.sq, Value.string d.ky, Value.string d.ot, Value.int IntKind.i64 d.n, Value.int IntKind.i64 d.mi, Value.int IntKind.i64 d.th, Value.int IntKind.i64 d.ft] : Bx } =
      some
      { ty := (24 : TypeId), cs := [Value.int IntKind.i64 d.cl, Value.int IntKind.i64 d.sq, Value.string d.ky, Value.string d.ot, Value.int IntKind.i64 d.n, Value.int IntKind.i64 d.mi, Value.int IntKind.i64 d.th, Value.int IntKind.i64 d.ft] : Bx } ∧
      true = true) ∧
      True) ∧
      [ws.length - a_5.k] =
      [ws.length - x_1.k]))
      (∃ (x_1 : OnX),
      ((x_1.k < ws.length ∧
      (x_1.dec +
      if x_1.yes = true then (1 : Int)
      else (0 : Int)) =
      decV x_1.ft ∧
      (0 : Int) ≤ x_1.dec ∧
      OnB d l.length
      { π := m.π, sz := N, uf := m.uf : M }
      x_1 x_1.mi x_1.th x_1.ft) ∧
      x.m = x_1.m ∧
      ((SV.val
      (Value.int IntKind.i64
      (↑x.k : Int)) =
      SV.val
      (Value.int IntKind.i64
      (↑x_1.k : Int)) ∧
      true = true) ∧
      (SV.val
      (Value.slice aw ws.length
      cw) =
      SV.val
      (Value.slice aw ws.length
      cw) ∧
      true = true) ∧
      (SV.val
      (Value.slice x.a
      x.B.length x.c) =
      SV.val
      (Value.slice x_1.a
      x_1.B.length x_1.c) ∧
      true = true) ∧
      (SV.own (0 : Nat) (0 : Nat) =
      SV.own (0 : Nat)
      (0 : Nat) ∧
      true = true) ∧
      (SV.val
      (Value.slice a
      l.length cp) =
      SV.val
      (Value.slice a
      l.length cp) ∧
      true = true) ∧
      (SV.val
      (Value.int
      IntKind.i64
      x.mi2) =
      SV.val
      (Value.int
      IntKind.i64
      x_1.mi) ∧
      true = true) ∧
      (SV.val
      (Value.int
      IntKind.i64
      x.th2) =
      SV.val
      (Value.int
      IntKind.i64
      x_1.th) ∧
      true = true) ∧
      (SV.val
      (Value.int
      IntKind.i64
      x.ft) =
      SV.val
      (Value.int
      IntKind.i64
      x_1.ft) ∧
      true = true) ∧
      (SV.val
      (Value.int
      IntKind.i64
      x.dec) =
      SV.val
      (Value.int
      IntKind.i64
      x_1.dec) ∧
      true = true) ∧
      (SV.val
      (Value.bool
      x.yes) =
      SV.val
      (Value.bool
      x_1.yes) ∧
      true = true) ∧
      (SV.val
      (Value.int
      IntKind.i64
      (0 :
      Int)) =
      SV.val
      (Value.int
      IntKind.i64
      (0 :
      Int)) ∧
      true = true) ∧
      True) ∧
      (some
      { ty := (24 : TypeId), cs := [Value.int IntKind.i64 d.cl, Value.int IntKind.i64 d.sq, Value.string d.ky, Value.string d.ot, Value.int IntKind.i64 d.n, Value.int IntKind.i64 d.mi, Value.int IntKind.i64 d.th, Value.int IntKind.i64 d.ft] : Bx } =
      some
      { ty := (24 : TypeId), cs := [Value.int IntKind.i64 d.cl, Value.int IntKind.i64 d.sq, Value.string d.ky, Value.string d.ot, Value.int IntKind.i64 d.n, Value.int IntKind.i64 d.mi, Value.int IntKind.i64 d.th, Value.int IntKind.i64 d.ft] : Bx } ∧
      true = true) ∧
      True) ∧
      [ws.length - a_5.k] =
      [ws.length - x_1.k]))))) ∧
      ∀ (x : OnX),
      (x.k < ws.length ∧
      (x.dec + if x.yes = true then (1 : Int) else (0 : Int)) = decV x.ft ∧
      (0 : Int) ≤ x.dec ∧
      OnB d l.length { π := m.π, sz := N, uf := m.uf : M } x x.mi x.th x.ft) ∧
      [ws.length - a_5.k] = [ws.length - x.k] →
      ifB x.yes
      (∃ (n : Int),
      ∃ (n_3 : Int),
      ∃ (s : ByteArray),
      ∃ (s_1 : ByteArray),
      ∃ (n_4 : Int),
      ∃ (n_5 : Int),
      ∃ (n_6 : Int),
      ∃ (n_7 : Int),
      ∃ (b : Bool),
      QSpec Try.prog (11 : Nat)
      [Value.slice x.a x.B.length x.c, Value.int IntKind.i64 d.cl,
      Value.int IntKind.i64 d.sq]
      x.m
      (Value.tuple
      #[Value.agg
      #[Value.int IntKind.i64 n, Value.int IntKind.i64 n_3,
      Value.string s, Value.string s_1, Value.int IntKind.i64 n_4,
      Value.int IntKind.i64 n_5, Value.int IntKind.i64 n_6,
      Value.int IntKind.i64 n_7],
      Value.bool b]) ∧
      ifB (!b) (Done (Value.bool false = Value.bool true))
      (ifB (n_7 != x.ft) (Done (Value.bool false = Value.bool true))
      (ifB (n_5 != x.mi) (Done (Value.bool false = Value.bool true))
      (ifB (n_6 != x.th) (Done (Value.bool false = Value.bool true))
      (ifB (decide (IntKind.i64.wrap (x.dec + (1 : Int)) > (1 : Int)))
      (Done (Value.bool false = Value.bool true))
      (ifB
      (!(IntKind.i64.wrap (x.dec + (1 : Int)) == (1 : Int)) ==
      (x.ft != (0 : Int)))
      (Done (Value.bool false = Value.bool true))
      (∃ (a' : OnX),
      ((a'.k ≤ ws.length ∧
      OnB d l.length { π := m.π, sz := N, uf := m.uf : M }
      a' a'.mi a'.th a'.ft) ∧
      x.m = a'.m ∧
      ((SV.val
      (Value.int IntKind.i64
      (IntKind.i64.wrap
      ((↑x.k : Int) + (1 : Int)))) =
      SV.val
      (Value.int IntKind.i64 (↑a'.k : Int)) ∧
      true = true) ∧
      (SV.val (Value.slice aw ws.length cw) =
      SV.val (Value.slice aw ws.length cw) ∧
      true = true) ∧
      (SV.val (Value.slice x.a x.B.length x.c) =
      SV.val
      (Value.slice a'.a a'.B.length a'.c) ∧
      true = true) ∧
      (SV.own (0 : Nat) (0 : Nat) =
      SV.own (0 : Nat) (0 : Nat) ∧
      true = true) ∧
      (SV.val (Value.slice a l.length cp) =
      SV.val (Value.slice a l.length cp) ∧
      true = true) ∧
      (SV.val (Value.int IntKind.i64 x.mi) =
      SV.val
      (Value.int IntKind.i64 a'.mi) ∧
      true = true) ∧
      (SV.val (Value.int IntKind.i64 x.th) =
      SV.val
      (Value.int IntKind.i64
      a'.th) ∧
      true = true) ∧
      (SV.val
      (Value.int IntKind.i64
      x.ft) =
      SV.val
      (Value.int IntKind.i64
      a'.ft) ∧
      true = true) ∧
      (SV.val
      (Value.int IntKind.i64
      (IntKind.i64.wrap
      (x.dec +
      (1 : Int)))) =
      SV.val
      (Value.int IntKind.i64
      (decV a'.ft)) ∧
      true = true) ∧
      True) ∧
      (some
      { ty := (24 : TypeId), cs := [Value.int IntKind.i64 d.cl, Value.int IntKind.i64 d.sq, Value.string d.ky, Value.string d.ot, Value.int IntKind.i64 d.n, Value.int IntKind.i64 d.mi, Value.int IntKind.i64 d.th, Value.int IntKind.i64 d.ft] : Bx } =
      some
      { ty := (24 : TypeId), cs := [Value.int IntKind.i64 d.cl, Value.int IntKind.i64 d.sq, Value.string d.ky, Value.string d.ot, Value.int IntKind.i64 d.n, Value.int IntKind.i64 d.mi, Value.int IntKind.i64 d.th, Value.int IntKind.i64 d.ft] : Bx } ∧
      true = true) ∧
      True) ∧
      ws.length - a'.k < ws.length - a_5.k)))))))
      (∃ (n : Int),
      ∃ (n_3 : Int),
      ∃ (s : ByteArray),
      ∃ (s_1 : ByteArray),
      ∃ (n_4 : Int),
      ∃ (n_5 : Int),
      ∃ (n_6 : Int),
      ∃ (n_7 : Int),
      ∃ (b : Bool),
      QSpec Try.prog (11 : Nat)
      [Value.slice x.a x.B.length x.c, Value.int IntKind.i64 d.cl,
      Value.int IntKind.i64 d.sq]
      x.m
      (Value.tuple
      #[Value.agg
      #[Value.int IntKind.i64 n, Value.int IntKind.i64 n_3,
      Value.string s, Value.string s_1, Value.int IntKind.i64 n_4,
      Value.int IntKind.i64 n_5, Value.int IntKind.i64 n_6,
      Value.int IntKind.i64 n_7],
      Value.bool b]) ∧
      ifB (!b) (Done (Value.bool false = Value.bool true))
      (ifB (n_7 != x.ft) (Done (Value.bool false = Value.bool true))
      (ifB (n_5 != x.mi) (Done (Value.bool false = Value.bool true))
      (ifB (n_6 != x.th) (Done (Value.bool false = Value.bool true))
      (ifB (decide (x.dec > (1 : Int)))
      (Done (Value.bool false = Value.bool true))
      (ifB (!(x.dec == (1 : Int)) == (x.ft != (0 : Int)))
      (Done (Value.bool false = Value.bool true))
      (∃ (a' : OnX),
      ((a'.k ≤ ws.length ∧
      OnB d l.length { π := m.π, sz := N, uf := m.uf : M }
      a' a'.mi a'.th a'.ft) ∧
      x.m = a'.m ∧
      ((SV.val
      (Value.int IntKind.i64
      (IntKind.i64.wrap
      ((↑x.k : Int) + (1 : Int)))) =
      SV.val
      (Value.int IntKind.i64 (↑a'.k : Int)) ∧
      true = true) ∧
      (SV.val (Value.slice aw ws.length cw) =
      SV.val (Value.slice aw ws.length cw) ∧
      true = true) ∧
      (SV.val (Value.slice x.a x.B.length x.c) =
      SV.val
      (Value.slice a'.a a'.B.length a'.c) ∧
      true = true) ∧
      (SV.own (0 : Nat) (0 : Nat) =
      SV.own (0 : Nat) (0 : Nat) ∧
      true = true) ∧
      (SV.val (Value.slice a l.length cp) =
      SV.val (Value.slice a l.length cp) ∧
      true = true) ∧
      (SV.val (Value.int IntKind.i64 x.mi) =
      SV.val
      (Value.int IntKind.i64 a'.mi) ∧
      true = true) ∧
      (SV.val (Value.int IntKind.i64 x.th) =
      SV.val
      (Value.int IntKind.i64
      a'.th) ∧
      true = true) ∧
      (SV.val
      (Value.int IntKind.i64
      x.ft) =
      SV.val
      (Value.int IntKind.i64
      a'.ft) ∧
      true = true) ∧
      (SV.val
      (Value.int IntKind.i64
      x.dec) =
      SV.val
      (Value.int IntKind.i64
      (decV a'.ft)) ∧
      true = true) ∧
      True) ∧
      (some
      { ty := (24 : TypeId), cs := [Value.int IntKind.i64 d.cl, Value.int IntKind.i64 d.sq, Value.string d.ky, Value.string d.ot, Value.int IntKind.i64 d.n, Value.int IntKind.i64 d.mi, Value.int IntKind.i64 d.th, Value.int IntKind.i64 d.ft] : Bx } =
      some
      { ty := (24 : TypeId), cs := [Value.int IntKind.i64 d.cl, Value.int IntKind.i64 d.sq, Value.string d.ky, Value.string d.ot, Value.int IntKind.i64 d.n, Value.int IntKind.i64 d.mi, Value.int IntKind.i64 d.th, Value.int IntKind.i64 d.ft] : Bx } ∧
      true = true) ∧
      True) ∧
      ws.length - a'.k < ws.length - a_5.k))))))))
      (∃ (S' : Nat → Prop),
      (∀ (b : Nat), S' b → a_5.m.uf b ∧ (N ≤ b ∨ False)) ∧
      ∀ (n : Nat),
      a_5.m.sz ≤ n →
      SpecW Try.prog (22 : Nat)
      [Value.slice a_5.a a_5.B.length a_5.c, Value.int IntKind.i64 d.cl, Value.int IntKind.i64 d.sq]
      { π := a_5.m.π, sz := n, uf := a_5.m.uf : M } S' fun (v : Value) (m' : M) =>
      ∃ (a : Option Addr),
      ∃ (n : Nat),
      ∃ (c : Nat),
      ∃ (n_3 : Int),
      v = Value.tuple #[Value.slice a n c, Value.int IntKind.i64 n_3] ∧
      ifB ((n_3 == (0 : Int)) == (a_5.ft != (0 : Int)))
      (Done
      (Value.bool ((↑a_5.B.length : Int) == IntKind.i64.wrap ((↑l.length : Int) + (1 : Int))) =
      Value.bool true))
      (Done (Value.bool false = Value.bool true))))) ∧
      True) ∧
      True)) (by kernel_rfl) ?_
  have hh : l.length ≤ 9223372036854775807 := by omega
  refine ⟨rfl, _, awake_q _, ifB_false ⟨rfl, ⟨_, noS, fun N1 hN1 => (own_r a cp l hn _ (h.sz (by omega))).monoW fun v1 m1 ag1 ⟨b1, c1, e1, r1⟩ => ⟨_, _, _, e1, MLe.ofAgree hN1 ag1, ⟨_, noS, fun N2 hN2 => (dopen_s _ _ l d hh (fun e => by simp at e) _ (r1.sz hN2)).monoW fun v2 m2 ag2 ⟨a2, c2, e2, r2⟩ => ⟨_, _, _, _, e2, ifB_intro (fun h1 => ⟨?_⟩) (fun h1 => ?_)⟩⟩, trivial⟩⟩, trivial⟩⟩
  · have h1 : (openD l d).2 ≠ 0 := by simpa using h1
    rw [open_off h1]; rfl
  have h1 : (openD l d).2 = 0 := by simpa using h1
  obtain ⟨o1, o2, o3⟩ := open_on h1
  have A1 : Agree N { m with sz := N } m2 := by
    have g1 : Agree N { m with sz := N } m1 := (Agree.szl (B := N) (m := { m with sz := N }) hN1).trans (ag1.mono hN1)
    have := ag1.2.2
    exact g1.trans ((Agree.szl (B := N) (m := m1) hN2).trans (ag2.mono (by simp only at *; omega)))
  have r3 := r2.row
  rw [o1] at r3 ⊢
  refine ⟨⟨⟨0, 0, 0, 0, 0, false, ⟨false, false, false⟩, l ++ [d], a2, c2, m2⟩, ⟨Nat.zero_le _, o2, by simp, o3, r3, A1⟩, rfl, by simp [decV], ⟨rfl, rfl⟩, trivial⟩, fun y ⟨hk, Y⟩ => ifB_intro (fun hb => ?_) (fun hb => ?_)⟩
  · have hk2 : y.k < ws.length := by simpa using hb
    obtain ⟨b, o, rfl, hc⟩ := ((hws.sz hN).agree Y.ag).cells (by rw [wd_len]; omega)
    have hBl : y.B.length ≤ 9223372036854775807 := by rw [Y.len]; omega
    refine ⟨b, o, rfl, by omega, ws[y.k].gv, ws[y.k].mi, ws[y.k].is, by simpa using wd_at hc hk2, ifB_intro (fun g => ?_) (fun g => ?_), fun z ⟨⟨Z1, Z2, Z3, Z⟩, Z0⟩ => ?_⟩
    · obtain ⟨G1, G2, G3, G4⟩ := give_law Y.right Y.fnd
      rw [given_dW] at G3
      obtain ⟨D1, D2⟩ := dec_give y.ft
      refine ⟨_, noS, fun N3 hN3 => (give_s y.a y.c y.B d.cl d.sq hBl (row_none Y.row) _ (Y.row.sz hN3)).monoW fun v3 m3 ag3 ⟨a3, c3, e3, r3⟩ => ⟨_, _, _, _, _, e3, ?_⟩⟩
      rw [G4]
      refine ifB_intro (fun q => ?_) (fun q => ?_)
      · have q : y.ft = 0 := by simpa using q
        exact ⟨⟨y.k, y.mi, y.th, 2, decV y.ft, decide (y.ft = 0), y.wd, _, a3, c3, m3⟩, ⟨⟨hk2, by rw [D1, if_pos q], D2, ⟨G1, G2.trans Y.len, by rw [G3, if_pos q], r3.row, Y.to hN3 ag3⟩⟩, rfl, (by simp [dW]; rfl), ⟨rfl, rfl⟩, trivial⟩, rfl⟩
      · have q : ¬ y.ft = 0 := by simpa using q
        exact ⟨⟨y.k, y.mi, y.th, y.ft, decV y.ft, decide (y.ft = 0), y.wd, _, a3, c3, m3⟩, ⟨⟨hk2, by rw [D1, if_neg q], D2, ⟨G1, G2.trans Y.len, by rw [G3, if_neg q], r3.row, Y.to hN3 ag3⟩⟩, rfl, (by simp [dW]; rfl), ⟨rfl, rfl⟩, trivial⟩, rfl⟩
    · obtain ⟨S1, S2, S3, S4⟩ := say_law Y.right Y.fnd ws[y.k].mi ws[y.k].is
      have hm := (call_law Y.right Y.fnd).2.1
      refine ⟨_, noS, fun N3 hN3 => (saying_s y.a y.c y.B d.cl d.sq ws[y.k].mi ws[y.k].is hBl (row_none Y.row) _ (Y.row.sz hN3)).monoW fun v3 m3 ag3 ⟨a3, c3, e3, r3⟩ => ⟨_, _, _, _, _, e3, ?_, fun x ⟨⟨X1, X2, X3, X⟩, X0⟩ => ⟨?_, fun x ⟨⟨X1, X2, X3, X⟩, X0⟩ => ⟨?_, fun x ⟨⟨X1, X2, X3, X⟩, X0⟩ => ?_⟩⟩⟩⟩
      · let w : OnX := ⟨y.k, y.mi, y.th, y.ft, decV y.ft, false, ws[y.k], y.B, y.a, y.c, y.m⟩
        have hs := said_dW d w hm
        have S3 : (sayD y.B d.cl d.sq ws[y.k].mi ws[y.k].is).1.find? (isD d.cl d.sq) = some (dW d w.mi2 w.th2 w.ft2) := by rw [S3]; exact congrArg some hs
        have S4 : (sayD y.B d.cl d.sq ws[y.k].mi ws[y.k].is).2 = (decide (y.ft = 0 ∧ w.ft2 ≠ 0), 0) := by
          rw [S4]; rw [show saidD (dW d y.mi y.th y.ft) ws[y.k].mi ws[y.k].is = _ from hs]; rfl
        rw [S4]
        refine ifB_intro (fun q => ?_) (fun q => ?_)
        · exact ⟨⟨y.k, y.mi, y.th, y.ft, decV y.ft, decide (y.ft = 0 ∧ w.ft2 ≠ 0), ws[y.k], _, a3, c3, m3⟩, ⟨⟨hk2, rfl, rfl, ⟨S1, S2.trans Y.len, S3, r3.row, Y.to hN3 ag3⟩⟩, rfl, by simp [wordD, q], ⟨rfl, rfl⟩, ⟨rfl, rfl⟩, trivial⟩, rfl⟩
        · exact ⟨⟨y.k, y.mi, y.th, y.ft, decV y.ft, decide (y.ft = 0 ∧ w.ft2 ≠ 0), ws[y.k], _, a3, c3, m3⟩, ⟨⟨hk2, rfl, rfl, ⟨S1, S2.trans Y.len, S3, r3.row, Y.to hN3 ag3⟩⟩, rfl, by simp [wordD, q], ⟨rfl, rfl⟩, ⟨rfl, rfl⟩, trivial⟩, rfl⟩
      · refine ifB_intro (fun q1 => ifB_intro (fun q2 => ifB_intro (fun q3 => ?_) (fun q3 => ?_)) (fun q2 => ?_)) (fun q1 => ?_)
        · have e : wordD x.wd.is = x.mi2 := by simp at q1 q3; simp [OnX.mi2, q1, q2, q3]
          exact ⟨x, ⟨⟨X1, X2, X3, X⟩, rfl, (by simp; exact e), ⟨rfl, rfl⟩, ⟨rfl, rfl⟩, trivial⟩, X0⟩
        · have e : x.mi = x.mi2 := by simp at q3; simp [OnX.mi2, q3]
          exact ⟨x, ⟨⟨X1, X2, X3, X⟩, rfl, (by simp; exact e), ⟨rfl, rfl⟩, ⟨rfl, rfl⟩, trivial⟩, X0⟩
        · have e : x.mi = x.mi2 := by simp [OnX.mi2, q2]
          exact ⟨x, ⟨⟨X1, X2, X3, X⟩, rfl, (by simp; exact e), ⟨rfl, rfl⟩, ⟨rfl, rfl⟩, trivial⟩, X0⟩
        · have e : x.mi = x.mi2 := by simp at q1; simp [OnX.mi2, q1]
          exact ⟨x, ⟨⟨X1, X2, X3, X⟩, rfl, (by simp; exact e), ⟨rfl, rfl⟩, ⟨rfl, rfl⟩, trivial⟩, X0⟩
      · refine ifB_intro (fun q1 => ifB_intro (fun q2 => ifB_intro (fun q3 => ?_) (fun q3 => ?_)) (fun q2 => ?_)) (fun q1 => ?_)
        · have e : wordD x.wd.is = x.th2 := by simp at q1 q2 q3; simp [OnX.th2, q1, q2, q3]
          exact ⟨x, ⟨⟨X1, X2, X3, X⟩, rfl, (by simp; exact e), ⟨rfl, rfl⟩, trivial⟩, X0⟩
        · have e : x.th = x.th2 := by simp at q3; simp [OnX.th2, q3]
          exact ⟨x, ⟨⟨X1, X2, X3, X⟩, rfl, (by simp; exact e), ⟨rfl, rfl⟩, trivial⟩, X0⟩
        · have e : x.th = x.th2 := by simp at q2; simp [OnX.th2, q2]
          exact ⟨x, ⟨⟨X1, X2, X3, X⟩, rfl, (by simp; exact e), ⟨rfl, rfl⟩, trivial⟩, X0⟩
        · have e : x.th = x.th2 := by simp at q1; simp [OnX.th2, q1]
          exact ⟨x, ⟨⟨X1, X2, X3, X⟩, rfl, (by simp; exact e), ⟨rfl, rfl⟩, trivial⟩, X0⟩
      · obtain ⟨D1, D2⟩ := dec_say x X2 X3
        have fits : ∀ f : Int, f = x.ft2 → ∃ x1 : OnX, x1 = ⟨x.k, x.mi2, x.th2, f, x.dec, x.yes, x.wd, x.B, x.a, x.c, x.m⟩ ∧ x1.k < ws.length ∧ x1.dec + (if x1.yes = true then 1 else 0) = decV x1.ft ∧ 0 ≤ x1.dec ∧ OnB d l.length { m with sz := N } x1 x1.mi x1.th x1.ft := fun f e => by
          subst e
          exact ⟨_, rfl, X1, D1, D2, X.right, X.len, X.fnd, X.row, X.ag⟩
        have e0 : x.ft = 0 → x.ft2 = fateV x.mi2 x.th2 := fun e => by simp [OnX.ft2, e]
        refine ifB_intro (fun q1 => ?_) (fun q1 => ifB_intro (fun q2 => ?_) (fun q2 => ifB_intro (fun q3 => ?_) (fun q3 => ifB_intro (fun q4 => ifB_intro (fun q5 => ?_) (fun q5 => ?_)) (fun q4 => ?_))))
        · obtain ⟨x1, rfl, g1, g2, g3, g4⟩ := fits x.ft (by simp at q1; simp [OnX.ft2, q1])
          exact ⟨_, ⟨⟨g1, g2, g3, g4⟩, rfl, (by simp), ⟨rfl, rfl⟩, trivial⟩, X0⟩
        all_goals
          have q1 : x.ft = 0 := by simpa using q1
        · obtain ⟨x1, rfl, g1, g2, g3, g4⟩ := fits 2 (by simp at q2; rw [e0 q1]; simp [fateV, q2])
          exact ⟨_, ⟨⟨g1, g2, g3, g4⟩, rfl, (by simp), ⟨rfl, rfl⟩, trivial⟩, X0⟩
        · obtain ⟨x1, rfl, g1, g2, g3, g4⟩ := fits 2 (by simp at q3; rw [e0 q1]; simp [fateV, q3])
          exact ⟨_, ⟨⟨g1, g2, g3, g4⟩, rfl, (by simp), ⟨rfl, rfl⟩, trivial⟩, X0⟩
        · obtain ⟨x1, rfl, g1, g2, g3, g4⟩ := fits 1 (by simp at q4 q5; rw [e0 q1]; simp [fateV, q4, q5])
          exact ⟨_, ⟨⟨g1, g2, g3, g4⟩, rfl, (by simp), ⟨rfl, rfl⟩, trivial⟩, X0⟩
        · obtain ⟨x1, rfl, g1, g2, g3, g4⟩ := fits x.ft (by simp at q2 q3 q5; rw [e0 q1, q1]; simp [fateV, q2, q3, q5])
          exact ⟨_, ⟨⟨g1, g2, g3, g4⟩, rfl, (by simp), ⟨rfl, rfl⟩, trivial⟩, X0⟩
        · obtain ⟨x1, rfl, g1, g2, g3, g4⟩ := fits x.ft (by simp at q2 q3 q4; rw [e0 q1, q1]; simp [fateV, q2, q3, q4])
          exact ⟨_, ⟨⟨g1, g2, g3, g4⟩, rfl, (by simp), ⟨rfl, rfl⟩, trivial⟩, X0⟩
    · have hzk : z.k = y.k := by simp at Z0; omega
      have hzl : z.B.length ≤ 9223372036854775807 := by rw [Z.len]; omega
      have hfd := find_on Z.right Z.fnd
      have w1 : IntKind.i64.wrap ((z.k : Int) + 1) = ((z.k + 1 : Nat) : Int) := by simp [IntKind.wrap_i64]; omega
      have hq := find_q z.a z.c z.B d.cl d.sq hzl z.m Z.row
      rw [hfd] at hq
      refine ifB_intro (fun q => ⟨_, _, _, _, _, _, _, _, _, hq, ?_⟩) (fun q => ⟨_, _, _, _, _, _, _, _, _, hq, ?_⟩)
      · have hd : z.dec = 0 ∧ z.ft ≠ 0 := by
          rw [q] at Z2
          by_cases h0 : z.ft = 0
          · simp [decV, h0] at Z2; omega
          · simp [decV, h0] at Z2; exact ⟨by omega, h0⟩
        have w2 : IntKind.i64.wrap (z.dec + 1) = 1 := by rw [hd.1]; rfl
        rw [w2, w1]
        have h0 : (z.ft != 0) = true := by simpa using hd.2
        rw [h0]
        simp only [dW, bne_self_eq_false, Bool.not_true]
        refine ifB_false (ifB_false (ifB_false (ifB_false (ifB_false (ifB_false ⟨⟨z.k + 1, z.mi, z.th, z.ft, 0, false, z.wd, z.B, z.a, z.c, z.m⟩, ⟨⟨Z1, Z.right, Z.len, Z.fnd, Z.row, Z.ag⟩, rfl, ?_, (by simp)⟩, by simp only; omega⟩)))))
        simp [decV, hd.2]
      · have hd : z.dec = decV z.ft := by rw [q] at Z2; simpa using Z2
        rw [hd, w1]
        have h0 : (decide (decV z.ft > 1)) = false := by unfold decV; split <;> simp
        have h1 : (decV z.ft == 1) = (z.ft != 0) := by by_cases h : z.ft = 0 <;> simp [decV, h]
        rw [h0, h1]
        simp only [dW, bne_self_eq_false, Bool.not_true, beq_self_eq_true]
        refine ifB_false (ifB_false (ifB_false (ifB_false (ifB_false (ifB_false ⟨⟨z.k + 1, z.mi, z.th, z.ft, 0, false, z.wd, z.B, z.a, z.c, z.m⟩, ⟨⟨Z1, Z.right, Z.len, Z.fnd, Z.row, Z.ag⟩, rfl, ?_, (by simp)⟩, by simp only; omega⟩)))))
        simp
  · have hBl : y.B.length ≤ 9223372036854775807 := by rw [Y.len]; omega
    obtain ⟨h1, -, -, k, hk3, h4, h5, h6⟩ := call_law Y.right Y.fnd
    have hf : (forgetD y.B d.cl d.sq).2 = if y.ft = 0 then 60 else 0 := by
      simp only [forgetD, h1, h6]
      by_cases h : y.ft = 0 <;> simp [dW, h]
    refine ⟨_, noS, fun N3 hN3 => (forget_s y.a y.c y.B d.cl d.sq hBl (row_none Y.row) _ (Y.row.sz hN3)).monoW fun v3 m3 ag3 ⟨a3, c3, e3, r3⟩ => ⟨_, _, _, _, e3, ?_⟩⟩
    rw [hf, Y.len]
    have w1 : IntKind.i64.wrap ((l.length : Int) + 1) = ((l.length + 1 : Nat) : Int) := by simp [IntKind.wrap_i64]; omega
    rw [w1]
    by_cases h : y.ft = 0
    · rw [if_pos h, h]; exact ifB_true ⟨by simp⟩
    · rw [if_neg h, show (y.ft != 0) = true by simpa using h]; exact ifB_true ⟨by simp⟩

end Go.Proofs.Ytoilbbfidnhekaa
set_option linter.unusedVariables false
set_option linter.unusedSimpArgs false
namespace Go.Proofs.Ytoilbbfidnhekaa
open Go.Vc Go.RowKit Go.ChangeShapes Go.WideShapes Go.ChangeAt
set_option maxRecDepth 100000

theorem cells_wd : Try.prog.cellsOf 42 = 3 := by kernel_rfl

theorem cells_bool1 : Try.prog.cellsOf 4 = 1 := by kernel_rfl

theorem rd_wd {m : M} {N d : Nat} {cs : List Value} (h : Rd Try.prog m N (d + 2) 42 cs) : ∃ o : Wd, cs = encW o ∧ True := by
  simp only [Rd, Try.underlying42, Try.underlying4, fieldsD, cells_wd, cells_bool1] at h
  obtain ⟨hl, ⟨k1, e1⟩, ⟨k2, e2⟩, ⟨k3, e3⟩, -⟩ := h
  obtain ⟨c1, c2, c3, rfl⟩ : ∃ c1 c2 c3, cs = [c1, c2, c3] := by
    match cs, hl with
    | [c1, c2, c3], _ => exact ⟨_, _, _, rfl⟩
  simp at e1 e2 e3
  subst e1 e2 e3
  exact ⟨⟨k1, k2, k3⟩, rfl, trivial⟩

theorem open_words {H : Type} {enc : TypeId × Value → H} {W : World} {r : Reach} {b0 : Nat} {v : Value} {d : DataW H} {p : List MemPlace} {N : Nat} {Bd : DataW H → Prop} (B : Bound N Bd) (hN : N ≤ 9223372036854775807) (hv : Value.okWide Try.prog W r b0 40 v) (h : DataW.Trod enc Try.prog W 0 (fun _ => true) true 40 v d p) (hb : Bd d) :
    ∃ (a : Option Addr) (c : Nat) (z : List Wd), v = .slice a z.length c ∧ z.length ≤ N ∧ Row (M.all W) a (wds z) := by
  obtain ⟨a, len, cap, rfl⟩ := okWide_slice Try.underlying40 hv
  obtain ⟨fuel, hf⟩ := h
  have hr := rd_of_trod B 3 fuel 40 _ _ hf hb
  rw [Rd] at hr
  simp only [Try.underlying40] at hr
  obtain ⟨a', cap', rows, hcs, h1, h2, h3, h4, h5⟩ := hr
  obtain ⟨z, hz, he, -⟩ := rows_list (α := Wd) (e := encW) (p := fun _ => True) rows fun r hr => rd_wd (d := 0) (h4 r hr).2
  simp [Value.cells] at hcs
  obtain ⟨rfl, rfl, rfl⟩ := hcs
  rw [he] at h5
  exact ⟨a, cap, z, by rw [hz], by omega, h5⟩

end Go.Proofs.Ytoilbbfidnhekaa
set_option linter.unusedVariables false
set_option linter.unusedSimpArgs false
namespace Go.Proofs.Ytoilbbfidnhekaa
open Go.Vc Go.RowKit
set_option maxRecDepth 100000

theorem rfind_q (a : Option Addr) (cp : Nat) (l : List Dl) (c s : Int) (hn : l.length ≤ 9223372036854775807) (m : M) (h : Row m a (dls l)) : QSpec Try.prog 12 [.slice a l.length cp, I c, I s] m (.tuple #[dlv (findD l c s).1, .bool (findD l c s).2]) := by
  refine QSpec.of_vc Try.func12 (ann := fun _ => noAnn) fun n hn' => ?_
  refine vc_by (X :=
      true = true ∧
      ∃ (n_1 : Int),
      QSpec Try.prog (42 : Nat) [Value.slice a l.length cp, Value.int IntKind.i64 c, Value.int IntKind.i64 s] { π := m.π, sz := n, uf := m.uf : M } (Value.int IntKind.i64 n_1) ∧
      ∃ (b : Bool),
      QSpec Try.prog (10 : Nat) [Value.slice a l.length cp] { π := m.π, sz := n, uf := m.uf : M } (Value.bool b) ∧
      ifB (!b)
      (Done
      (Value.tuple
      #[Value.agg
      #[Value.int IntKind.i64 (0 : Int), Value.int IntKind.i64 (0 : Int), Value.string { data := #[] : ByteArray }, Value.string { data := #[] : ByteArray },
      Value.int IntKind.i64 (0 : Int), Value.int IntKind.i64 (0 : Int), Value.int IntKind.i64 (0 : Int), Value.int IntKind.i64 (0 : Int)],
      Value.bool false] =
      Value.tuple
      #[Value.agg
      #[Value.int IntKind.i64 (findD l c s).fst.cl, Value.int IntKind.i64 (findD l c s).fst.sq, Value.string (findD l c s).fst.ky,
      Value.string (findD l c s).fst.ot, Value.int IntKind.i64 (findD l c s).fst.n, Value.int IntKind.i64 (findD l c s).fst.mi,
      Value.int IntKind.i64 (findD l c s).fst.th, Value.int IntKind.i64 (findD l c s).fst.ft],
      Value.bool (findD l c s).snd]))
      (ifB (decide (n_1 < (0 : Int)))
      (Done
      (Value.tuple
      #[Value.agg
      #[Value.int IntKind.i64 (0 : Int), Value.int IntKind.i64 (0 : Int), Value.string { data := #[] : ByteArray }, Value.string { data := #[] : ByteArray },
      Value.int IntKind.i64 (0 : Int), Value.int IntKind.i64 (0 : Int), Value.int IntKind.i64 (0 : Int), Value.int IntKind.i64 (0 : Int)],
      Value.bool false] =
      Value.tuple
      #[Value.agg
      #[Value.int IntKind.i64 (findD l c s).fst.cl, Value.int IntKind.i64 (findD l c s).fst.sq, Value.string (findD l c s).fst.ky,
      Value.string (findD l c s).fst.ot, Value.int IntKind.i64 (findD l c s).fst.n, Value.int IntKind.i64 (findD l c s).fst.mi,
      Value.int IntKind.i64 (findD l c s).fst.th, Value.int IntKind.i64 (findD l c s).fst.ft],
      Value.bool (findD l c s).snd]))
      (∃ (b : Nat),
      ∃ (off : Nat),
      a = some { block := b, off := off : Addr } ∧
      ((0 : Int) ≤ n_1 ∧ n_1 < (↑l.length : Int)) ∧
      ∃ (n_2 : Int),
      ∃ (n_3 : Int),
      ∃ (s_1 : ByteArray),
      ∃ (s_2 : ByteArray),
      ∃ (n_4 : Int),
      ∃ (n_5 : Int),
      ∃ (n_6 : Int),
      ∃ (n_7 : Int),
      CellsAt { π := m.π, sz := n, uf := m.uf : M } b (off + n_1.toNat * (8 : Nat))
      [Value.int IntKind.i64 n_2, Value.int IntKind.i64 n_3, Value.string s_1, Value.string s_2, Value.int IntKind.i64 n_4,
      Value.int IntKind.i64 n_5, Value.int IntKind.i64 n_6, Value.int IntKind.i64 n_7] ∧
      Done
      (Value.tuple
      #[Value.agg
      #[Value.int IntKind.i64 n_2, Value.int IntKind.i64 n_3, Value.string s_1, Value.string s_2, Value.int IntKind.i64 n_4,
      Value.int IntKind.i64 n_5, Value.int IntKind.i64 n_6, Value.int IntKind.i64 n_7],
      Value.bool true] =
      Value.tuple
      #[Value.agg
      #[Value.int IntKind.i64 (findD l c s).fst.cl, Value.int IntKind.i64 (findD l c s).fst.sq, Value.string (findD l c s).fst.ky,
      Value.string (findD l c s).fst.ot, Value.int IntKind.i64 (findD l c s).fst.n, Value.int IntKind.i64 (findD l c s).fst.mi,
      Value.int IntKind.i64 (findD l c s).fst.th, Value.int IntKind.i64 (findD l c s).fst.ft],
      Value.bool (findD l c s).snd])))) (by kernel_rfl) ?_
  have h' := h.sz hn'
  refine ⟨rfl, _, rplace_q a cp l c s hn _ h', _, rright_q a cp l hn _ h', ?_⟩
  cases hb : booksB l
  · exact ifB_true ⟨by simp [findD, hb, d0]; rfl⟩
  refine ifB_false ?_
  rcases place_cases l c s with ⟨e, -⟩ | ⟨k, hk, e, -, -⟩
  · rw [e]
    exact ifB_true ⟨by simp [findD, e, d0]; rfl⟩
  · rw [e]
    refine ifB_intro (fun hb => by simp at hb; omega) (fun _ => ?_)
    obtain ⟨b, o, rfl, hc⟩ := h'.cells (by rw [dl_len]; omega)
    refine ⟨b, o, rfl, by omega, _, _, _, _, _, _, _, _, by simpa using dl_at hc hk, ⟨?_⟩⟩
    simp [findD, hb, e, List.getElem?_eq_getElem hk]

/-- append([]T(nil), l...) -/
theorem copy_new (l : List Dl) (a : Option Addr) (hn : l.length ≤ 1759218604410) (m : M) (n : Nat) (hm : n ≤ m.sz) (h : Row m a (dls l)) :
    AppPre n (fun _ => False) m 8 80 none 0 0 a l.length [] (dls l) ∧ ∀ a' c' m', AppPost Try.prog 24 m 8 none 0 0 l.length [] (dls l) a' c' m' → NewR n (fun _ => False) m' 8 a' (0 + l.length) c' (dls l) ∧ Agree n m m' ∧ Agree m.sz m m' := by
  have h0 : ∀ B, NewR B (fun _ => False) m 8 none 0 0 [] := fun B => .nil _
  refine ⟨(h0 n).appPre h (dl_len l) (dl_one l) (by omega), fun a' c' m' hp => ⟨?_, (h0 n).appAgree hp (dl_len l) hm, (h0 m.sz).appAgree hp (dl_len l) (Nat.le_refl _)⟩⟩
  have := (h0 n).append hp (dl_len l) dl_zr hm
  simpa using this

theorem ropen_s (a : Option Addr) (cp : Nat) (l : List Dl) (d : Dl) (hn : l.length ≤ 1759218604410) (m : M) (h : Row m a (dls l)) : Vc.Spec Try.prog 14 [.slice a l.length cp, dlv d] m (LsR m (openD l d)) := by
  refine Vc.Spec.of_vc Try.func14 (ann := noAnn) ?_
  refine vc_by (X :=
      true = true ∧
      ∃ (b : Bool),
      QSpec Try.prog (10 : Nat) [Value.slice a l.length cp] m (Value.bool b) ∧
      ifB (!b) (Done (LsR m (openD l d) (Value.tuple #[Value.slice none (0 : Nat) (0 : Nat), Value.int IntKind.i64 (21 : Int)]) m))
      (∃ (b : Bool),
      QSpec Try.prog (41 : Nat)
      [Value.agg
      #[Value.int IntKind.i64 d.cl, Value.int IntKind.i64 d.sq, Value.string d.ky, Value.string d.ot, Value.int IntKind.i64 d.n, Value.int IntKind.i64 d.mi,
      Value.int IntKind.i64 d.th, Value.int IntKind.i64 d.ft]]
      m (Value.bool b) ∧
      ifB (!b) (Done (LsR m (openD l d) (Value.tuple #[Value.slice none (0 : Nat) (0 : Nat), Value.int IntKind.i64 (1 : Int)]) m))
      (ifB (d.mi != (0 : Int)) (Done (LsR m (openD l d) (Value.tuple #[Value.slice none (0 : Nat) (0 : Nat), Value.int IntKind.i64 (1 : Int)]) m))
      (ifB (d.th != (0 : Int)) (Done (LsR m (openD l d) (Value.tuple #[Value.slice none (0 : Nat) (0 : Nat), Value.int IntKind.i64 (1 : Int)]) m))
      (ifB (d.ft != (0 : Int)) (Done (LsR m (openD l d) (Value.tuple #[Value.slice none (0 : Nat) (0 : Nat), Value.int IntKind.i64 (1 : Int)]) m))
      (∃ (n : Int),
      QSpec Try.prog (42 : Nat) [Value.slice a l.length cp, Value.int IntKind.i64 d.cl, Value.int IntKind.i64 d.sq] m (Value.int IntKind.i64 n) ∧
      ifB (decide (n ≥ (0 : Int))) (Done (LsR m (openD l d) (Value.tuple #[Value.slice none (0 : Nat) (0 : Nat), Value.int IntKind.i64 (171 : Int)]) m))
      (ifB (decide ((↑l.length : Int) ≥ (4 : Int)))
      (Done (LsR m (openD l d) (Value.tuple #[Value.slice none (0 : Nat) (0 : Nat), Value.int IntKind.i64 (3 : Int)]) m))
      (true = true ∧
      (∃ (old : List Value),
      ∃ (src : List Value),
      AppPre m.sz (fun (x : Nat) => False) m (8 : Nat) (80 : Nat) none (0 : Nat) (0 : Nat) a l.length old src ∧
      ∀ (a' : Option Addr) (c' : Nat) (m' : M),
      AppPost Try.prog (24 : Nat) m (8 : Nat) none (0 : Nat) (0 : Nat) l.length old src a' c' m' →
      MLe m m' ∧
      (true = true ∧
      ∀ (b : Nat),
      m'.sz ≤ b →
      MLe m'
      (m'.newBlock b
      [Value.int IntKind.i64 d.cl, Value.int IntKind.i64 d.sq, Value.string d.ky, Value.string d.ot, Value.int IntKind.i64 d.n,
      Value.int IntKind.i64 d.mi, Value.int IntKind.i64 d.th, Value.int IntKind.i64 d.ft]) ∧
      (∃ (old : List Value),
      ∃ (src : List Value),
      AppPre m.sz (fun (x : Nat) => False)
      (m'.newBlock b
      [Value.int IntKind.i64 d.cl, Value.int IntKind.i64 d.sq, Value.string d.ky, Value.string d.ot,
      Value.int IntKind.i64 d.n, Value.int IntKind.i64 d.mi, Value.int IntKind.i64 d.th, Value.int IntKind.i64 d.ft])
      (8 : Nat) (80 : Nat) a' ((0 : Nat) + l.length) c' (some { block := b, off := (0 : Nat) : Addr }) (1 : Nat) old src ∧
      ∀ (a'_1 : Option Addr) (c'_1 : Nat) (m'_1 : M),
      AppPost Try.prog (24 : Nat)
      (m'.newBlock b
      [Value.int IntKind.i64 d.cl, Value.int IntKind.i64 d.sq, Value.string d.ky, Value.string d.ot,
      Value.int IntKind.i64 d.n, Value.int IntKind.i64 d.mi, Value.int IntKind.i64 d.th,
      Value.int IntKind.i64 d.ft])
      (8 : Nat) a' ((0 : Nat) + l.length) c' (1 : Nat) old src a'_1 c'_1 m'_1 →
      Done
      (LsR m (openD l d)
      (Value.tuple #[Value.slice a'_1 ((0 : Nat) + l.length + (1 : Nat)) c'_1, Value.int IntKind.i64 (0 : Int)])
      m'_1)) ∧
      True) ∧
      True) ∧
      (true = true ∧
      ∀ (b : Nat),
      m.sz ≤ b →
      MLe m
      (m.newBlock b
      [Value.int IntKind.i64 d.cl, Value.int IntKind.i64 d.sq, Value.string d.ky, Value.string d.ot, Value.int IntKind.i64 d.n,
      Value.int IntKind.i64 d.mi, Value.int IntKind.i64 d.th, Value.int IntKind.i64 d.ft]) ∧
      (∃ (old : List Value),
      ∃ (src : List Value),
      AppPre m.sz (fun (x : Nat) => False)
      (m.newBlock b
      [Value.int IntKind.i64 d.cl, Value.int IntKind.i64 d.sq, Value.string d.ky, Value.string d.ot, Value.int IntKind.i64 d.n,
      Value.int IntKind.i64 d.mi, Value.int IntKind.i64 d.th, Value.int IntKind.i64 d.ft])
      (8 : Nat) (80 : Nat) none (0 : Nat) (0 : Nat) a l.length old src ∧
      ∀ (a' : Option Addr) (c' : Nat) (m' : M),
      AppPost Try.prog (24 : Nat)
      (m.newBlock b
      [Value.int IntKind.i64 d.cl, Value.int IntKind.i64 d.sq, Value.string d.ky, Value.string d.ot, Value.int IntKind.i64 d.n,
      Value.int IntKind.i64 d.mi, Value.int IntKind.i64 d.th, Value.int IntKind.i64 d.ft])
      (8 : Nat) none (0 : Nat) (0 : Nat) l.length old src a' c' m' →
      MLe
      (m.newBlock b
      [Value.int IntKind.i64 d.cl, Value.int IntKind.i64 d.sq, Value.string d.ky, Value.string d.ot,
      Value.int IntKind.i64 d.n, Value.int IntKind.i64 d.mi, Value.int IntKind.i64 d.th, Value.int IntKind.i64 d.ft])
      m' ∧
      (∃ (old : List Value),
      ∃ (src : List Value),
      AppPre m.sz (fun (x : Nat) => False) m' (8 : Nat) (80 : Nat) a' ((0 : Nat) + l.length) c'
      (some { block := b, off := (0 : Nat) : Addr }) (1 : Nat) old src ∧
      ∀ (a'_1 : Option Addr) (c'_1 : Nat) (m'_1 : M),
      AppPost Try.prog (24 : Nat) m' (8 : Nat) a' ((0 : Nat) + l.length) c' (1 : Nat) old src a'_1 c'_1 m'_1 →
      Done
      (LsR m (openD l d)
      (Value.tuple #[Value.slice a'_1 ((0 : Nat) + l.length + (1 : Nat)) c'_1, Value.int IntKind.i64 (0 : Int)])
      m'_1)) ∧
      True) ∧
      True) ∧
      True)))))))) (by kernel_rfl) ?_
  have hh : l.length ≤ 9223372036854775807 := by omega
  refine ⟨rfl, _, rright_q a cp l hh _ h, ?_⟩
  cases hb : booksB l
  · exact ifB_true (ls_fail (by simp [openD, hb]))
  refine ifB_false ⟨_, rmay_q d _, ifB_intro (fun h1 => ls_fail ?_) (fun h1 => ifB_intro (fun h2 => ls_fail ?_) (fun h2 => ifB_intro (fun h3 => ls_fail ?_) (fun h3 => ifB_intro (fun h5 => ls_fail ?_) (fun h5 => ⟨_, rplace_q a cp l d.cl d.sq hh _ h, ifB_intro (fun h6 => ls_fail ?_) (fun h6 => ifB_intro (fun h7 => ls_fail ?_) (fun h7 => ?_))⟩))))⟩
  · simp at h1; simp [openD, hb, newD, h1]
  · simp at h2; simp [openD, hb, newD, h2]
  · simp at h3; simp [openD, hb, newD, h3]
  · simp at h5; simp [openD, hb, newD, h5]
  all_goals
    have hnw : newD d = true := by simp at h1 h2 h3 h5; simp [newD, h1, h2, h3, h5]
  · simp at h6; simp [openD, hb, hnw, h6]
  · have h6 : ¬ 0 ≤ placeD l d.cl d.sq := by simpa using h6
    have h7 : 4 ≤ l.length := by simp at h7; omega
    simp [openD, hb, hnw, h6, h7]
  have h6 : ¬ 0 ≤ placeD l d.cl d.sq := by simpa using h6
  have h7 : ¬ 4 ≤ l.length := by simp at h7; omega
  have hres : openD l d = (l ++ [d], 0) := by simp [openD, hb, hnw, h6, h7]
  have efl : dls (l ++ [d]) = dls l ++ encDl d := by simp [dls]
  have fin : ∀ (m1 : M) (b : Nat) (a1 : Option Addr) (c1 : Nat), m.sz ≤ m1.sz → CellsAt m1 b 0 (encDl d) → b < m1.sz → NewR m.sz (fun _ => False) m1 8 a1 (0 + l.length) c1 (dls l) →
      ∃ old src, AppPre m.sz (fun _ => False) m1 8 80 a1 (0 + l.length) c1 (some ⟨b, 0, none⟩) 1 old src ∧ ∀ a' c' m', AppPost Try.prog 24 m1 8 a1 (0 + l.length) c1 1 old src a' c' m' → Done (LsR m (openD l d) (.tuple #[.slice a' (0 + l.length + 1) c', I 0]) m') := fun m1 b a1 c1 hm hc hb1 hr => by
    refine ⟨_, _, hr.appPre (.at b 0 _ hb1 hc) rfl rfl (by omega), fun a' c' m' hp => ?_⟩
    have := hr.append hp rfl dl_zr hm
    rw [← efl] at this
    exact ls_ok (n := m.sz) (z := l ++ [d]) hres (by simp) this (Nat.le_refl _)
  obtain ⟨p1, p2⟩ := copy_new l a hn m m.sz (Nat.le_refl _) h
  refine ⟨rfl, ⟨_, _, p1, fun a1 c1 m1 hp => ?_⟩, ⟨rfl, fun b hb' => ⟨MLe.newBlock hb', ?_, trivial⟩⟩, trivial⟩
  · obtain ⟨g1, g2, -⟩ := p2 a1 c1 m1 hp
    exact ⟨MLe.ofAgree (Nat.le_refl _) g2, ⟨rfl, fun b hb' => ⟨MLe.newBlock hb', fin _ b a1 c1 (by have := g2.2.2; simp only [M.newBlock]; omega) cellsAt_new (by simp only [M.newBlock]; omega) (g1.newBlock hb'), trivial⟩⟩, trivial⟩
  · obtain ⟨p1, p2⟩ := copy_new l a hn (m.newBlock b (encDl d)) m.sz (by simp only [M.newBlock]; omega) (h.newBlock hb')
    refine ⟨_, _, p1, fun a1 c1 m1 hp => ?_⟩
    obtain ⟨g1, g2, g3⟩ := p2 a1 c1 m1 hp
    have hs := g3.2.2
    refine ⟨MLe.ofAgree (Nat.le_refl _) g3, fin _ b a1 c1 ?_ ?_ ?_ g1, trivial⟩
    · simp only [M.newBlock] at hs; omega
    · exact (cellsAt_new (m := m) (b := b) (cs := encDl d)).of (g3.1 b (by simp only [M.newBlock]; omega))
    · simp only [M.newBlock] at hs; omega

def turned (d : Dl) (w : Int) (mine : Bool) : Dl :=
  if d.ft ≠ 0 then d else if w = 0 then { d with ft := 2 } else
  if mine = true ∧ d.mi = 0 then { d with mi := w, ft := fateV w d.th } else if mine = false ∧ d.th = 0 then { d with th := w, ft := fateV d.mi w } else { d with ft := fateV d.mi d.th }

def turnD (l : List Dl) (c s w : Int) (mine : Bool) : List Dl × Bool × Int :=
  if foundE l c s ≠ 0 then ([], false, foundE l c s) else (l.set (placeD l c s).toNat (turned (atD l c s) w mine), decide ((atD l c s).ft = 0 ∧ (turned (atD l c s) w mine).ft ≠ 0), 0)

theorem turn_s (a : Option Addr) (cp : Nat) (l : List Dl) (c s w : Int) (mine : Bool) (hn : l.length ≤ 1759218604410) (m : M) (h : Row m a (dls l)) : Vc.Spec Try.prog 49 [.slice a l.length cp, I c, I s, I w, .bool mine] m (LbR m (turnD l c s w mine)) := by
  refine Vc.Spec.of_vc Try.func49 (ann := noAnn) ?_
  refine vc_by (X :=
      true = true ∧
      ∃ (b : Bool),
      QSpec Try.prog (10 : Nat) [Value.slice a l.length cp] m (Value.bool b) ∧
      ifB (!b) (Done (LbR m (turnD l c s w mine) (Value.tuple #[Value.slice none (0 : Nat) (0 : Nat), Value.bool false, Value.int IntKind.i64 (21 : Int)]) m))
      (∃ (n : Int),
      QSpec Try.prog (42 : Nat) [Value.slice a l.length cp, Value.int IntKind.i64 c, Value.int IntKind.i64 s] m (Value.int IntKind.i64 n) ∧
      ifB (decide (n < (0 : Int)))
      (Done (LbR m (turnD l c s w mine) (Value.tuple #[Value.slice none (0 : Nat) (0 : Nat), Value.bool false, Value.int IntKind.i64 (60 : Int)]) m))
      (∃ (old : List Value),
      ∃ (src : List Value),
      AppPre m.sz (fun (x : Nat) => False) m (8 : Nat) (80 : Nat) none (0 : Nat) (0 : Nat) a l.length old src ∧
      ∀ (a' : Option Addr) (c' : Nat) (m' : M),
      AppPost Try.prog (24 : Nat) m (8 : Nat) none (0 : Nat) (0 : Nat) l.length old src a' c' m' →
      ∃ (b : Nat),
      ∃ (off : Nat),
      a = some { block := b, off := off : Addr } ∧
      ((0 : Int) ≤ n ∧ n < (↑l.length : Int)) ∧
      ∃ (n_1 : Int),
      CellsAt m' b (off + n.toNat * (8 : Nat) + (7 : Nat)) [Value.int IntKind.i64 n_1] ∧
      ifB (n_1 != (0 : Int))
      (Done
      (LbR m (turnD l c s w mine) (Value.tuple #[Value.slice a' ((0 : Nat) + l.length) c', Value.bool false, Value.int IntKind.i64 (0 : Int)])
      m'))
      (∃ (b : Nat),
      ∃ (off : Nat),
      a = some { block := b, off := off : Addr } ∧
      ((0 : Int) ≤ n ∧ n < (↑l.length : Int)) ∧
      ∃ (n_2 : Int),
      ∃ (n_3 : Int),
      ∃ (s_1 : ByteArray),
      ∃ (s_2 : ByteArray),
      ∃ (n_4 : Int),
      ∃ (n_5 : Int),
      ∃ (n_6 : Int),
      ∃ (n_7 : Int),
      CellsAt m' b (off + n.toNat * (8 : Nat))
      [Value.int IntKind.i64 n_2, Value.int IntKind.i64 n_3, Value.string s_1, Value.string s_2,
      Value.int IntKind.i64 n_4, Value.int IntKind.i64 n_5, Value.int IntKind.i64 n_6, Value.int IntKind.i64 n_7] ∧
      ifB (w == (0 : Int))
      (∃ (b : Nat),
      ∃ (off : Nat),
      a' = some { block := b, off := off : Addr } ∧
      ((0 : Int) ≤ n ∧ n < (↑((0 : Nat) + l.length) : Int)) ∧
      Wr m.sz (fun (x : Nat) => False) m' b (off + n.toNat * (8 : Nat))
      #[Value.int IntKind.i64 n_2, Value.int IntKind.i64 n_3, Value.string s_1, Value.string s_2,
      Value.int IntKind.i64 n_4, Value.int IntKind.i64 n_5, Value.int IntKind.i64 n_6,
      Value.int IntKind.i64 (2 : Int)].size ∧
      true = true ∧
      ∃ (b_1 : Nat),
      ∃ (off_1 : Nat),
      a = some { block := b_1, off := off_1 : Addr } ∧
      ((0 : Int) ≤ n ∧ n < (↑l.length : Int)) ∧
      ∃ (n_8 : Int),
      CellsAt
      (m'.setCells b (off + n.toNat * (8 : Nat))
      [Value.int IntKind.i64 n_2, Value.int IntKind.i64 n_3, Value.string s_1,
      Value.string s_2, Value.int IntKind.i64 n_4, Value.int IntKind.i64 n_5,
      Value.int IntKind.i64 n_6, Value.int IntKind.i64 (2 : Int)])
      b_1 (off_1 + n.toNat * (8 : Nat) + (7 : Nat)) [Value.int IntKind.i64 n_8] ∧
      Done
      (LbR m (turnD l c s w mine)
      (Value.tuple
      #[Value.slice a' ((0 : Nat) + l.length) c', Value.bool ((2 : Int) != n_8),
      Value.int IntKind.i64 (0 : Int)])
      (m'.setCells b (off + n.toNat * (8 : Nat))
      [Value.int IntKind.i64 n_2, Value.int IntKind.i64 n_3, Value.string s_1,
      Value.string s_2, Value.int IntKind.i64 n_4, Value.int IntKind.i64 n_5,
      Value.int IntKind.i64 n_6, Value.int IntKind.i64 (2 : Int)])))
      (ifB mine
      (ifB (n_5 == (0 : Int))
      (ifB (!mine)
      (ifB (n_6 == (0 : Int))
      (∃ (n_8 : Int),
      QSpec Try.prog (73 : Nat) [Value.int IntKind.i64 w, Value.int IntKind.i64 w] m'
      (Value.int IntKind.i64 n_8) ∧
      ∃ (b : Nat),
      ∃ (off : Nat),
      a' = some { block := b, off := off : Addr } ∧
      ((0 : Int) ≤ n ∧ n < (↑((0 : Nat) + l.length) : Int)) ∧
      Wr m.sz (fun (x : Nat) => False) m' b (off + n.toNat * (8 : Nat))
      #[Value.int IntKind.i64 n_2, Value.int IntKind.i64 n_3, Value.string s_1,
      Value.string s_2, Value.int IntKind.i64 n_4, Value.int IntKind.i64 w,
      Value.int IntKind.i64 w, Value.int IntKind.i64 n_8].size ∧
      true = true ∧
      ∃ (b_1 : Nat),
      ∃ (off_1 : Nat),
      a = some { block := b_1, off := off_1 : Addr } ∧
      ((0 : Int) ≤ n ∧ n < (↑l.length : Int)) ∧
      ∃ (n_9 : Int),
      CellsAt
      (m'.setCells b (off + n.toNat * (8 : Nat))
      [Value.int IntKind.i64 n_2, Value.int IntKind.i64 n_3, Value.string s_1,
      Value.string s_2, Value.int IntKind.i64 n_4, Value.int IntKind.i64 w,
      Value.int IntKind.i64 w, Value.int IntKind.i64 n_8])
      b_1 (off_1 + n.toNat * (8 : Nat) + (7 : Nat)) [Value.int IntKind.i64 n_9] ∧
      Done
      (LbR m (turnD l c s w mine)
      (Value.tuple
      #[Value.slice a' ((0 : Nat) + l.length) c', Value.bool (n_8 != n_9),
      Value.int IntKind.i64 (0 : Int)])
      (m'.setCells b (off + n.toNat * (8 : Nat))
      [Value.int IntKind.i64 n_2, Value.int IntKind.i64 n_3, Value.string s_1,
      Value.string s_2, Value.int IntKind.i64 n_4, Value.int IntKind.i64 w,
      Value.int IntKind.i64 w, Value.int IntKind.i64 n_8])))
      (∃ (n_8 : Int),
      QSpec Try.prog (73 : Nat) [Value.int IntKind.i64 w, Value.int IntKind.i64 n_6] m'
      (Value.int IntKind.i64 n_8) ∧
      ∃ (b : Nat),
      ∃ (off : Nat),
      a' = some { block := b, off := off : Addr } ∧
      ((0 : Int) ≤ n ∧ n < (↑((0 : Nat) + l.length) : Int)) ∧
      Wr m.sz (fun (x : Nat) => False) m' b (off + n.toNat * (8 : Nat))
      #[Value.int IntKind.i64 n_2, Value.int IntKind.i64 n_3, Value.string s_1,
      Value.string s_2, Value.int IntKind.i64 n_4, Value.int IntKind.i64 w,
      Value.int IntKind.i64 n_6, Value.int IntKind.i64 n_8].size ∧
      true = true ∧
      ∃ (b_1 : Nat),
      ∃ (off_1 : Nat),
      a = some { block := b_1, off := off_1 : Addr } ∧
      ((0 : Int) ≤ n ∧ n < (↑l.length : Int)) ∧
      ∃ (n_9 : Int),
      CellsAt
      (m'.setCells b (off + n.toNat * (8 : Nat))
      [Value.int IntKind.i64 n_2, Value.int IntKind.i64 n_3, Value.string s_1,
      Value.string s_2, Value.int IntKind.i64 n_4, Value.int IntKind.i64 w,
      Value.int IntKind.i64 n_6, Value.int IntKind.i64 n_8])
      b_1 (off_1 + n.toNat * (8 : Nat) + (7 : Nat)) [Value.int IntKind.i64 n_9] ∧
      Done
      (LbR m (turnD l c s w mine)
      (Value.tuple
      #[Value.slice a' ((0 : Nat) + l.length) c', Value.bool (n_8 != n_9),
      Value.int IntKind.i64 (0 : Int)])
      (m'.setCells b (off + n.toNat * (8 : Nat))
      [Value.int IntKind.i64 n_2, Value.int IntKind.i64 n_3, Value.string s_1,
      Value.string s_2, Value.int IntKind.i64 n_4, Value.int IntKind.i64 w,
      Value.int IntKind.i64 n_6, Value.int IntKind.i64 n_8]))))
      (∃ (n_8 : Int),
      QSpec Try.prog (73 : Nat) [Value.int IntKind.i64 w, Value.int IntKind.i64 n_6] m'
      (Value.int IntKind.i64 n_8) ∧
      ∃ (b : Nat),
      ∃ (off : Nat),
      a' = some { block := b, off := off : Addr } ∧
      ((0 : Int) ≤ n ∧ n < (↑((0 : Nat) + l.length) : Int)) ∧
      Wr m.sz (fun (x : Nat) => False) m' b (off + n.toNat * (8 : Nat))
      #[Value.int IntKind.i64 n_2, Value.int IntKind.i64 n_3, Value.string s_1, Value.string s_2,
      Value.int IntKind.i64 n_4, Value.int IntKind.i64 w, Value.int IntKind.i64 n_6,
      Value.int IntKind.i64 n_8].size ∧
      true = true ∧
      ∃ (b_1 : Nat),
      ∃ (off_1 : Nat),
      a = some { block := b_1, off := off_1 : Addr } ∧
      ((0 : Int) ≤ n ∧ n < (↑l.length : Int)) ∧
      ∃ (n_9 : Int),
      CellsAt
      (m'.setCells b (off + n.toNat * (8 : Nat))
      [Value.int IntKind.i64 n_2, Value.int IntKind.i64 n_3, Value.string s_1,
      Value.string s_2, Value.int IntKind.i64 n_4, Value.int IntKind.i64 w,
      Value.int IntKind.i64 n_6, Value.int IntKind.i64 n_8])
      b_1 (off_1 + n.toNat * (8 : Nat) + (7 : Nat)) [Value.int IntKind.i64 n_9] ∧
      Done
      (LbR m (turnD l c s w mine)
      (Value.tuple
      #[Value.slice a' ((0 : Nat) + l.length) c', Value.bool (n_8 != n_9),
      Value.int IntKind.i64 (0 : Int)])
      (m'.setCells b (off + n.toNat * (8 : Nat))
      [Value.int IntKind.i64 n_2, Value.int IntKind.i64 n_3, Value.string s_1,
      Value.string s_2, Value.int IntKind.i64 n_4, Value.int IntKind.i64 w,
      Value.int IntKind.i64 n_6, Value.int IntKind.i64 n_8]))))
      (ifB (!mine)
      (ifB (n_6 == (0 : Int))
      (∃ (n_8 : Int),
      QSpec Try.prog (73 : Nat) [Value.int IntKind.i64 n_5, Value.int IntKind.i64 w] m'
      (Value.int IntKind.i64 n_8) ∧
      ∃ (b : Nat),
      ∃ (off : Nat),
      a' = some { block := b, off := off : Addr } ∧
      ((0 : Int) ≤ n ∧ n < (↑((0 : Nat) + l.length) : Int)) ∧
      Wr m.sz (fun (x : Nat) => False) m' b (off + n.toNat * (8 : Nat))
      #[Value.int IntKind.i64 n_2, Value.int IntKind.i64 n_3, Value.string s_1,
      Value.string s_2, Value.int IntKind.i64 n_4, Value.int IntKind.i64 n_5,
      Value.int IntKind.i64 w, Value.int IntKind.i64 n_8].size ∧
      true = true ∧
      ∃ (b_1 : Nat),
      ∃ (off_1 : Nat),
      a = some { block := b_1, off := off_1 : Addr } ∧
      ((0 : Int) ≤ n ∧ n < (↑l.length : Int)) ∧
      ∃ (n_9 : Int),
      CellsAt
      (m'.setCells b (off + n.toNat * (8 : Nat))
      [Value.int IntKind.i64 n_2, Value.int IntKind.i64 n_3, Value.string s_1,
      Value.string s_2, Value.int IntKind.i64 n_4, Value.int IntKind.i64 n_5,
      Value.int IntKind.i64 w, Value.int IntKind.i64 n_8])
      b_1 (off_1 + n.toNat * (8 : Nat) + (7 : Nat)) [Value.int IntKind.i64 n_9] ∧
      Done
      (LbR m (turnD l c s w mine)
      (Value.tuple
      #[Value.slice a' ((0 : Nat) + l.length) c', Value.bool (n_8 != n_9),
      Value.int IntKind.i64 (0 : Int)])
      (m'.setCells b (off + n.toNat * (8 : Nat))
      [Value.int IntKind.i64 n_2, Value.int IntKind.i64 n_3, Value.string s_1,
      Value.string s_2, Value.int IntKind.i64 n_4,
      Value.int IntKind.i64 n_5, Value.int IntKind.i64 w,
      Value.int IntKind.i64 n_8])))
      (∃ (n_8 : Int),
      QSpec Try.prog (73 : Nat) [Value.int IntKind.i64 n_5, Value.int IntKind.i64 n_6] m'
      (Value.int IntKind.i64 n_8) ∧
      ∃ (b : Nat),
      ∃ (off : Nat),
      a' = some { block := b, off := off : Addr } ∧
      ((0 : Int) ≤ n ∧ n < (↑((0 : Nat) + l.length) : Int)) ∧
      Wr m.sz (fun (x : Nat) => False) m' b (off + n.toNat * (8 : Nat))
      #[Value.int IntKind.i64 n_2, Value.int IntKind.i64 n_3, Value.string s_1,
      Value.string s_2, Value.int IntKind.i64 n_4, Value.int IntKind.i64 n_5,
      Value.int IntKind.i64 n_6, Value.int IntKind.i64 n_8].size ∧
      true = true ∧
      ∃ (b_1 : Nat),
      ∃ (off_1 : Nat),
      a = some { block := b_1, off := off_1 : Addr } ∧
      ((0 : Int) ≤ n ∧ n < (↑l.length : Int)) ∧
      ∃ (n_9 : Int),
      CellsAt
      (m'.setCells b (off + n.toNat * (8 : Nat))
      [Value.int IntKind.i64 n_2, Value.int IntKind.i64 n_3, Value.string s_1,
      Value.string s_2, Value.int IntKind.i64 n_4, Value.int IntKind.i64 n_5,
      Value.int IntKind.i64 n_6, Value.int IntKind.i64 n_8])
      b_1 (off_1 + n.toNat * (8 : Nat) + (7 : Nat)) [Value.int IntKind.i64 n_9] ∧
      Done
      (LbR m (turnD l c s w mine)
      (Value.tuple
      #[Value.slice a' ((0 : Nat) + l.length) c', Value.bool (n_8 != n_9),
      Value.int IntKind.i64 (0 : Int)])
      (m'.setCells b (off + n.toNat * (8 : Nat))
      [Value.int IntKind.i64 n_2, Value.int IntKind.i64 n_3, Value.string s_1,
      Value.string s_2, Value.int IntKind.i64 n_4,
      Value.int IntKind.i64 n_5, Value.int IntKind.i64 n_6,
      Value.int IntKind.i64 n_8]))))
      (∃ (n_8 : Int),
      QSpec Try.prog (73 : Nat) [Value.int IntKind.i64 n_5, Value.int IntKind.i64 n_6] m'
      (Value.int IntKind.i64 n_8) ∧
      ∃ (b : Nat),
      ∃ (off : Nat),
      a' = some { block := b, off := off : Addr } ∧
      ((0 : Int) ≤ n ∧ n < (↑((0 : Nat) + l.length) : Int)) ∧
      Wr m.sz (fun (x : Nat) => False) m' b (off + n.toNat * (8 : Nat))
      #[Value.int IntKind.i64 n_2, Value.int IntKind.i64 n_3, Value.string s_1, Value.string s_2,
      Value.int IntKind.i64 n_4, Value.int IntKind.i64 n_5, Value.int IntKind.i64 n_6,
      Value.int IntKind.i64 n_8].size ∧
      true = true ∧
      ∃ (b_1 : Nat),
      ∃ (off_1 : Nat),
      a = some { block := b_1, off := off_1 : Addr } ∧
      ((0 : Int) ≤ n ∧ n < (↑l.length : Int)) ∧
      ∃ (n_9 : Int),
      CellsAt
      (m'.setCells b (off + n.toNat * (8 : Nat))
      [Value.int IntKind.i64 n_2, Value.int IntKind.i64 n_3, Value.string s_1,
      Value.string s_2, Value.int IntKind.i64 n_4, Value.int IntKind.i64 n_5,
      Value.int IntKind.i64 n_6, Value.int IntKind.i64 n_8])
      b_1 (off_1 + n.toNat * (8 : Nat) + (7 : Nat)) [Value.int IntKind.i64 n_9] ∧
      Done
      (LbR m (turnD l c s w mine)
      (Value.tuple
      #[Value.slice a' ((0 : Nat) + l.length) c', Value.bool (n_8 != n_9),
      Value.int IntKind.i64 (0 : Int)])
      (m'.setCells b (off + n.toNat * (8 : Nat))
      [Value.int IntKind.i64 n_2, Value.int IntKind.i64 n_3, Value.string s_1,
      Value.string s_2, Value.int IntKind.i64 n_4, Value.int IntKind.i64 n_5,
      Value.int IntKind.i64 n_6, Value.int IntKind.i64 n_8])))))
      (ifB (!mine)
      (ifB (n_6 == (0 : Int))
      (∃ (n_8 : Int),
      QSpec Try.prog (73 : Nat) [Value.int IntKind.i64 n_5, Value.int IntKind.i64 w] m'
      (Value.int IntKind.i64 n_8) ∧
      ∃ (b : Nat),
      ∃ (off : Nat),
      a' = some { block := b, off := off : Addr } ∧
      ((0 : Int) ≤ n ∧ n < (↑((0 : Nat) + l.length) : Int)) ∧
      Wr m.sz (fun (x : Nat) => False) m' b (off + n.toNat * (8 : Nat))
      #[Value.int IntKind.i64 n_2, Value.int IntKind.i64 n_3, Value.string s_1, Value.string s_2,
      Value.int IntKind.i64 n_4, Value.int IntKind.i64 n_5, Value.int IntKind.i64 w,
      Value.int IntKind.i64 n_8].size ∧
      true = true ∧
      ∃ (b_1 : Nat),
      ∃ (off_1 : Nat),
      a = some { block := b_1, off := off_1 : Addr } ∧
      ((0 : Int) ≤ n ∧ n < (↑l.length : Int)) ∧
      ∃ (n_9 : Int),
      CellsAt
      (m'.setCells b (off + n.toNat * (8 : Nat))
      [Value.int IntKind.i64 n_2, Value.int IntKind.i64 n_3, Value.string s_1,
      Value.string s_2, Value.int IntKind.i64 n_4, Value.int IntKind.i64 n_5,
      Value.int IntKind.i64 w, Value.int IntKind.i64 n_8])
      b_1 (off_1 + n.toNat * (8 : Nat) + (7 : Nat)) [Value.int IntKind.i64 n_9] ∧
      Done
      (LbR m (turnD l c s w mine)
      (Value.tuple
      #[Value.slice a' ((0 : Nat) + l.length) c', Value.bool (n_8 != n_9),
      Value.int IntKind.i64 (0 : Int)])
      (m'.setCells b (off + n.toNat * (8 : Nat))
      [Value.int IntKind.i64 n_2, Value.int IntKind.i64 n_3, Value.string s_1,
      Value.string s_2, Value.int IntKind.i64 n_4, Value.int IntKind.i64 n_5,
      Value.int IntKind.i64 w, Value.int IntKind.i64 n_8])))
      (∃ (n_8 : Int),
      QSpec Try.prog (73 : Nat) [Value.int IntKind.i64 n_5, Value.int IntKind.i64 n_6] m'
      (Value.int IntKind.i64 n_8) ∧
      ∃ (b : Nat),
      ∃ (off : Nat),
      a' = some { block := b, off := off : Addr } ∧
      ((0 : Int) ≤ n ∧ n < (↑((0 : Nat) + l.length) : Int)) ∧
      Wr m.sz (fun (x : Nat) => False) m' b (off + n.toNat * (8 : Nat))
      #[Value.int IntKind.i64 n_2, Value.int IntKind.i64 n_3, Value.string s_1, Value.string s_2,
      Value.int IntKind.i64 n_4, Value.int IntKind.i64 n_5, Value.int IntKind.i64 n_6,
      Value.int IntKind.i64 n_8].size ∧
      true = true ∧
      ∃ (b_1 : Nat),
      ∃ (off_1 : Nat),
      a = some { block := b_1, off := off_1 : Addr } ∧
      ((0 : Int) ≤ n ∧ n < (↑l.length : Int)) ∧
      ∃ (n_9 : Int),
      CellsAt
      (m'.setCells b (off + n.toNat * (8 : Nat))
      [Value.int IntKind.i64 n_2, Value.int IntKind.i64 n_3, Value.string s_1,
      Value.string s_2, Value.int IntKind.i64 n_4, Value.int IntKind.i64 n_5,
      Value.int IntKind.i64 n_6, Value.int IntKind.i64 n_8])
      b_1 (off_1 + n.toNat * (8 : Nat) + (7 : Nat)) [Value.int IntKind.i64 n_9] ∧
      Done
      (LbR m (turnD l c s w mine)
      (Value.tuple
      #[Value.slice a' ((0 : Nat) + l.length) c', Value.bool (n_8 != n_9),
      Value.int IntKind.i64 (0 : Int)])
      (m'.setCells b (off + n.toNat * (8 : Nat))
      [Value.int IntKind.i64 n_2, Value.int IntKind.i64 n_3, Value.string s_1,
      Value.string s_2, Value.int IntKind.i64 n_4, Value.int IntKind.i64 n_5,
      Value.int IntKind.i64 n_6, Value.int IntKind.i64 n_8]))))
      (∃ (n_8 : Int),
      QSpec Try.prog (73 : Nat) [Value.int IntKind.i64 n_5, Value.int IntKind.i64 n_6] m'
      (Value.int IntKind.i64 n_8) ∧
      ∃ (b : Nat),
      ∃ (off : Nat),
      a' = some { block := b, off := off : Addr } ∧
      ((0 : Int) ≤ n ∧ n < (↑((0 : Nat) + l.length) : Int)) ∧
      Wr m.sz (fun (x : Nat) => False) m' b (off + n.toNat * (8 : Nat))
      #[Value.int IntKind.i64 n_2, Value.int IntKind.i64 n_3, Value.string s_1, Value.string s_2,
      Value.int IntKind.i64 n_4, Value.int IntKind.i64 n_5, Value.int IntKind.i64 n_6,
      Value.int IntKind.i64 n_8].size ∧
      true = true ∧
      ∃ (b_1 : Nat),
      ∃ (off_1 : Nat),
      a = some { block := b_1, off := off_1 : Addr } ∧
      ((0 : Int) ≤ n ∧ n < (↑l.length : Int)) ∧
      ∃ (n_9 : Int),
      CellsAt
      (m'.setCells b (off + n.toNat * (8 : Nat))
      [Value.int IntKind.i64 n_2, Value.int IntKind.i64 n_3, Value.string s_1,
      Value.string s_2, Value.int IntKind.i64 n_4, Value.int IntKind.i64 n_5,
      Value.int IntKind.i64 n_6, Value.int IntKind.i64 n_8])
      b_1 (off_1 + n.toNat * (8 : Nat) + (7 : Nat)) [Value.int IntKind.i64 n_9] ∧
      Done
      (LbR m (turnD l c s w mine)
      (Value.tuple
      #[Value.slice a' ((0 : Nat) + l.length) c', Value.bool (n_8 != n_9),
      Value.int IntKind.i64 (0 : Int)])
      (m'.setCells b (off + n.toNat * (8 : Nat))
      [Value.int IntKind.i64 n_2, Value.int IntKind.i64 n_3, Value.string s_1,
      Value.string s_2, Value.int IntKind.i64 n_4, Value.int IntKind.i64 n_5,
      Value.int IntKind.i64 n_6, Value.int IntKind.i64 n_8]))))))))) (by kernel_rfl) ?_
  have hh : l.length ≤ 9223372036854775807 := by omega
  refine ⟨rfl, _, rright_q a cp l hh _ h, ?_⟩
  cases hb : booksB l
  · exact ifB_true (lb_fail (by simp [turnD, foundE, hb]))
  refine ifB_false ⟨_, rplace_q a cp l c s hh _ h, ifB_intro (fun h1 => lb_fail ?_) (fun h1 => ?_)⟩
  · simp at h1; simp [turnD, foundE, hb, h1]
  have h1 : ¬ placeD l c s < 0 := by simpa using h1
  have he : foundE l c s = 0 := by simp [foundE, hb, h1]
  obtain ⟨-, h4, k, hk, e1, -, -, e3⟩ := found_ok he
  have hf : turnD l c s w mine = (l.set k (turned l[k] w mine), decide (l[k].ft = 0 ∧ (turned l[k] w mine).ft ≠ 0), 0) := by simp [turnD, he, e3, e1]
  rw [e1]
  simp only [Int.toNat_natCast]
  obtain ⟨p1, p2⟩ := copy_new l a hn m m.sz (Nat.le_refl _) h
  refine ⟨_, _, p1, fun a1 c1 m1 hp => ?_⟩
  obtain ⟨g1, g2, -⟩ := p2 a1 c1 m1 hp
  obtain ⟨b, o, rfl, hc⟩ := (h.agree g2).cells (by rw [dl_len]; omega)
  have hbm : b < m.sz := h.lt (by intro e; have := congrArg List.length e; rw [dl_len] at this; simp at this; omega) rfl
  have ho := g1.toOwn (by omega)
  have c7 := CellsAt.field dl_k hc hk (p := [I l[k].cl, I l[k].sq, .string l[k].ky, .string l[k].ot, I l[k].n, I l[k].mi, I l[k].th]) (old := [I l[k].ft]) (q := []) rfl
  refine ⟨b, o, rfl, by omega, l[k].ft, c7, ifB_intro (fun h2 => ?_) (fun h2 => ⟨b, o, rfl, by omega, _, _, _, _, _, _, _, _, by simpa using dl_at hc hk, ?_⟩)⟩
  · have h2 : l[k].ft ≠ 0 := by simpa using h2
    have hs : turned l[k] w mine = l[k] := by simp [turned, h2]
    refine lb_ok (n := m.sz) (z := l.set k (turned l[k] w mine)) (by rw [hf]; simp [h2]) (by simp) ?_ (Nat.le_refl _)
    rw [hs, List.set_getElem_self hk]; exact g1
  have h2 : l[k].ft = 0 := by simpa using h2
  obtain ⟨b1, o1, rfl, hc1⟩ := ho.row.cells (by rw [dl_len]; omega)
  have hb1 : m.sz ≤ b1 := by rcases ho.lo rfl with h | h; exact h; exact h.elim
  have leaf : ∀ d' : Dl, turned l[k] w mine = d' → ∃ b2 off, some (⟨b1, o1, none⟩ : Addr) = some ⟨b2, off, none⟩ ∧ (0 ≤ (k : Int) ∧ (k : Int) < ((0 + l.length : Nat) : Int)) ∧ Wr m.sz (fun _ => False) m1 b2 (off + k * 8) 8 ∧ True ∧
      ∃ b3 off3, some (⟨b, o, none⟩ : Addr) = some ⟨b3, off3, none⟩ ∧ (0 ≤ (k : Int) ∧ (k : Int) < (l.length : Int)) ∧ ∃ n9, CellsAt (m1.setCells b2 (off + k * 8) (encDl d')) b3 (off3 + k * 8 + 7) [I n9] ∧
        Done (LbR m (turnD l c s w mine) (.tuple #[.slice (some ⟨b1, o1, none⟩) (0 + l.length) c1, .bool (d'.ft != n9), I 0]) (m1.setCells b2 (off + k * 8) (encDl d'))) := fun d' hd => by
    obtain ⟨q1, q2⟩ := OwnB.setAt dl_k ho hk d'
    refine ⟨b1, o1, rfl, by omega, q1, trivial, b, o, rfl, by omega, l[k].ft, ?_, lb_ok (n := m.sz) (z := l.set k d') ?_ (by simp) (.own q2) (Nat.le_refl _)⟩
    · exact CellsAt.of c7 (by funext o'; simp only [M.setCells]; rw [if_neg (by omega)])
    · rw [hf, hd]; simp [h2, bne, Bool.beq_eq_decide_eq]
  refine ifB_intro (fun hw => leaf { l[k] with ft := 2 } (by simp at hw; simp [turned, h2, hw])) (fun hw => ?_)
  have hw : w ≠ 0 := by simpa using hw
  cases mine
  · refine ifB_false (ifB_true (ifB_intro (fun h3 => ⟨_, rfate_q _ _ _, leaf { l[k] with th := w, ft := fateV l[k].mi w } ?_⟩) (fun h3 => ⟨_, rfate_q _ _ _, leaf { l[k] with ft := fateV l[k].mi l[k].th } ?_⟩)))
    · simp at h3; simp [turned, h2, hw, h3]
    · simp at h3; simp [turned, h2, hw, h3]
  · refine ifB_true (ifB_intro (fun h3 => ifB_false ⟨_, rfate_q _ _ _, leaf { l[k] with mi := w, ft := fateV w l[k].th } ?_⟩) (fun h3 => ifB_false ⟨_, rfate_q _ _ _, leaf { l[k] with ft := fateV l[k].mi l[k].th } ?_⟩))
    · simp at h3; simp [turned, h2, hw, h3]
    · simp at h3; simp [turned, h2, hw, h3]

theorem rsay_s (a : Option Addr) (cp : Nat) (l : List Dl) (c s : Int) (mine is : Bool) (hn : l.length ≤ 1759218604410) (m : M) (h : Row m a (dls l)) : Vc.Spec Try.prog 19 [.slice a l.length cp, I c, I s, .bool mine, .bool is] m (LbR m (turnD l c s (wordD is) mine)) := by
  refine Vc.Spec.of_vc Try.func19 (ann := noAnn) ?_
  refine vc_by (X :=
      true = true ∧
      ifB is
      (∃ (S' : Nat → Prop),
      (∀ (b : Nat), S' b → m.uf b ∧ (m.sz ≤ b ∨ False)) ∧
      ∀ (n : Nat),
      m.sz ≤ n →
      SpecW Try.prog (49 : Nat) [Value.slice a l.length cp, Value.int IntKind.i64 c, Value.int IntKind.i64 s, Value.int IntKind.i64 (1 : Int), Value.bool mine]
      { π := m.π, sz := n, uf := m.uf : M } S' fun (v : Value) (m' : M) =>
      ∃ (a : Option Addr),
      ∃ (n : Nat),
      ∃ (c_1 : Nat),
      ∃ (b : Bool),
      ∃ (n_1 : Int),
      v = Value.tuple #[Value.slice a n c_1, Value.bool b, Value.int IntKind.i64 n_1] ∧
      Done (LbR m (turnD l c s (wordD is) mine) (Value.tuple #[Value.slice a n c_1, Value.bool b, Value.int IntKind.i64 n_1]) m'))
      (∃ (S' : Nat → Prop),
      (∀ (b : Nat), S' b → m.uf b ∧ (m.sz ≤ b ∨ False)) ∧
      ∀ (n : Nat),
      m.sz ≤ n →
      SpecW Try.prog (49 : Nat) [Value.slice a l.length cp, Value.int IntKind.i64 c, Value.int IntKind.i64 s, Value.int IntKind.i64 (2 : Int), Value.bool mine]
      { π := m.π, sz := n, uf := m.uf : M } S' fun (v : Value) (m' : M) =>
      ∃ (a : Option Addr),
      ∃ (n : Nat),
      ∃ (c_1 : Nat),
      ∃ (b : Bool),
      ∃ (n_1 : Int),
      v = Value.tuple #[Value.slice a n c_1, Value.bool b, Value.int IntKind.i64 n_1] ∧
      Done (LbR m (turnD l c s (wordD is) mine) (Value.tuple #[Value.slice a n c_1, Value.bool b, Value.int IntKind.i64 n_1]) m'))) (by kernel_rfl) ?_
  cases is
  · exact ⟨rfl, ifB_false ⟨_, noS, fun N hN => (turn_s a cp l c s 2 mine hn _ (h.sz hN)).monoW fun v m1 _ ⟨a1, c1, e, r⟩ => ⟨_, _, _, _, _, e, ⟨⟨a1, c1, rfl, r.lower hN⟩⟩⟩⟩⟩
  · exact ⟨rfl, ifB_true ⟨_, noS, fun N hN => (turn_s a cp l c s 1 mine hn _ (h.sz hN)).monoW fun v m1 _ ⟨a1, c1, e, r⟩ => ⟨_, _, _, _, _, e, ⟨⟨a1, c1, rfl, r.lower hN⟩⟩⟩⟩⟩

theorem rgive_s (a : Option Addr) (cp : Nat) (l : List Dl) (c s : Int) (hn : l.length ≤ 1759218604410) (m : M) (h : Row m a (dls l)) : Vc.Spec Try.prog 21 [.slice a l.length cp, I c, I s] m (LbR m (turnD l c s 0 false)) := by
  refine Vc.Spec.of_vc Try.func21 (ann := noAnn) ?_
  refine vc_by (X :=
      true = true ∧
      ∃ (S' : Nat → Prop),
      (∀ (b : Nat), S' b → m.uf b ∧ (m.sz ≤ b ∨ False)) ∧
      ∀ (n : Nat),
      m.sz ≤ n →
      SpecW Try.prog (49 : Nat) [Value.slice a l.length cp, Value.int IntKind.i64 c, Value.int IntKind.i64 s, Value.int IntKind.i64 (0 : Int), Value.bool false]
      { π := m.π, sz := n, uf := m.uf : M } S' fun (v : Value) (m' : M) =>
      ∃ (a : Option Addr),
      ∃ (n : Nat),
      ∃ (c_1 : Nat),
      ∃ (b : Bool),
      ∃ (n_1 : Int),
      v = Value.tuple #[Value.slice a n c_1, Value.bool b, Value.int IntKind.i64 n_1] ∧
      Done (LbR m (turnD l c s (0 : Int) false) (Value.tuple #[Value.slice a n c_1, Value.bool b, Value.int IntKind.i64 n_1]) m')) (by kernel_rfl) ?_
  exact ⟨rfl, _, noS, fun N hN => (turn_s a cp l c s 0 false hn _ (h.sz hN)).monoW fun v m1 _ ⟨a1, c1, e, r⟩ => ⟨_, _, _, _, _, e, ⟨⟨a1, c1, rfl, r.lower hN⟩⟩⟩⟩

theorem turned_give (d : Dl) : turned d 0 false = givenD d := by
  by_cases h : d.ft = 0 <;> simp [turned, givenD, h]

theorem turned_say {d : Dl} (h : mayB d = true) (mine is : Bool) : turned d (wordD is) mine = saidD d mine is := by
  have hw : wordD is ≠ 0 := by cases is <;> simp [wordD]
  by_cases h0 : d.ft = 0
  rotate_left
  · simp [turned, saidD, h0]
  have hf : fateV d.mi d.th = 0 := by
    simp only [mayB, Bool.and_eq_true, Bool.or_eq_true, decide_eq_true_eq, h0] at h
    rcases h.2 with h | h
    · exact h.symm
    · exact h.1
  cases mine
  · by_cases h1 : d.th = 0
    · simp [turned, saidD, h0, h1, hw]
    · simp [turned, saidD, h0, h1, hw]; rw [hf, ← h0]
  · by_cases h1 : d.mi = 0
    · simp [turned, saidD, h0, h1, hw]
    · simp [turned, saidD, h0, h1, hw]; rw [hf, ← h0]

theorem turn_give (l : List Dl) (c s : Int) : turnD l c s 0 false = giveD l c s := by
  unfold turnD giveD
  split
  · rfl
  · rw [turned_give]
    by_cases h : (atD l c s).ft = 0 <;> simp [givenD, h]

theorem turn_say (l : List Dl) (c s : Int) (mine is : Bool) : turnD l c s (wordD is) mine = sayD l c s mine is := by
  unfold turnD sayD
  split
  · rfl
  · rename_i he
    obtain ⟨hb, -, k, hk, -, -, -, e3⟩ := found_ok (by simpa using he)
    rw [turned_say (by rw [e3]; exact ((books_iff l).1 hb).2.1 _ (List.getElem_mem hk))]

theorem rforget_s (a : Option Addr) (cp : Nat) (l : List Dl) (c s : Int) (hn : l.length ≤ 1759218604410) (hcp : l.length ≤ cp) (m : M) (h : Row m a (dls l)) : Vc.Spec Try.prog 23 [.slice a l.length cp, I c, I s] m (LsR m (forgetD l c s)) := by
  refine Vc.Spec.of_vc Try.func23 (ann := noAnn) ?_
  refine vc_by (X :=
      true = true ∧
      ∃ (b : Bool),
      QSpec Try.prog (10 : Nat) [Value.slice a l.length cp] m (Value.bool b) ∧
      ifB (!b) (Done (LsR m (forgetD l c s) (Value.tuple #[Value.slice none (0 : Nat) (0 : Nat), Value.int IntKind.i64 (21 : Int)]) m))
      (∃ (n : Int),
      QSpec Try.prog (42 : Nat) [Value.slice a l.length cp, Value.int IntKind.i64 c, Value.int IntKind.i64 s] m (Value.int IntKind.i64 n) ∧
      ifB (decide (n < (0 : Int))) (Done (LsR m (forgetD l c s) (Value.tuple #[Value.slice none (0 : Nat) (0 : Nat), Value.int IntKind.i64 (60 : Int)]) m))
      (∃ (b : Nat),
      ∃ (off : Nat),
      a = some { block := b, off := off : Addr } ∧
      ((0 : Int) ≤ n ∧ n < (↑l.length : Int)) ∧
      ∃ (n_1 : Int),
      CellsAt m b (off + n.toNat * (8 : Nat) + (7 : Nat)) [Value.int IntKind.i64 n_1] ∧
      ifB (n_1 == (0 : Int)) (Done (LsR m (forgetD l c s) (Value.tuple #[Value.slice none (0 : Nat) (0 : Nat), Value.int IntKind.i64 (60 : Int)]) m))
      (true = true ∧
      (true = true ∧ (0 : Int) ≤ (0 : Int) ∧ (0 : Int) ≤ n ∧ n ≤ (↑cp : Int) ∧ True) ∧
      (true = true ∧ (0 : Int) ≤ IntKind.i64.wrap (n + (1 : Int)) ∧ IntKind.i64.wrap (n + (1 : Int)) ≤ (↑l.length : Int) ∧ True ∧ True) ∧
      (∃ (old : List Value),
      ∃ (src : List Value),
      AppPre m.sz (fun (x : Nat) => False) m (8 : Nat) (80 : Nat) none (0 : Nat) (0 : Nat)
      (if (↑cp : Int).toNat = (0 : Nat) then a else Option.map (fun (x : Addr) => x) a) (n.toNat - (0 : Nat)) old src ∧
      ∀ (a' : Option Addr) (c' : Nat) (m' : M),
      AppPost Try.prog (24 : Nat) m (8 : Nat) none (0 : Nat) (0 : Nat) (n.toNat - (0 : Nat)) old src a' c' m' →
      MLe m m' ∧
      (∃ (old : List Value),
      ∃ (src : List Value),
      AppPre m.sz (fun (x : Nat) => False) m' (8 : Nat) (80 : Nat) a' ((0 : Nat) + (n.toNat - (0 : Nat))) c'
      (if (↑cp : Int).toNat = (IntKind.i64.wrap (n + (1 : Int))).toNat then a
      else Option.map (fun (x : Addr) => x.add ((IntKind.i64.wrap (n + (1 : Int))).toNat * Try.prog.types[(24 : Nat)].size)) a)
      ((↑l.length : Int).toNat - (IntKind.i64.wrap (n + (1 : Int))).toNat) old src ∧
      ∀ (a'_1 : Option Addr) (c'_1 : Nat) (m'_1 : M),
      AppPost Try.prog (24 : Nat) m' (8 : Nat) a' ((0 : Nat) + (n.toNat - (0 : Nat))) c'
      ((↑l.length : Int).toNat - (IntKind.i64.wrap (n + (1 : Int))).toNat) old src a'_1 c'_1 m'_1 →
      Done
      (LsR m (forgetD l c s)
      (Value.tuple
      #[Value.slice a'_1
      ((0 : Nat) + (n.toNat - (0 : Nat)) + ((↑l.length : Int).toNat - (IntKind.i64.wrap (n + (1 : Int))).toNat))
      c'_1,
      Value.int IntKind.i64 (0 : Int)])
      m'_1)) ∧
      True) ∧
      True)))) (by kernel_rfl) ?_
  have hh : l.length ≤ 9223372036854775807 := by omega
  refine ⟨rfl, _, rright_q a cp l hh _ h, ?_⟩
  cases hb : booksB l
  · exact ifB_true (ls_fail (by simp [forgetD, foundE, hb]))
  refine ifB_false ⟨_, rplace_q a cp l c s hh _ h, ifB_intro (fun h1 => ls_fail ?_) (fun h1 => ?_)⟩
  · simp at h1; simp [forgetD, foundE, hb, h1]
  have h1 : ¬ placeD l c s < 0 := by simpa using h1
  have he : foundE l c s = 0 := by simp [foundE, hb, h1]
  obtain ⟨-, h4, k, hk, e1, -, -, e3⟩ := found_ok he
  have hf : forgetD l c s = if l[k].ft = 0 then ([], 60) else (l.take k ++ l.drop (k + 1), 0) := by simp [forgetD, he, e3, e1]
  rw [e1]
  simp only [Int.toNat_natCast]
  obtain ⟨b, o, rfl, hc⟩ := h.cells (by rw [dl_len]; omega)
  have c7 := CellsAt.field dl_k hc hk (p := [I l[k].cl, I l[k].sq, .string l[k].ky, .string l[k].ot, I l[k].n, I l[k].mi, I l[k].th]) (old := [I l[k].ft]) (q := []) rfl
  refine ⟨b, o, rfl, by omega, l[k].ft, c7, ifB_intro (fun h2 => ls_fail ?_) (fun h2 => ?_)⟩
  · rw [hf]; simp at h2; simp [h2]
  have h2 : l[k].ft ≠ 0 := by simpa using h2
  have w1 : IntKind.i64.wrap ((k : Int) + 1) = ((k + 1 : Nat) : Int) := by simp [IntKind.wrap_i64]; omega
  rw [w1]
  simp only [Int.toNat_natCast, Nat.sub_zero]
  have ra1 : Row m (if cp = 0 then some (⟨b, o, none⟩ : Addr) else Option.map (fun x : Addr => x) (some ⟨b, o, none⟩)) (dls (l.take k)) := by
    have e : dls l = dls (l.take k) ++ dls (l.drop k) := by rw [← List.flatMap_append, List.take_append_drop]
    have ra := h
    rw [e] at ra
    have := ra.take
    split <;> exact this
  have lt : (l.take k).length = k := by simp; omega
  have ld : (l.drop (k + 1)).length = l.length - (k + 1) := by simp
  have lt1 : (l.take (k + 1)).length = k + 1 := by simp; omega
  have n0 : NewR m.sz (fun _ => False) m 8 none 0 0 [] := .nil _
  have e2 : dls l = dls (l.take (k + 1)) ++ dls (l.drop (k + 1)) := by rw [← List.flatMap_append, List.take_append_drop]
  refine ⟨trivial, ⟨trivial, by omega, by omega, by omega, trivial⟩, ⟨trivial, by omega, by omega, trivial, trivial⟩, ⟨_, _, n0.appPre ra1 (by rw [dl_len, lt]) (dl_one _) (by omega), fun a1 c1 m1 hp => ?_⟩, trivial⟩
  have g1 := n0.append hp (by rw [dl_len, lt]) dl_zr (Nat.le_refl _)
  have g2 := n0.appAgree hp (by rw [dl_len, lt]) (Nat.le_refl _)
  have ra2 := h.agree g2
  rw [e2] at ra2
  refine ⟨MLe.ofAgree (Nat.le_refl _) g2, ⟨_, _, g1.appPre (Row.sub ra2 ?_ ?_) (by rw [dl_len, ld]) (dl_one _) (by omega), fun a2 c2 m2 hp2 => ?_⟩, trivial⟩
  · rw [dl_len, lt1]; kernel_rfl
  · intro e
    rw [List.drop_eq_nil_of_le (by omega)]; rfl
  have g3 := g1.append hp2 (by rw [dl_len, ld]) dl_zr g2.2.2
  have e4 : [] ++ dls (l.take k) ++ dls (l.drop (k + 1)) = dls (l.take k ++ l.drop (k + 1)) := by simp [dls]
  rw [e4] at g3
  exact ls_ok (n := m.sz) (z := l.take k ++ l.drop (k + 1)) (by rw [hf, if_neg h2]) (by simp; omega) g3 (Nat.le_refl _)

end Go.Proofs.Ytoilbbfidnhekaa
set_option linter.unusedVariables false
set_option linter.unusedSimpArgs false
namespace Go.Proofs.Ytoilbbfidnhekaa
open Go.Vc Go.RowKit Go.ChangeShapes Go.WideShapes Go.ChangeAt
set_option maxRecDepth 100000

theorem okWide_cap {P : Program} {w : World} {r : Reach} {base : Nat} {t e : TypeId} {a : Option Addr} {len cap : Nat} (ht : P.underlying t = some (.slice e)) (h : Value.okWide P w r base t (.slice a len cap)) : len ≤ cap := by
  simp only [Value.okWide, ht, Cell.okWide] at h
  cases a
  · cases len
    · exact Nat.zero_le _
    · cases cap <;> simp_all [Cell.ok]
  · simp_all [Cell.ok]

theorem open_dlc {H : Type} {enc : TypeId × Value → H} {W : World} {r : Reach} {b0 : Nat} {v : Value} {d : DataW H} {p : List MemPlace} {N : Nat} {Bd : DataW H → Prop} (B : Bound N Bd) (hN : N ≤ 9223372036854775807) (hv : Value.okWide Try.prog W r b0 22 v) (h : DataW.Trod enc Try.prog W 0 (fun _ => true) true 22 v d p) (hb : Bd d) :
    ∃ (a : Option Addr) (c : Nat) (z : List Dl), v = .slice a z.length c ∧ z.length ≤ N ∧ z.length ≤ c ∧ Row (M.all W) a (dls z) := by
  obtain ⟨a, c, z, rfl, h1, -, -, h2⟩ := open_dls B hN hv h hb
  exact ⟨a, c, z, rfl, h1, okWide_cap Try.underlying22 hv, h2⟩

structure PlP (a : Option Addr) (l : List Dl) (b : Nat) (m : M) : Prop where
  row : Row m a (dls l)
  cells : CellsAt m b 0 (dls l ++ (encDl mk71 ++ encDl mk71))
  lt : b < m.sz

theorem PlP.own {a : Option Addr} {l : List Dl} {b : Nat} {m : M} (h : PlP a l b m) : Row m (some ⟨b, 0, none⟩) (dls l) := .at _ _ _ h.lt h.cells.take

theorem PlP.step {a : Option Addr} {l : List Dl} {b : Nat} {m m' : M} {N : Nat} (h : PlP a l b m) (hN : m.sz ≤ N) (hag : Agree N { m with sz := N } m') : PlP a l b m' :=
  ⟨(h.row.sz hN).agree hag, CellsAt.of (m := { m with sz := N }) ⟨h.cells.out⟩ (hag.1 b (Nat.lt_of_lt_of_le h.lt hN)), Nat.lt_of_lt_of_le h.lt (Nat.le_trans hN hag.2.2)⟩

theorem open_len (l : List Dl) (d : Dl) : (openD l d).1.length ≤ l.length + 1 := by
  unfold openD
  repeat' split
  all_goals simp

theorem dealplays (a : Option Addr) (cp : Nat) (l : List Dl) (d : Dl) (c s : Int) (mine is : Bool) (hn : l.length ≤ 1759218604410) (hcp : l.length ≤ cp) (m : M) (h : Row m a (dls l)) :
    QSpec Try.prog 3 [.slice a l.length cp, dlv d, I c, I s, .bool mine, .bool is] m (.bool true) := by
  refine QSpec.of_vc Try.func3 (ann := fun _ => noAnn) fun N hN => ?_
  refine vc_by (X :=
      true = true ∧
      ∃ (S' : Nat → Prop),
      (∀ (b : Nat), S' b → m.uf b ∧ (N ≤ b ∨ False)) ∧
      ∀ (n : Nat),
      N ≤ n →
      SpecW Try.prog (9 : Nat) [Value.slice a l.length cp] { π := m.π, sz := n, uf := m.uf : M } S' fun (v : Value) (m' : M) =>
      ∃ (a_2 : Option Addr),
      ∃ (n : Nat),
      ∃ (c_1 : Nat),
      v = Value.slice a_2 n c_1 ∧
      ∃ (b : Bool),
      QSpec Try.prog (10 : Nat) [Value.slice a l.length cp] m' (Value.bool b) ∧
      ifB (!b)
      (∃ (n_1 : Int),
      ∃ (n_2 : Int),
      ∃ (s_1 : ByteArray),
      ∃ (s_2 : ByteArray),
      ∃ (n_3 : Int),
      ∃ (n_4 : Int),
      ∃ (n_5 : Int),
      ∃ (n_6 : Int),
      ∃ (b : Bool),
      QSpec Try.prog (11 : Nat) [Value.slice a_2 n c_1, Value.int IntKind.i64 c, Value.int IntKind.i64 s] m'
      (Value.tuple
      #[Value.agg
      #[Value.int IntKind.i64 n_1, Value.int IntKind.i64 n_2, Value.string s_1, Value.string s_2, Value.int IntKind.i64 n_3,
      Value.int IntKind.i64 n_4, Value.int IntKind.i64 n_5, Value.int IntKind.i64 n_6],
      Value.bool b]) ∧
      ∃ (n_7 : Int),
      ∃ (n_8 : Int),
      ∃ (s_3 : ByteArray),
      ∃ (s_4 : ByteArray),
      ∃ (n_9 : Int),
      ∃ (n_10 : Int),
      ∃ (n_11 : Int),
      ∃ (n_12 : Int),
      ∃ (b_1 : Bool),
      QSpec Try.prog (12 : Nat) [Value.slice a l.length cp, Value.int IntKind.i64 c, Value.int IntKind.i64 s] m'
      (Value.tuple
      #[Value.agg
      #[Value.int IntKind.i64 n_7, Value.int IntKind.i64 n_8, Value.string s_3, Value.string s_4,
      Value.int IntKind.i64 n_9, Value.int IntKind.i64 n_10, Value.int IntKind.i64 n_11,
      Value.int IntKind.i64 n_12],
      Value.bool b_1]) ∧
      ∃ (S' : Nat → Prop),
      (∀ (b : Nat), S' b → m'.uf b ∧ (N ≤ b ∨ False)) ∧
      ∀ (n_13 : Nat),
      m'.sz ≤ n_13 →
      SpecW Try.prog (13 : Nat)
      [Value.slice a_2 n c_1,
      Value.agg
      #[Value.int IntKind.i64 d.cl, Value.int IntKind.i64 d.sq, Value.string d.ky, Value.string d.ot,
      Value.int IntKind.i64 d.n, Value.int IntKind.i64 d.mi, Value.int IntKind.i64 d.th,
      Value.int IntKind.i64 d.ft]]
      { π := m'.π, sz := n_13, uf := m'.uf : M } S' fun (v : Value) (m' : M) =>
      ∃ (a_4 : Option Addr),
      ∃ (n_14 : Nat),
      ∃ (c_2 : Nat),
      ∃ (n_15 : Int),
      v = Value.tuple #[Value.slice a_4 n_14 c_2, Value.int IntKind.i64 n_15] ∧
      ∃ (S' : Nat → Prop),
      (∀ (b : Nat), S' b → m'.uf b ∧ (N ≤ b ∨ False)) ∧
      ∀ (n_16 : Nat),
      m'.sz ≤ n_16 →
      SpecW Try.prog (14 : Nat)
      [Value.slice a l.length cp,
      Value.agg
      #[Value.int IntKind.i64 d.cl, Value.int IntKind.i64 d.sq, Value.string d.ky,
      Value.string d.ot, Value.int IntKind.i64 d.n, Value.int IntKind.i64 d.mi,
      Value.int IntKind.i64 d.th, Value.int IntKind.i64 d.ft]]
      { π := m'.π, sz := n_16, uf := m'.uf : M } S' fun (v : Value) (m' : M) =>
      ∃ (a_6 : Option Addr),
      ∃ (n_17 : Nat),
      ∃ (c_3 : Nat),
      ∃ (n_18 : Int),
      v = Value.tuple #[Value.slice a_6 n_17 c_3, Value.int IntKind.i64 n_18] ∧
      ∃ (b_2 : Bool),
      QSpec Try.prog (15 : Nat) [] m' (Value.bool b_2) ∧
      ifB (!b_2) (Done (Value.bool false = Value.bool true))
      (∃ (n_19 : Int),
      QSpec Try.prog (16 : Nat) [Value.slice a_2 n c_1] m'
      (Value.int IntKind.i64 n_19) ∧
      ifB (n_19 != (21 : Int))
      (Done (Value.bool false = Value.bool true))
      (ifB
      (!(n_1 == n_7 &&
      (n_2 == n_8 &&
      (s_1.toList == s_3.toList &&
      (s_2.toList == s_4.toList &&
      (n_3 == n_9 &&
      (n_4 == n_10 &&
      (n_5 == n_11 && (n_6 == n_12 && true)))))))))
      (Done (Value.bool false = Value.bool true))
      (ifB (!b == b_1) (Done (Value.bool false = Value.bool true))
      (∃ (b : Bool),
      QSpec Try.prog (17 : Nat)
      [Value.slice a_4 n_14 c_2, Value.slice a_6 n_17 c_3]
      m' (Value.bool b) ∧
      ifB (!b) (Done (Value.bool false = Value.bool true))
      (ifB (n_15 != n_18)
      (Done (Value.bool false = Value.bool true))
      (∃ (S' : Nat → Prop),
      (∀ (b : Nat),
      S' b → m'.uf b ∧ (N ≤ b ∨ False)) ∧
      ∀ (n_20 : Nat),
      m'.sz ≤ n_20 →
      SpecW Try.prog (18 : Nat)
      [Value.slice a_2 n c_1,
      Value.int IntKind.i64 c,
      Value.int IntKind.i64 s,
      Value.bool mine, Value.bool is]
      { π := m'.π, sz := n_20, uf := m'.uf : M }
      S' fun (v : Value) (m' : M) =>
      ∃ (a_8 : Option Addr),
      ∃ (n_21 : Nat),
      ∃ (c_4 : Nat),
      ∃ (b : Bool),
      ∃ (n_22 : Int),
      v =
      Value.tuple
      #[Value.slice a_8 n_21
      c_4,
      Value.bool b,
      Value.int IntKind.i64
      n_22] ∧
      ∃ (S' : Nat → Prop),
      (∀ (b : Nat),
      S' b →
      m'.uf b ∧
      (N ≤ b ∨ False)) ∧
      ∀ (n_23 : Nat),
      m'.sz ≤ n_23 →
      SpecW Try.prog
      (19 : Nat)
      [Value.slice a
      l.length cp,
      Value.int
      IntKind.i64 c,
      Value.int
      IntKind.i64 s,
      Value.bool mine,
      Value.bool is]
      { π := m'.π, sz := n_23, uf := m'.uf : M }
      S'
      fun (v : Value)
      (m' : M) =>
      ∃ (a_10 :
      Option Addr),
      ∃ (n_24 : Nat),
      ∃ (c_5 : Nat),
      ∃ (b_3 :
      Bool),
      ∃ (n_25 :
      Int),
      v =
      Value.tuple
      #[Value.slice
      a_10
      n_24
      c_5,
      Value.bool
      b_3,
      Value.int
      IntKind.i64
      n_25] ∧
      ∃ (b_4
      :
      Bool),
      QSpec
      Try.prog
      (17 :
      Nat)
      [Value.slice
      a_8
      n_21
      c_4,
      Value.slice
      a_10
      n_24
      c_5]
      m'
      (Value.bool
      b_4) ∧
      ifB
      (!b_4)
      (Done
      (Value.bool
      false =
      Value.bool
      true))
      (ifB
      (!b ==
      b_3)
      (Done
      (Value.bool
      false =
      Value.bool
      true))
      (ifB
      (n_22 !=
      n_25)
      (Done
      (Value.bool
      false =
      Value.bool
      true))
      (∃
      (S'
      :
      Nat →
      Prop),
      (∀
      (b :
      Nat),
      S'
      b →
      m'.uf
      b ∧
      (N ≤
      b ∨
      False)) ∧
      ∀
      (n_26 :
      Nat),
      m'.sz ≤
      n_26 →
      SpecW
      Try.prog
      (20 :
      Nat)
      [Value.slice
      a_2
      n
      c_1,
      Value.int
      IntKind.i64
      c,
      Value.int
      IntKind.i64
      s]
      { π := m'.π, sz := n_26, uf := m'.uf : M }
      S'
      fun
      (v :
      Value)
      (m' :
      M) =>
      ∃
      (a_12
      :
      Option
      Addr),
      ∃
      (n_27
      :
      Nat),
      ∃
      (c_6
      :
      Nat),
      ∃
      (b
      :
      Bool),
      ∃
      (n_28
      :
      Int),
      v =
      Value.tuple
      #[Value.slice
      a_12
      n_27
      c_6,
      Value.bool
      b,
      Value.int
      IntKind.i64
      n_28] ∧
      ∃
      (S'
      :
      Nat →
      Prop),
      (∀
      (b :
      Nat),
      S'
      b →
      m'.uf
      b ∧
      (N ≤
      b ∨
      False)) ∧
      ∀
      (n_29 :
      Nat),
      m'.sz ≤
      n_29 →
      SpecW
      Try.prog
      (21 :
      Nat)
      [Value.slice
      a
      l.length
      cp,
      Value.int
      IntKind.i64
      c,
      Value.int
      IntKind.i64
      s]
      { π := m'.π, sz := n_29, uf := m'.uf : M }
      S'
      fun
      (v :
      Value)
      (m' :
      M) =>
      ∃
      (a_14
      :
      Option
      Addr),
      ∃
      (n_30
      :
      Nat),
      ∃
      (c_7
      :
      Nat),
      ∃
      (b_5
      :
      Bool),
      ∃
      (n_31
      :
      Int),
      v =
      Value.tuple
      #[Value.slice
      a_14
      n_30
      c_7,
      Value.bool
      b_5,
      Value.int
      IntKind.i64
      n_31] ∧
      ∃
      (b_6
      :
      Bool),
      QSpec
      Try.prog
      (17 :
      Nat)
      [Value.slice
      a_12
      n_27
      c_6,
      Value.slice
      a_14
      n_30
      c_7]
      m'
      (Value.bool
      b_6) ∧
      ifB
      (!b_6)
      (Done
      (Value.bool
      false =
      Value.bool
      true))
      (ifB
      (!b ==
      b_5)
      (Done
      (Value.bool
      false =
      Value.bool
      true))
      (ifB
      (n_28 !=
      n_31)
      (Done
      (Value.bool
      false =
      Value.bool
      true))
      (∃
      (S'
      :
      Nat →
      Prop),
      (∀
      (b :
      Nat),
      S'
      b →
      m'.uf
      b ∧
      (N ≤
      b ∨
      False)) ∧
      ∀
      (n_32 :
      Nat),
      m'.sz ≤
      n_32 →
      SpecW
      Try.prog
      (22 :
      Nat)
      [Value.slice
      a_2
      n
      c_1,
      Value.int
      IntKind.i64
      c,
      Value.int
      IntKind.i64
      s]
      { π := m'.π, sz := n_32, uf := m'.uf : M }
      S'
      fun
      (v :
      Value)
      (m' :
      M) =>
      ∃
      (a_16
      :
      Option
      Addr),
      ∃
      (n_33
      :
      Nat),
      ∃
      (c_8
      :
      Nat),
      ∃
      (n_34
      :
      Int),
      v =
      Value.tuple
      #[Value.slice
      a_16
      n_33
      c_8,
      Value.int
      IntKind.i64
      n_34] ∧
      ∃
      (S'
      :
      Nat →
      Prop),
      (∀
      (b :
      Nat),
      S'
      b →
      m'.uf
      b ∧
      (N ≤
      b ∨
      False)) ∧
      ∀
      (n_35 :
      Nat),
      m'.sz ≤
      n_35 →
      SpecW
      Try.prog
      (23 :
      Nat)
      [Value.slice
      a
      l.length
      cp,
      Value.int
      IntKind.i64
      c,
      Value.int
      IntKind.i64
      s]
      { π := m'.π, sz := n_35, uf := m'.uf : M }
      S'
      fun
      (v :
      Value)
      (m' :
      M) =>
      ∃
      (a_18
      :
      Option
      Addr),
      ∃
      (n_36
      :
      Nat),
      ∃
      (c
      :
      Nat),
      ∃
      (n_37
      :
      Int),
      v =
      Value.tuple
      #[Value.slice
      a_18
      n_36
      c,
      Value.int
      IntKind.i64
      n_37] ∧
      ∃
      (b
      :
      Bool),
      QSpec
      Try.prog
      (17 :
      Nat)
      [Value.slice
      a_16
      n_33
      c_8,
      Value.slice
      a_18
      n_36
      c]
      m'
      (Value.bool
      b) ∧
      ifB
      b
      (ifB
      (n_34 ==
      n_37)
      (∃
      (b
      :
      Bool),
      QSpec
      Try.prog
      (24 :
      Nat)
      [Value.slice
      a_2
      n
      c_1,
      Value.slice
      a
      l.length
      cp]
      m'
      (Value.bool
      b) ∧
      Done
      (Value.bool
      b =
      Value.bool
      true))
      (Done
      (Value.bool
      false =
      Value.bool
      true)))
      (Done
      (Value.bool
      false =
      Value.bool
      true)))))))))))))))
      (∃ (n_1 : Int),
      ∃ (n_2 : Int),
      ∃ (s_1 : ByteArray),
      ∃ (s_2 : ByteArray),
      ∃ (n_3 : Int),
      ∃ (n_4 : Int),
      ∃ (n_5 : Int),
      ∃ (n_6 : Int),
      ∃ (b : Bool),
      QSpec Try.prog (11 : Nat) [Value.slice a_2 n c_1, Value.int IntKind.i64 c, Value.int IntKind.i64 s] m'
      (Value.tuple
      #[Value.agg
      #[Value.int IntKind.i64 n_1, Value.int IntKind.i64 n_2, Value.string s_1, Value.string s_2, Value.int IntKind.i64 n_3,
      Value.int IntKind.i64 n_4, Value.int IntKind.i64 n_5, Value.int IntKind.i64 n_6],
      Value.bool b]) ∧
      ∃ (n_7 : Int),
      ∃ (n_8 : Int),
      ∃ (s_3 : ByteArray),
      ∃ (s_4 : ByteArray),
      ∃ (n_9 : Int),
      ∃ (n_10 : Int),
      ∃ (n_11 : Int),
      ∃ (n_12 : Int),
      ∃ (b_1 : Bool),
      QSpec Try.prog (12 : Nat) [Value.slice a l.length cp, Value.int IntKind.i64 c, Value.int IntKind.i64 s] m'
      (Value.tuple
      #[Value.agg
      #[Value.int IntKind.i64 n_7, Value.int IntKind.i64 n_8, Value.string s_3, Value.string s_4,
      Value.int IntKind.i64 n_9, Value.int IntKind.i64 n_10, Value.int IntKind.i64 n_11,
      Value.int IntKind.i64 n_12],
      Value.bool b_1]) ∧
      ∃ (S' : Nat → Prop),
      (∀ (b : Nat), S' b → m'.uf b ∧ (N ≤ b ∨ False)) ∧
      ∀ (n_13 : Nat),
      m'.sz ≤ n_13 →
      SpecW Try.prog (13 : Nat)
      [Value.slice a_2 n c_1,
      Value.agg
      #[Value.int IntKind.i64 d.cl, Value.int IntKind.i64 d.sq, Value.string d.ky, Value.string d.ot,
      Value.int IntKind.i64 d.n, Value.int IntKind.i64 d.mi, Value.int IntKind.i64 d.th,
      Value.int IntKind.i64 d.ft]]
      { π := m'.π, sz := n_13, uf := m'.uf : M } S' fun (v : Value) (m' : M) =>
      ∃ (a_4 : Option Addr),
      ∃ (n_14 : Nat),
      ∃ (c_2 : Nat),
      ∃ (n_15 : Int),
      v = Value.tuple #[Value.slice a_4 n_14 c_2, Value.int IntKind.i64 n_15] ∧
      ∃ (S' : Nat → Prop),
      (∀ (b : Nat), S' b → m'.uf b ∧ (N ≤ b ∨ False)) ∧
      ∀ (n_16 : Nat),
      m'.sz ≤ n_16 →
      SpecW Try.prog (14 : Nat)
      [Value.slice a l.length cp,
      Value.agg
      #[Value.int IntKind.i64 d.cl, Value.int IntKind.i64 d.sq, Value.string d.ky,
      Value.string d.ot, Value.int IntKind.i64 d.n, Value.int IntKind.i64 d.mi,
      Value.int IntKind.i64 d.th, Value.int IntKind.i64 d.ft]]
      { π := m'.π, sz := n_16, uf := m'.uf : M } S' fun (v : Value) (m' : M) =>
      ∃ (a_6 : Option Addr),
      ∃ (n_17 : Nat),
      ∃ (c_3 : Nat),
      ∃ (n_18 : Int),
      v = Value.tuple #[Value.slice a_6 n_17 c_3, Value.int IntKind.i64 n_18] ∧
      ∃ (b_2 : Bool),
      QSpec Try.prog (15 : Nat) [] m' (Value.bool b_2) ∧
      ifB (!b_2) (Done (Value.bool false = Value.bool true))
      (∃ (n_19 : Int),
      QSpec Try.prog (16 : Nat) [Value.slice a_2 n c_1] m'
      (Value.int IntKind.i64 n_19) ∧
      ifB (n_19 != (0 : Int))
      (Done (Value.bool false = Value.bool true))
      (ifB
      (!(n_1 == n_7 &&
      (n_2 == n_8 &&
      (s_1.toList == s_3.toList &&
      (s_2.toList == s_4.toList &&
      (n_3 == n_9 &&
      (n_4 == n_10 &&
      (n_5 == n_11 && (n_6 == n_12 && true)))))))))
      (Done (Value.bool false = Value.bool true))
      (ifB (!b == b_1) (Done (Value.bool false = Value.bool true))
      (∃ (b : Bool),
      QSpec Try.prog (17 : Nat)
      [Value.slice a_4 n_14 c_2, Value.slice a_6 n_17 c_3]
      m' (Value.bool b) ∧
      ifB (!b) (Done (Value.bool false = Value.bool true))
      (ifB (n_15 != n_18)
      (Done (Value.bool false = Value.bool true))
      (∃ (S' : Nat → Prop),
      (∀ (b : Nat),
      S' b → m'.uf b ∧ (N ≤ b ∨ False)) ∧
      ∀ (n_20 : Nat),
      m'.sz ≤ n_20 →
      SpecW Try.prog (18 : Nat)
      [Value.slice a_2 n c_1,
      Value.int IntKind.i64 c,
      Value.int IntKind.i64 s,
      Value.bool mine, Value.bool is]
      { π := m'.π, sz := n_20, uf := m'.uf : M }
      S' fun (v : Value) (m' : M) =>
      ∃ (a_8 : Option Addr),
      ∃ (n_21 : Nat),
      ∃ (c_4 : Nat),
      ∃ (b : Bool),
      ∃ (n_22 : Int),
      v =
      Value.tuple
      #[Value.slice a_8 n_21
      c_4,
      Value.bool b,
      Value.int IntKind.i64
      n_22] ∧
      ∃ (S' : Nat → Prop),
      (∀ (b : Nat),
      S' b →
      m'.uf b ∧
      (N ≤ b ∨ False)) ∧
      ∀ (n_23 : Nat),
      m'.sz ≤ n_23 →
      SpecW Try.prog
      (19 : Nat)
      [Value.slice a
      l.length cp,
      Value.int
      IntKind.i64 c,
      Value.int
      IntKind.i64 s,
      Value.bool mine,
      Value.bool is]
      { π := m'.π, sz := n_23, uf := m'.uf : M }
      S'
      fun (v : Value)
      (m' : M) =>
      ∃ (a_10 :
      Option Addr),
      ∃ (n_24 : Nat),
      ∃ (c_5 : Nat),
      ∃ (b_3 :
      Bool),
      ∃ (n_25 :
      Int),
      v =
      Value.tuple
      #[Value.slice
      a_10
      n_24
      c_5,
      Value.bool
      b_3,
      Value.int
      IntKind.i64
      n_25] ∧
      ∃ (b_4
      :
      Bool),
      QSpec
      Try.prog
      (17 :
      Nat)
      [Value.slice
      a_8
      n_21
      c_4,
      Value.slice
      a_10
      n_24
      c_5]
      m'
      (Value.bool
      b_4) ∧
      ifB
      (!b_4)
      (Done
      (Value.bool
      false =
      Value.bool
      true))
      (ifB
      (!b ==
      b_3)
      (Done
      (Value.bool
      false =
      Value.bool
      true))
      (ifB
      (n_22 !=
      n_25)
      (Done
      (Value.bool
      false =
      Value.bool
      true))
      (∃
      (S'
      :
      Nat →
      Prop),
      (∀
      (b :
      Nat),
      S'
      b →
      m'.uf
      b ∧
      (N ≤
      b ∨
      False)) ∧
      ∀
      (n_26 :
      Nat),
      m'.sz ≤
      n_26 →
      SpecW
      Try.prog
      (20 :
      Nat)
      [Value.slice
      a_2
      n
      c_1,
      Value.int
      IntKind.i64
      c,
      Value.int
      IntKind.i64
      s]
      { π := m'.π, sz := n_26, uf := m'.uf : M }
      S'
      fun
      (v :
      Value)
      (m' :
      M) =>
      ∃
      (a_12
      :
      Option
      Addr),
      ∃
      (n_27
      :
      Nat),
      ∃
      (c_6
      :
      Nat),
      ∃
      (b
      :
      Bool),
      ∃
      (n_28
      :
      Int),
      v =
      Value.tuple
      #[Value.slice
      a_12
      n_27
      c_6,
      Value.bool
      b,
      Value.int
      IntKind.i64
      n_28] ∧
      ∃
      (S'
      :
      Nat →
      Prop),
      (∀
      (b :
      Nat),
      S'
      b →
      m'.uf
      b ∧
      (N ≤
      b ∨
      False)) ∧
      ∀
      (n_29 :
      Nat),
      m'.sz ≤
      n_29 →
      SpecW
      Try.prog
      (21 :
      Nat)
      [Value.slice
      a
      l.length
      cp,
      Value.int
      IntKind.i64
      c,
      Value.int
      IntKind.i64
      s]
      { π := m'.π, sz := n_29, uf := m'.uf : M }
      S'
      fun
      (v :
      Value)
      (m' :
      M) =>
      ∃
      (a_14
      :
      Option
      Addr),
      ∃
      (n_30
      :
      Nat),
      ∃
      (c_7
      :
      Nat),
      ∃
      (b_5
      :
      Bool),
      ∃
      (n_31
      :
      Int),
      v =
      Value.tuple
      #[Value.slice
      a_14
      n_30
      c_7,
      Value.bool
      b_5,
      Value.int
      IntKind.i64
      n_31] ∧
      ∃
      (b_6
      :
      Bool),
      QSpec
      Try.prog
      (17 :
      Nat)
      [Value.slice
      a_12
      n_27
      c_6,
      Value.slice
      a_14
      n_30
      c_7]
      m'
      (Value.bool
      b_6) ∧
      ifB
      (!b_6)
      (Done
      (Value.bool
      false =
      Value.bool
      true))
      (ifB
      (!b ==
      b_5)
      (Done
      (Value.bool
      false =
      Value.bool
      true))
      (ifB
      (n_28 !=
      n_31)
      (Done
      (Value.bool
      false =
      Value.bool
      true))
      (∃
      (S'
      :
      Nat →
      Prop),
      (∀
      (b :
      Nat),
      S'
      b →
      m'.uf
      b ∧
      (N ≤
      b ∨
      False)) ∧
      ∀
      (n_32 :
      Nat),
      m'.sz ≤
      n_32 →
      SpecW
      Try.prog
      (22 :
      Nat)
      [Value.slice
      a_2
      n
      c_1,
      Value.int
      IntKind.i64
      c,
      Value.int
      IntKind.i64
      s]
      { π := m'.π, sz := n_32, uf := m'.uf : M }
      S'
      fun
      (v :
      Value)
      (m' :
      M) =>
      ∃
      (a_16
      :
      Option
      Addr),
      ∃
      (n_33
      :
      Nat),
      ∃
      (c_8
      :
      Nat),
      ∃
      (n_34
      :
      Int),
      v =
      Value.tuple
      #[Value.slice
      a_16
      n_33
      c_8,
      Value.int
      IntKind.i64
      n_34] ∧
      ∃
      (S'
      :
      Nat →
      Prop),
      (∀
      (b :
      Nat),
      S'
      b →
      m'.uf
      b ∧
      (N ≤
      b ∨
      False)) ∧
      ∀
      (n_35 :
      Nat),
      m'.sz ≤
      n_35 →
      SpecW
      Try.prog
      (23 :
      Nat)
      [Value.slice
      a
      l.length
      cp,
      Value.int
      IntKind.i64
      c,
      Value.int
      IntKind.i64
      s]
      { π := m'.π, sz := n_35, uf := m'.uf : M }
      S'
      fun
      (v :
      Value)
      (m' :
      M) =>
      ∃
      (a_18
      :
      Option
      Addr),
      ∃
      (n_36
      :
      Nat),
      ∃
      (c
      :
      Nat),
      ∃
      (n_37
      :
      Int),
      v =
      Value.tuple
      #[Value.slice
      a_18
      n_36
      c,
      Value.int
      IntKind.i64
      n_37] ∧
      ∃
      (b
      :
      Bool),
      QSpec
      Try.prog
      (17 :
      Nat)
      [Value.slice
      a_16
      n_33
      c_8,
      Value.slice
      a_18
      n_36
      c]
      m'
      (Value.bool
      b) ∧
      ifB
      b
      (ifB
      (n_34 ==
      n_37)
      (∃
      (b
      :
      Bool),
      QSpec
      Try.prog
      (24 :
      Nat)
      [Value.slice
      a_2
      n
      c_1,
      Value.slice
      a
      l.length
      cp]
      m'
      (Value.bool
      b) ∧
      Done
      (Value.bool
      b =
      Value.bool
      true))
      (Done
      (Value.bool
      false =
      Value.bool
      true)))
      (Done
      (Value.bool
      false =
      Value.bool
      true)))))))))))))))) (by kernel_rfl) ?_
  have hh : l.length ≤ 9223372036854775807 := by omega
  have l0 := open_len l d
  have l1 := say_len l c s mine is
  have l2 := give_len l c s
  have l3 := forget_len l c s
  refine ⟨rfl, _, noS, fun N1 hN1 => (own_s a cp l hn _ (h.sz (by omega))).monoW fun v1 m1 ag1 ⟨b, e1, k1, k2, _, k4⟩ => ⟨_, _, _, e1, _, rright_q a cp l hh _ ((h.sz (n := N1) (by omega)).agree ag1), ?_⟩⟩
  have p1 : PlP a l b m1 := ⟨(h.sz (n := N1) (by omega)).agree ag1, k4, k2⟩
  cases hb : booksB l
  · refine ifB_true ?_
    refine ⟨_, _, _, _, _, _, _, _, _, find_q _ _ l c s hh _ p1.own, _, _, _, _, _, _, _, _, _, rfind_q _ _ l c s hh _ p1.row, _, noS, fun N2 hN2 => (dopen_s _ _ l d hh (fun e => by simp at e) _ (p1.own.sz hN2)).monoW fun v2 m2 ag2 ⟨a2, c2, e2, r2⟩ => ⟨_, _, _, _, e2, ?_⟩⟩
    have p2 := p1.step hN2 ag2
    refine ⟨_, noS, fun N3 hN3 => (ropen_s _ _ l d hn _ (p2.row.sz hN3)).monoW fun v3 m3 ag3 ⟨a3, c3, e3, r3⟩ => ⟨_, _, _, _, e3, _, awake_q _, ifB_false ⟨_, check_q _ _ l hh _ (p2.step hN3 ag3).own, ?_⟩⟩⟩
    have p3 := p2.step hN3 ag3
    rw [hb]
    simp only [beq_self_eq_true, Bool.and_self, Bool.not_true]
    refine ifB_false (ifB_false (ifB_false ⟨_, dl_plain _ _ _ _ _ _ (by omega) _ ((r2.row.sz hN3).agree ag3) r3.row, ?_⟩))
    simp only [beq_self_eq_true, decide_true, bne_self_eq_false, Bool.not_true]
    refine ifB_false (ifB_false ⟨_, noS, fun N4 hN4 => (saying_s _ _ l c s mine is hh (fun e => by simp at e) _ (p3.own.sz hN4)).monoW fun v4 m4 ag4 ⟨a4, c4, e4, r4⟩ => ⟨_, _, _, _, _, e4, ?_⟩⟩)
    have p4 := p3.step hN4 ag4
    refine ⟨_, noS, fun N5 hN5 => (rsay_s _ _ l c s mine is hn _ (p4.row.sz hN5)).monoW fun v5 m5 ag5 ⟨a5, c5, e5, r5⟩ => ⟨_, _, _, _, _, e5, ?_⟩⟩
    have p5 := p4.step hN5 ag5
    rw [turn_say] at r5 ⊢
    refine ⟨_, dl_plain _ _ _ _ _ _ (by omega) _ ((r4.row.sz hN5).agree ag5) r5.row, ?_⟩
    simp only [beq_self_eq_true, decide_true, bne_self_eq_false, Bool.not_true]
    refine ifB_false (ifB_false (ifB_false ⟨_, noS, fun N6 hN6 => (give_s _ _ l c s hh (fun e => by simp at e) _ (p5.own.sz hN6)).monoW fun v6 m6 ag6 ⟨a6, c6, e6, r6⟩ => ⟨_, _, _, _, _, e6, ?_⟩⟩))
    have p6 := p5.step hN6 ag6
    refine ⟨_, noS, fun N7 hN7 => (rgive_s _ _ l c s hn _ (p6.row.sz hN7)).monoW fun v7 m7 ag7 ⟨a7, c7, e7, r7⟩ => ⟨_, _, _, _, _, e7, ?_⟩⟩
    have p7 := p6.step hN7 ag7
    rw [turn_give] at r7 ⊢
    refine ⟨_, dl_plain _ _ _ _ _ _ (by omega) _ ((r6.row.sz hN7).agree ag7) r7.row, ?_⟩
    simp only [beq_self_eq_true, decide_true, bne_self_eq_false, Bool.not_true]
    refine ifB_false (ifB_false (ifB_false ⟨_, noS, fun N8 hN8 => (forget_s _ _ l c s hh (fun e => by simp at e) _ (p7.own.sz hN8)).monoW fun v8 m8 ag8 ⟨a8, c8, e8, r8⟩ => ⟨_, _, _, _, e8, ?_⟩⟩))
    have p8 := p7.step hN8 ag8
    refine ⟨_, noS, fun N9 hN9 => (rforget_s _ _ l c s hn hcp _ (p8.row.sz hN9)).monoW fun v9 m9 ag9 ⟨a9, c9, e9, r9⟩ => ⟨_, _, _, _, e9, ?_⟩⟩
    have p9 := p8.step hN9 ag9
    refine ⟨_, dl_plain _ _ _ _ _ _ (by omega) _ ((r8.row.sz hN9).agree ag9) r9.row, ?_⟩
    simp only [beq_self_eq_true, decide_true]
    exact ifB_true (ifB_true ⟨_, kept_q b l a cp hn _ p9.lt p9.cells p9.row, ⟨rfl⟩⟩)
  · refine ifB_false ?_
    refine ⟨_, _, _, _, _, _, _, _, _, find_q _ _ l c s hh _ p1.own, _, _, _, _, _, _, _, _, _, rfind_q _ _ l c s hh _ p1.row, _, noS, fun N2 hN2 => (dopen_s _ _ l d hh (fun e => by simp at e) _ (p1.own.sz hN2)).monoW fun v2 m2 ag2 ⟨a2, c2, e2, r2⟩ => ⟨_, _, _, _, e2, ?_⟩⟩
    have p2 := p1.step hN2 ag2
    refine ⟨_, noS, fun N3 hN3 => (ropen_s _ _ l d hn _ (p2.row.sz hN3)).monoW fun v3 m3 ag3 ⟨a3, c3, e3, r3⟩ => ⟨_, _, _, _, e3, _, awake_q _, ifB_false ⟨_, check_q _ _ l hh _ (p2.step hN3 ag3).own, ?_⟩⟩⟩
    have p3 := p2.step hN3 ag3
    rw [hb]
    simp only [beq_self_eq_true, Bool.and_self, Bool.not_true]
    refine ifB_false (ifB_false (ifB_false ⟨_, dl_plain _ _ _ _ _ _ (by omega) _ ((r2.row.sz hN3).agree ag3) r3.row, ?_⟩))
    simp only [beq_self_eq_true, decide_true, bne_self_eq_false, Bool.not_true]
    refine ifB_false (ifB_false ⟨_, noS, fun N4 hN4 => (saying_s _ _ l c s mine is hh (fun e => by simp at e) _ (p3.own.sz hN4)).monoW fun v4 m4 ag4 ⟨a4, c4, e4, r4⟩ => ⟨_, _, _, _, _, e4, ?_⟩⟩)
    have p4 := p3.step hN4 ag4
    refine ⟨_, noS, fun N5 hN5 => (rsay_s _ _ l c s mine is hn _ (p4.row.sz hN5)).monoW fun v5 m5 ag5 ⟨a5, c5, e5, r5⟩ => ⟨_, _, _, _, _, e5, ?_⟩⟩
    have p5 := p4.step hN5 ag5
    rw [turn_say] at r5 ⊢
    refine ⟨_, dl_plain _ _ _ _ _ _ (by omega) _ ((r4.row.sz hN5).agree ag5) r5.row, ?_⟩
    simp only [beq_self_eq_true, decide_true, bne_self_eq_false, Bool.not_true]
    refine ifB_false (ifB_false (ifB_false ⟨_, noS, fun N6 hN6 => (give_s _ _ l c s hh (fun e => by simp at e) _ (p5.own.sz hN6)).monoW fun v6 m6 ag6 ⟨a6, c6, e6, r6⟩ => ⟨_, _, _, _, _, e6, ?_⟩⟩))
    have p6 := p5.step hN6 ag6
    refine ⟨_, noS, fun N7 hN7 => (rgive_s _ _ l c s hn _ (p6.row.sz hN7)).monoW fun v7 m7 ag7 ⟨a7, c7, e7, r7⟩ => ⟨_, _, _, _, _, e7, ?_⟩⟩
    have p7 := p6.step hN7 ag7
    rw [turn_give] at r7 ⊢
    refine ⟨_, dl_plain _ _ _ _ _ _ (by omega) _ ((r6.row.sz hN7).agree ag7) r7.row, ?_⟩
    simp only [beq_self_eq_true, decide_true, bne_self_eq_false, Bool.not_true]
    refine ifB_false (ifB_false (ifB_false ⟨_, noS, fun N8 hN8 => (forget_s _ _ l c s hh (fun e => by simp at e) _ (p7.own.sz hN8)).monoW fun v8 m8 ag8 ⟨a8, c8, e8, r8⟩ => ⟨_, _, _, _, e8, ?_⟩⟩))
    have p8 := p7.step hN8 ag8
    refine ⟨_, noS, fun N9 hN9 => (rforget_s _ _ l c s hn hcp _ (p8.row.sz hN9)).monoW fun v9 m9 ag9 ⟨a9, c9, e9, r9⟩ => ⟨_, _, _, _, e9, ?_⟩⟩
    have p9 := p8.step hN9 ag9
    refine ⟨_, dl_plain _ _ _ _ _ _ (by omega) _ ((r8.row.sz hN9).agree ag9) r9.row, ?_⟩
    simp only [beq_self_eq_true, decide_true]
    exact ifB_true (ifB_true ⟨_, kept_q b l a cp hn _ p9.lt p9.cells p9.row, ⟨rfl⟩⟩)

end Go.Proofs.Ytoilbbfidnhekaa
set_option linter.unusedVariables false
set_option linter.unusedSimpArgs false
namespace Go.Proofs.Ytoilbbfidnhekaa
open Go.Vc Go.RowKit
set_option maxRecDepth 100000

theorem en_insert (a : Option Addr) (c : Nat) (l : List En) (i vb vo vc : Nat) (x : En) (S : Nat → Prop) (hn : l.length ≤ 8796093022000) (hi : i ≤ l.length) (m : M) (h : NewR m.sz S m 2 a l.length c (l.flatMap encEn)) (hS : l ≠ [] → ∀ b o, a = some ⟨b, o, none⟩ → b ≠ vb) (hvlt : vb < m.sz) (hu : m.uf vb) (hv : CellsAt m vb vo (encEn x)) :
    SpecW Try.prog 56 [.slice a l.length c, I i, .slice (some ⟨vb, vo, none⟩) 1 vc] m S fun v m' => ∃ a' c', v = .slice a' (l.length + 1) c' ∧ NewR m.sz S m' 2 a' (l.length + 1) c' ((l.take i ++ x :: l.drop i).flatMap encEn) := by
  refine SpecW.of_vc Try.func56 (ann := noAnn) ?_
  refine vc_by (X :=
      true = true ∧
      (true = true ∧ (0 : Int) ≤ (↑i : Int) ∧ (↑i : Int) ≤ (↑l.length : Int) ∧ True ∧ True) ∧
      ifB ((↑i : Int) == (↑l.length : Int))
      (∃ (old : List Value),
      ∃ (src : List Value),
      AppPre m.sz S m (2 : Nat) (16 : Nat) a l.length c (some { block := vb, off := vo : Addr }) (1 : Nat) old src ∧
      ∀ (a' : Option Addr) (c' : Nat) (m' : M),
      AppPost Try.prog (48 : Nat) m (2 : Nat) a l.length c (1 : Nat) old src a' c' m' →
      Done
      (∃ (a'_1 : Option Addr),
      ∃ (c'_1 : Nat),
      Value.slice a' (l.length + (1 : Nat)) c' = Value.slice a'_1 (l.length + (1 : Nat)) c'_1 ∧
      NewR m.sz S m' (2 : Nat) a'_1 (l.length + (1 : Nat)) c'_1 (List.flatMap encEn (List.take i l ++ x :: List.drop i l))))
      (ifB (decide (IntKind.i64.wrap ((↑l.length : Int) + (↑(1 : Nat) : Int)) > (↑c : Int)))
      ((true = true ∧ (0 : Int) ≤ (0 : Int) ∧ (0 : Int) ≤ (↑i : Int) ∧ (↑i : Int) ≤ (↑c : Int) ∧ True) ∧
      ∃ (old : List Value),
      ((0 : Int) ≤ IntKind.i64.wrap (IntKind.i64.wrap ((↑l.length : Int) + (↑(1 : Nat) : Int)) - (↑i : Int)) ∧
      AppPreZ Try.prog (48 : Nat) m.sz S m (2 : Nat) (16 : Nat) (if (↑c : Int).toNat = (0 : Nat) then a else Option.map (fun (x : Addr) => x) a)
      ((↑i : Int).toNat - (0 : Nat)) ((↑c : Int).toNat - (0 : Nat)) (IntKind.i64.wrap (IntKind.i64.wrap ((↑l.length : Int) + (↑(1 : Nat) : Int)) - (↑i : Int))).toNat
      old) ∧
      ∀ (a' : Option Addr) (c' : Nat) (m' : M),
      AppPost Try.prog (48 : Nat) m (2 : Nat) (if (↑c : Int).toNat = (0 : Nat) then a else Option.map (fun (x : Addr) => x) a) ((↑i : Int).toNat - (0 : Nat))
      ((↑c : Int).toNat - (0 : Nat)) (IntKind.i64.wrap (IntKind.i64.wrap ((↑l.length : Int) + (↑(1 : Nat) : Int)) - (↑i : Int))).toNat old
      (zeroRow Try.prog (48 : Nat) (IntKind.i64.wrap (IntKind.i64.wrap ((↑l.length : Int) + (↑(1 : Nat) : Int)) - (↑i : Int))).toNat) a' c' m' →
      (true = true ∧
      (0 : Int) ≤ (↑i : Int) ∧
      (↑i : Int) ≤ (↑((↑i : Int).toNat - (0 : Nat) + (IntKind.i64.wrap (IntKind.i64.wrap ((↑l.length : Int) + (↑(1 : Nat) : Int)) - (↑i : Int))).toNat) : Int) ∧
      True ∧ True) ∧
      ∃ (src : List Value),
      CopyPre m.sz S m' (2 : Nat)
      (if (↑c' : Int).toNat = (↑i : Int).toNat then a' else Option.map (fun (x : Addr) => x.add ((↑i : Int).toNat * Try.prog.types[(48 : Nat)].size)) a')
      ((↑((↑i : Int).toNat - (0 : Nat) + (IntKind.i64.wrap (IntKind.i64.wrap ((↑l.length : Int) + (↑(1 : Nat) : Int)) - (↑i : Int))).toNat) : Int).toNat -
      (↑i : Int).toNat)
      (some { block := vb, off := vo : Addr }) (1 : Nat) src ∧
      ∀ (m'_1 : M),
      CopyPost m'
      (if (↑c' : Int).toNat = (↑i : Int).toNat then a' else Option.map (fun (x : Addr) => x.add ((↑i : Int).toNat * Try.prog.types[(48 : Nat)].size)) a')
      src m'_1 →
      true = true ∧
      (true = true ∧
      (0 : Int) ≤ IntKind.i64.wrap ((↑i : Int) + (↑(1 : Nat) : Int)) ∧
      IntKind.i64.wrap ((↑i : Int) + (↑(1 : Nat) : Int)) ≤
      (↑((↑i : Int).toNat - (0 : Nat) + (IntKind.i64.wrap (IntKind.i64.wrap ((↑l.length : Int) + (↑(1 : Nat) : Int)) - (↑i : Int))).toNat) :
      Int) ∧
      True ∧ True) ∧
      (true = true ∧ (0 : Int) ≤ (↑i : Int) ∧ (↑i : Int) ≤ (↑l.length : Int) ∧ True ∧ True) ∧
      (∃ (src : List Value),
      CopyPre m.sz S m'_1 (2 : Nat)
      (if (↑c' : Int).toNat = (IntKind.i64.wrap ((↑i : Int) + (↑(1 : Nat) : Int))).toNat then a'
      else
      Option.map (fun (x : Addr) => x.add ((IntKind.i64.wrap ((↑i : Int) + (↑(1 : Nat) : Int))).toNat * Try.prog.types[(48 : Nat)].size)) a')
      ((↑((↑i : Int).toNat - (0 : Nat) + (IntKind.i64.wrap (IntKind.i64.wrap ((↑l.length : Int) + (↑(1 : Nat) : Int)) - (↑i : Int))).toNat) :
      Int).toNat -
      (IntKind.i64.wrap ((↑i : Int) + (↑(1 : Nat) : Int))).toNat)
      (if (↑c : Int).toNat = (↑i : Int).toNat then a
      else Option.map (fun (x : Addr) => x.add ((↑i : Int).toNat * Try.prog.types[(48 : Nat)].size)) a)
      ((↑l.length : Int).toNat - (↑i : Int).toNat) src ∧
      ∀ (m' : M),
      CopyPost m'_1
      (if (↑c' : Int).toNat = (IntKind.i64.wrap ((↑i : Int) + (↑(1 : Nat) : Int))).toNat then a'
      else
      Option.map (fun (x : Addr) => x.add ((IntKind.i64.wrap ((↑i : Int) + (↑(1 : Nat) : Int))).toNat * Try.prog.types[(48 : Nat)].size))
      a')
      src m' →
      Done
      (∃ (a'_1 : Option Addr),
      ∃ (c'_1 : Nat),
      Value.slice a'
      ((↑i : Int).toNat - (0 : Nat) +
      (IntKind.i64.wrap (IntKind.i64.wrap ((↑l.length : Int) + (↑(1 : Nat) : Int)) - (↑i : Int))).toNat)
      c' =
      Value.slice a'_1 (l.length + (1 : Nat)) c'_1 ∧
      NewR m.sz S m' (2 : Nat) a'_1 (l.length + (1 : Nat)) c'_1 (List.flatMap encEn (List.take i l ++ x :: List.drop i l)))) ∧
      True)
      ((true = true ∧
      (0 : Int) ≤ (0 : Int) ∧
      (0 : Int) ≤ IntKind.i64.wrap ((↑l.length : Int) + (↑(1 : Nat) : Int)) ∧ IntKind.i64.wrap ((↑l.length : Int) + (↑(1 : Nat) : Int)) ≤ (↑c : Int) ∧ True) ∧
      (true = true ∧
      (0 : Int) ≤ IntKind.i64.wrap ((↑i : Int) + (↑(1 : Nat) : Int)) ∧
      IntKind.i64.wrap ((↑i : Int) + (↑(1 : Nat) : Int)) ≤ (↑((IntKind.i64.wrap ((↑l.length : Int) + (↑(1 : Nat) : Int))).toNat - (0 : Nat)) : Int) ∧ True ∧ True) ∧
      ∃ (b : Bool),
      RunV Try.prog (76 : Nat)
      [Value.slice (some { block := vb, off := vo : Addr }) (1 : Nat) vc,
      Value.slice
      (if (↑((↑c : Int).toNat - (0 : Nat)) : Int).toNat = (IntKind.i64.wrap ((↑i : Int) + (↑(1 : Nat) : Int))).toNat then
      if (↑c : Int).toNat = (0 : Nat) then a else Option.map (fun (x : Addr) => x) a
      else
      Option.map (fun (x : Addr) => x.add ((IntKind.i64.wrap ((↑i : Int) + (↑(1 : Nat) : Int))).toNat * Try.prog.types[(48 : Nat)].size))
      (if (↑c : Int).toNat = (0 : Nat) then a else Option.map (fun (x : Addr) => x) a))
      ((↑((IntKind.i64.wrap ((↑l.length : Int) + (↑(1 : Nat) : Int))).toNat - (0 : Nat)) : Int).toNat - (IntKind.i64.wrap ((↑i : Int) + (↑(1 : Nat) : Int))).toNat)
      ((↑((↑c : Int).toNat - (0 : Nat)) : Int).toNat - (IntKind.i64.wrap ((↑i : Int) + (↑(1 : Nat) : Int))).toNat)]
      m (Value.bool b) ∧
      ifB (!b)
      (true = true ∧
      (true = true ∧
      (0 : Int) ≤ IntKind.i64.wrap ((↑i : Int) + (↑(1 : Nat) : Int)) ∧
      IntKind.i64.wrap ((↑i : Int) + (↑(1 : Nat) : Int)) ≤ (↑((IntKind.i64.wrap ((↑l.length : Int) + (↑(1 : Nat) : Int))).toNat - (0 : Nat)) : Int) ∧
      True ∧ True) ∧
      (true = true ∧ (0 : Int) ≤ (↑i : Int) ∧ (↑i : Int) ≤ (↑((IntKind.i64.wrap ((↑l.length : Int) + (↑(1 : Nat) : Int))).toNat - (0 : Nat)) : Int) ∧ True ∧ True) ∧
      (∃ (src : List Value),
      CopyPre m.sz S m (2 : Nat)
      (if (↑((↑c : Int).toNat - (0 : Nat)) : Int).toNat = (IntKind.i64.wrap ((↑i : Int) + (↑(1 : Nat) : Int))).toNat then
      if (↑c : Int).toNat = (0 : Nat) then a else Option.map (fun (x : Addr) => x) a
      else
      Option.map (fun (x : Addr) => x.add ((IntKind.i64.wrap ((↑i : Int) + (↑(1 : Nat) : Int))).toNat * Try.prog.types[(48 : Nat)].size))
      (if (↑c : Int).toNat = (0 : Nat) then a else Option.map (fun (x : Addr) => x) a))
      ((↑((IntKind.i64.wrap ((↑l.length : Int) + (↑(1 : Nat) : Int))).toNat - (0 : Nat)) : Int).toNat -
      (IntKind.i64.wrap ((↑i : Int) + (↑(1 : Nat) : Int))).toNat)
      (if (↑((↑c : Int).toNat - (0 : Nat)) : Int).toNat = (↑i : Int).toNat then
      if (↑c : Int).toNat = (0 : Nat) then a else Option.map (fun (x : Addr) => x) a
      else
      Option.map (fun (x : Addr) => x.add ((↑i : Int).toNat * Try.prog.types[(48 : Nat)].size))
      (if (↑c : Int).toNat = (0 : Nat) then a else Option.map (fun (x : Addr) => x) a))
      ((↑((IntKind.i64.wrap ((↑l.length : Int) + (↑(1 : Nat) : Int))).toNat - (0 : Nat)) : Int).toNat - (↑i : Int).toNat) src ∧
      ∀ (m' : M),
      CopyPost m
      (if (↑((↑c : Int).toNat - (0 : Nat)) : Int).toNat = (IntKind.i64.wrap ((↑i : Int) + (↑(1 : Nat) : Int))).toNat then
      if (↑c : Int).toNat = (0 : Nat) then a else Option.map (fun (x : Addr) => x) a
      else
      Option.map (fun (x : Addr) => x.add ((IntKind.i64.wrap ((↑i : Int) + (↑(1 : Nat) : Int))).toNat * Try.prog.types[(48 : Nat)].size))
      (if (↑c : Int).toNat = (0 : Nat) then a else Option.map (fun (x : Addr) => x) a))
      src m' →
      (true = true ∧
      (0 : Int) ≤ (↑i : Int) ∧
      (↑i : Int) ≤ (↑((IntKind.i64.wrap ((↑l.length : Int) + (↑(1 : Nat) : Int))).toNat - (0 : Nat)) : Int) ∧ True ∧ True) ∧
      ∃ (src : List Value),
      CopyPre m.sz S m' (2 : Nat)
      (if (↑((↑c : Int).toNat - (0 : Nat)) : Int).toNat = (↑i : Int).toNat then
      if (↑c : Int).toNat = (0 : Nat) then a else Option.map (fun (x : Addr) => x) a
      else
      Option.map (fun (x : Addr) => x.add ((↑i : Int).toNat * Try.prog.types[(48 : Nat)].size))
      (if (↑c : Int).toNat = (0 : Nat) then a else Option.map (fun (x : Addr) => x) a))
      ((↑((IntKind.i64.wrap ((↑l.length : Int) + (↑(1 : Nat) : Int))).toNat - (0 : Nat)) : Int).toNat - (↑i : Int).toNat)
      (some { block := vb, off := vo : Addr }) (1 : Nat) src ∧
      ∀ (m'_1 : M),
      CopyPost m'
      (if (↑((↑c : Int).toNat - (0 : Nat)) : Int).toNat = (↑i : Int).toNat then
      if (↑c : Int).toNat = (0 : Nat) then a else Option.map (fun (x : Addr) => x) a
      else
      Option.map (fun (x : Addr) => x.add ((↑i : Int).toNat * Try.prog.types[(48 : Nat)].size))
      (if (↑c : Int).toNat = (0 : Nat) then a else Option.map (fun (x : Addr) => x) a))
      src m'_1 →
      Done
      (∃ (a' : Option Addr),
      ∃ (c' : Nat),
      Value.slice (if (↑c : Int).toNat = (0 : Nat) then a else Option.map (fun (x : Addr) => x) a)
      ((IntKind.i64.wrap ((↑l.length : Int) + (↑(1 : Nat) : Int))).toNat - (0 : Nat)) ((↑c : Int).toNat - (0 : Nat)) =
      Value.slice a' (l.length + (1 : Nat)) c' ∧
      NewR m.sz S m'_1 (2 : Nat) a' (l.length + (1 : Nat)) c' (List.flatMap encEn (List.take i l ++ x :: List.drop i l)))) ∧
      True)
      ((true = true ∧
      (0 : Int) ≤ (↑l.length : Int) ∧ (↑l.length : Int) ≤ (↑((IntKind.i64.wrap ((↑l.length : Int) + (↑(1 : Nat) : Int))).toNat - (0 : Nat)) : Int) ∧ True ∧ True) ∧
      ∃ (src : List Value),
      CopyPre m.sz S m (2 : Nat)
      (if (↑((↑c : Int).toNat - (0 : Nat)) : Int).toNat = (↑l.length : Int).toNat then
      if (↑c : Int).toNat = (0 : Nat) then a else Option.map (fun (x : Addr) => x) a
      else
      Option.map (fun (x : Addr) => x.add ((↑l.length : Int).toNat * Try.prog.types[(48 : Nat)].size))
      (if (↑c : Int).toNat = (0 : Nat) then a else Option.map (fun (x : Addr) => x) a))
      ((↑((IntKind.i64.wrap ((↑l.length : Int) + (↑(1 : Nat) : Int))).toNat - (0 : Nat)) : Int).toNat - (↑l.length : Int).toNat)
      (some { block := vb, off := vo : Addr }) (1 : Nat) src ∧
      ∀ (m' : M),
      CopyPost m
      (if (↑((↑c : Int).toNat - (0 : Nat)) : Int).toNat = (↑l.length : Int).toNat then
      if (↑c : Int).toNat = (0 : Nat) then a else Option.map (fun (x : Addr) => x) a
      else
      Option.map (fun (x : Addr) => x.add ((↑l.length : Int).toNat * Try.prog.types[(48 : Nat)].size))
      (if (↑c : Int).toNat = (0 : Nat) then a else Option.map (fun (x : Addr) => x) a))
      src m' →
      (true = true ∧
      (0 : Int) ≤ (↑i : Int) ∧ (↑i : Int) ≤ (↑((IntKind.i64.wrap ((↑l.length : Int) + (↑(1 : Nat) : Int))).toNat - (0 : Nat)) : Int) ∧ True ∧ True) ∧
      ∃ (S' : Nat → Prop),
      (∀ (b : Nat), S' b → m'.uf b ∧ (m.sz ≤ b ∨ S b)) ∧
      ∀ (n : Nat),
      m'.sz ≤ n →
      SpecW Try.prog (77 : Nat)
      [Value.slice
      (if (↑((↑c : Int).toNat - (0 : Nat)) : Int).toNat = (↑i : Int).toNat then
      if (↑c : Int).toNat = (0 : Nat) then a else Option.map (fun (x : Addr) => x) a
      else
      Option.map (fun (x : Addr) => x.add ((↑i : Int).toNat * Try.prog.types[(48 : Nat)].size))
      (if (↑c : Int).toNat = (0 : Nat) then a else Option.map (fun (x : Addr) => x) a))
      ((↑((IntKind.i64.wrap ((↑l.length : Int) + (↑(1 : Nat) : Int))).toNat - (0 : Nat)) : Int).toNat - (↑i : Int).toNat)
      ((↑((↑c : Int).toNat - (0 : Nat)) : Int).toNat - (↑i : Int).toNat),
      Value.int IntKind.i64 (↑(1 : Nat) : Int)]
      { π := m'.π, sz := n, uf := m'.uf : M } S' fun (v : Value) (m' : M) =>
      v = Value.tuple #[] ∧
      Done
      (∃ (a' : Option Addr),
      ∃ (c' : Nat),
      Value.slice (if (↑c : Int).toNat = (0 : Nat) then a else Option.map (fun (x : Addr) => x) a)
      ((IntKind.i64.wrap ((↑l.length : Int) + (↑(1 : Nat) : Int))).toNat - (0 : Nat)) ((↑c : Int).toNat - (0 : Nat)) =
      Value.slice a' (l.length + (1 : Nat)) c' ∧
      NewR m.sz S m' (2 : Nat) a' (l.length + (1 : Nat)) c' (List.flatMap encEn (List.take i l ++ x :: List.drop i l))))))) (by kernel_rfl) ?_
  have hk : ∀ x, (encEn x).length = 2 := fun _ => rfl
  have w1 : IntKind.i64.wrap ((l.length : Int) + ((1 : Nat) : Int)) = ((l.length + 1 : Nat) : Int) := by simp [IntKind.wrap_i64]; omega
  have w2 : IntKind.i64.wrap (((l.length + 1 : Nat) : Int) - (i : Int)) = ((l.length + 1 - i : Nat) : Int) := by simp [IntKind.wrap_i64]; omega
  have w3 : IntKind.i64.wrap ((i : Int) + ((1 : Nat) : Int)) = ((i + 1 : Nat) : Int) := by simp [IntKind.wrap_i64]; omega
  have es : Try.prog.types[48].size = 2 := by kernel_rfl
  simp only [w1, w2, w3, es, Int.toNat_natCast, Nat.sub_zero, Option.map_id_fun', id_eq, ite_self]
  have zl : ∀ k, (zeroRow Try.prog 48 k).length = k * 2 := zrLen (by kernel_rfl)
  have z1 : ∀ k, oneCells (zeroRow Try.prog 48 k) = true := zrOne (by kernel_rfl)
  have o1 : ∀ y : List En, oneCells (y.flatMap encEn) = true := fun y => by
    rw [oneCells_iff]; intro v hv
    obtain ⟨w, -, hw⟩ := List.mem_flatMap.1 hv
    exact oneCells_iff.1 (rfl : oneCells (encEn w) = true) v hw
  have hvr : Row m (some ⟨vb, vo, none⟩) (encEn x) := .at _ _ _ hvlt hv
  have eres : (l.take i ++ x :: l.drop i).flatMap encEn = (l.take i).flatMap encEn ++ (encEn x ++ (l.drop i).flatMap encEn) := by
    rw [List.flatMap_append, List.flatMap_cons]
  rw [eres]
  refine ⟨trivial, ⟨trivial, by omega, by omega, trivial, trivial⟩, ifB_intro (fun hb => ?_) (fun hb => ?_)⟩
  · have hil : i = l.length := by simp at hb; omega
    subst hil
    refine ⟨_, _, h.appPre hvr (hk x) rfl (by omega), fun a' c' m' hp => ⟨⟨a', c', rfl, ?_⟩⟩⟩
    have := h.append hp (hk x) zl (Nat.le_refl _)
    rw [List.take_length, List.drop_length, List.flatMap_nil, List.append_nil]
    exact this
  have hil : i < l.length := by simp at hb; omega
  have ho := h.toOwn (by omega)
  obtain ⟨b, o, rfl, -⟩ := ho.row.cells (by rw [flat_len hk]; omega)
  have hcl := ho.capLe
  have hbv := hS (fun e => by subst e; simp at hil) b o rfl
  have hTl : ((l.take i).flatMap encEn).length = i * 2 := by rw [flat_len hk, List.length_take]; congr 1; omega
  have hDl : ((l.drop i).flatMap encEn).length = (l.length - i) * 2 := by rw [flat_len hk, List.length_drop]
  have hne : some (⟨b, o, none⟩ : Addr) ≠ none := by simp
  have hci : c ≠ i := by omega
  rw [flat_cut l i] at ho
  generalize hT : (l.take i).flatMap encEn = T at *
  generalize hD : (l.drop i).flatMap encEn = D at *
  refine ifB_intro (fun hc => ?_) (fun hc => ?_)
  · have hcl2 : c = l.length := by simp at hc; omega
    refine ⟨⟨trivial, by omega, by omega, by omega, trivial⟩, T, ⟨by omega, ⟨ho.row.take.rowAt, hTl, zl _, z1 _, by decide, by omega, (fun e => by cases e), fun _ hr => by omega⟩⟩, fun a' c' m' hp => ⟨⟨trivial, by omega, by omega, trivial, trivial⟩, ?_⟩⟩
    rcases hp with ⟨hr, -⟩ | ⟨-, b', hb', hc', rfl, rfl⟩
    · omega
    have hbb : b ≠ b' := by have := ho.lt rfl; omega
    have hvb : vb ≠ b' := by omega
    have e1 : i + (l.length + 1 - i) = l.length + 1 := by omega
    generalize hz : zeroRow Try.prog 48 (l.length + 1 - i) = z at *
    have hzl : z.length = (l.length + 1 - i) * 2 := by rw [← hz, zl]
    have zs : z = z.take 2 ++ z.drop 2 := (List.take_append_drop _ _).symm
    have zt : (z.take 2).length = 2 := by rw [List.length_take, hzl]; omega
    have zd : (z.drop 2).length = (l.length - i) * 2 := by rw [List.length_drop, hzl]; omega
    have q1 : OwnB m.sz S (m.newBlock b' (T ++ z ++ zeroRow Try.prog 48 (c' - (i + (l.length + 1 - i))))) 2 (some ⟨b', 0, none⟩) (l.length + 1) c' (T ++ (z.take 2 ++ z.drop 2)) := by
      rw [← zs]
      exact OwnB.new hb' (by rw [List.length_append, hTl, hzl]; omega) (by rw [zl]; congr 1; omega) (by omega)
    obtain ⟨g1, q2⟩ := q1.set (new := encEn x) (by rw [zt]; exact hk x)
    rw [hTl] at g1 q2
    have q2' : OwnB m.sz S ((m.newBlock b' (T ++ z ++ zeroRow Try.prog 48 (c' - (i + (l.length + 1 - i))))).setCells b' (0 + i * 2) (encEn x)) 2 (some ⟨b', 0, none⟩) (l.length + 1) c' ((T ++ encEn x) ++ (z.drop 2 ++ [])) := by
      rw [show (T ++ encEn x) ++ (z.drop 2 ++ []) = T ++ (encEn x ++ z.drop 2) by rw [List.append_nil, List.append_assoc]]; exact q2
    obtain ⟨g2, q3⟩ := q2'.set (new := D) (by rw [zd, hDl])
    have el : (T ++ encEn x).length = (i + 1) * 2 := by rw [List.length_append, hTl, hk]; omega
    rw [el] at g2 q3
    refine ⟨encEn x, copyPre (sub_addr (by omega)) (hvr.newBlock hb').rowAt (by rw [hk]; omega) rfl g1 (by simp), fun m1 hp1 => ?_⟩
    have hm1 := hp1.atc (sub_addr (by omega))
    subst hm1
    have hDr : Row ((m.newBlock b' (T ++ z ++ zeroRow Try.prog 48 (c' - (i + (l.length + 1 - i))))).setCells b' (0 + i * 2) (encEn x)) (some ⟨b, o + i * 2, none⟩) D := by
      have h1 := ho.row.drop hTl
      rw [show (some (⟨b, o, none⟩ : Addr)).map (fun x => x.add (i * 2)) = some ⟨b, o + i * 2, none⟩ from by show some (Addr.add _ _) = _; rw [add_none]] at h1
      exact (h1.newBlock hb').of (Nat.le_refl _) fun b2 o2 e2 _ => setCells_other (by cases e2; exact hbb)
    refine ⟨trivial, ⟨trivial, by omega, by omega, trivial, trivial⟩, ⟨trivial, by omega, by omega, trivial, trivial⟩, ⟨D, copyPre (sub_addr (by omega)) (by rw [sub_addr hci]; exact hDr.rowAt) (by rw [hDl]; congr 1; omega) (by rw [← hD]; exact o1 _) g2 (by rw [sub_addr hci]; simp), fun m2 hp2 => ?_⟩, trivial⟩
    have hm2 := hp2.atc (sub_addr (by omega))
    subst hm2
    refine ⟨⟨_, c', by rw [e1], .own ?_⟩⟩
    rw [show (T ++ encEn x) ++ (D ++ []) = T ++ (encEn x ++ D) by rw [List.append_nil, List.append_assoc]] at q3
    exact q3
  · have hcl2 : l.length + 1 ≤ c := by simp at hc; omega
    have hi1 : c ≠ i + 1 := by omega
    have hov : RunV Try.prog 76 [.slice (some ⟨vb, vo, none⟩) 1 vc, .slice (some ⟨b, o + (i + 1) * 2, none⟩) (l.length + 1 - (i + 1)) (c - (i + 1))] m (.bool false) :=
      over_run Try.func76 (by kernel_rfl) (by kernel_rfl) (by kernel_rfl) (t := 45) (tR := 4) (by kernel_rfl) Try.underlying45 (i := Try.prog.types[48]) (by kernel_rfl) (Ne.symm hbv) hu (ho.uf rfl) (by
        obtain ⟨b2, o2, e2, hcell⟩ := ho.row.cells (by rw [List.length_append, hTl, hDl]; omega)
        cases e2
        have h0 := hcell.out 0 (by rw [List.length_append, hTl, hDl]; omega)
        rw [List.getElem?_eq_getElem (by rw [List.length_append, hTl, hDl]; omega)] at h0
        exact ⟨_, _, h0⟩)
    cases ho with
    | «at» b o len cap cs rest lo lt uf hcells hl hr hc' =>
    have rs : rest = rest.take 2 ++ rest.drop 2 := (List.take_append_drop _ _).symm
    have rt : (rest.take 2).length = 2 := by rw [List.length_take, hr]; omega
    have rd : (rest.drop 2).length = (c - (l.length + 1)) * 2 := by rw [List.length_drop, hr]; omega
    have ds : D = D.take 2 ++ D.drop 2 := (List.take_append_drop _ _).symm
    have dt : (D.take 2).length = 2 := by rw [List.length_take, hDl]; omega
    have dd : (D.drop 2).length = (l.length - (i + 1)) * 2 := by rw [List.length_drop, hDl]; omega
    have q1 : OwnB m.sz S m 2 (some ⟨b, o, none⟩) (l.length + 1) c ((T ++ D.take 2) ++ ((D.drop 2 ++ rest.take 2) ++ [])) := by
      refine .at b o _ _ _ (rest.drop 2) lo lt uf ?_ (by simp only [List.length_append, List.length_nil, hTl, dt, dd, rt]; omega) rd hcl2
      have e1 : T ++ D.take 2 ++ ((D.drop 2 ++ rest.take 2) ++ []) ++ rest.drop 2 = T ++ D ++ rest := by
        conv => rhs; rw [ds, rs]
        simp only [List.append_assoc, List.append_nil]
      rw [e1]; exact hcells
    obtain ⟨g1, q2⟩ := q1.set (new := D) (by rw [List.length_append, dd, rt, hDl]; omega)
    have el : (T ++ D.take 2).length = (i + 1) * 2 := by rw [List.length_append, hTl, dt]; omega
    rw [el] at g1 q2
    rw [show (T ++ D.take 2) ++ (D ++ []) = T ++ (D.take 2 ++ D) by rw [List.append_nil, List.append_assoc]] at q2
    obtain ⟨g2, q3⟩ := q2.set (new := encEn x) (by rw [dt]; exact hk x)
    rw [hTl] at g2 q3
    have hDr : RowAt m (some ⟨b, o + i * 2, none⟩) D := by
      have := hcells.take.drop
      rw [hTl] at this
      exact .inr ⟨b, _, rfl, this⟩
    refine ⟨⟨trivial, by omega, by omega, by omega, trivial⟩, ⟨trivial, by omega, by omega, trivial, trivial⟩, false, by rw [sub_addr hi1]; exact hov, ifB_true ⟨trivial, ⟨trivial, by omega, by omega, trivial, trivial⟩, ⟨trivial, by omega, by omega, trivial, trivial⟩, ⟨D, copyPre (sub_addr hi1) (by rw [sub_addr hci]; exact hDr) (by rw [hDl]; congr 1; omega) (by rw [← hD]; exact o1 _) g1 (by rw [sub_addr hci]; simp), fun m1 hp1 => ?_⟩, trivial⟩⟩
    have hm1 := hp1.atc (sub_addr hi1)
    subst hm1
    refine ⟨⟨trivial, by omega, by omega, trivial, trivial⟩, encEn x, copyPre (sub_addr hci) (Row.of (m' := m.setCells b (o + (i + 1) * 2) D) hvr (Nat.le_refl _) fun b2 o2 e2 _ => setCells_other (by cases e2; exact Ne.symm hbv)).rowAt (by rw [hk]; omega) rfl g2 (by simp), fun m2 hp2 => ?_⟩
    have hm2 := hp2.atc (sub_addr hci)
    subst hm2
    exact ⟨⟨_, c, rfl, .own q3⟩⟩

end Go.Proofs.Ytoilbbfidnhekaa
set_option linter.unusedVariables false
set_option linter.unusedSimpArgs false
namespace Go.Proofs.Ytoilbbfidnhekaa
open Go.Vc Go.RowKit
set_option maxRecDepth 100000

/-- the client's end; 0 -/
def ofE : List En → Int → Int
  | [], _ => 0
  | x :: xs, c => if x.cl = c then x.sq else ofE xs c

theorem ofE_drop {c : Int} : ∀ {l : List En} {k : Nat}, k ≤ l.length → (∀ x ∈ l.take k, x.cl ≠ c) → ofE l c = ofE (l.drop k) c
  | l, 0, _, _ => by simp
  | [], k + 1, h, _ => by simp at h
  | x :: xs, k + 1, h, hl => by
    have hx := hl x (by simp)
    have ih := ofE_drop (l := xs) (k := k) (by simpa using h) fun y hy => hl y (by simp [hy])
    simp only [ofE, List.drop_succ_cons, if_neg hx, ih]

theorem rends_q (a : Option Addr) (cp : Nat) (l : List En) (hn : l.length ≤ 9223372036854775807) (m : M) (h : Row m a (ens l)) : QSpec Try.prog 26 [.slice a l.length cp] m (.bool (endsB 0 l)) := by
  refine QSpec.of_vc Try.func26 (ann := fun n _ => { A := Nat × Int, inv := fun y => y.1 ≤ l.length ∧ endsB 0 l = endsB y.2 (l.drop y.1) ∧ 0 ≤ y.2, st := fun y => [(4, .val (I y.1)), (0, .val (.slice a l.length cp)), (3, .val (I y.2))], own := fun _ => [], m := fun _ => { m with sz := n }, μ := fun y => l.length - y.1 }) fun n hn' => ?_
  refine vc_by (X :=
      true = true ∧
      (∃ (a_1 : Nat × Int),
      (a_1.fst ≤ l.length ∧ endsB (0 : Int) l = endsB a_1.snd (List.drop a_1.fst l) ∧ (0 : Int) ≤ a_1.snd) ∧
      { π := m.π, sz := n, uf := m.uf : M } = { π := m.π, sz := n, uf := m.uf : M } ∧
      ((SV.val (Value.int IntKind.i64 (0 : Int)) = SV.val (Value.int IntKind.i64 (↑a_1.fst : Int)) ∧ true = true) ∧
      (SV.val (Value.slice a l.length cp) = SV.val (Value.slice a l.length cp) ∧ true = true) ∧
      (SV.val (Value.int IntKind.i64 (0 : Int)) = SV.val (Value.int IntKind.i64 a_1.snd) ∧ true = true) ∧ True) ∧
      True) ∧
      ∀ (a_1 : Nat × Int),
      a_1.fst ≤ l.length ∧ endsB (0 : Int) l = endsB a_1.snd (List.drop a_1.fst l) ∧ (0 : Int) ≤ a_1.snd →
      ifB (decide ((↑a_1.fst : Int) < (↑l.length : Int)))
      (∃ (b : Nat),
      ∃ (off : Nat),
      a = some { block := b, off := off : Addr } ∧
      ((0 : Int) ≤ (↑a_1.fst : Int) ∧ (↑a_1.fst : Int) < (↑l.length : Int)) ∧
      ∃ (n_1 : Int),
      CellsAt { π := m.π, sz := n, uf := m.uf : M } b (off + (↑a_1.fst : Int).toNat * (2 : Nat) + (0 : Nat)) [Value.int IntKind.i64 n_1] ∧
      ifB (decide (n_1 ≤ a_1.snd)) (Done (Value.bool false = Value.bool (endsB (0 : Int) l)))
      (∃ (b : Nat),
      ∃ (off : Nat),
      a = some { block := b, off := off : Addr } ∧
      ((0 : Int) ≤ (↑a_1.fst : Int) ∧ (↑a_1.fst : Int) < (↑l.length : Int)) ∧
      ∃ (n_2 : Int),
      CellsAt { π := m.π, sz := n, uf := m.uf : M } b (off + (↑a_1.fst : Int).toNat * (2 : Nat) + (0 : Nat)) [Value.int IntKind.i64 n_2] ∧
      ifB (decide (n_2 > (8 : Int))) (Done (Value.bool false = Value.bool (endsB (0 : Int) l)))
      (∃ (b : Nat),
      ∃ (off : Nat),
      a = some { block := b, off := off : Addr } ∧
      ((0 : Int) ≤ (↑a_1.fst : Int) ∧ (↑a_1.fst : Int) < (↑l.length : Int)) ∧
      ∃ (n_3 : Int),
      CellsAt { π := m.π, sz := n, uf := m.uf : M } b (off + (↑a_1.fst : Int).toNat * (2 : Nat) + (1 : Nat)) [Value.int IntKind.i64 n_3] ∧
      ∃ (b : Bool),
      QSpec Try.prog (52 : Nat) [Value.int IntKind.i64 n_3] { π := m.π, sz := n, uf := m.uf : M } (Value.bool b) ∧
      ifB (!b) (Done (Value.bool false = Value.bool (endsB (0 : Int) l)))
      (∃ (b : Nat),
      ∃ (off : Nat),
      a = some { block := b, off := off : Addr } ∧
      ((0 : Int) ≤ (↑a_1.fst : Int) ∧ (↑a_1.fst : Int) < (↑l.length : Int)) ∧
      ∃ (n_4 : Int),
      CellsAt { π := m.π, sz := n, uf := m.uf : M } b (off + (↑a_1.fst : Int).toNat * (2 : Nat) + (0 : Nat))
      [Value.int IntKind.i64 n_4] ∧
      ∃ (a' : Nat × Int),
      ((a'.fst ≤ l.length ∧ endsB (0 : Int) l = endsB a'.snd (List.drop a'.fst l) ∧ (0 : Int) ≤ a'.snd) ∧
      { π := m.π, sz := n, uf := m.uf : M } = { π := m.π, sz := n, uf := m.uf : M } ∧
      ((SV.val (Value.int IntKind.i64 (IntKind.i64.wrap ((↑a_1.fst : Int) + (1 : Int)))) =
      SV.val (Value.int IntKind.i64 (↑a'.fst : Int)) ∧
      true = true) ∧
      (SV.val (Value.slice a l.length cp) = SV.val (Value.slice a l.length cp) ∧ true = true) ∧
      (SV.val (Value.int IntKind.i64 n_4) = SV.val (Value.int IntKind.i64 a'.snd) ∧ true = true) ∧
      True) ∧
      True) ∧
      l.length - a'.fst < l.length - a_1.fst))))
      (Done (Value.bool true = Value.bool (endsB (0 : Int) l)))) (by kernel_rfl) ?_
  have h' := h.sz hn'
  refine ⟨rfl, ⟨⟨0, 0⟩, by simp⟩, fun y ⟨hk, hq, hz⟩ => ifB_intro (fun hb => ?_) (fun hb => ⟨?_⟩)⟩
  · have hk2 : y.1 < l.length := by simpa using hb
    obtain ⟨b, o, rfl, hc⟩ := h'.cells (by rw [en_len]; omega)
    have w1 : IntKind.i64.wrap ((y.1 : Int) + 1) = ((y.1 + 1 : Nat) : Int) := by simp [IntKind.wrap_i64]; omega
    rw [List.drop_eq_getElem_cons hk2, endsB] at hq
    have c0 := CellsAt.field en_k hc hk2 (p := []) (old := [I l[y.1].cl]) (q := [I l[y.1].sq]) rfl
    have c1 := CellsAt.field en_k hc hk2 (p := [I l[y.1].cl]) (old := [I l[y.1].sq]) (q := []) rfl
    refine ⟨b, o, rfl, by omega, _, by simpa using c0, ifB_intro (fun h1 => ⟨?_⟩) (fun h1 => ⟨b, o, rfl, by omega, _, by simpa using c0, ifB_intro (fun h2 => ⟨?_⟩) (fun h2 => ⟨b, o, rfl, by omega, _, by simpa using c1, _, rseq_q _ _, ifB_intro (fun h3 => ⟨?_⟩) (fun h3 => ⟨b, o, rfl, by omega, _, by simpa using c0, ⟨y.1 + 1, l[y.1].cl⟩, ⟨⟨hk2, ?_, ?_⟩, by simp [w1]⟩, by simp only; omega⟩)⟩)⟩)⟩
    · rw [hq]; have h1 : ¬ y.2 < l[y.1].cl := by simp at h1; omega
      simp [h1]
    all_goals have h1 : y.2 < l[y.1].cl := by simp at h1; omega
    · rw [hq]; have h2 : ¬ l[y.1].cl ≤ 8 := by simp at h2; omega
      simp [whoseB, h2]
    all_goals have h2 : l[y.1].cl ≤ 8 := by simp at h2; omega
    · rw [hq]; have h3 : ¬ (1 ≤ l[y.1].sq ∧ l[y.1].sq ≤ 4611686018427387904) := by simp at h3; omega
      have : whoseB l[y.1].cl l[y.1].sq = false := by simp [whoseB]; omega
      simp [this]
    · rw [hq]; have h3 : 1 ≤ l[y.1].sq ∧ l[y.1].sq ≤ 4611686018427387904 := by simp at h3; omega
      have : whoseB l[y.1].cl l[y.1].sq = true := by simp [whoseB]; omega
      simp [this, h1]
    · simp only; omega
  · have : y.1 = l.length := by simp at hb; omega
    rw [this] at hq
    simp [hq, endsB]

theorem rof_q (a : Option Addr) (cp : Nat) (l : List En) (c : Int) (hn : l.length ≤ 9223372036854775807) (m : M) (h : Row m a (ens l)) : QSpec Try.prog 58 [.slice a l.length cp, I c] m (I (ofE l c)) := by
  refine QSpec.of_vc Try.func58 (ann := fun n _ => { A := Nat, inv := fun k => k ≤ l.length ∧ ∀ x ∈ l.take k, x.cl ≠ c, st := fun k => [(5, .val (I k)), (0, .val (.slice a l.length cp)), (1, .val (I c))], own := fun _ => [], m := fun _ => { m with sz := n }, μ := fun k => l.length - k }) fun n hn' => ?_
  refine vc_by (X :=
      true = true ∧
      (∃ (a_1 : Nat),
      (a_1 ≤ l.length ∧ ∀ (x : En), x ∈ List.take a_1 l → x.cl ≠ c) ∧
      { π := m.π, sz := n, uf := m.uf : M } = { π := m.π, sz := n, uf := m.uf : M } ∧
      ((SV.val (Value.int IntKind.i64 (0 : Int)) = SV.val (Value.int IntKind.i64 (↑a_1 : Int)) ∧ true = true) ∧
      (SV.val (Value.slice a l.length cp) = SV.val (Value.slice a l.length cp) ∧ true = true) ∧
      (SV.val (Value.int IntKind.i64 c) = SV.val (Value.int IntKind.i64 c) ∧ true = true) ∧ True) ∧
      True) ∧
      ∀ (a_1 : Nat),
      (a_1 ≤ l.length ∧ ∀ (x : En), x ∈ List.take a_1 l → x.cl ≠ c) →
      ifB (decide ((↑a_1 : Int) < (↑l.length : Int)))
      (∃ (b : Nat),
      ∃ (off : Nat),
      a = some { block := b, off := off : Addr } ∧
      ((0 : Int) ≤ (↑a_1 : Int) ∧ (↑a_1 : Int) < (↑l.length : Int)) ∧
      ∃ (n_1 : Int),
      CellsAt { π := m.π, sz := n, uf := m.uf : M } b (off + (↑a_1 : Int).toNat * (2 : Nat) + (0 : Nat)) [Value.int IntKind.i64 n_1] ∧
      ifB (n_1 == c)
      (∃ (b : Nat),
      ∃ (off : Nat),
      a = some { block := b, off := off : Addr } ∧
      ((0 : Int) ≤ (↑a_1 : Int) ∧ (↑a_1 : Int) < (↑l.length : Int)) ∧
      ∃ (n_2 : Int),
      CellsAt { π := m.π, sz := n, uf := m.uf : M } b (off + (↑a_1 : Int).toNat * (2 : Nat) + (1 : Nat)) [Value.int IntKind.i64 n_2] ∧
      Done (Value.int IntKind.i64 n_2 = Value.int IntKind.i64 (ofE l c)))
      (∃ (a' : Nat),
      ((a' ≤ l.length ∧ ∀ (x : En), x ∈ List.take a' l → x.cl ≠ c) ∧
      { π := m.π, sz := n, uf := m.uf : M } = { π := m.π, sz := n, uf := m.uf : M } ∧
      ((SV.val (Value.int IntKind.i64 (IntKind.i64.wrap ((↑a_1 : Int) + (1 : Int)))) = SV.val (Value.int IntKind.i64 (↑a' : Int)) ∧ true = true) ∧
      (SV.val (Value.slice a l.length cp) = SV.val (Value.slice a l.length cp) ∧ true = true) ∧
      (SV.val (Value.int IntKind.i64 c) = SV.val (Value.int IntKind.i64 c) ∧ true = true) ∧ True) ∧
      True) ∧
      l.length - a' < l.length - a_1))
      (Done (Value.int IntKind.i64 (0 : Int) = Value.int IntKind.i64 (ofE l c)))) (by kernel_rfl) ?_
  have h' := h.sz hn'
  refine ⟨rfl, ⟨0, by simp⟩, fun k ⟨hk, hq⟩ => ifB_intro (fun hb => ?_) (fun hb => ⟨?_⟩)⟩
  · have hk2 : k < l.length := by simpa using hb
    obtain ⟨b, o, rfl, hc⟩ := h'.cells (by rw [en_len]; omega)
    have w1 : IntKind.i64.wrap ((k : Int) + 1) = ((k + 1 : Nat) : Int) := by simp [IntKind.wrap_i64]; omega
    have c0 := CellsAt.field en_k hc hk2 (p := []) (old := [I l[k].cl]) (q := [I l[k].sq]) rfl
    have c1 := CellsAt.field en_k hc hk2 (p := [I l[k].cl]) (old := [I l[k].sq]) (q := []) rfl
    have hd := ofE_drop hk hq
    rw [List.drop_eq_getElem_cons hk2, ofE] at hd
    refine ⟨b, o, rfl, by omega, _, by simpa using c0, ifB_intro (fun h1 => ⟨b, o, rfl, by omega, _, by simpa using c1, ⟨?_⟩⟩) (fun h1 => ⟨k + 1, ⟨⟨hk2, fun x hx => ?_⟩, by simp [w1]⟩, by omega⟩)⟩
    · have h1 : l[k].cl = c := by simpa using h1
      rw [if_pos h1] at hd
      rw [hd]
    · rw [List.take_succ_eq_append_getElem hk2, List.mem_append] at hx
      rcases hx with hx | hx
      · exact hq x hx
      · have hx : x = l[k] := by simpa using hx
        subst hx
        simpa using h1
  · have : k = l.length := by simp at hb; omega
    subst this
    have hd := ofE_drop hk hq
    simp [ofE] at hd
    rw [hd]

theorem rpast_q (a : Option Addr) (cp : Nat) (l : List En) (c s : Int) (hn : l.length ≤ 9223372036854775807) (m : M) (h : Row m a (ens l)) : QSpec Try.prog 34 [.slice a l.length cp, I c, I s] m (.bool (endsB 0 l && decide (0 < ofE l c) && decide (s ≤ ofE l c))) := by
  refine QSpec.of_vc Try.func34 (ann := fun _ => noAnn) fun n hn' => ?_
  refine vc_by (X :=
      true = true ∧
      ∃ (n_1 : Int),
      QSpec Try.prog (58 : Nat) [Value.slice a l.length cp, Value.int IntKind.i64 c] { π := m.π, sz := n, uf := m.uf : M } (Value.int IntKind.i64 n_1) ∧
      ∃ (b : Bool),
      QSpec Try.prog (26 : Nat) [Value.slice a l.length cp] { π := m.π, sz := n, uf := m.uf : M } (Value.bool b) ∧
      ifB b
      (ifB (decide (n_1 > (0 : Int))) (Done (Value.bool (decide (n_1 ≥ s)) = Value.bool (endsB (0 : Int) l && decide ((0 : Int) < ofE l c) && decide (s ≤ ofE l c))))
      (Done (Value.bool false = Value.bool (endsB (0 : Int) l && decide ((0 : Int) < ofE l c) && decide (s ≤ ofE l c)))))
      (Done (Value.bool false = Value.bool (endsB (0 : Int) l && decide ((0 : Int) < ofE l c) && decide (s ≤ ofE l c))))) (by kernel_rfl) ?_
  have h' := h.sz hn'
  refine ⟨rfl, _, rof_q a cp l c hn _ h', _, rends_q a cp l hn _ h', ifB_intro (fun h1 => ifB_intro (fun h2 => ⟨?_⟩) (fun h2 => ⟨?_⟩)) (fun h1 => ⟨?_⟩)⟩
  · simp at h2; simp [h1, h2]
  · simp at h2; simp [h1]; omega
  · simp [h1]

theorem ends_mem : ∀ {l : List En} {last : Int}, endsB last l = true → ∀ x ∈ l, last < x.cl ∧ whoseB x.cl x.sq = true
  | [], _, _, x, hx => by simp at hx
  | y :: ys, last, h, x, hx => by
    simp only [endsB, Bool.and_eq_true, decide_eq_true_eq] at h
    rcases List.mem_cons.1 hx with rfl | hx
    · exact h.1
    · have := ends_mem h.2 x hx
      exact ⟨by omega, this.2⟩

theorem past_law : ∀ (l : List En) (c s last : Int), endsB last l = true → (match l[endP l c]? with | some x => decide (x.cl = c) && decide (s ≤ x.sq) | none => false) = (decide (0 < ofE l c) && decide (s ≤ ofE l c))
  | [], _, _, _, _ => by simp [ofE]
  | x :: xs, c, s, last, h => by
    simp only [endsB, Bool.and_eq_true, decide_eq_true_eq] at h
    have hw : 1 ≤ x.sq := by have := h.1.2; simp [whoseB] at this; omega
    by_cases h1 : c ≤ x.cl
    · by_cases h2 : x.cl = c
      · have : 0 < x.sq := by omega
        simp [endP, h1, ofE, h2, this]
      · have h3 : ofE xs c = 0 := by
          have : ∀ y ∈ xs, y.cl ≠ c := fun y hy => by have := (ends_mem h.2 y hy).1; omega
          have := ofE_drop (l := xs) (k := xs.length) (Nat.le_refl _) (c := c) (by simpa using this)
          simpa [ofE] using this
        simp [endP, h1, ofE, h2, h3]
    · have h2 : x.cl ≠ c := by omega
      have := past_law xs c s x.cl h.2
      simp only [endP, if_neg h1, ofE, if_neg h2, List.getElem?_cons_succ]
      exact this

theorem past_eq (l : List En) (c s : Int) : pastB l c s = (endsB 0 l && decide (0 < ofE l c) && decide (s ≤ ofE l c)) := by
  cases h : endsB 0 l
  · unfold pastB; split <;> simp [h]
  · have := past_law l c s 0 h
    rw [Bool.true_and, ← this]
    unfold pastB; split <;> rename_i hx <;> simp [h, hx]

end Go.Proofs.Ytoilbbfidnhekaa
set_option linter.unusedVariables false
set_option linter.unusedSimpArgs false
namespace Go.Proofs.Ytoilbbfidnhekaa
open Go.Vc Go.RowKit
set_option maxRecDepth 100000

/-- a list of ends of its own, and an Errno -/
structure LeR (m : M) (y : List En × Int) (v : Value) (m' : M) : Prop where
  out : ∃ a' c', v = .tuple #[.slice a' y.1.length c', I y.2] ∧ NewR m.sz (fun _ => False) m' 2 a' y.1.length c' (ens y.1)

/-- the list with the client's end raised -/
def raised (l : List En) (c s : Int) : List En :=
  if endIs l c = true then l.set (endP l c) ⟨c, if ((l[endP l c]?).map (·.sq)).getD 0 < s then s else ((l[endP l c]?).map (·.sq)).getD 0⟩ else l.take (endP l c) ++ ⟨c, s⟩ :: l.drop (endP l c)

def raiseE (l : List En) (c s : Int) : List En × Int :=
  if endsB 0 l = false then ([], 21) else if whoseB c s = false then ([], 1) else (raised l c s, 0)

theorem le_fail {m m' : M} {y : List En × Int} {e : Int} (h : y = ([], e)) : Done (LeR m y (.tuple #[.slice none 0 0, I e]) m') := ⟨by subst h; exact ⟨none, 0, rfl, .nil _⟩⟩

theorem le_ok {m m' : M} {y : List En × Int} {z : List En} {a' : Option Addr} {len c' n : Nat} (h : y = (z, 0)) (hl : len = z.length) (hr : NewR n (fun _ => False) m' 2 a' len c' (ens z)) (hn : m.sz ≤ n) : Done (LeR m y (.tuple #[.slice a' len c', I 0]) m') := ⟨by subst h; subst hl; exact ⟨a', c', rfl, hr.lower hn⟩⟩

theorem raise_s (a : Option Addr) (cp : Nat) (l : List En) (c s : Int) (hn : l.length ≤ 8796093022000) (h0 : a = none → l = []) (m : M) (h : Row m a (ens l)) : Vc.Spec Try.prog 27 [.slice a l.length cp, I c, I s] m (LeR m (raiseE l c s)) := by
  refine Vc.Spec.of_vc Try.func27 (ann := noAnn) ?_
  refine vc_by (X :=
      true = true ∧
      ∃ (n : Int),
      QSpec Try.prog (31 : Nat) [Value.slice a l.length cp] m (Value.int IntKind.i64 n) ∧
      ifB (n != (0 : Int)) (Done (LeR m (raiseE l c s) (Value.tuple #[Value.slice none (0 : Nat) (0 : Nat), Value.int IntKind.i64 (21 : Int)]) m))
      (∃ (b : Bool),
      QSpec Try.prog (53 : Nat) [Value.int IntKind.i64 c, Value.int IntKind.i64 s] m (Value.bool b) ∧
      ifB (!b) (Done (LeR m (raiseE l c s) (Value.tuple #[Value.slice none (0 : Nat) (0 : Nat), Value.int IntKind.i64 (1 : Int)]) m))
      (∃ (S' : Nat → Prop),
      (∀ (b : Nat), S' b → m.uf b ∧ (m.sz ≤ b ∨ False)) ∧
      ∀ (n : Nat),
      m.sz ≤ n →
      SpecW Try.prog (54 : Nat) [Value.slice a l.length cp] { π := m.π, sz := n, uf := m.uf : M } S' fun (v : Value) (m' : M) =>
      ∃ (a : Option Addr),
      ∃ (n : Nat),
      ∃ (c_1 : Nat),
      v = Value.slice a n c_1 ∧
      ∃ (n_1 : Int),
      ∃ (b : Bool),
      QSpec Try.prog (55 : Nat) [Value.slice a n c_1, Value.int IntKind.i64 c] m' (Value.tuple #[Value.int IntKind.i64 n_1, Value.bool b]) ∧
      ifB (!b)
      (true = true ∧
      ∀ (b : Nat),
      m'.sz ≤ b →
      ∃ (S' : Nat → Prop),
      (∀ (b_1 : Nat), S' b_1 → (m'.newBlock b [Value.int IntKind.i64 c, Value.int IntKind.i64 s]).uf b_1 ∧ (m.sz ≤ b_1 ∨ False)) ∧
      ∀ (n_2 : Nat),
      max m'.sz (b + (1 : Nat)) ≤ n_2 →
      SpecW Try.prog (56 : Nat)
      [Value.slice a n c_1, Value.int IntKind.i64 n_1,
      Value.slice (some { block := b, off := (0 : Nat) : Addr }) (1 : Nat) (1 : Nat)]
      { π := (m'.newBlock b [Value.int IntKind.i64 c, Value.int IntKind.i64 s]).π, sz := n_2, uf := (m'.newBlock b [Value.int IntKind.i64 c, Value.int IntKind.i64 s]).uf : M }
      S' fun (v : Value) (m' : M) =>
      ∃ (a : Option Addr),
      ∃ (n : Nat),
      ∃ (c_2 : Nat),
      v = Value.slice a n c_2 ∧
      Done (LeR m (raiseE l c s) (Value.tuple #[Value.slice a n c_2, Value.int IntKind.i64 (0 : Int)]) m'))
      (∃ (b : Nat),
      ∃ (off : Nat),
      a = some { block := b, off := off : Addr } ∧
      ((0 : Int) ≤ n_1 ∧ n_1 < (↑n : Int)) ∧
      ∃ (n_2 : Int),
      CellsAt m' b (off + n_1.toNat * (2 : Nat) + (1 : Nat)) [Value.int IntKind.i64 n_2] ∧
      ∃ (b : Nat),
      ∃ (off : Nat),
      a = some { block := b, off := off : Addr } ∧
      ((0 : Int) ≤ n_1 ∧ n_1 < (↑n : Int)) ∧
      Wr m.sz (fun (x : Nat) => False) m' b (off + n_1.toNat * (2 : Nat) + (1 : Nat))
      #[Value.int IntKind.i64 (if s > n_2 then s else n_2)].size ∧
      Done
      (LeR m (raiseE l c s) (Value.tuple #[Value.slice a n c_1, Value.int IntKind.i64 (0 : Int)])
      (m'.setCells b (off + n_1.toNat * (2 : Nat) + (1 : Nat)) [Value.int IntKind.i64 (if s > n_2 then s else n_2)])))))) (by kernel_rfl) ?_
  have hh : l.length ≤ 9223372036854775807 := by omega
  have hple := endP_le c l
  refine ⟨rfl, _, checkends_q a cp l hh _ h, ?_⟩
  cases he : endsB 0 l
  · exact ifB_true (le_fail (by simp [raiseE, he]))
  refine ifB_false ⟨_, whose_q c s _, ?_⟩
  cases hwh : whoseB c s
  · exact ifB_true (le_fail (by simp [raiseE, he, hwh]))
  have hres : raiseE l c s = (raised l c s, 0) := by simp [raiseE, he, hwh]
  refine ifB_false ⟨_, noS, fun N hN => (en_clone l a cp (by omega) h0 _ (h.sz hN)).monoW fun v m' hag ⟨a', c', hv, hr'⟩ => ⟨a', _, c', hv, _, _, end_q a' c' l c hh _ hr'.row, ?_⟩⟩
  cases hi : endIs l c
  · refine ifB_true ⟨rfl, fun b hb => ?_⟩
    have hrN := hr'.newBlock (ds := [I c, I s]) hb
    have hs := en_insert a' c' l (endP l c) b 0 1 ⟨c, s⟩ (fun b' => ∃ o, a' = some ⟨b', o, none⟩ ∧ (m'.newBlock b [I c, I s]).uf b' ∧ m.sz ≤ b') (by omega) hple
    refine ⟨fun b' => ∃ o, a' = some ⟨b', o, none⟩ ∧ (m'.newBlock b [I c, I s]).uf b' ∧ m.sz ≤ b', fun b' ⟨o, e, hu, hlo⟩ => ⟨hu, .inl hlo⟩, fun n hn => ?_⟩
    refine (hs { m'.newBlock b [I c, I s] with sz := n } ((hrN.sz hn).re fun b' o e hu hlo => .inr ⟨o, e, hu, by rcases hlo with h | h; simp only at h; omega; exact h.elim⟩)
      (fun hne b' o e => ?_) (by simp only; omega) (.inl rfl) ⟨(cellsAt_new (m := m') (b := b) (cs := [I c, I s])).out⟩).mono fun v3 m3 hag3 ⟨a3, c3, hv3, hr3⟩ => ⟨a3, _, c3, hv3, ?_⟩
    · have := (hr'.toOwn (fun e => hne (List.eq_nil_of_length_eq_zero e))).lt e
      omega
    · have ho3 : OwnB m.sz (fun _ => False) m3 2 a3 (l.length + 1) c3 (ens (l.take (endP l c) ++ (⟨c, s⟩ : En) :: l.drop (endP l c))) := by
        refine (hr3.toOwn (by omega)).re fun b' o e => .inl ?_
        rcases (hr3.toOwn (by omega)).lo e with g | ⟨_, _, _, g⟩
        · have := hag.2.2; simp only [M.newBlock] at g hn this; omega
        · exact g
      exact le_ok (n := m.sz) (z := raised l c s) hres (by simp [raised, hi]; omega) (.own (by simp [raised, hi]; simpa using ho3)) (Nat.le_refl _)
  · obtain ⟨x, hx, hxc⟩ : ∃ x, l[endP l c]? = some x ∧ x.cl = c := by
      unfold endIs at hi
      split at hi
      · rename_i x hx; exact ⟨x, hx, by simpa using hi⟩
      · simp at hi
    obtain ⟨hk, hx2⟩ := List.getElem?_eq_some_iff.1 hx
    subst hx2
    have ho := (hr'.toOwn (by omega)).lower hN
    obtain ⟨b, o, rfl, hc⟩ := ho.row.cells (by rw [en_len]; omega)
    have c1 := CellsAt.field en_k hc hk (p := [I l[endP l c].cl]) (old := [I l[endP l c].sq]) (q := []) rfl
    obtain ⟨g1, g2⟩ := OwnB.setField en_k ho hk ⟨c, if l[endP l c].sq < s then s else l[endP l c].sq⟩ (p := [I l[endP l c].cl]) (old := [I l[endP l c].sq]) (new := [I (if l[endP l c].sq < s then s else l[endP l c].sq)]) (q := []) rfl (by simp [hxc]) rfl
    refine ifB_false ⟨b, o, rfl, by omega, _, by simpa using c1, b, o, rfl, by omega, ?_, le_ok (n := m.sz) (z := raised l c s) hres (by simp [raised, hi]) (.own ?_) (Nat.le_refl _)⟩
    · exact g1
    · simp only [raised, hi, if_true, hx, Option.map_some, Option.getD_some]
      exact g2

end Go.Proofs.Ytoilbbfidnhekaa
set_option linter.unusedVariables false
set_option linter.unusedSimpArgs false
namespace Go.Proofs.Ytoilbbfidnhekaa
open Go.Vc Go.RowKit
set_option maxRecDepth 100000

def insE : List En → Int → Int → List En
  | [], c, s => [⟨c, s⟩]
  | x :: xs, c, s => if x.cl < c then x :: insE xs c s else if x.cl = c then ⟨c, if x.sq < s then s else x.sq⟩ :: xs else ⟨c, s⟩ :: x :: xs

theorem raised_eq : ∀ (l : List En) (c s : Int), raised l c s = insE l c s
  | [], c, s => rfl
  | x :: xs, c, s => by
    have ih := raised_eq xs c s
    by_cases h1 : x.cl < c
    · have h2 : ¬ c ≤ x.cl := by omega
      have e1 : endP (x :: xs) c = endP xs c + 1 := by simp [endP, h2]
      have e2 : endIs (x :: xs) c = endIs xs c := by simp [endIs, e1]
      simp only [insE, if_pos h1, ← ih, raised, e1, e2, List.getElem?_cons_succ, List.set_cons_succ, List.take_succ_cons, List.drop_succ_cons, List.cons_append]
      split <;> rfl
    · have h2 : c ≤ x.cl := by omega
      have e1 : endP (x :: xs) c = 0 := by simp [endP, h2]
      have e2 : endIs (x :: xs) c = decide (x.cl = c) := by simp [endIs, e1]
      simp only [insE, if_neg h1, raised, e1, e2, decide_eq_true_eq]
      split <;> simp

theorem ins_ends {c s : Int} (hw : whoseB c s = true) : ∀ {l : List En} {last : Int}, last < c → endsB last l = true → endsB last (insE l c s) = true
  | [], last, hl, _ => by simp [insE, endsB, hl, hw]
  | x :: xs, last, hl, h => by
    simp only [endsB, Bool.and_eq_true, decide_eq_true_eq] at h
    simp only [insE]
    split
    · rename_i h1
      simp only [endsB, Bool.and_eq_true, decide_eq_true_eq]
      exact ⟨h.1, ins_ends hw h1 h.2⟩
    · split
      · rename_i h1 h2
        subst h2
        simp only [endsB, Bool.and_eq_true, decide_eq_true_eq]
        refine ⟨⟨hl, ?_⟩, h.2⟩
        split
        · exact hw
        · exact h.1.2
      · rename_i h1 h2
        simp only [endsB, Bool.and_eq_true, decide_eq_true_eq]
        exact ⟨⟨hl, hw⟩, ⟨by omega, h.1.2⟩, h.2⟩

theorem ins_of {c s : Int} (hs : 0 < s) : ∀ {l : List En} {last : Int} (c' : Int), endsB last l = true → ofE (insE l c s) c' = if c' = c then (if ofE l c < s then s else ofE l c) else ofE l c'
  | [], last, c', _ => by
    by_cases h : c = c'
    · subst h; simp [insE, ofE, hs]
    · have h' : ¬ c' = c := fun e => h e.symm
      simp [insE, ofE, h, h']
  | x :: xs, last, c', h => by
    simp only [endsB, Bool.and_eq_true, decide_eq_true_eq] at h
    simp only [insE]
    split
    · rename_i h1
      have ih := ins_of (c := c) hs c' h.2
      have hne : ¬ x.cl = c := by omega
      simp only [ofE, if_neg hne, ih]
      by_cases h3 : x.cl = c'
      · have : ¬ c' = c := by omega
        simp [h3, this]
      · simp [h3]
    · split
      · rename_i h1 h2
        subst h2
        by_cases h3 : x.cl = c'
        · subst h3; simp [ofE]
        · have : ¬ c' = x.cl := fun e => h3 e.symm
          simp [ofE, h3, this]
      · rename_i h1 h2
        have h0 : ofE xs c = 0 := by
          have : ∀ y ∈ xs, y.cl ≠ c := fun y hy => by have := (ends_mem h.2 y hy).1; omega
          have := ofE_drop (l := xs) (k := xs.length) (Nat.le_refl _) (c := c) (by simpa using this)
          simpa [ofE] using this
        by_cases h3 : c = c'
        · subst h3; simp [ofE, h2, h0, hs]
        · have : ¬ c' = c := fun e => h3 e.symm
          simp [ofE, h3, this]

theorem ends_len : ∀ {l : List En} {last : Int}, 0 ≤ last → endsB last l = true → l = [] ∨ (l.length : Int) + last ≤ 8
  | [], _, _, _ => .inl rfl
  | x :: xs, last, hl, h => by
    simp only [endsB, Bool.and_eq_true, decide_eq_true_eq] at h
    have h8 : x.cl ≤ 8 := by have := h.1.2; simp [whoseB] at this; omega
    rcases ends_len (by omega : 0 ≤ x.cl) h.2 with e | e
    · subst e; simp; omega
    · simp; omega

/-- the ends of the clients from c on, n of them, by f -/
def listE (f : Int → Int) : Nat → Int → List En
  | 0, _ => []
  | n + 1, c => if 0 < f c then ⟨c, f c⟩ :: listE f n (c + 1) else listE f n (c + 1)

theorem ofE_lt : ∀ {l : List En} {last c : Int}, endsB last l = true → c ≤ last → ofE l c = 0
  | [], _, _, _, _ => rfl
  | x :: xs, last, c, h, hc => by
    simp only [endsB, Bool.and_eq_true, decide_eq_true_eq] at h
    have : ¬ x.cl = c := by omega
    simp only [ofE, if_neg this]
    exact ofE_lt h.2 (by omega)

theorem list_congr {f g : Int → Int} : ∀ (n : Nat) (c : Int), (∀ k, c ≤ k → f k = g k) → listE f n c = listE g n c
  | 0, _, _ => rfl
  | n + 1, c, h => by
    simp only [listE, h c (Int.le_refl _), list_congr n (c + 1) fun k hk => h k (by omega)]

/-- right ends are what their ends tell -/
theorem list_of : ∀ (n : Nat) {c : Int} {l : List En}, 1 ≤ c → (n : Int) + c = 9 → endsB (c - 1) l = true → listE (ofE l) n c = l
  | 0, c, l, h1, h9, h => by
    rcases l with _ | ⟨x, xs⟩
    · rfl
    · simp only [endsB, Bool.and_eq_true, decide_eq_true_eq] at h
      have h8 : x.cl ≤ 8 := by have := h.1.2; simp [whoseB] at this; omega
      omega
  | n + 1, c, [], h1, h9, h => by
    have ih := list_of n (c := c + 1) (l := []) (by omega) (by omega) rfl
    simp only [listE, ofE, Int.lt_irrefl, if_false]
    rw [show (ofE [] : Int → Int) = fun _ => 0 from rfl] at ih
    exact ih
  | n + 1, c, x :: xs, h1, h9, h => by
    have hx := h
    simp only [endsB, Bool.and_eq_true, decide_eq_true_eq] at h
    by_cases e : x.cl = c
    · have hs : 0 < x.sq := by have := h.1.2; simp [whoseB] at this; omega
      have ih := list_of n (c := c + 1) (l := xs) (by omega) (by omega) (by rw [show c + 1 - 1 = x.cl by omega]; exact h.2)
      have hc : listE (ofE (x :: xs)) n (c + 1) = listE (ofE xs) n (c + 1) := list_congr n _ fun k hk => by simp only [ofE]; rw [if_neg (by omega)]
      have h0 : ofE (x :: xs) c = x.sq := by simp [ofE, e]
      simp only [listE, h0, hs, if_true, hc, ih]
      subst e; rfl
    · have h0 : ofE (x :: xs) c = 0 := by
        simp only [ofE, if_neg e]; exact ofE_lt h.2 (by omega)
      have ih := list_of n (c := c + 1) (l := x :: xs) (by omega) (by omega) (by
        simp only [endsB, Bool.and_eq_true, decide_eq_true_eq]; exact ⟨⟨by omega, h.1.2⟩, h.2⟩)
      simp only [listE, h0, Int.lt_irrefl, if_false]
      exact ih

end Go.Proofs.Ytoilbbfidnhekaa
set_option linter.unusedVariables false
set_option linter.unusedSimpArgs false
namespace Go.Proofs.Ytoilbbfidnhekaa
open Go.Vc Go.RowKit
set_option maxRecDepth 100000

def maxI (a b : Int) : Int := if a < b then b else a

def foldE (a b : List En) : List En := b.foldl (fun l x => insE l x.cl x.sq) a

theorem fold_ends {a : List En} : ∀ {b : List En} {last : Int}, 0 ≤ last → endsB 0 a = true → endsB last b = true → endsB 0 (foldE a b) = true
  | [], _, _, ha, _ => ha
  | x :: xs, last, hl, ha, h => by
    simp only [endsB, Bool.and_eq_true, decide_eq_true_eq] at h
    exact fold_ends (a := insE a x.cl x.sq) (by omega) (ins_ends h.1.2 (by omega) ha) h.2

theorem fold_of : ∀ {b a : List En} {last : Int} (c : Int), 0 ≤ last → endsB 0 a = true → endsB last b = true → 0 ≤ ofE a c → ofE (foldE a b) c = maxI (ofE a c) (ofE b c)
  | [], a, _, c, _, _, _, h0 => by
    have e : ¬ ofE a c < ofE [] c := by simp only [ofE]; omega
    simp only [foldE, List.foldl_nil, maxI, if_neg e]
  | x :: xs, a, last, c, hl, ha, h, h0 => by
    simp only [endsB, Bool.and_eq_true, decide_eq_true_eq] at h
    have hs : 0 < x.sq := by have := h.1.2; simp [whoseB] at this; omega
    have e := ins_of (c := x.cl) hs c ha
    have h0' : 0 ≤ ofE (insE a x.cl x.sq) c := by
      rw [e]; split
      · split <;> omega
      · exact h0
    have ih := fold_of (b := xs) (a := insE a x.cl x.sq) c (by omega : 0 ≤ x.cl) (ins_ends h.1.2 (by omega) ha) h.2 h0'
    show ofE (foldE (insE a x.cl x.sq) xs) c = _
    rw [ih, e]
    by_cases h3 : x.cl = c
    · have h4 : ofE xs c = 0 := ofE_lt h.2 (by omega)
      subst h3
      simp only [ofE, if_true, h4, maxI]
      split <;> rw [if_neg (by omega)]
    · have h5 : ¬ c = x.cl := fun e => h3 e.symm
      simp only [ofE, if_neg h3, if_neg h5]

theorem ofE_nn : ∀ {l : List En} {last : Int} (c : Int), endsB last l = true → 0 ≤ ofE l c
  | [], _, _, _ => Int.le_refl _
  | x :: xs, last, c, h => by
    simp only [endsB, Bool.and_eq_true, decide_eq_true_eq] at h
    have hs : 0 < x.sq := by have := h.1.2; simp [whoseB] at this; omega
    simp only [ofE]; split
    · omega
    · exact ofE_nn c h.2

/-- what Join makes of two right lists -/
theorem fold_list {a b : List En} (ha : endsB 0 a = true) (hb : endsB 0 b = true) : foldE a b = listE (fun c => maxI (ofE a c) (ofE b c)) 8 1 := by
  have h := list_of 8 (c := 1) (l := foldE a b) (by omega) (by omega) (fold_ends (Int.le_refl 0) ha hb)
  rw [← h]
  exact list_congr 8 1 fun k _ => fold_of k (Int.le_refl 0) ha hb (ofE_nn k ha)

def joinE (a b : List En) : List En × Int := if endsB 0 a = false ∨ endsB 0 b = false then ([], 21) else (foldE a b, 0)

end Go.Proofs.Ytoilbbfidnhekaa
set_option linter.unusedVariables false
set_option linter.unusedSimpArgs false
namespace Go.Proofs.Ytoilbbfidnhekaa
open Go.Vc Go.RowKit
set_option maxRecDepth 100000

structure JoX where
  k : Nat
  a : Option Addr
  c : Nat
  m : M

structure JoI (m : M) (cur : List En) (y : JoX) : Prop where
  right : endsB 0 cur = true
  row : NewR m.sz (fun _ => False) y.m 2 y.a cur.length y.c (ens cur)
  ag : Agree m.sz m y.m

theorem ends8 {l : List En} (h : endsB 0 l = true) : l.length ≤ 8 := by
  rcases ends_len (Int.le_refl 0) h with e | e
  · subst e; simp
  · omega

theorem en_none {B : List En} {a : Option Addr} {m : M} (h : Row m a (ens B)) (e : a = none) : B = [] := by
  cases B with
  | nil => rfl
  | cons x xs =>
    obtain ⟨b, o, e2, -⟩ := h.cells (by rw [en_len]; simp)
    rw [e] at e2; simp at e2

theorem fold_succ (l b : List En) (k : Nat) (hk : k < b.length) : foldE l (b.take (k + 1)) = raised (foldE l (b.take k)) b[k].cl b[k].sq := by
  rw [raised_eq, List.take_succ_eq_append_getElem hk]
  unfold foldE
  rw [List.foldl_append]; rfl

set_option maxHeartbeats 1000000 in
theorem join_s (a ab : Option Addr) (cp cb : Nat) (l b : List En) (hn : l.length ≤ 8796093022000) (hb : b.length ≤ 8796093022000) (h0 : a = none → l = []) (m : M) (h : Row m a (ens l)) (h2 : Row m ab (ens b)) : Vc.Spec Try.prog 29 [.slice a l.length cp, .slice ab b.length cb] m (LeR m (joinE l b)) := by
  refine Vc.Spec.of_vc Try.func29 (ann := fun _ => { A := JoX, inv := fun y => y.k ≤ b.length ∧ JoI m (foldE l (b.take y.k)) y, st := fun y => [(21, .val (I y.k)), (20, .val (I b.length)), (19, .val (.slice ab b.length cb)), (6, .val (.slice y.a (foldE l (b.take y.k)).length y.c))], own := fun _ => [], m := fun y => y.m, μ := fun y => b.length - y.k }) ?_
  refine vc_by (X :=
      true = true ∧
      ∃ (n : Int),
      QSpec Try.prog (31 : Nat) [Value.slice a l.length cp] m (Value.int IntKind.i64 n) ∧
      ifB (n != (0 : Int)) (Done (LeR m (joinE l b) (Value.tuple #[Value.slice none (0 : Nat) (0 : Nat), Value.int IntKind.i64 (21 : Int)]) m))
      (∃ (n : Int),
      QSpec Try.prog (31 : Nat) [Value.slice ab b.length cb] m (Value.int IntKind.i64 n) ∧
      ifB (n != (0 : Int)) (Done (LeR m (joinE l b) (Value.tuple #[Value.slice none (0 : Nat) (0 : Nat), Value.int IntKind.i64 (21 : Int)]) m))
      (∃ (S' : Nat → Prop),
      (∀ (b : Nat), S' b → m.uf b ∧ (m.sz ≤ b ∨ False)) ∧
      ∀ (n : Nat),
      m.sz ≤ n →
      SpecW Try.prog (54 : Nat) [Value.slice a l.length cp] { π := m.π, sz := n, uf := m.uf : M } S' fun (v : Value) (m' : M) =>
      ∃ (a : Option Addr),
      ∃ (n : Nat),
      ∃ (c : Nat),
      v = Value.slice a n c ∧
      (∃ (a_2 : JoX),
      (a_2.k ≤ b.length ∧ JoI m (foldE l (List.take a_2.k b)) a_2) ∧
      m' = a_2.m ∧
      ((SV.val (Value.int IntKind.i64 (0 : Int)) = SV.val (Value.int IntKind.i64 (↑a_2.k : Int)) ∧ true = true) ∧
      (SV.val (Value.int IntKind.i64 (↑b.length : Int)) = SV.val (Value.int IntKind.i64 (↑b.length : Int)) ∧ true = true) ∧
      (SV.val (Value.slice ab b.length cb) = SV.val (Value.slice ab b.length cb) ∧ true = true) ∧
      (SV.val (Value.slice a n c) = SV.val (Value.slice a_2.a (foldE l (List.take a_2.k b)).length a_2.c) ∧ true = true) ∧ True) ∧
      True) ∧
      ∀ (a : JoX),
      a.k ≤ b.length ∧ JoI m (foldE l (List.take a.k b)) a →
      ifB (decide ((↑a.k : Int) < (↑b.length : Int)))
      (∃ (b_1 : Nat),
      ∃ (off : Nat),
      ab = some { block := b_1, off := off : Addr } ∧
      ((0 : Int) ≤ (↑a.k : Int) ∧ (↑a.k : Int) < (↑b.length : Int)) ∧
      ∃ (n : Int),
      ∃ (n_1 : Int),
      CellsAt a.m b_1 (off + (↑a.k : Int).toNat * (2 : Nat)) [Value.int IntKind.i64 n, Value.int IntKind.i64 n_1] ∧
      ∃ (S' : Nat → Prop),
      (∀ (b : Nat), S' b → a.m.uf b ∧ (m.sz ≤ b ∨ False)) ∧
      ∀ (n_2 : Nat),
      a.m.sz ≤ n_2 →
      SpecW Try.prog (27 : Nat)
      [Value.slice a.a (foldE l (List.take a.k b)).length a.c, Value.int IntKind.i64 n, Value.int IntKind.i64 n_1]
      { π := a.m.π, sz := n_2, uf := a.m.uf : M } S' fun (v : Value) (m' : M) =>
      ∃ (a_4 : Option Addr),
      ∃ (n : Nat),
      ∃ (c : Nat),
      ∃ (n_3 : Int),
      v = Value.tuple #[Value.slice a_4 n c, Value.int IntKind.i64 n_3] ∧
      ∃ (a' : JoX),
      ((a'.k ≤ b.length ∧ JoI m (foldE l (List.take a'.k b)) a') ∧
      m' = a'.m ∧
      ((SV.val (Value.int IntKind.i64 (IntKind.i64.wrap ((↑a.k : Int) + (1 : Int)))) =
      SV.val (Value.int IntKind.i64 (↑a'.k : Int)) ∧
      true = true) ∧
      (SV.val (Value.int IntKind.i64 (↑b.length : Int)) =
      SV.val (Value.int IntKind.i64 (↑b.length : Int)) ∧
      true = true) ∧
      (SV.val (Value.slice ab b.length cb) = SV.val (Value.slice ab b.length cb) ∧ true = true) ∧
      (SV.val (Value.slice a_4 n c) =
      SV.val (Value.slice a'.a (foldE l (List.take a'.k b)).length a'.c) ∧
      true = true) ∧
      True) ∧
      True) ∧
      b.length - a'.k < b.length - a.k)
      (Done (LeR m (joinE l b) (Value.tuple #[Value.slice a.a (foldE l (List.take a.k b)).length a.c, Value.int IntKind.i64 (0 : Int)]) a.m))))) (by kernel_rfl) ?_
  refine ⟨rfl, _, checkends_q a cp l (by omega) _ h, ?_⟩
  cases ha : endsB 0 l
  · exact ifB_true (le_fail (by simp [joinE, ha]))
  refine ifB_false ⟨_, checkends_q ab cb b (by omega) _ h2, ?_⟩
  cases hb2 : endsB 0 b
  · exact ifB_true (le_fail (by simp [joinE, hb2]))
  refine ifB_false ⟨_, noS, fun N hN => (en_clone l a cp hn h0 _ (h.sz hN)).monoW fun v m1 hag ⟨a1, c1, hv, hr⟩ => ⟨a1, _, c1, hv, ⟨⟨0, a1, c1, m1⟩, ⟨Nat.zero_le _, ⟨ha, hr.lower hN, (Agree.szl (B := m.sz) (m := m) hN).trans (hag.mono hN)⟩⟩, rfl, by simp [foldE], trivial⟩, fun y ⟨hk, Y⟩ => ifB_intro (fun h3 => ?_) (fun h3 => ?_)⟩⟩
  · have hk2 : y.k < b.length := by simpa using h3
    obtain ⟨b1, o, rfl, hc⟩ := (h2.agree Y.ag).cells (by rw [en_len]; omega)
    have w1 : IntKind.i64.wrap ((y.k : Int) + 1) = ((y.k + 1 : Nat) : Int) := by simp [IntKind.wrap_i64]; omega
    have h8 := ends8 Y.right
    have hym := Y.ag.2.2
    obtain ⟨hx1, hx2⟩ := ends_mem hb2 _ (List.getElem_mem hk2)
    have e := fold_succ l b y.k hk2
    have er : raiseE (foldE l (b.take y.k)) b[y.k].cl b[y.k].sq = (foldE l (b.take (y.k + 1)), 0) := by
      rw [e]; simp [raiseE, Y.right, hx2]
    have hri : endsB 0 (foldE l (b.take (y.k + 1))) = true := by
      rw [e, raised_eq]; exact ins_ends hx2 hx1 Y.right
    refine ⟨b1, o, rfl, by omega, _, _, by simpa using en_at hc hk2, _, noS, fun N2 hN2 => (raise_s y.a y.c (foldE l (b.take y.k)) b[y.k].cl b[y.k].sq (by omega) (en_none Y.row.row) { y.m with sz := N2 } (Y.row.row.sz hN2)).monoW fun v2 m2 hag2 hq2 => ?_⟩
    obtain ⟨a2, c2, hv2, hr2⟩ := hq2
    refine ⟨_, _, _, _, hv2, ?_⟩
    rw [er] at hr2 ⊢
    refine ⟨⟨y.k + 1, a2, c2, m2⟩, ⟨⟨hk2, ⟨hri, hr2.lower (by simp only; omega), Y.ag.trans ((Agree.szl (B := m.sz) (m := y.m) hN2).trans (hag2.mono (by simp only; omega)))⟩⟩, rfl, by simp [w1], trivial⟩, by simp only; omega⟩
  · have hkb : y.k = b.length := by simp at h3; omega
    have hrow := Y.row
    rw [hkb, List.take_length] at hrow ⊢
    exact le_ok (n := m.sz) (z := foldE l b) (by simp [joinE, ha, hb2]) rfl hrow (Nat.le_refl _)

end Go.Proofs.Ytoilbbfidnhekaa
set_option linter.unusedVariables false
set_option linter.unusedSimpArgs false
namespace Go.Proofs.Ytoilbbfidnhekaa
open Go.Vc Go.RowKit
set_option maxRecDepth 100000

theorem listE_succ (f : Int → Int) : ∀ (n : Nat) (c : Int), listE f (n + 1) c = listE f n c ++ (if 0 < f (c + n) then [⟨c + n, f (c + n)⟩] else [])
  | 0, c => by simp [listE]
  | n + 1, c => by
    have ih := listE_succ f n (c + 1)
    have e : c + 1 + (n : Int) = c + ((n + 1 : Nat) : Int) := by omega
    rw [e] at ih
    rw [listE]
    split
    · rename_i h; rw [ih, listE, if_pos h]; rfl
    · rename_i h; rw [ih, listE, if_neg h]

theorem listE_len (f : Int → Int) : ∀ (n : Nat) (c : Int), (listE f n c).length ≤ n
  | 0, _ => Nat.le_refl _
  | n + 1, c => by
    have ih := listE_len f n (c + 1)
    simp only [listE]; split
    · simp; omega
    · omega

set_option maxHeartbeats 1000000 in
theorem rjoin_s (a ab : Option Addr) (cp cb : Nat) (l b : List En) (hn : l.length ≤ 8796093022000) (hb : b.length ≤ 8796093022000) (m : M) (h : Row m a (ens l)) (h2 : Row m ab (ens b)) : Vc.Spec Try.prog 30 [.slice a l.length cp, .slice ab b.length cb] m (LeR m (joinE l b)) := by
  refine Vc.Spec.of_vc Try.func30 (ann := fun _ => { A := JoX, inv := fun y => y.k ≤ 8 ∧ NewR m.sz (fun _ => False) y.m 2 y.a (listE (fun c => maxI (ofE l c) (ofE b c)) y.k 1).length y.c (ens (listE (fun c => maxI (ofE l c) (ofE b c)) y.k 1)) ∧ Agree m.sz m y.m, st := fun y => [(7, .val (I ((y.k + 1 : Nat) : Int))), (0, .val (.slice a l.length cp)), (1, .val (.slice ab b.length cb)), (6, .val (.slice y.a (listE (fun c => maxI (ofE l c) (ofE b c)) y.k 1).length y.c))], own := fun _ => [], m := fun y => y.m, μ := fun y => 8 - y.k }) ?_
  refine vc_by (X :=
      true = true ∧
      ∃ (b_1 : Bool),
      QSpec Try.prog (26 : Nat) [Value.slice a l.length cp] m (Value.bool b_1) ∧
      ifB (!b_1) (Done (LeR m (joinE l b) (Value.tuple #[Value.slice none (0 : Nat) (0 : Nat), Value.int IntKind.i64 (21 : Int)]) m))
      (∃ (b_2 : Bool),
      QSpec Try.prog (26 : Nat) [Value.slice ab b.length cb] m (Value.bool b_2) ∧
      ifB (!b_2) (Done (LeR m (joinE l b) (Value.tuple #[Value.slice none (0 : Nat) (0 : Nat), Value.int IntKind.i64 (21 : Int)]) m))
      ((∃ (a_1 : JoX),
      (a_1.k ≤ (8 : Nat) ∧
      NewR m.sz (fun (x : Nat) => False) a_1.m (2 : Nat) a_1.a (listE (fun (c : Int) => maxI (ofE l c) (ofE b c)) a_1.k (1 : Int)).length a_1.c
      (ens (listE (fun (c : Int) => maxI (ofE l c) (ofE b c)) a_1.k (1 : Int))) ∧
      Agree m.sz m a_1.m) ∧
      m = a_1.m ∧
      ((SV.val (Value.int IntKind.i64 (1 : Int)) = SV.val (Value.int IntKind.i64 (↑(a_1.k + (1 : Nat)) : Int)) ∧ true = true) ∧
      (SV.val (Value.slice a l.length cp) = SV.val (Value.slice a l.length cp) ∧ true = true) ∧
      (SV.val (Value.slice ab b.length cb) = SV.val (Value.slice ab b.length cb) ∧ true = true) ∧
      (SV.val (Value.slice none (0 : Nat) (0 : Nat)) =
      SV.val (Value.slice a_1.a (listE (fun (c : Int) => maxI (ofE l c) (ofE b c)) a_1.k (1 : Int)).length a_1.c) ∧
      true = true) ∧
      True) ∧
      True) ∧
      ∀ (a_1 : JoX),
      a_1.k ≤ (8 : Nat) ∧
      NewR m.sz (fun (x : Nat) => False) a_1.m (2 : Nat) a_1.a (listE (fun (c : Int) => maxI (ofE l c) (ofE b c)) a_1.k (1 : Int)).length a_1.c
      (ens (listE (fun (c : Int) => maxI (ofE l c) (ofE b c)) a_1.k (1 : Int))) ∧
      Agree m.sz m a_1.m →
      ifB (decide ((↑(a_1.k + (1 : Nat)) : Int) ≤ (8 : Int)))
      (∃ (n : Int),
      QSpec Try.prog (58 : Nat) [Value.slice a l.length cp, Value.int IntKind.i64 (↑(a_1.k + (1 : Nat)) : Int)] a_1.m (Value.int IntKind.i64 n) ∧
      ∃ (n_1 : Int),
      QSpec Try.prog (58 : Nat) [Value.slice ab b.length cb, Value.int IntKind.i64 (↑(a_1.k + (1 : Nat)) : Int)] a_1.m (Value.int IntKind.i64 n_1) ∧
      ifB (decide ((if n_1 > n then n_1 else n) > (0 : Int)))
      (true = true ∧
      ∀ (b_3 : Nat),
      a_1.m.sz ≤ b_3 →
      ∃ (old : List Value),
      ∃ (src : List Value),
      AppPre m.sz (fun (x : Nat) => False)
      (a_1.m.newBlock b_3 [Value.int IntKind.i64 (↑(a_1.k + (1 : Nat)) : Int), Value.int IntKind.i64 (if n_1 > n then n_1 else n)])
      (2 : Nat) (16 : Nat) a_1.a (listE (fun (c : Int) => maxI (ofE l c) (ofE b c)) a_1.k (1 : Int)).length a_1.c
      (some { block := b_3, off := (0 : Nat) : Addr }) (1 : Nat) old src ∧
      ∀ (a' : Option Addr) (c' : Nat) (m' : M),
      AppPost Try.prog (48 : Nat)
      (a_1.m.newBlock b_3 [Value.int IntKind.i64 (↑(a_1.k + (1 : Nat)) : Int), Value.int IntKind.i64 (if n_1 > n then n_1 else n)])
      (2 : Nat) a_1.a (listE (fun (c : Int) => maxI (ofE l c) (ofE b c)) a_1.k (1 : Int)).length a_1.c (1 : Nat) old src a' c' m' →
      ∃ (a'_1 : JoX),
      ((a'_1.k ≤ (8 : Nat) ∧
      NewR m.sz (fun (x : Nat) => False) a'_1.m (2 : Nat) a'_1.a
      (listE (fun (c : Int) => maxI (ofE l c) (ofE b c)) a'_1.k (1 : Int)).length a'_1.c
      (ens (listE (fun (c : Int) => maxI (ofE l c) (ofE b c)) a'_1.k (1 : Int))) ∧
      Agree m.sz m a'_1.m) ∧
      m' = a'_1.m ∧
      ((SV.val (Value.int IntKind.i64 (IntKind.i64.wrap ((↑(a_1.k + (1 : Nat)) : Int) + (1 : Int)))) =
      SV.val (Value.int IntKind.i64 (↑(a'_1.k + (1 : Nat)) : Int)) ∧
      true = true) ∧
      (SV.val (Value.slice a l.length cp) = SV.val (Value.slice a l.length cp) ∧ true = true) ∧
      (SV.val (Value.slice ab b.length cb) = SV.val (Value.slice ab b.length cb) ∧ true = true) ∧
      (SV.val
      (Value.slice a' ((listE (fun (c : Int) => maxI (ofE l c) (ofE b c)) a_1.k (1 : Int)).length + (1 : Nat))
      c') =
      SV.val
      (Value.slice a'_1.a (listE (fun (c : Int) => maxI (ofE l c) (ofE b c)) a'_1.k (1 : Int)).length a'_1.c) ∧
      true = true) ∧
      True) ∧
      True) ∧
      (8 : Nat) - a'_1.k < (8 : Nat) - a_1.k)
      (∃ (a' : JoX),
      ((a'.k ≤ (8 : Nat) ∧
      NewR m.sz (fun (x : Nat) => False) a'.m (2 : Nat) a'.a (listE (fun (c : Int) => maxI (ofE l c) (ofE b c)) a'.k (1 : Int)).length a'.c
      (ens (listE (fun (c : Int) => maxI (ofE l c) (ofE b c)) a'.k (1 : Int))) ∧
      Agree m.sz m a'.m) ∧
      a_1.m = a'.m ∧
      ((SV.val (Value.int IntKind.i64 (IntKind.i64.wrap ((↑(a_1.k + (1 : Nat)) : Int) + (1 : Int)))) =
      SV.val (Value.int IntKind.i64 (↑(a'.k + (1 : Nat)) : Int)) ∧
      true = true) ∧
      (SV.val (Value.slice a l.length cp) = SV.val (Value.slice a l.length cp) ∧ true = true) ∧
      (SV.val (Value.slice ab b.length cb) = SV.val (Value.slice ab b.length cb) ∧ true = true) ∧
      (SV.val (Value.slice a_1.a (listE (fun (c : Int) => maxI (ofE l c) (ofE b c)) a_1.k (1 : Int)).length a_1.c) =
      SV.val (Value.slice a'.a (listE (fun (c : Int) => maxI (ofE l c) (ofE b c)) a'.k (1 : Int)).length a'.c) ∧
      true = true) ∧
      True) ∧
      True) ∧
      (8 : Nat) - a'.k < (8 : Nat) - a_1.k))
      (Done
      (LeR m (joinE l b)
      (Value.tuple #[Value.slice a_1.a (listE (fun (c : Int) => maxI (ofE l c) (ofE b c)) a_1.k (1 : Int)).length a_1.c, Value.int IntKind.i64 (0 : Int)])
      a_1.m))))) (by kernel_rfl) ?_
  have hl1 : l.length ≤ 9223372036854775807 := by omega
  have hl2 : b.length ≤ 9223372036854775807 := by omega
  refine ⟨rfl, _, rends_q a cp l hl1 _ h, ?_⟩
  cases ha : endsB 0 l
  · exact ifB_true (le_fail (by simp [joinE, ha]))
  refine ifB_false ⟨_, rends_q ab cb b hl2 _ h2, ?_⟩
  cases hb2 : endsB 0 b
  · exact ifB_true (le_fail (by simp [joinE, hb2]))
  refine ifB_false ⟨⟨⟨0, none, 0, m⟩, ⟨Nat.zero_le _, .nil _, Agree.refl _ _⟩, rfl, by simp [listE], trivial⟩, fun y ⟨hk, Y, A⟩ => ifB_intro (fun h3 => ?_) (fun h3 => ?_)⟩
  · have hk2 : y.k < 8 := by simp at h3; omega
    have w1 : IntKind.i64.wrap (((y.k + 1 : Nat) : Int) + 1) = ((y.k + 1 + 1 : Nat) : Int) := by simp [IntKind.wrap_i64]; omega
    have hs := listE_succ (fun c => maxI (ofE l c) (ofE b c)) y.k 1
    have hle := listE_len (fun c => maxI (ofE l c) (ofE b c)) y.k 1
    have ek : (1 : Int) + (y.k : Int) = ((y.k + 1 : Nat) : Int) := by omega
    rw [ek] at hs
    refine ⟨_, rof_q a cp l _ hl1 _ (h.agree A), _, rof_q ab cb b _ hl2 _ (h2.agree A), ifB_intro (fun h4 => ?_) (fun h4 => ?_)⟩
    · refine ⟨rfl, fun b3 hb3 => ?_⟩
      have hv : 0 < maxI (ofE l ((y.k + 1 : Nat) : Int)) (ofE b ((y.k + 1 : Nat) : Int)) := of_decide_eq_true h4
      rw [if_pos hv] at hs
      obtain ⟨p1, p2⟩ := NewR.push (P := Try.prog) (e := 48) (bytes := 16) (src := encEn ⟨((y.k + 1 : Nat) : Int), maxI (ofE l ((y.k + 1 : Nat) : Int)) (ofE b ((y.k + 1 : Nat) : Int))⟩) Y hb3 A.2.2 rfl rfl (by omega) en_zr
      refine ⟨_, _, p1, fun a' c' m' hp => ?_⟩
      obtain ⟨g1, g2⟩ := p2 a' c' m' hp
      have e2 : ens (listE (fun c => maxI (ofE l c) (ofE b c)) (y.k + 1) 1) = ens (listE (fun c => maxI (ofE l c) (ofE b c)) y.k 1) ++ encEn ⟨((y.k + 1 : Nat) : Int), maxI (ofE l ((y.k + 1 : Nat) : Int)) (ofE b ((y.k + 1 : Nat) : Int))⟩ := by rw [hs]; simp [ens]
      have e3 : (listE (fun c => maxI (ofE l c) (ofE b c)) (y.k + 1) 1).length = (listE (fun c => maxI (ofE l c) (ofE b c)) y.k 1).length + 1 := by rw [hs]; simp
      refine ⟨⟨y.k + 1, a', c', m'⟩, ⟨⟨hk2, ?_, A.trans g2⟩, rfl, ?_, trivial⟩, by simp only; omega⟩
      · simp only; rw [e2, e3]; exact g1
      · simp only; rw [w1, e3]; simp
    · have hv : ¬ 0 < maxI (ofE l ((y.k + 1 : Nat) : Int)) (ofE b ((y.k + 1 : Nat) : Int)) := of_decide_eq_false h4
      rw [if_neg hv, List.append_nil] at hs
      refine ⟨⟨y.k + 1, y.a, y.c, y.m⟩, ⟨⟨hk2, ?_, A⟩, rfl, ?_, trivial⟩, by simp only; omega⟩
      · simp only; rw [hs]; exact Y
      · simp only; rw [w1, hs]; simp
  · have : y.k = 8 := by simp at h3; omega
    rw [this] at Y ⊢
    exact le_ok (n := m.sz) (z := listE (fun c => maxI (ofE l c) (ofE b c)) 8 1) (by simp [joinE, ha, hb2, fold_list ha hb2]) rfl Y (Nat.le_refl _)

end Go.Proofs.Ytoilbbfidnhekaa
