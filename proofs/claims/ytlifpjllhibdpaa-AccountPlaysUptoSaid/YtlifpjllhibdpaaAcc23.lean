/-
  Contracts of functions of this seat: what each hands back, and what it leaves of memory (acc23). Nothing here is trusted: Lean checks it.
-/
import Derived.Test.YtlifpjllhibdpaaAcc22
set_option linter.unusedVariables false
set_option linter.unusedSimpArgs false
namespace Go.Proofs.Ytlifpjllhibdpaa
open Go.Vc Go.RowKit
set_option maxRecDepth 100000

def mk71 : Hd := ⟨71, 0, 0, 0⟩

structure PlX where
  k : Nat
  b : Nat
  ax : Option Addr
  cx : Nat
  ay : Option Addr
  cy : Nat
  m : M
  cur : List Hd

structure PlI (X : Ac) (len : Nat) (m : M) (y : PlX) : Prop where
  k : y.k ≤ len
  own : Own m.sz (fun _ => False) y.m 4 (some ⟨y.b, 0, none⟩) len (len + 2) (hds y.cur)
  cl : y.cur.length = len
  rx : Row y.m y.ax (hds X.hs)
  ry : Row y.m y.ay (hds X.hs)
  nx : X.hs ≠ [] → ∀ b' o, y.ax = some ⟨b', o, none⟩ → b' ≠ y.b
  ny : X.hs ≠ [] → ∀ b' o, y.ay = some ⟨b', o, none⟩ → b' ≠ y.b

theorem row_set {m : M} {a : Option Addr} {l : List Hd} {b o : Nat} {ds : List Value} (h : Row m a (hds l)) (hne : l ≠ [] → ∀ b' o, a = some ⟨b', o, none⟩ → b' ≠ b) : Row (m.setCells b o ds) a (hds l) := by
  by_cases he : l = []
  · subst he; exact .nil _
  · exact h.of (Nat.le_refl _) fun b' o' e _ => setCells_other (hne he b' o' e)

def plAnn (x X : Ac) (m : M) : Ann := {
    A := PlX
    inv := PlI X x.hs.length m
    st := fun y => [(12, .val (I y.k)), (7, .own 4 0), (8, .own 19 0), (10, .own 29 0)]
    own := fun y => [(4, ⟨28, acc x (some ⟨y.b, 0, none⟩) (x.hs.length + 2)⟩), (19, ⟨28, acc X y.ax y.cx⟩), (29, ⟨28, acc X y.ay y.cy⟩)]
    m := fun y => y.m
    μ := fun y => x.hs.length - y.k }

theorem accountplays (x : Ac) (a : Option Addr) (c : Nat) (o : OpA) (ns : Int) (hx : x.wf) (ho : o.wf) (hlen : x.hs.length ≤ 1048576) (m : M) (h : Row m a (hds x.hs)) :
    QSpec Try.prog 8 [acv x a c, opv o, I ns] m (.bool true) := by
  refine QSpec.of_vc Try.func8 (ann := fun n _ => plAnn x (aCall x o ns).1 { m with sz := n }) fun N hN => ?_
  refine vc_by (X :=
      true = true ∧
      ∃ (S' : Nat → Prop),
      (∀ (b : Nat), S' b → m.uf b ∧ (N ≤ b ∨ False)) ∧
      ∀ (n : Nat),
      N ≤ n →
      SpecW Try.prog (11 : Nat)
      [Value.slice a x.hs.length c,
      Value.agg #[Value.int IntKind.i64 (71 : Int), Value.int IntKind.i64 (0 : Int), Value.int IntKind.i64 (0 : Int), Value.int IntKind.i64 (0 : Int)]]
      { π := m.π, sz := n, uf := m.uf : M } S' fun (v : Value) (m' : M) =>
      ∃ (a_2 : Option Addr),
      ∃ (n : Nat),
      ∃ (c_1 : Nat),
      v = Value.slice a_2 n c_1 ∧
      ∀ (n_1 : Nat),
      m'.sz ≤ n_1 →
      Vc.Spec Try.prog (37 : Nat)
      [Value.agg
      #[Value.string x.key, Value.int IntKind.i64 x.lo, Value.int IntKind.i64 x.hi, Value.int IntKind.i64 x.base, Value.int IntKind.i64 x.round,
      Value.slice a_2 n c_1, Value.int IntKind.i64 x.lk.cl, Value.int IntKind.i64 x.lk.sq, Value.int IntKind.i64 x.lk.hm, Value.int IntKind.i64 x.lk.n],
      Value.agg
      #[Value.int IntKind.i64 o.kind, Value.int IntKind.i64 o.nd, Value.int IntKind.i64 o.le, Value.int IntKind.i64 o.ro, Value.int IntKind.i64 o.n,
      Value.int IntKind.i64 o.lo, Value.int IntKind.i64 o.hi, Value.int IntKind.i64 o.lk.cl, Value.int IntKind.i64 o.lk.sq, Value.int IntKind.i64 o.lk.hm,
      Value.int IntKind.i64 o.lk.n, Value.bool o.cm],
      Value.int IntKind.i64 ns]
      { π := m'.π, sz := n_1, uf := m'.uf : M } fun (v : Value) (m' : M) =>
      ∃ (s : ByteArray),
      ∃ (n_2 : Int),
      ∃ (n_3 : Int),
      ∃ (n_4 : Int),
      ∃ (n_5 : Int),
      ∃ (a_4 : Option Addr),
      ∃ (n_6 : Nat),
      ∃ (c_2 : Nat),
      ∃ (n_7 : Int),
      ∃ (n_8 : Int),
      ∃ (n_9 : Int),
      ∃ (n_10 : Int),
      ∃ (n_11 : Int),
      v =
      Value.tuple
      #[Value.agg
      #[Value.string s, Value.int IntKind.i64 n_2, Value.int IntKind.i64 n_3, Value.int IntKind.i64 n_4,
      Value.int IntKind.i64 n_5, Value.slice a_4 n_6 c_2, Value.int IntKind.i64 n_7, Value.int IntKind.i64 n_8,
      Value.int IntKind.i64 n_9, Value.int IntKind.i64 n_10],
      Value.int IntKind.i64 n_11] ∧
      ∀ (n_12 : Nat),
      m'.sz ≤ n_12 →
      Vc.Spec Try.prog (38 : Nat)
      [Value.agg
      #[Value.string x.key, Value.int IntKind.i64 x.lo, Value.int IntKind.i64 x.hi, Value.int IntKind.i64 x.base,
      Value.int IntKind.i64 x.round, Value.slice a x.hs.length c, Value.int IntKind.i64 x.lk.cl,
      Value.int IntKind.i64 x.lk.sq, Value.int IntKind.i64 x.lk.hm, Value.int IntKind.i64 x.lk.n],
      Value.agg
      #[Value.int IntKind.i64 o.kind, Value.int IntKind.i64 o.nd, Value.int IntKind.i64 o.le, Value.int IntKind.i64 o.ro,
      Value.int IntKind.i64 o.n, Value.int IntKind.i64 o.lo, Value.int IntKind.i64 o.hi, Value.int IntKind.i64 o.lk.cl,
      Value.int IntKind.i64 o.lk.sq, Value.int IntKind.i64 o.lk.hm, Value.int IntKind.i64 o.lk.n, Value.bool o.cm],
      Value.int IntKind.i64 ns]
      { π := m'.π, sz := n_12, uf := m'.uf : M } fun (v : Value) (m' : M) =>
      ∃ (s_1 : ByteArray),
      ∃ (n_13 : Int),
      ∃ (n_14 : Int),
      ∃ (n_15 : Int),
      ∃ (n_16 : Int),
      ∃ (a_6 : Option Addr),
      ∃ (n_17 : Nat),
      ∃ (c_3 : Nat),
      ∃ (n_18 : Int),
      ∃ (n_19 : Int),
      ∃ (n_20 : Int),
      ∃ (n_21 : Int),
      ∃ (n_22 : Int),
      v =
      Value.tuple
      #[Value.agg
      #[Value.string s_1, Value.int IntKind.i64 n_13, Value.int IntKind.i64 n_14,
      Value.int IntKind.i64 n_15, Value.int IntKind.i64 n_16, Value.slice a_6 n_17 c_3,
      Value.int IntKind.i64 n_18, Value.int IntKind.i64 n_19,
      Value.int IntKind.i64 n_20, Value.int IntKind.i64 n_21],
      Value.int IntKind.i64 n_22] ∧
      ∃ (b : Bool),
      QSpec Try.prog (21 : Nat) [] m' (Value.bool b) ∧
      ifB (!b) (Done (Value.bool false = Value.bool true))
      (∃ (b : Bool),
      QSpec Try.prog (23 : Nat)
      [Value.agg
      #[Value.string s, Value.int IntKind.i64 n_2, Value.int IntKind.i64 n_3,
      Value.int IntKind.i64 n_4, Value.int IntKind.i64 n_5,
      Value.slice a_4 n_6 c_2, Value.int IntKind.i64 n_7,
      Value.int IntKind.i64 n_8, Value.int IntKind.i64 n_9,
      Value.int IntKind.i64 n_10],
      Value.agg
      #[Value.string s_1, Value.int IntKind.i64 n_13, Value.int IntKind.i64 n_14,
      Value.int IntKind.i64 n_15, Value.int IntKind.i64 n_16,
      Value.slice a_6 n_17 c_3, Value.int IntKind.i64 n_18,
      Value.int IntKind.i64 n_19, Value.int IntKind.i64 n_20,
      Value.int IntKind.i64 n_21]]
      m' (Value.bool b) ∧
      ifB (!b) (Done (Value.bool false = Value.bool true))
      (ifB (n_11 != n_22) (Done (Value.bool false = Value.bool true))
      (∃ (b : Bool),
      QSpec Try.prog (26 : Nat)
      [Value.slice a_2 n c_1, Value.slice a x.hs.length c,
      Value.agg
      #[Value.int IntKind.i64 (71 : Int), Value.int IntKind.i64 (0 : Int),
      Value.int IntKind.i64 (0 : Int), Value.int IntKind.i64 (0 : Int)]]
      m' (Value.bool b) ∧
      ifB (!b) (Done (Value.bool false = Value.bool true))
      ((∃ (a : PlX),
      PlI (aCall x o ns).fst x.hs.length
      { π := m.π, sz := N, uf := m.uf : M } a ∧
      m' = a.m ∧
      ((SV.val (Value.int IntKind.i64 (0 : Int)) =
      SV.val (Value.int IntKind.i64 (↑a.k : Int)) ∧
      true = true) ∧
      (SV.own ((0 : Nat) + (3 : Nat) + (1 : Nat)) (0 : Nat) =
      SV.own (4 : Nat) (0 : Nat) ∧
      true = true) ∧
      (SV.own
      ((0 : Nat) + (3 : Nat) + (3 : Nat) + (6 : Nat) +
      (7 : Nat))
      (0 : Nat) =
      SV.own (19 : Nat) (0 : Nat) ∧
      true = true) ∧
      (SV.own
      ((0 : Nat) + (3 : Nat) + (3 : Nat) + (6 : Nat) +
      (10 : Nat) +
      (7 : Nat))
      (0 : Nat) =
      SV.own (29 : Nat) (0 : Nat) ∧
      true = true) ∧
      True) ∧
      (some
      { ty := (28 : Nat), cs := [Value.string x.key, Value.int IntKind.i64 x.lo, Value.int IntKind.i64 x.hi, Value.int IntKind.i64 x.base, Value.int IntKind.i64 x.round, Value.slice a_2 n c_1, Value.int IntKind.i64 x.lk.cl, Value.int IntKind.i64 x.lk.sq, Value.int IntKind.i64 x.lk.hm, Value.int IntKind.i64 x.lk.n] : Bx } =
      some
      { ty := (28 : TypeId), cs := [Value.string x.key, Value.int IntKind.i64 x.lo, Value.int IntKind.i64 x.hi, Value.int IntKind.i64 x.base, Value.int IntKind.i64 x.round, Value.slice (some { block := a.b, off := (0 : Nat) : Addr }) x.hs.length (x.hs.length + (2 : Nat)), Value.int IntKind.i64 x.lk.cl, Value.int IntKind.i64 x.lk.sq, Value.int IntKind.i64 x.lk.hm, Value.int IntKind.i64 x.lk.n] : Bx } ∧
      true = true) ∧
      (some
      { ty := (28 : Nat), cs := [Value.string s, Value.int IntKind.i64 n_2, Value.int IntKind.i64 n_3, Value.int IntKind.i64 n_4, Value.int IntKind.i64 n_5, Value.slice a_4 n_6 c_2, Value.int IntKind.i64 n_7, Value.int IntKind.i64 n_8, Value.int IntKind.i64 n_9, Value.int IntKind.i64 n_10] : Bx } =
      some
      { ty := (28 : TypeId), cs := [Value.string (aCall x o ns).fst.key, Value.int IntKind.i64 (aCall x o ns).fst.lo, Value.int IntKind.i64 (aCall x o ns).fst.hi, Value.int IntKind.i64 (aCall x o ns).fst.base, Value.int IntKind.i64 (aCall x o ns).fst.round, Value.slice a.ax (aCall x o ns).fst.hs.length a.cx, Value.int IntKind.i64 (aCall x o ns).fst.lk.cl, Value.int IntKind.i64 (aCall x o ns).fst.lk.sq, Value.int IntKind.i64 (aCall x o ns).fst.lk.hm, Value.int IntKind.i64 (aCall x o ns).fst.lk.n] : Bx } ∧
      true = true) ∧
      (some
      { ty := (28 : Nat), cs := [Value.string s_1, Value.int IntKind.i64 n_13, Value.int IntKind.i64 n_14, Value.int IntKind.i64 n_15, Value.int IntKind.i64 n_16, Value.slice a_6 n_17 c_3, Value.int IntKind.i64 n_18, Value.int IntKind.i64 n_19, Value.int IntKind.i64 n_20, Value.int IntKind.i64 n_21] : Bx } =
      some
      { ty := (28 : TypeId), cs := [Value.string (aCall x o ns).fst.key, Value.int IntKind.i64 (aCall x o ns).fst.lo, Value.int IntKind.i64 (aCall x o ns).fst.hi, Value.int IntKind.i64 (aCall x o ns).fst.base, Value.int IntKind.i64 (aCall x o ns).fst.round, Value.slice a.ay (aCall x o ns).fst.hs.length a.cy, Value.int IntKind.i64 (aCall x o ns).fst.lk.cl, Value.int IntKind.i64 (aCall x o ns).fst.lk.sq, Value.int IntKind.i64 (aCall x o ns).fst.lk.hm, Value.int IntKind.i64 (aCall x o ns).fst.lk.n] : Bx } ∧
      true = true) ∧
      True) ∧
      ∀ (a : PlX),
      PlI (aCall x o ns).fst x.hs.length
      { π := m.π, sz := N, uf := m.uf : M } a →
      ifB (decide ((↑a.k : Int) < (↑x.hs.length : Int)))
      (∃ (b : Nat),
      ∃ (off : Nat),
      some { block := a.b, off := (0 : Nat) : Addr } =
      some { block := b, off := off : Addr } ∧
      ((0 : Int) ≤ (↑a.k : Int) ∧
      (↑a.k : Int) < (↑x.hs.length : Int)) ∧
      Wr N (fun (x : Nat) => False) a.m b
      (off + (↑a.k : Int).toNat * (4 : Nat) + (2 : Nat))
      (1 : Nat) ∧
      ∃ (a' : PlX),
      (PlI (aCall x o ns).fst x.hs.length
      { π := m.π, sz := N, uf := m.uf : M } a' ∧
      a.m.setCells b
      (off + (↑a.k : Int).toNat * (4 : Nat) +
      (2 : Nat))
      [Value.int IntKind.i64 (72 : Int)] =
      a'.m ∧
      ((SV.val
      (Value.int IntKind.i64
      (IntKind.i64.wrap
      ((↑a.k : Int) + (1 : Int)))) =
      SV.val
      (Value.int IntKind.i64
      (↑a'.k : Int)) ∧
      true = true) ∧
      (SV.own (4 : Nat) (0 : Nat) =
      SV.own (4 : Nat) (0 : Nat) ∧
      true = true) ∧
      (SV.own (19 : Nat) (0 : Nat) =
      SV.own (19 : Nat) (0 : Nat) ∧
      true = true) ∧
      (SV.own (29 : Nat) (0 : Nat) =
      SV.own (29 : Nat) (0 : Nat) ∧
      true = true) ∧
      True) ∧
      (some
      { ty := (28 : TypeId), cs := [Value.string x.key, Value.int IntKind.i64 x.lo, Value.int IntKind.i64 x.hi, Value.int IntKind.i64 x.base, Value.int IntKind.i64 x.round, Value.slice (some { block := a.b, off := (0 : Nat) : Addr }) x.hs.length (x.hs.length + (2 : Nat)), Value.int IntKind.i64 x.lk.cl, Value.int IntKind.i64 x.lk.sq, Value.int IntKind.i64 x.lk.hm, Value.int IntKind.i64 x.lk.n] : Bx } =
      some
      { ty := (28 : TypeId), cs := [Value.string x.key, Value.int IntKind.i64 x.lo, Value.int IntKind.i64 x.hi, Value.int IntKind.i64 x.base, Value.int IntKind.i64 x.round, Value.slice (some { block := a'.b, off := (0 : Nat) : Addr }) x.hs.length (x.hs.length + (2 : Nat)), Value.int IntKind.i64 x.lk.cl, Value.int IntKind.i64 x.lk.sq, Value.int IntKind.i64 x.lk.hm, Value.int IntKind.i64 x.lk.n] : Bx } ∧
      true = true) ∧
      (some
      { ty := (28 : TypeId), cs := [Value.string (aCall x o ns).fst.key, Value.int IntKind.i64 (aCall x o ns).fst.lo, Value.int IntKind.i64 (aCall x o ns).fst.hi, Value.int IntKind.i64 (aCall x o ns).fst.base, Value.int IntKind.i64 (aCall x o ns).fst.round, Value.slice a.ax (aCall x o ns).fst.hs.length a.cx, Value.int IntKind.i64 (aCall x o ns).fst.lk.cl, Value.int IntKind.i64 (aCall x o ns).fst.lk.sq, Value.int IntKind.i64 (aCall x o ns).fst.lk.hm, Value.int IntKind.i64 (aCall x o ns).fst.lk.n] : Bx } =
      some
      { ty := (28 : TypeId), cs := [Value.string (aCall x o ns).fst.key, Value.int IntKind.i64 (aCall x o ns).fst.lo, Value.int IntKind.i64 (aCall x o ns).fst.hi, Value.int IntKind.i64 (aCall x o ns).fst.base, Value.int IntKind.i64 (aCall x o ns).fst.round, Value.slice a'.ax (aCall x o ns).fst.hs.length a'.cx, Value.int IntKind.i64 (aCall x o ns).fst.lk.cl, Value.int IntKind.i64 (aCall x o ns).fst.lk.sq, Value.int IntKind.i64 (aCall x o ns).fst.lk.hm, Value.int IntKind.i64 (aCall x o ns).fst.lk.n] : Bx } ∧
      true = true) ∧
      (some
      { ty := (28 : TypeId), cs := [Value.string (aCall x o ns).fst.key, Value.int IntKind.i64 (aCall x o ns).fst.lo, Value.int IntKind.i64 (aCall x o ns).fst.hi, Value.int IntKind.i64 (aCall x o ns).fst.base, Value.int IntKind.i64 (aCall x o ns).fst.round, Value.slice a.ay (aCall x o ns).fst.hs.length a.cy, Value.int IntKind.i64 (aCall x o ns).fst.lk.cl, Value.int IntKind.i64 (aCall x o ns).fst.lk.sq, Value.int IntKind.i64 (aCall x o ns).fst.lk.hm, Value.int IntKind.i64 (aCall x o ns).fst.lk.n] : Bx } =
      some
      { ty := (28 : TypeId), cs := [Value.string (aCall x o ns).fst.key, Value.int IntKind.i64 (aCall x o ns).fst.lo, Value.int IntKind.i64 (aCall x o ns).fst.hi, Value.int IntKind.i64 (aCall x o ns).fst.base, Value.int IntKind.i64 (aCall x o ns).fst.round, Value.slice a'.ay (aCall x o ns).fst.hs.length a'.cy, Value.int IntKind.i64 (aCall x o ns).fst.lk.cl, Value.int IntKind.i64 (aCall x o ns).fst.lk.sq, Value.int IntKind.i64 (aCall x o ns).fst.lk.hm, Value.int IntKind.i64 (aCall x o ns).fst.lk.n] : Bx } ∧
      true = true) ∧
      True) ∧
      x.hs.length - a'.k < x.hs.length - a.k)
      (∃ (b : Bool),
      QSpec Try.prog (23 : Nat)
      [Value.agg
      #[Value.string (aCall x o ns).fst.key,
      Value.int IntKind.i64 (aCall x o ns).fst.lo,
      Value.int IntKind.i64 (aCall x o ns).fst.hi,
      Value.int IntKind.i64 (aCall x o ns).fst.base,
      Value.int IntKind.i64 (aCall x o ns).fst.round,
      Value.slice a.ax (aCall x o ns).fst.hs.length a.cx,
      Value.int IntKind.i64 (aCall x o ns).fst.lk.cl,
      Value.int IntKind.i64 (aCall x o ns).fst.lk.sq,
      Value.int IntKind.i64 (aCall x o ns).fst.lk.hm,
      Value.int IntKind.i64 (aCall x o ns).fst.lk.n],
      Value.agg
      #[Value.string (aCall x o ns).fst.key,
      Value.int IntKind.i64 (aCall x o ns).fst.lo,
      Value.int IntKind.i64 (aCall x o ns).fst.hi,
      Value.int IntKind.i64 (aCall x o ns).fst.base,
      Value.int IntKind.i64 (aCall x o ns).fst.round,
      Value.slice a.ay (aCall x o ns).fst.hs.length a.cy,
      Value.int IntKind.i64 (aCall x o ns).fst.lk.cl,
      Value.int IntKind.i64 (aCall x o ns).fst.lk.sq,
      Value.int IntKind.i64 (aCall x o ns).fst.lk.hm,
      Value.int IntKind.i64 (aCall x o ns).fst.lk.n]]
      a.m (Value.bool b) ∧
      Done (Value.bool b = Value.bool true))))))) (by kernel_rfl) ?_
  have hX := call_wf (ns := ns) hx ho
  refine ⟨rfl, _, noS, fun N1 hN1 => (hown_q a c x.hs mk71 hlen _ (h.sz (Nat.le_trans hN hN1))).monoW fun v m1 hag ⟨b, hv, hb1, hb2, huf, hc⟩ => ⟨_, _, _, hv, fun N2 hN2 => ?_⟩⟩
  have hm1 := hag.2.2
  simp only at hm1 hb1
  have rb1 : Row m1 (some ⟨b, 0, none⟩) (hds x.hs) := .at _ _ _ hb2 hc.take
  have ra1 : Row m1 a (hds x.hs) := (h.sz (Nat.le_trans hN hN1)).agree hag
  have ow1 : Own N (fun _ => False) m1 4 (some ⟨b, 0, none⟩) x.hs.length (x.hs.length + 2) (hds x.hs) := .at b 0 _ _ _ _ (.inl (by omega)) hb2 huf hc (hds_len _) (by simp [Nat.add_sub_cancel_left]) (by omega)
  refine (call_s x (some ⟨b, 0, none⟩) (x.hs.length + 2) o ns hx ho (fun e => by cases e) _ (rb1.sz hN2)).mono fun v2 m2 hag2 ⟨ax, cx, hv2, hr2⟩ => ⟨_, _, _, _, _, _, _, _, _, _, _, _, _, hv2, fun N3 hN3 => ?_⟩
  have hm2 := hag2.2.2
  simp only at hm2
  refine (told_s x a c o ns hx ho _ (((ra1.sz hN2).agree hag2).sz hN3)).mono fun v3 m3 hag3 ⟨ay, cy, hv3, hr3⟩ => ⟨_, _, _, _, _, _, _, _, _, _, _, _, _, hv3, _, awake_q _, ifB_false ?_⟩
  have hm3 := hag3.2.2
  simp only at hm3
  have rx3 := ((hr2.row.sz hN3).agree hag3)
  have ow3 := ((((ow1.sz hN2).agree hag2).sz hN3).agree hag3)
  have ra3 := (((((ra1.sz hN2).agree hag2).sz hN3).agree hag3))
  have hc3 : CellsAt m3 b 0 (hds x.hs ++ (encH mk71 ++ encH mk71)) := by
    refine hc.of ?_
    rw [hag3.1 b (by simp only; omega)]
    exact hag2.1 b (by simp only; omega)
  refine ⟨_, saccount_q _ _ ax ay cx cy hX hX _ rx3 hr3.row, ?_⟩
  rw [show (!decide ((aCall x o ns).1 = (aCall x o ns).1)) = false by simp, show ((aCall x o ns).2 != (aCall x o ns).2) = false by simp]
  have neq : ∀ (ax : Option Addr) (cx M0 : Nat) (m : M), b < M0 → NewR M0 (fun _ => False) m 4 ax (aCall x o ns).1.hs.length cx (hds (aCall x o ns).1.hs) → (aCall x o ns).1.hs ≠ [] → ∀ b' o', ax = some ⟨b', o', none⟩ → b' ≠ b := fun ax cx M0 m hb hr hne b' o' e => by
    rcases (hr.toOwn (fun e => hne (List.eq_nil_of_length_eq_zero e))).lo e with h | h
    · omega
    · exact h.elim
  refine ifB_false (ifB_false ⟨_, hkept_q b x.hs a c mk71 hlen m3 (by omega) hc3 ra3, ifB_false ⟨⟨⟨0, b, ax, cx, ay, cy, m3, x.hs⟩, ⟨Nat.zero_le _, ow3, rfl, rx3, hr3.row, neq _ _ _ _ (by simp only; omega) hr2, neq _ _ _ _ (by simp only; omega) hr3⟩, rfl, ⟨⟨rfl, rfl⟩, ⟨rfl, rfl⟩, ⟨rfl, rfl⟩, ⟨rfl, rfl⟩, trivial⟩, ⟨⟨rfl, rfl⟩, ⟨rfl, rfl⟩, ⟨rfl, rfl⟩, trivial⟩⟩, fun y hy => ifB_intro (fun hb => ?_) (fun hb => ?_)⟩⟩)
  · have hk2 : y.k < x.hs.length := by simpa using hb
    have hcl := hy.cl
    have hk3 : y.k < y.cur.length := by omega
    have w1 : IntKind.i64.wrap ((y.k : Int) + 1) = ((y.k + 1 : Nat) : Int) := by simp [IntKind.wrap_i64]; omega
    have es : y.cur = y.cur.take y.k ++ y.cur[y.k] :: y.cur.drop (y.k + 1) := by
      rw [← List.drop_eq_getElem_cons hk3, List.take_append_drop]
    have how := hy.own
    rw [es] at how
    obtain ⟨g1, g2⟩ := own_up how 72
    rw [List.length_take, Nat.min_eq_left (by omega)] at g1 g2
    refine ⟨y.b, 0, rfl, by omega, by simpa using g1, ⟨y.k + 1, y.b, y.ax, y.cx, y.ay, y.cy, y.m.setCells y.b (0 + y.k * 4 + 2) [I 72], _⟩, ⟨⟨hk2, g2, ?_, row_set hy.rx hy.nx, row_set hy.ry hy.ny, hy.nx, hy.ny⟩, by simp, ⟨⟨by rw [w1], rfl⟩, ⟨rfl, rfl⟩, ⟨rfl, rfl⟩, ⟨rfl, rfl⟩, trivial⟩, ⟨⟨rfl, rfl⟩, ⟨rfl, rfl⟩, ⟨rfl, rfl⟩, trivial⟩⟩, by simp only; omega⟩
    simp; omega
  · exact ⟨_, saccount_q _ _ y.ax y.ay y.cx y.cy hX hX _ hy.rx hy.ry, ⟨by simp⟩⟩

end Go.Proofs.Ytlifpjllhibdpaa
