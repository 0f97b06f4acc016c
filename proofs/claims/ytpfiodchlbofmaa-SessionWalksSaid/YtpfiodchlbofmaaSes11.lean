/-
  Contracts of functions of this seat: what each hands back, and what it leaves of memory (ses11). Nothing here is trusted: Lean checks it.
-/
import Derived.Test.YtpfiodchlbofmaaSes10
import Derived.Test.YtpfiodchlbofmaaLgw
set_option linter.unusedVariables false
set_option linter.unusedSimpArgs false
namespace Go.Proofs.Ytpfiodchlbofmaa
open Go.Vc Go.RowKit
set_option maxRecDepth 100000

theorem end_snd (l : List Mk) (c s : Int) (an : An) : (endM l c s an).2 = openE l c s := by unfold endM; split <;> simp_all

theorem lose_snd (l : List Mk) (c s : Int) : (loseM l c s).2 = openE l c s := by unfold loseM; split <;> simp_all

theorem openE_iff {l : List Mk} {c s : Int} (ht : tabB 0 l = true) : openE l c s = 0 ↔ ((ofM l c).getD m0).op = true ∧ ((ofM l c).getD m0).sq = s := by
  simp only [openE, ht, Bool.true_eq_false, if_false]
  cases ofM l c with
  | none => simp [m0]
  | some x =>
    simp only [Option.getD_some]
    split
    · rename_i e; simp [e]
    · rename_i e; simp; intro h1 h2; exact e ⟨h2, h1⟩

theorem begin_walk {l : List Mk} {c s : Int} (hc : 1 ≤ c ∧ c ≤ 8) (ht : tabB 0 l = true) : (beginM l c s = (insM l (opM c s), true, 0) ∧ argB c s = true ∧ ((ofM l c).getD m0).sq < s) ∨
    ((beginM l c s).2.1 = false ∧ ((beginM l c s).2.2 = 0 → (beginM l c s).1 = l ∧ argB c s = true ∧ ((ofM l c).getD m0).sq = s ∧ ofM l c = some ((ofM l c).getD m0)) ∧
      ((beginM l c s).2.2 ≠ 0 → (beginM l c s).1 = [] ∧ (1 ≤ s ∧ s ≤ 4611686018427387904 → s < ((ofM l c).getD m0).sq))) := by
  unfold beginM
  rw [ht]
  simp only [Bool.true_eq_false, if_false]
  cases ha : argB c s
  · right
    simp only [if_true, ne_eq, true_and]
    refine ⟨fun h => by simp at h, fun _ => fun h => ?_⟩
    simp [argB] at ha; omega
  have hs : 1 ≤ s := by simp [argB] at ha; omega
  simp only [Bool.true_eq_false, if_false]
  cases ho : ofM l c with
  | none => left; refine ⟨by trivial, by trivial, ?_⟩; show (0 : Int) < s; omega
  | some x =>
    simp only [Option.getD_some]
    split
    · rename_i h; right; refine ⟨by trivial, fun h => by simp at h, fun _ => ⟨by trivial, fun _ => h⟩⟩
    · split
      · rename_i h1 h2; right; exact ⟨by trivial, fun _ => ⟨by trivial, by trivial, h2, by trivial⟩, fun h => absurd rfl h⟩
      · rename_i h1 h2; left; exact ⟨by trivial, by trivial, by omega⟩

structure WkX where
  i : Nat
  l : List Mk
  a : Option Addr
  c : Nat
  mr : Mk
  lx : List Mk
  ax : Option Addr
  cx : Nat
  e : Int
  m : M

structure WkI (aw : Option Addr) (ws : List Gw) (cl : Int) (y : WkX) : Prop where
  i : y.i ≤ ws.length
  tab : tabB 0 y.l = true
  row : Rs y.m [(y.a, mks y.l), (aw, gws ws)]
  mr : (ofM y.l cl).getD m0 = y.mr

structure WkJ (aw : Option Addr) (ws : List Gw) (cl : Int) (y : WkX) : Prop where
  i : y.i < ws.length
  tab : tabB 0 y.l = true
  row : Rs y.m [(y.ax, mks y.lx), (y.a, mks y.l), (aw, gws ws)]
  bad : y.e ≠ 0 → y.lx = [] ∧ (ofM y.l cl).getD m0 = y.mr
  good : y.e = 0 → tabB 0 y.lx = true ∧ ofM y.lx cl = some y.mr

def wkAnn (aw : Option Addr) (cw : Nat) (ws : List Gw) (cl : Int) : Nat → Ann
  | 30 => {
    A := WkX
    inv := WkJ aw ws cl
    st := fun y => [(9, .val (I y.i)), (2, .val (.slice aw ws.length cw)), (0, .val (.slice y.a y.l.length y.c)), (1, .val (I cl)), (7, .own 22 0), (12, .val (I y.e)), (11, .val (.slice y.ax y.lx.length y.cx))]
    own := fun y => [(22, ⟨32, encMk y.mr⟩)]
    m := fun y => y.m
    μ := fun _ => 0
    cut := true
    link := some fun y ctx => ctx = [ws.length - y.i] }
  | _ => {
    A := WkX
    inv := WkI aw ws cl
    st := fun y => [(9, .val (I y.i)), (2, .val (.slice aw ws.length cw)), (0, .val (.slice y.a y.l.length y.c)), (1, .val (I cl)), (7, .own 22 0)]
    own := fun y => [(22, ⟨32, encMk y.mr⟩)]
    m := fun y => y.m
    μ := fun y => ws.length - y.i }

set_option maxHeartbeats 2000000 in
theorem sessionwalks (a aw : Option Addr) (cp cw : Nat) (l : List Mk) (ws : List Gw) (cl : Int) (hn : l.length ≤ 9223372036854775807) (hw : ws.length ≤ 9223372036854775807) (m : M) (h : Row m a (mks l)) (h2 : Row m aw (gws ws)) :
    QSpec Try.prog 8 [.slice a l.length cp, I cl, .slice aw ws.length cw] m (.bool true) := by
  refine QSpec.of_vc Try.func8 (ann := fun _ => wkAnn aw cw ws cl) fun N hN => ?_
  refine vc_by (X :=
      true = true ∧
      ∃ (b : Bool),
      QSpec Try.prog (13 : Nat) [] { π := m.π, sz := N, uf := m.uf : M } (Value.bool b) ∧
      ifB (!b) (∃ (b : Bool), QSpec Try.prog (13 : Nat) [] { π := m.π, sz := N, uf := m.uf : M } (Value.bool b) ∧ Done (Value.bool b = Value.bool true))
      (∃ (n : Int),
      QSpec Try.prog (25 : Nat) [Value.slice a l.length cp] { π := m.π, sz := N, uf := m.uf : M } (Value.int IntKind.i64 n) ∧
      ifB (n != (0 : Int)) (∃ (b : Bool), QSpec Try.prog (13 : Nat) [] { π := m.π, sz := N, uf := m.uf : M } (Value.bool b) ∧ Done (Value.bool b = Value.bool true))
      (ifB (decide (cl < (1 : Int)))
      (∃ (b : Bool), QSpec Try.prog (13 : Nat) [] { π := m.π, sz := N, uf := m.uf : M } (Value.bool b) ∧ Done (Value.bool b = Value.bool true))
      (ifB (decide (cl > (8 : Int)))
      (∃ (b : Bool), QSpec Try.prog (13 : Nat) [] { π := m.π, sz := N, uf := m.uf : M } (Value.bool b) ∧ Done (Value.bool b = Value.bool true))
      (∃ (n : Int),
      ∃ (n_1 : Int),
      ∃ (b : Bool),
      ∃ (n_2 : Int),
      ∃ (n_3 : Int),
      ∃ (n_4 : Int),
      ∃ (n_5 : Int),
      ∃ (b_1 : Bool),
      QSpec Try.prog (17 : Nat) [Value.slice a l.length cp, Value.int IntKind.i64 cl] { π := m.π, sz := N, uf := m.uf : M }
      (Value.tuple
      #[Value.agg
      #[Value.int IntKind.i64 n, Value.int IntKind.i64 n_1, Value.bool b, Value.int IntKind.i64 n_2, Value.int IntKind.i64 n_3,
      Value.int IntKind.i64 n_4, Value.int IntKind.i64 n_5],
      Value.bool b_1]) ∧
      (∃ (a_1 : WkX),
      WkI aw ws cl a_1 ∧
      { π := m.π, sz := N, uf := m.uf : M } = a_1.m ∧
      ((SV.val (Value.int IntKind.i64 (0 : Int)) = SV.val (Value.int IntKind.i64 (↑a_1.i : Int)) ∧ true = true) ∧
      (SV.val (Value.slice aw ws.length cw) = SV.val (Value.slice aw ws.length cw) ∧ true = true) ∧
      (SV.val (Value.slice a l.length cp) = SV.val (Value.slice a_1.a a_1.l.length a_1.c) ∧ true = true) ∧
      (SV.val (Value.int IntKind.i64 cl) = SV.val (Value.int IntKind.i64 cl) ∧ true = true) ∧
      (SV.own ((0 : Nat) + (1 : Nat) + (15 : Nat) + (6 : Nat)) (0 : Nat) = SV.own (22 : Nat) (0 : Nat) ∧ true = true) ∧ True) ∧
      (some
      { ty := (32 : Nat), cs := [Value.int IntKind.i64 n, Value.int IntKind.i64 n_1, Value.bool b, Value.int IntKind.i64 n_2, Value.int IntKind.i64 n_3, Value.int IntKind.i64 n_4, Value.int IntKind.i64 n_5] : Bx } =
      some
      { ty := (32 : TypeId), cs := [Value.int IntKind.i64 a_1.mr.cl, Value.int IntKind.i64 a_1.mr.sq, Value.bool a_1.mr.op, Value.int IntKind.i64 a_1.mr.an_er, Value.int IntKind.i64 a_1.mr.an_va, Value.int IntKind.i64 a_1.mr.an_le, Value.int IntKind.i64 a_1.mr.an_mo] : Bx } ∧
      true = true) ∧
      True) ∧
      ∀ (a : WkX),
      WkI aw ws cl a →
      ifB (decide ((↑a.i : Int) < (↑ws.length : Int)))
      (∃ (b : Nat),
      ∃ (off : Nat),
      aw = some { block := b, off := off : Addr } ∧
      ((0 : Int) ≤ (↑a.i : Int) ∧ (↑a.i : Int) < (↑ws.length : Int)) ∧
      ∃ (n : Int),
      ∃ (n_6 : Int),
      ∃ (n_7 : Int),
      ∃ (n_8 : Int),
      ∃ (n_9 : Int),
      ∃ (n_10 : Int),
      CellsAt a.m b (off + (↑a.i : Int).toNat * (6 : Nat))
      [Value.int IntKind.i64 n, Value.int IntKind.i64 n_6, Value.int IntKind.i64 n_7, Value.int IntKind.i64 n_8,
      Value.int IntKind.i64 n_9, Value.int IntKind.i64 n_10] ∧
      ifB (n == (1 : Int))
      (∃ (S' : Nat → Prop),
      (∀ (b : Nat), S' b → a.m.uf b ∧ (N ≤ b ∨ False)) ∧
      ∀ (n : Nat),
      a.m.sz ≤ n →
      SpecW Try.prog (20 : Nat)
      [Value.slice a.a a.l.length a.c, Value.int IntKind.i64 cl, Value.int IntKind.i64 n_6,
      Value.agg
      #[Value.int IntKind.i64 n_7, Value.int IntKind.i64 n_8, Value.int IntKind.i64 n_9,
      Value.int IntKind.i64 n_10]]
      { π := a.m.π, sz := n, uf := a.m.uf : M } S' fun (v : Value) (m' : M) =>
      ∃ (a_3 : Option Addr),
      ∃ (n : Nat),
      ∃ (c : Nat),
      ∃ (n_11 : Int),
      v = Value.tuple #[Value.slice a_3 n c, Value.int IntKind.i64 n_11] ∧
      ifB a.mr.op
      (ifB (!(n_11 == (0 : Int)) == (a.mr.sq == n_6))
      (Done (Value.bool false = Value.bool true))
      (ifB (n_11 == (0 : Int))
      (true = true ∧
      ∃ (x : WkX),
      (WkJ aw ws cl x ∧
      m' = x.m ∧
      ((SV.val (Value.int IntKind.i64 (↑a.i : Int)) =
      SV.val (Value.int IntKind.i64 (↑x.i : Int)) ∧
      true = true) ∧
      (SV.val (Value.slice aw ws.length cw) =
      SV.val (Value.slice aw ws.length cw) ∧
      true = true) ∧
      (SV.val (Value.slice a.a a.l.length a.c) =
      SV.val (Value.slice x.a x.l.length x.c) ∧
      true = true) ∧
      (SV.val (Value.int IntKind.i64 cl) =
      SV.val (Value.int IntKind.i64 cl) ∧
      true = true) ∧
      (SV.own (22 : Nat) (0 : Nat) = SV.own (22 : Nat) (0 : Nat) ∧
      true = true) ∧
      (SV.val (Value.int IntKind.i64 n_11) =
      SV.val (Value.int IntKind.i64 x.e) ∧
      true = true) ∧
      (SV.val (Value.slice a_3 n c) =
      SV.val (Value.slice x.ax x.lx.length x.cx) ∧
      true = true) ∧
      True) ∧
      (some
      { ty := (32 : TypeId), cs := [Value.int IntKind.i64 a.mr.cl, Value.int IntKind.i64 a.mr.sq, Value.bool false, Value.int IntKind.i64 n_7, Value.int IntKind.i64 n_8, Value.int IntKind.i64 n_9, Value.int IntKind.i64 n_10] : Bx } =
      some
      { ty := (32 : TypeId), cs := [Value.int IntKind.i64 x.mr.cl, Value.int IntKind.i64 x.mr.sq, Value.bool x.mr.op, Value.int IntKind.i64 x.mr.an_er, Value.int IntKind.i64 x.mr.an_va, Value.int IntKind.i64 x.mr.an_le, Value.int IntKind.i64 x.mr.an_mo] : Bx } ∧
      true = true) ∧
      True) ∧
      [ws.length - a.i] = [ws.length - x.i])
      (∃ (x : WkX),
      (WkJ aw ws cl x ∧
      m' = x.m ∧
      ((SV.val (Value.int IntKind.i64 (↑a.i : Int)) =
      SV.val (Value.int IntKind.i64 (↑x.i : Int)) ∧
      true = true) ∧
      (SV.val (Value.slice aw ws.length cw) =
      SV.val (Value.slice aw ws.length cw) ∧
      true = true) ∧
      (SV.val (Value.slice a.a a.l.length a.c) =
      SV.val (Value.slice x.a x.l.length x.c) ∧
      true = true) ∧
      (SV.val (Value.int IntKind.i64 cl) =
      SV.val (Value.int IntKind.i64 cl) ∧
      true = true) ∧
      (SV.own (22 : Nat) (0 : Nat) = SV.own (22 : Nat) (0 : Nat) ∧
      true = true) ∧
      (SV.val (Value.int IntKind.i64 n_11) =
      SV.val (Value.int IntKind.i64 x.e) ∧
      true = true) ∧
      (SV.val (Value.slice a_3 n c) =
      SV.val (Value.slice x.ax x.lx.length x.cx) ∧
      true = true) ∧
      True) ∧
      (some
      { ty := (32 : TypeId), cs := [Value.int IntKind.i64 a.mr.cl, Value.int IntKind.i64 a.mr.sq, Value.bool a.mr.op, Value.int IntKind.i64 a.mr.an_er, Value.int IntKind.i64 a.mr.an_va, Value.int IntKind.i64 a.mr.an_le, Value.int IntKind.i64 a.mr.an_mo] : Bx } =
      some
      { ty := (32 : TypeId), cs := [Value.int IntKind.i64 x.mr.cl, Value.int IntKind.i64 x.mr.sq, Value.bool x.mr.op, Value.int IntKind.i64 x.mr.an_er, Value.int IntKind.i64 x.mr.an_va, Value.int IntKind.i64 x.mr.an_le, Value.int IntKind.i64 x.mr.an_mo] : Bx } ∧
      true = true) ∧
      True) ∧
      [ws.length - a.i] = [ws.length - x.i])))
      (ifB (!(n_11 == (0 : Int)) == false) (Done (Value.bool false = Value.bool true))
      (ifB (n_11 == (0 : Int))
      (true = true ∧
      ∃ (x : WkX),
      (WkJ aw ws cl x ∧
      m' = x.m ∧
      ((SV.val (Value.int IntKind.i64 (↑a.i : Int)) =
      SV.val (Value.int IntKind.i64 (↑x.i : Int)) ∧
      true = true) ∧
      (SV.val (Value.slice aw ws.length cw) =
      SV.val (Value.slice aw ws.length cw) ∧
      true = true) ∧
      (SV.val (Value.slice a.a a.l.length a.c) =
      SV.val (Value.slice x.a x.l.length x.c) ∧
      true = true) ∧
      (SV.val (Value.int IntKind.i64 cl) =
      SV.val (Value.int IntKind.i64 cl) ∧
      true = true) ∧
      (SV.own (22 : Nat) (0 : Nat) = SV.own (22 : Nat) (0 : Nat) ∧
      true = true) ∧
      (SV.val (Value.int IntKind.i64 n_11) =
      SV.val (Value.int IntKind.i64 x.e) ∧
      true = true) ∧
      (SV.val (Value.slice a_3 n c) =
      SV.val (Value.slice x.ax x.lx.length x.cx) ∧
      true = true) ∧
      True) ∧
      (some
      { ty := (32 : TypeId), cs := [Value.int IntKind.i64 a.mr.cl, Value.int IntKind.i64 a.mr.sq, Value.bool false, Value.int IntKind.i64 n_7, Value.int IntKind.i64 n_8, Value.int IntKind.i64 n_9, Value.int IntKind.i64 n_10] : Bx } =
      some
      { ty := (32 : TypeId), cs := [Value.int IntKind.i64 x.mr.cl, Value.int IntKind.i64 x.mr.sq, Value.bool x.mr.op, Value.int IntKind.i64 x.mr.an_er, Value.int IntKind.i64 x.mr.an_va, Value.int IntKind.i64 x.mr.an_le, Value.int IntKind.i64 x.mr.an_mo] : Bx } ∧
      true = true) ∧
      True) ∧
      [ws.length - a.i] = [ws.length - x.i])
      (∃ (x : WkX),
      (WkJ aw ws cl x ∧
      m' = x.m ∧
      ((SV.val (Value.int IntKind.i64 (↑a.i : Int)) =
      SV.val (Value.int IntKind.i64 (↑x.i : Int)) ∧
      true = true) ∧
      (SV.val (Value.slice aw ws.length cw) =
      SV.val (Value.slice aw ws.length cw) ∧
      true = true) ∧
      (SV.val (Value.slice a.a a.l.length a.c) =
      SV.val (Value.slice x.a x.l.length x.c) ∧
      true = true) ∧
      (SV.val (Value.int IntKind.i64 cl) =
      SV.val (Value.int IntKind.i64 cl) ∧
      true = true) ∧
      (SV.own (22 : Nat) (0 : Nat) = SV.own (22 : Nat) (0 : Nat) ∧
      true = true) ∧
      (SV.val (Value.int IntKind.i64 n_11) =
      SV.val (Value.int IntKind.i64 x.e) ∧
      true = true) ∧
      (SV.val (Value.slice a_3 n c) =
      SV.val (Value.slice x.ax x.lx.length x.cx) ∧
      true = true) ∧
      True) ∧
      (some
      { ty := (32 : TypeId), cs := [Value.int IntKind.i64 a.mr.cl, Value.int IntKind.i64 a.mr.sq, Value.bool a.mr.op, Value.int IntKind.i64 a.mr.an_er, Value.int IntKind.i64 a.mr.an_va, Value.int IntKind.i64 a.mr.an_le, Value.int IntKind.i64 a.mr.an_mo] : Bx } =
      some
      { ty := (32 : TypeId), cs := [Value.int IntKind.i64 x.mr.cl, Value.int IntKind.i64 x.mr.sq, Value.bool x.mr.op, Value.int IntKind.i64 x.mr.an_er, Value.int IntKind.i64 x.mr.an_va, Value.int IntKind.i64 x.mr.an_le, Value.int IntKind.i64 x.mr.an_mo] : Bx } ∧
      true = true) ∧
      True) ∧
      [ws.length - a.i] = [ws.length - x.i]))))
      (ifB (n == (2 : Int))
      (∃ (S' : Nat → Prop),
      (∀ (b : Nat), S' b → a.m.uf b ∧ (N ≤ b ∨ False)) ∧
      ∀ (n : Nat),
      a.m.sz ≤ n →
      SpecW Try.prog (19 : Nat)
      [Value.slice a.a a.l.length a.c, Value.int IntKind.i64 cl, Value.int IntKind.i64 n_6]
      { π := a.m.π, sz := n, uf := a.m.uf : M } S' fun (v : Value) (m' : M) =>
      ∃ (a_3 : Option Addr),
      ∃ (n : Nat),
      ∃ (c : Nat),
      ∃ (n_11 : Int),
      v = Value.tuple #[Value.slice a_3 n c, Value.int IntKind.i64 n_11] ∧
      ifB a.mr.op
      (ifB (!(n_11 == (0 : Int)) == (a.mr.sq == n_6))
      (Done (Value.bool false = Value.bool true))
      (ifB (n_11 == (0 : Int))
      (∃ (x : WkX),
      (WkJ aw ws cl x ∧
      m' = x.m ∧
      ((SV.val (Value.int IntKind.i64 (↑a.i : Int)) =
      SV.val (Value.int IntKind.i64 (↑x.i : Int)) ∧
      true = true) ∧
      (SV.val (Value.slice aw ws.length cw) =
      SV.val (Value.slice aw ws.length cw) ∧
      true = true) ∧
      (SV.val (Value.slice a.a a.l.length a.c) =
      SV.val (Value.slice x.a x.l.length x.c) ∧
      true = true) ∧
      (SV.val (Value.int IntKind.i64 cl) =
      SV.val (Value.int IntKind.i64 cl) ∧
      true = true) ∧
      (SV.own (22 : Nat) (0 : Nat) = SV.own (22 : Nat) (0 : Nat) ∧
      true = true) ∧
      (SV.val (Value.int IntKind.i64 n_11) =
      SV.val (Value.int IntKind.i64 x.e) ∧
      true = true) ∧
      (SV.val (Value.slice a_3 n c) =
      SV.val (Value.slice x.ax x.lx.length x.cx) ∧
      true = true) ∧
      True) ∧
      (some
      { ty := (32 : TypeId), cs := [Value.int IntKind.i64 cl, Value.int IntKind.i64 (IntKind.i64.wrap (n_6 - (1 : Int))), Value.bool false, Value.int IntKind.i64 (80 : Int), Value.int IntKind.i64 (0 : Int), Value.int IntKind.i64 (0 : Int), Value.int IntKind.i64 (0 : Int)] : Bx } =
      some
      { ty := (32 : TypeId), cs := [Value.int IntKind.i64 x.mr.cl, Value.int IntKind.i64 x.mr.sq, Value.bool x.mr.op, Value.int IntKind.i64 x.mr.an_er, Value.int IntKind.i64 x.mr.an_va, Value.int IntKind.i64 x.mr.an_le, Value.int IntKind.i64 x.mr.an_mo] : Bx } ∧
      true = true) ∧
      True) ∧
      [ws.length - a.i] = [ws.length - x.i])
      (∃ (x : WkX),
      (WkJ aw ws cl x ∧
      m' = x.m ∧
      ((SV.val (Value.int IntKind.i64 (↑a.i : Int)) =
      SV.val (Value.int IntKind.i64 (↑x.i : Int)) ∧
      true = true) ∧
      (SV.val (Value.slice aw ws.length cw) =
      SV.val (Value.slice aw ws.length cw) ∧
      true = true) ∧
      (SV.val (Value.slice a.a a.l.length a.c) =
      SV.val (Value.slice x.a x.l.length x.c) ∧
      true = true) ∧
      (SV.val (Value.int IntKind.i64 cl) =
      SV.val (Value.int IntKind.i64 cl) ∧
      true = true) ∧
      (SV.own (22 : Nat) (0 : Nat) = SV.own (22 : Nat) (0 : Nat) ∧
      true = true) ∧
      (SV.val (Value.int IntKind.i64 n_11) =
      SV.val (Value.int IntKind.i64 x.e) ∧
      true = true) ∧
      (SV.val (Value.slice a_3 n c) =
      SV.val (Value.slice x.ax x.lx.length x.cx) ∧
      true = true) ∧
      True) ∧
      (some
      { ty := (32 : TypeId), cs := [Value.int IntKind.i64 a.mr.cl, Value.int IntKind.i64 a.mr.sq, Value.bool a.mr.op, Value.int IntKind.i64 a.mr.an_er, Value.int IntKind.i64 a.mr.an_va, Value.int IntKind.i64 a.mr.an_le, Value.int IntKind.i64 a.mr.an_mo] : Bx } =
      some
      { ty := (32 : TypeId), cs := [Value.int IntKind.i64 x.mr.cl, Value.int IntKind.i64 x.mr.sq, Value.bool x.mr.op, Value.int IntKind.i64 x.mr.an_er, Value.int IntKind.i64 x.mr.an_va, Value.int IntKind.i64 x.mr.an_le, Value.int IntKind.i64 x.mr.an_mo] : Bx } ∧
      true = true) ∧
      True) ∧
      [ws.length - a.i] = [ws.length - x.i])))
      (ifB (!(n_11 == (0 : Int)) == false) (Done (Value.bool false = Value.bool true))
      (ifB (n_11 == (0 : Int))
      (∃ (x : WkX),
      (WkJ aw ws cl x ∧
      m' = x.m ∧
      ((SV.val (Value.int IntKind.i64 (↑a.i : Int)) =
      SV.val (Value.int IntKind.i64 (↑x.i : Int)) ∧
      true = true) ∧
      (SV.val (Value.slice aw ws.length cw) =
      SV.val (Value.slice aw ws.length cw) ∧
      true = true) ∧
      (SV.val (Value.slice a.a a.l.length a.c) =
      SV.val (Value.slice x.a x.l.length x.c) ∧
      true = true) ∧
      (SV.val (Value.int IntKind.i64 cl) =
      SV.val (Value.int IntKind.i64 cl) ∧
      true = true) ∧
      (SV.own (22 : Nat) (0 : Nat) = SV.own (22 : Nat) (0 : Nat) ∧
      true = true) ∧
      (SV.val (Value.int IntKind.i64 n_11) =
      SV.val (Value.int IntKind.i64 x.e) ∧
      true = true) ∧
      (SV.val (Value.slice a_3 n c) =
      SV.val (Value.slice x.ax x.lx.length x.cx) ∧
      true = true) ∧
      True) ∧
      (some
      { ty := (32 : TypeId), cs := [Value.int IntKind.i64 cl, Value.int IntKind.i64 (IntKind.i64.wrap (n_6 - (1 : Int))), Value.bool false, Value.int IntKind.i64 (80 : Int), Value.int IntKind.i64 (0 : Int), Value.int IntKind.i64 (0 : Int), Value.int IntKind.i64 (0 : Int)] : Bx } =
      some
      { ty := (32 : TypeId), cs := [Value.int IntKind.i64 x.mr.cl, Value.int IntKind.i64 x.mr.sq, Value.bool x.mr.op, Value.int IntKind.i64 x.mr.an_er, Value.int IntKind.i64 x.mr.an_va, Value.int IntKind.i64 x.mr.an_le, Value.int IntKind.i64 x.mr.an_mo] : Bx } ∧
      true = true) ∧
      True) ∧
      [ws.length - a.i] = [ws.length - x.i])
      (∃ (x : WkX),
      (WkJ aw ws cl x ∧
      m' = x.m ∧
      ((SV.val (Value.int IntKind.i64 (↑a.i : Int)) =
      SV.val (Value.int IntKind.i64 (↑x.i : Int)) ∧
      true = true) ∧
      (SV.val (Value.slice aw ws.length cw) =
      SV.val (Value.slice aw ws.length cw) ∧
      true = true) ∧
      (SV.val (Value.slice a.a a.l.length a.c) =
      SV.val (Value.slice x.a x.l.length x.c) ∧
      true = true) ∧
      (SV.val (Value.int IntKind.i64 cl) =
      SV.val (Value.int IntKind.i64 cl) ∧
      true = true) ∧
      (SV.own (22 : Nat) (0 : Nat) = SV.own (22 : Nat) (0 : Nat) ∧
      true = true) ∧
      (SV.val (Value.int IntKind.i64 n_11) =
      SV.val (Value.int IntKind.i64 x.e) ∧
      true = true) ∧
      (SV.val (Value.slice a_3 n c) =
      SV.val (Value.slice x.ax x.lx.length x.cx) ∧
      true = true) ∧
      True) ∧
      (some
      { ty := (32 : TypeId), cs := [Value.int IntKind.i64 a.mr.cl, Value.int IntKind.i64 a.mr.sq, Value.bool a.mr.op, Value.int IntKind.i64 a.mr.an_er, Value.int IntKind.i64 a.mr.an_va, Value.int IntKind.i64 a.mr.an_le, Value.int IntKind.i64 a.mr.an_mo] : Bx } =
      some
      { ty := (32 : TypeId), cs := [Value.int IntKind.i64 x.mr.cl, Value.int IntKind.i64 x.mr.sq, Value.bool x.mr.op, Value.int IntKind.i64 x.mr.an_er, Value.int IntKind.i64 x.mr.an_va, Value.int IntKind.i64 x.mr.an_le, Value.int IntKind.i64 x.mr.an_mo] : Bx } ∧
      true = true) ∧
      True) ∧
      [ws.length - a.i] = [ws.length - x.i]))))
      (∃ (S' : Nat → Prop),
      (∀ (b : Nat), S' b → a.m.uf b ∧ (N ≤ b ∨ False)) ∧
      ∀ (n : Nat),
      a.m.sz ≤ n →
      SpecW Try.prog (18 : Nat)
      [Value.slice a.a a.l.length a.c, Value.int IntKind.i64 cl, Value.int IntKind.i64 n_6]
      { π := a.m.π, sz := n, uf := a.m.uf : M } S' fun (v : Value) (m' : M) =>
      ∃ (a_3 : Option Addr),
      ∃ (n : Nat),
      ∃ (c : Nat),
      ∃ (b : Bool),
      ∃ (n_11 : Int),
      v = Value.tuple #[Value.slice a_3 n c, Value.bool b, Value.int IntKind.i64 n_11] ∧
      ifB (decide (n_6 ≥ (1 : Int)))
      (ifB (decide (n_6 ≤ (4611686018427387904 : Int)))
      (ifB (!b == decide (n_6 > a.mr.sq)) (Done (Value.bool false = Value.bool true))
      (ifB (decide (n_6 ≤ (4611686018427387904 : Int)))
      (ifB (!(n_11 == (0 : Int)) == decide (n_6 ≥ a.mr.sq))
      (Done (Value.bool false = Value.bool true))
      (ifB b
      (∃ (x : WkX),
      (WkJ aw ws cl x ∧
      m' = x.m ∧
      ((SV.val (Value.int IntKind.i64 (↑a.i : Int)) =
      SV.val (Value.int IntKind.i64 (↑x.i : Int)) ∧
      true = true) ∧
      (SV.val (Value.slice aw ws.length cw) =
      SV.val (Value.slice aw ws.length cw) ∧
      true = true) ∧
      (SV.val (Value.slice a.a a.l.length a.c) =
      SV.val (Value.slice x.a x.l.length x.c) ∧
      true = true) ∧
      (SV.val (Value.int IntKind.i64 cl) =
      SV.val (Value.int IntKind.i64 cl) ∧
      true = true) ∧
      (SV.own (22 : Nat) (0 : Nat) =
      SV.own (22 : Nat) (0 : Nat) ∧
      true = true) ∧
      (SV.val (Value.int IntKind.i64 n_11) =
      SV.val (Value.int IntKind.i64 x.e) ∧
      true = true) ∧
      (SV.val (Value.slice a_3 n c) =
      SV.val (Value.slice x.ax x.lx.length x.cx) ∧
      true = true) ∧
      True) ∧
      (some
      { ty := (32 : TypeId), cs := [Value.int IntKind.i64 cl, Value.int IntKind.i64 n_6, Value.bool true, Value.int IntKind.i64 (0 : Int), Value.int IntKind.i64 (0 : Int), Value.int IntKind.i64 (0 : Int), Value.int IntKind.i64 (0 : Int)] : Bx } =
      some
      { ty := (32 : TypeId), cs := [Value.int IntKind.i64 x.mr.cl, Value.int IntKind.i64 x.mr.sq, Value.bool x.mr.op, Value.int IntKind.i64 x.mr.an_er, Value.int IntKind.i64 x.mr.an_va, Value.int IntKind.i64 x.mr.an_le, Value.int IntKind.i64 x.mr.an_mo] : Bx } ∧
      true = true) ∧
      True) ∧
      [ws.length - a.i] = [ws.length - x.i])
      (∃ (x : WkX),
      (WkJ aw ws cl x ∧
      m' = x.m ∧
      ((SV.val (Value.int IntKind.i64 (↑a.i : Int)) =
      SV.val (Value.int IntKind.i64 (↑x.i : Int)) ∧
      true = true) ∧
      (SV.val (Value.slice aw ws.length cw) =
      SV.val (Value.slice aw ws.length cw) ∧
      true = true) ∧
      (SV.val (Value.slice a.a a.l.length a.c) =
      SV.val (Value.slice x.a x.l.length x.c) ∧
      true = true) ∧
      (SV.val (Value.int IntKind.i64 cl) =
      SV.val (Value.int IntKind.i64 cl) ∧
      true = true) ∧
      (SV.own (22 : Nat) (0 : Nat) =
      SV.own (22 : Nat) (0 : Nat) ∧
      true = true) ∧
      (SV.val (Value.int IntKind.i64 n_11) =
      SV.val (Value.int IntKind.i64 x.e) ∧
      true = true) ∧
      (SV.val (Value.slice a_3 n c) =
      SV.val (Value.slice x.ax x.lx.length x.cx) ∧
      true = true) ∧
      True) ∧
      (some
      { ty := (32 : TypeId), cs := [Value.int IntKind.i64 a.mr.cl, Value.int IntKind.i64 a.mr.sq, Value.bool a.mr.op, Value.int IntKind.i64 a.mr.an_er, Value.int IntKind.i64 a.mr.an_va, Value.int IntKind.i64 a.mr.an_le, Value.int IntKind.i64 a.mr.an_mo] : Bx } =
      some
      { ty := (32 : TypeId), cs := [Value.int IntKind.i64 x.mr.cl, Value.int IntKind.i64 x.mr.sq, Value.bool x.mr.op, Value.int IntKind.i64 x.mr.an_er, Value.int IntKind.i64 x.mr.an_va, Value.int IntKind.i64 x.mr.an_le, Value.int IntKind.i64 x.mr.an_mo] : Bx } ∧
      true = true) ∧
      True) ∧
      [ws.length - a.i] = [ws.length - x.i])))
      (ifB (!(n_11 == (0 : Int)) == false)
      (Done (Value.bool false = Value.bool true))
      (ifB b
      (∃ (x : WkX),
      (WkJ aw ws cl x ∧
      m' = x.m ∧
      ((SV.val (Value.int IntKind.i64 (↑a.i : Int)) =
      SV.val (Value.int IntKind.i64 (↑x.i : Int)) ∧
      true = true) ∧
      (SV.val (Value.slice aw ws.length cw) =
      SV.val (Value.slice aw ws.length cw) ∧
      true = true) ∧
      (SV.val (Value.slice a.a a.l.length a.c) =
      SV.val (Value.slice x.a x.l.length x.c) ∧
      true = true) ∧
      (SV.val (Value.int IntKind.i64 cl) =
      SV.val (Value.int IntKind.i64 cl) ∧
      true = true) ∧
      (SV.own (22 : Nat) (0 : Nat) =
      SV.own (22 : Nat) (0 : Nat) ∧
      true = true) ∧
      (SV.val (Value.int IntKind.i64 n_11) =
      SV.val (Value.int IntKind.i64 x.e) ∧
      true = true) ∧
      (SV.val (Value.slice a_3 n c) =
      SV.val (Value.slice x.ax x.lx.length x.cx) ∧
      true = true) ∧
      True) ∧
      (some
      { ty := (32 : TypeId), cs := [Value.int IntKind.i64 cl, Value.int IntKind.i64 n_6, Value.bool true, Value.int IntKind.i64 (0 : Int), Value.int IntKind.i64 (0 : Int), Value.int IntKind.i64 (0 : Int), Value.int IntKind.i64 (0 : Int)] : Bx } =
      some
      { ty := (32 : TypeId), cs := [Value.int IntKind.i64 x.mr.cl, Value.int IntKind.i64 x.mr.sq, Value.bool x.mr.op, Value.int IntKind.i64 x.mr.an_er, Value.int IntKind.i64 x.mr.an_va, Value.int IntKind.i64 x.mr.an_le, Value.int IntKind.i64 x.mr.an_mo] : Bx } ∧
      true = true) ∧
      True) ∧
      [ws.length - a.i] = [ws.length - x.i])
      (∃ (x : WkX),
      (WkJ aw ws cl x ∧
      m' = x.m ∧
      ((SV.val (Value.int IntKind.i64 (↑a.i : Int)) =
      SV.val (Value.int IntKind.i64 (↑x.i : Int)) ∧
      true = true) ∧
      (SV.val (Value.slice aw ws.length cw) =
      SV.val (Value.slice aw ws.length cw) ∧
      true = true) ∧
      (SV.val (Value.slice a.a a.l.length a.c) =
      SV.val (Value.slice x.a x.l.length x.c) ∧
      true = true) ∧
      (SV.val (Value.int IntKind.i64 cl) =
      SV.val (Value.int IntKind.i64 cl) ∧
      true = true) ∧
      (SV.own (22 : Nat) (0 : Nat) =
      SV.own (22 : Nat) (0 : Nat) ∧
      true = true) ∧
      (SV.val (Value.int IntKind.i64 n_11) =
      SV.val (Value.int IntKind.i64 x.e) ∧
      true = true) ∧
      (SV.val (Value.slice a_3 n c) =
      SV.val (Value.slice x.ax x.lx.length x.cx) ∧
      true = true) ∧
      True) ∧
      (some
      { ty := (32 : TypeId), cs := [Value.int IntKind.i64 a.mr.cl, Value.int IntKind.i64 a.mr.sq, Value.bool a.mr.op, Value.int IntKind.i64 a.mr.an_er, Value.int IntKind.i64 a.mr.an_va, Value.int IntKind.i64 a.mr.an_le, Value.int IntKind.i64 a.mr.an_mo] : Bx } =
      some
      { ty := (32 : TypeId), cs := [Value.int IntKind.i64 x.mr.cl, Value.int IntKind.i64 x.mr.sq, Value.bool x.mr.op, Value.int IntKind.i64 x.mr.an_er, Value.int IntKind.i64 x.mr.an_va, Value.int IntKind.i64 x.mr.an_le, Value.int IntKind.i64 x.mr.an_mo] : Bx } ∧
      true = true) ∧
      True) ∧
      [ws.length - a.i] = [ws.length - x.i])))))
      (ifB (!b == false) (Done (Value.bool false = Value.bool true))
      (ifB (decide (n_6 ≤ (4611686018427387904 : Int)))
      (ifB (!(n_11 == (0 : Int)) == decide (n_6 ≥ a.mr.sq))
      (Done (Value.bool false = Value.bool true))
      (ifB b
      (∃ (x : WkX),
      (WkJ aw ws cl x ∧
      m' = x.m ∧
      ((SV.val (Value.int IntKind.i64 (↑a.i : Int)) =
      SV.val (Value.int IntKind.i64 (↑x.i : Int)) ∧
      true = true) ∧
      (SV.val (Value.slice aw ws.length cw) =
      SV.val (Value.slice aw ws.length cw) ∧
      true = true) ∧
      (SV.val (Value.slice a.a a.l.length a.c) =
      SV.val (Value.slice x.a x.l.length x.c) ∧
      true = true) ∧
      (SV.val (Value.int IntKind.i64 cl) =
      SV.val (Value.int IntKind.i64 cl) ∧
      true = true) ∧
      (SV.own (22 : Nat) (0 : Nat) =
      SV.own (22 : Nat) (0 : Nat) ∧
      true = true) ∧
      (SV.val (Value.int IntKind.i64 n_11) =
      SV.val (Value.int IntKind.i64 x.e) ∧
      true = true) ∧
      (SV.val (Value.slice a_3 n c) =
      SV.val (Value.slice x.ax x.lx.length x.cx) ∧
      true = true) ∧
      True) ∧
      (some
      { ty := (32 : TypeId), cs := [Value.int IntKind.i64 cl, Value.int IntKind.i64 n_6, Value.bool true, Value.int IntKind.i64 (0 : Int), Value.int IntKind.i64 (0 : Int), Value.int IntKind.i64 (0 : Int), Value.int IntKind.i64 (0 : Int)] : Bx } =
      some
      { ty := (32 : TypeId), cs := [Value.int IntKind.i64 x.mr.cl, Value.int IntKind.i64 x.mr.sq, Value.bool x.mr.op, Value.int IntKind.i64 x.mr.an_er, Value.int IntKind.i64 x.mr.an_va, Value.int IntKind.i64 x.mr.an_le, Value.int IntKind.i64 x.mr.an_mo] : Bx } ∧
      true = true) ∧
      True) ∧
      [ws.length - a.i] = [ws.length - x.i])
      (∃ (x : WkX),
      (WkJ aw ws cl x ∧
      m' = x.m ∧
      ((SV.val (Value.int IntKind.i64 (↑a.i : Int)) =
      SV.val (Value.int IntKind.i64 (↑x.i : Int)) ∧
      true = true) ∧
      (SV.val (Value.slice aw ws.length cw) =
      SV.val (Value.slice aw ws.length cw) ∧
      true = true) ∧
      (SV.val (Value.slice a.a a.l.length a.c) =
      SV.val (Value.slice x.a x.l.length x.c) ∧
      true = true) ∧
      (SV.val (Value.int IntKind.i64 cl) =
      SV.val (Value.int IntKind.i64 cl) ∧
      true = true) ∧
      (SV.own (22 : Nat) (0 : Nat) =
      SV.own (22 : Nat) (0 : Nat) ∧
      true = true) ∧
      (SV.val (Value.int IntKind.i64 n_11) =
      SV.val (Value.int IntKind.i64 x.e) ∧
      true = true) ∧
      (SV.val (Value.slice a_3 n c) =
      SV.val (Value.slice x.ax x.lx.length x.cx) ∧
      true = true) ∧
      True) ∧
      (some
      { ty := (32 : TypeId), cs := [Value.int IntKind.i64 a.mr.cl, Value.int IntKind.i64 a.mr.sq, Value.bool a.mr.op, Value.int IntKind.i64 a.mr.an_er, Value.int IntKind.i64 a.mr.an_va, Value.int IntKind.i64 a.mr.an_le, Value.int IntKind.i64 a.mr.an_mo] : Bx } =
      some
      { ty := (32 : TypeId), cs := [Value.int IntKind.i64 x.mr.cl, Value.int IntKind.i64 x.mr.sq, Value.bool x.mr.op, Value.int IntKind.i64 x.mr.an_er, Value.int IntKind.i64 x.mr.an_va, Value.int IntKind.i64 x.mr.an_le, Value.int IntKind.i64 x.mr.an_mo] : Bx } ∧
      true = true) ∧
      True) ∧
      [ws.length - a.i] = [ws.length - x.i])))
      (ifB (!(n_11 == (0 : Int)) == false)
      (Done (Value.bool false = Value.bool true))
      (ifB b
      (∃ (x : WkX),
      (WkJ aw ws cl x ∧
      m' = x.m ∧
      ((SV.val (Value.int IntKind.i64 (↑a.i : Int)) =
      SV.val (Value.int IntKind.i64 (↑x.i : Int)) ∧
      true = true) ∧
      (SV.val (Value.slice aw ws.length cw) =
      SV.val (Value.slice aw ws.length cw) ∧
      true = true) ∧
      (SV.val (Value.slice a.a a.l.length a.c) =
      SV.val (Value.slice x.a x.l.length x.c) ∧
      true = true) ∧
      (SV.val (Value.int IntKind.i64 cl) =
      SV.val (Value.int IntKind.i64 cl) ∧
      true = true) ∧
      (SV.own (22 : Nat) (0 : Nat) =
      SV.own (22 : Nat) (0 : Nat) ∧
      true = true) ∧
      (SV.val (Value.int IntKind.i64 n_11) =
      SV.val (Value.int IntKind.i64 x.e) ∧
      true = true) ∧
      (SV.val (Value.slice a_3 n c) =
      SV.val (Value.slice x.ax x.lx.length x.cx) ∧
      true = true) ∧
      True) ∧
      (some
      { ty := (32 : TypeId), cs := [Value.int IntKind.i64 cl, Value.int IntKind.i64 n_6, Value.bool true, Value.int IntKind.i64 (0 : Int), Value.int IntKind.i64 (0 : Int), Value.int IntKind.i64 (0 : Int), Value.int IntKind.i64 (0 : Int)] : Bx } =
      some
      { ty := (32 : TypeId), cs := [Value.int IntKind.i64 x.mr.cl, Value.int IntKind.i64 x.mr.sq, Value.bool x.mr.op, Value.int IntKind.i64 x.mr.an_er, Value.int IntKind.i64 x.mr.an_va, Value.int IntKind.i64 x.mr.an_le, Value.int IntKind.i64 x.mr.an_mo] : Bx } ∧
      true = true) ∧
      True) ∧
      [ws.length - a.i] = [ws.length - x.i])
      (∃ (x : WkX),
      (WkJ aw ws cl x ∧
      m' = x.m ∧
      ((SV.val (Value.int IntKind.i64 (↑a.i : Int)) =
      SV.val (Value.int IntKind.i64 (↑x.i : Int)) ∧
      true = true) ∧
      (SV.val (Value.slice aw ws.length cw) =
      SV.val (Value.slice aw ws.length cw) ∧
      true = true) ∧
      (SV.val (Value.slice a.a a.l.length a.c) =
      SV.val (Value.slice x.a x.l.length x.c) ∧
      true = true) ∧
      (SV.val (Value.int IntKind.i64 cl) =
      SV.val (Value.int IntKind.i64 cl) ∧
      true = true) ∧
      (SV.own (22 : Nat) (0 : Nat) =
      SV.own (22 : Nat) (0 : Nat) ∧
      true = true) ∧
      (SV.val (Value.int IntKind.i64 n_11) =
      SV.val (Value.int IntKind.i64 x.e) ∧
      true = true) ∧
      (SV.val (Value.slice a_3 n c) =
      SV.val (Value.slice x.ax x.lx.length x.cx) ∧
      true = true) ∧
      True) ∧
      (some
      { ty := (32 : TypeId), cs := [Value.int IntKind.i64 a.mr.cl, Value.int IntKind.i64 a.mr.sq, Value.bool a.mr.op, Value.int IntKind.i64 a.mr.an_er, Value.int IntKind.i64 a.mr.an_va, Value.int IntKind.i64 a.mr.an_le, Value.int IntKind.i64 a.mr.an_mo] : Bx } =
      some
      { ty := (32 : TypeId), cs := [Value.int IntKind.i64 x.mr.cl, Value.int IntKind.i64 x.mr.sq, Value.bool x.mr.op, Value.int IntKind.i64 x.mr.an_er, Value.int IntKind.i64 x.mr.an_va, Value.int IntKind.i64 x.mr.an_le, Value.int IntKind.i64 x.mr.an_mo] : Bx } ∧
      true = true) ∧
      True) ∧
      [ws.length - a.i] = [ws.length - x.i]))))))
      (ifB (!b == false) (Done (Value.bool false = Value.bool true))
      (ifB (!(n_11 == (0 : Int)) == false) (Done (Value.bool false = Value.bool true))
      (ifB b
      (∃ (x : WkX),
      (WkJ aw ws cl x ∧
      m' = x.m ∧
      ((SV.val (Value.int IntKind.i64 (↑a.i : Int)) =
      SV.val (Value.int IntKind.i64 (↑x.i : Int)) ∧
      true = true) ∧
      (SV.val (Value.slice aw ws.length cw) =
      SV.val (Value.slice aw ws.length cw) ∧
      true = true) ∧
      (SV.val (Value.slice a.a a.l.length a.c) =
      SV.val (Value.slice x.a x.l.length x.c) ∧
      true = true) ∧
      (SV.val (Value.int IntKind.i64 cl) =
      SV.val (Value.int IntKind.i64 cl) ∧
      true = true) ∧
      (SV.own (22 : Nat) (0 : Nat) = SV.own (22 : Nat) (0 : Nat) ∧
      true = true) ∧
      (SV.val (Value.int IntKind.i64 n_11) =
      SV.val (Value.int IntKind.i64 x.e) ∧
      true = true) ∧
      (SV.val (Value.slice a_3 n c) =
      SV.val (Value.slice x.ax x.lx.length x.cx) ∧
      true = true) ∧
      True) ∧
      (some
      { ty := (32 : TypeId), cs := [Value.int IntKind.i64 cl, Value.int IntKind.i64 n_6, Value.bool true, Value.int IntKind.i64 (0 : Int), Value.int IntKind.i64 (0 : Int), Value.int IntKind.i64 (0 : Int), Value.int IntKind.i64 (0 : Int)] : Bx } =
      some
      { ty := (32 : TypeId), cs := [Value.int IntKind.i64 x.mr.cl, Value.int IntKind.i64 x.mr.sq, Value.bool x.mr.op, Value.int IntKind.i64 x.mr.an_er, Value.int IntKind.i64 x.mr.an_va, Value.int IntKind.i64 x.mr.an_le, Value.int IntKind.i64 x.mr.an_mo] : Bx } ∧
      true = true) ∧
      True) ∧
      [ws.length - a.i] = [ws.length - x.i])
      (∃ (x : WkX),
      (WkJ aw ws cl x ∧
      m' = x.m ∧
      ((SV.val (Value.int IntKind.i64 (↑a.i : Int)) =
      SV.val (Value.int IntKind.i64 (↑x.i : Int)) ∧
      true = true) ∧
      (SV.val (Value.slice aw ws.length cw) =
      SV.val (Value.slice aw ws.length cw) ∧
      true = true) ∧
      (SV.val (Value.slice a.a a.l.length a.c) =
      SV.val (Value.slice x.a x.l.length x.c) ∧
      true = true) ∧
      (SV.val (Value.int IntKind.i64 cl) =
      SV.val (Value.int IntKind.i64 cl) ∧
      true = true) ∧
      (SV.own (22 : Nat) (0 : Nat) = SV.own (22 : Nat) (0 : Nat) ∧
      true = true) ∧
      (SV.val (Value.int IntKind.i64 n_11) =
      SV.val (Value.int IntKind.i64 x.e) ∧
      true = true) ∧
      (SV.val (Value.slice a_3 n c) =
      SV.val (Value.slice x.ax x.lx.length x.cx) ∧
      true = true) ∧
      True) ∧
      (some
      { ty := (32 : TypeId), cs := [Value.int IntKind.i64 a.mr.cl, Value.int IntKind.i64 a.mr.sq, Value.bool a.mr.op, Value.int IntKind.i64 a.mr.an_er, Value.int IntKind.i64 a.mr.an_va, Value.int IntKind.i64 a.mr.an_le, Value.int IntKind.i64 a.mr.an_mo] : Bx } =
      some
      { ty := (32 : TypeId), cs := [Value.int IntKind.i64 x.mr.cl, Value.int IntKind.i64 x.mr.sq, Value.bool x.mr.op, Value.int IntKind.i64 x.mr.an_er, Value.int IntKind.i64 x.mr.an_va, Value.int IntKind.i64 x.mr.an_le, Value.int IntKind.i64 x.mr.an_mo] : Bx } ∧
      true = true) ∧
      True) ∧
      [ws.length - a.i] = [ws.length - x.i])))))) ∧
      ∀ (x : WkX),
      WkJ aw ws cl x ∧ [ws.length - a.i] = [ws.length - x.i] →
      ifB (x.e != (0 : Int))
      (ifB (decide ((↑x.lx.length : Int) > (0 : Int))) (Done (Value.bool false = Value.bool true))
      (∃ (a' : WkX),
      (WkI aw ws cl a' ∧
      x.m = a'.m ∧
      ((SV.val (Value.int IntKind.i64 (IntKind.i64.wrap ((↑x.i : Int) + (1 : Int)))) =
      SV.val (Value.int IntKind.i64 (↑a'.i : Int)) ∧
      true = true) ∧
      (SV.val (Value.slice aw ws.length cw) = SV.val (Value.slice aw ws.length cw) ∧
      true = true) ∧
      (SV.val (Value.slice x.a x.l.length x.c) = SV.val (Value.slice a'.a a'.l.length a'.c) ∧
      true = true) ∧
      (SV.val (Value.int IntKind.i64 cl) = SV.val (Value.int IntKind.i64 cl) ∧ true = true) ∧
      (SV.own (22 : Nat) (0 : Nat) = SV.own (22 : Nat) (0 : Nat) ∧ true = true) ∧ True) ∧
      (some
      { ty := (32 : TypeId), cs := [Value.int IntKind.i64 x.mr.cl, Value.int IntKind.i64 x.mr.sq, Value.bool x.mr.op, Value.int IntKind.i64 x.mr.an_er, Value.int IntKind.i64 x.mr.an_va, Value.int IntKind.i64 x.mr.an_le, Value.int IntKind.i64 x.mr.an_mo] : Bx } =
      some
      { ty := (32 : TypeId), cs := [Value.int IntKind.i64 a'.mr.cl, Value.int IntKind.i64 a'.mr.sq, Value.bool a'.mr.op, Value.int IntKind.i64 a'.mr.an_er, Value.int IntKind.i64 a'.mr.an_va, Value.int IntKind.i64 a'.mr.an_le, Value.int IntKind.i64 a'.mr.an_mo] : Bx } ∧
      true = true) ∧
      True) ∧
      ws.length - a'.i < ws.length - a.i))
      (∃ (n : Int),
      ∃ (n_11 : Int),
      ∃ (b : Bool),
      ∃ (n_12 : Int),
      ∃ (n_13 : Int),
      ∃ (n_14 : Int),
      ∃ (n_15 : Int),
      ∃ (b_2 : Bool),
      QSpec Try.prog (17 : Nat) [Value.slice x.ax x.lx.length x.cx, Value.int IntKind.i64 cl]
      x.m
      (Value.tuple
      #[Value.agg
      #[Value.int IntKind.i64 n, Value.int IntKind.i64 n_11, Value.bool b,
      Value.int IntKind.i64 n_12, Value.int IntKind.i64 n_13,
      Value.int IntKind.i64 n_14, Value.int IntKind.i64 n_15],
      Value.bool b_2]) ∧
      ∃ (n_16 : Int),
      QSpec Try.prog (25 : Nat) [Value.slice x.ax x.lx.length x.cx] x.m
      (Value.int IntKind.i64 n_16) ∧
      ifB (n_16 != (0 : Int)) (Done (Value.bool false = Value.bool true))
      (ifB (!b_2) (Done (Value.bool false = Value.bool true))
      (ifB
      (!(n == x.mr.cl &&
      (n_11 == x.mr.sq &&
      (b == x.mr.op &&
      (n_12 == x.mr.an_er &&
      (n_13 == x.mr.an_va &&
      (n_14 == x.mr.an_le && (n_15 == x.mr.an_mo && true))) &&
      true)))))
      (Done (Value.bool false = Value.bool true))
      (∃ (a' : WkX),
      (WkI aw ws cl a' ∧
      x.m = a'.m ∧
      ((SV.val
      (Value.int IntKind.i64
      (IntKind.i64.wrap ((↑x.i : Int) + (1 : Int)))) =
      SV.val (Value.int IntKind.i64 (↑a'.i : Int)) ∧
      true = true) ∧
      (SV.val (Value.slice aw ws.length cw) =
      SV.val (Value.slice aw ws.length cw) ∧
      true = true) ∧
      (SV.val (Value.slice x.ax x.lx.length x.cx) =
      SV.val (Value.slice a'.a a'.l.length a'.c) ∧
      true = true) ∧
      (SV.val (Value.int IntKind.i64 cl) =
      SV.val (Value.int IntKind.i64 cl) ∧
      true = true) ∧
      (SV.own (22 : Nat) (0 : Nat) = SV.own (22 : Nat) (0 : Nat) ∧
      true = true) ∧
      True) ∧
      (some
      { ty := (32 : TypeId), cs := [Value.int IntKind.i64 x.mr.cl, Value.int IntKind.i64 x.mr.sq, Value.bool x.mr.op, Value.int IntKind.i64 x.mr.an_er, Value.int IntKind.i64 x.mr.an_va, Value.int IntKind.i64 x.mr.an_le, Value.int IntKind.i64 x.mr.an_mo] : Bx } =
      some
      { ty := (32 : TypeId), cs := [Value.int IntKind.i64 a'.mr.cl, Value.int IntKind.i64 a'.mr.sq, Value.bool a'.mr.op, Value.int IntKind.i64 a'.mr.an_er, Value.int IntKind.i64 a'.mr.an_va, Value.int IntKind.i64 a'.mr.an_le, Value.int IntKind.i64 a'.mr.an_mo] : Bx } ∧
      true = true) ∧
      True) ∧
      ws.length - a'.i < ws.length - a.i)))))
      (Done (Value.bool true = Value.bool true))))))) (by kernel_rfl) ?_
  have R : Rs { m with sz := N } [(a, mks l), (aw, gws ws)] := ⟨h.sz hN, h2.sz hN, trivial⟩
  refine ⟨rfl, _, awake_q _, ifB_false ⟨_, scheck_q a cp l hn _ R.1, ?_⟩⟩
  cases ht : tabB 0 l
  · exact ifB_true ⟨_, awake_q _, ⟨rfl⟩⟩
  have hf : findO l cl = ofM l cl := by simp [findO, ht]
  refine ifB_false (ifB_intro (fun _ => ⟨_, awake_q _, ⟨rfl⟩⟩) (fun c1 => ifB_intro (fun _ => ⟨_, awake_q _, ⟨rfl⟩⟩) (fun c2 => ⟨_, _, _, _, _, _, _, _, find_q a cp l cl hn _ R.1, ⟨⟨0, l, a, cp, (ofM l cl).getD m0, [], none, 0, 0, { m with sz := N }⟩, ⟨Nat.zero_le _, ht, R, rfl⟩, rfl, by simp [hf]⟩, fun y Y => ifB_intro (fun h1 => ?_) (fun h1 => ⟨rfl⟩)⟩)))
  have c1 : 1 ≤ cl := by simp at c1; omega
  have c2 : cl ≤ 8 := by simp at c2; omega
  have hk2 : y.i < ws.length := by simpa using h1
  have w1 : IntKind.i64.wrap ((y.i : Int) + 1) = ((y.i + 1 : Nat) : Int) := by simp [IntKind.wrap_i64]; omega
  obtain ⟨b1, o, rfl, hcc⟩ := Y.row.2.1.cells (by rw [gw_len]; omega)
  have h8 := tab8 Y.tab
  have hmr : y.mr.op = true → y.mr.cl = cl := fun h => by
    rw [← Y.mr] at h ⊢
    cases ho : ofM y.l cl with
    | none => rw [ho] at h; simp [m0] at h
    | some x => exact (ofM_some ho).2
  refine ⟨b1, o, rfl, by omega, _, _, _, _, _, _, by simpa using gw_at hcc hk2, ?_⟩
  have hcont : ∀ z : WkX, WkJ (some ⟨b1, o, none⟩) ws cl z → True := fun _ _ => trivial
  have hio := openE_iff (c := cl) (s := ws[y.i].sq) Y.tab
  rw [Y.mr] at hio
  have F0 := begin_walk (c := cl) (s := ws[y.i].sq) ⟨c1, c2⟩ Y.tab
  rw [Y.mr] at F0
  refine ⟨ifB_intro (fun k1 => ?_) (fun k1 => ifB_intro (fun k2 => ?_) (fun k2 => ?_)), fun z ⟨Z, Zl⟩ => ?_⟩
  · refine ⟨_, noS, fun N2 hN2 => (send_s y.a y.c y.l cl ws[y.i].sq ⟨ws[y.i].an_er, ws[y.i].an_va, ws[y.i].an_le, ws[y.i].an_mo⟩ (by omega) _ (Y.row.sz hN2).1).monoW fun v2 m2 ag2 q2 => ?_⟩
    obtain ⟨a2, c2, e2, r2⟩ := q2
    refine ⟨_, _, _, _, e2, ?_⟩
    by_cases e0 : openE y.l cl ws[y.i].sq = 0
    · obtain ⟨hop, hsq⟩ := hio.1 e0
      have hcl := hmr hop
      have hE : endM y.l cl ws[y.i].sq ⟨ws[y.i].an_er, ws[y.i].an_va, ws[y.i].an_le, ws[y.i].an_mo⟩ = (insM y.l (edM cl ws[y.i].sq ⟨ws[y.i].an_er, ws[y.i].an_va, ws[y.i].an_le, ws[y.i].an_mo⟩), 0) := by simp [endM, e0]
      obtain ⟨o1, o2⟩ := edM_ok (an := ⟨ws[y.i].an_er, ws[y.i].an_va, ws[y.i].an_le, ws[y.i].an_mo⟩) e0
      rw [hE] at r2 ⊢
      have hb : (!((0 : Int) == 0) == (y.mr.sq == ws[y.i].sq)) = false := by simp [hsq]
      rw [hop]
      refine ifB_true ?_
      rw [hb, hsq, hcl]
      exact ifB_false (ifB_true ⟨rfl, ⟨⟨y.i, y.l, y.a, y.c, edM cl ws[y.i].sq ⟨ws[y.i].an_er, ws[y.i].an_va, ws[y.i].an_le, ws[y.i].an_mo⟩, insM y.l (edM cl ws[y.i].sq ⟨ws[y.i].an_er, ws[y.i].an_va, ws[y.i].an_le, ws[y.i].an_mo⟩), a2, c2, 0, m2⟩, ⟨⟨hk2, Y.tab, Rs.cons r2 (Y.row.step hN2 ag2), fun h => absurd rfl h, fun _ => ⟨ins_tab o1 o2 Y.tab, by rw [ins_of cl Y.tab]; exact if_pos rfl⟩⟩, rfl, by simp [edM]⟩, rfl⟩⟩)
    · have hE : endM y.l cl ws[y.i].sq ⟨ws[y.i].an_er, ws[y.i].an_va, ws[y.i].an_le, ws[y.i].an_mo⟩ = ([], openE y.l cl ws[y.i].sq) := by simp [endM, e0]
      rw [hE] at r2 ⊢
      have h0 : (openE y.l cl ws[y.i].sq == 0) = false := by simpa using e0
      have hn : ¬ (y.mr.op = true ∧ y.mr.sq = ws[y.i].sq) := fun h => e0 (hio.2 h)
      cases hop : y.mr.op
      · refine ifB_false ?_
        rw [h0]
        exact ifB_false (ifB_false ⟨⟨y.i, y.l, y.a, y.c, y.mr, [], a2, c2, openE y.l cl ws[y.i].sq, m2⟩, ⟨⟨hk2, Y.tab, Rs.cons r2 (Y.row.step hN2 ag2), fun _ => ⟨rfl, Y.mr⟩, fun h => absurd h e0⟩, rfl, by simp [hop]⟩, rfl⟩)
      · refine ifB_true ?_
        have hsq : (y.mr.sq == ws[y.i].sq) = false := by simpa using fun h => hn ⟨hop, h⟩
        rw [h0, hsq]
        exact ifB_false (ifB_false ⟨⟨y.i, y.l, y.a, y.c, y.mr, [], a2, c2, openE y.l cl ws[y.i].sq, m2⟩, ⟨⟨hk2, Y.tab, Rs.cons r2 (Y.row.step hN2 ag2), fun _ => ⟨rfl, Y.mr⟩, fun h => absurd h e0⟩, rfl, by simp [hop]⟩, rfl⟩)
  · refine ⟨_, noS, fun N2 hN2 => (slose_s y.a y.c y.l cl ws[y.i].sq (by omega) _ (Y.row.sz hN2).1).monoW fun v2 m2 ag2 q2 => ?_⟩
    obtain ⟨a2, c2, e2, r2⟩ := q2
    refine ⟨_, _, _, _, e2, ?_⟩
    by_cases e0 : openE y.l cl ws[y.i].sq = 0
    · obtain ⟨hop, hsq⟩ := hio.1 e0
      have hcl := hmr hop
      have hE : loseM y.l cl ws[y.i].sq = (insM y.l (loM cl ws[y.i].sq), 0) := by simp [loseM, e0]
      obtain ⟨o1, o2⟩ := loM_ok e0
      obtain ⟨-, x0, -, -, -, -, -, s1, s2⟩ := openE_zero e0
      have w2 : IntKind.i64.wrap (ws[y.i].sq - 1) = ws[y.i].sq - 1 := by simp [IntKind.wrap_i64]; omega
      rw [hE] at r2 ⊢
      have hb : (!((0 : Int) == 0) == (y.mr.sq == ws[y.i].sq)) = false := by simp [hsq]
      rw [hop]
      refine ifB_true ?_
      rw [hb, w2]
      exact ifB_false (ifB_true ⟨⟨y.i, y.l, y.a, y.c, loM cl ws[y.i].sq, insM y.l (loM cl ws[y.i].sq), a2, c2, 0, m2⟩, ⟨⟨hk2, Y.tab, Rs.cons r2 (Y.row.step hN2 ag2), fun h => absurd rfl h, fun _ => ⟨ins_tab o1 o2 Y.tab, by rw [ins_of cl Y.tab]; exact if_pos rfl⟩⟩, rfl, by simp [loM]⟩, rfl⟩)
    · have hE : loseM y.l cl ws[y.i].sq = ([], openE y.l cl ws[y.i].sq) := by simp [loseM, e0]
      rw [hE] at r2 ⊢
      have h0 : (openE y.l cl ws[y.i].sq == 0) = false := by simpa using e0
      have hn : ¬ (y.mr.op = true ∧ y.mr.sq = ws[y.i].sq) := fun h => e0 (hio.2 h)
      cases hop : y.mr.op
      · refine ifB_false ?_
        rw [h0]
        exact ifB_false (ifB_false ⟨⟨y.i, y.l, y.a, y.c, y.mr, [], a2, c2, openE y.l cl ws[y.i].sq, m2⟩, ⟨⟨hk2, Y.tab, Rs.cons r2 (Y.row.step hN2 ag2), fun _ => ⟨rfl, Y.mr⟩, fun h => absurd h e0⟩, rfl, by simp [hop]⟩, rfl⟩)
      · refine ifB_true ?_
        have hsq : (y.mr.sq == ws[y.i].sq) = false := by simpa using fun h => hn ⟨hop, h⟩
        rw [h0, hsq]
        exact ifB_false (ifB_false ⟨⟨y.i, y.l, y.a, y.c, y.mr, [], a2, c2, openE y.l cl ws[y.i].sq, m2⟩, ⟨⟨hk2, Y.tab, Rs.cons r2 (Y.row.step hN2 ag2), fun _ => ⟨rfl, Y.mr⟩, fun h => absurd h e0⟩, rfl, by simp [hop]⟩, rfl⟩)
  · refine ⟨_, noS, fun N2 hN2 => (sbegin_s y.a y.c y.l cl ws[y.i].sq (by omega) _ (Y.row.sz hN2).1).monoW fun v2 m2 ag2 q2 => ?_⟩
    obtain ⟨a2, c2, e2, r2⟩ := q2
    refine ⟨_, _, _, _, _, e2, ?_⟩
    rcases F0 with ⟨fb, fm, fs⟩ | ⟨fb, fm⟩
    · rw [fb] at r2 ⊢
      obtain ⟨o1, o2⟩ := opM_ok fm
      have p1 : (decide (ws[y.i].sq ≥ 1)) = true := by simp [argB] at fm; simp; omega
      have p2 : (decide (ws[y.i].sq ≤ 4611686018427387904)) = true := by simp [argB] at fm; simp; omega
      have p3 : (decide (ws[y.i].sq > y.mr.sq)) = true := by simp; omega
      have p4 : (decide (ws[y.i].sq ≥ y.mr.sq)) = true := by simp; omega
      rw [p1, p2, p3, p4]
      exact ifB_true (ifB_true (ifB_false (ifB_true (ifB_false (ifB_true ⟨⟨y.i, y.l, y.a, y.c, opM cl ws[y.i].sq, insM y.l (opM cl ws[y.i].sq), a2, c2, 0, m2⟩, ⟨⟨hk2, Y.tab, Rs.cons r2 (Y.row.step hN2 ag2), fun h => absurd rfl h, fun _ => ⟨ins_tab o1 o2 Y.tab, by rw [ins_of cl Y.tab]; exact if_pos rfl⟩⟩, rfl, by simp [opM]⟩, rfl⟩)))))
    · have hb : (beginM y.l cl ws[y.i].sq).2.1 = false := fb
      by_cases e0 : (beginM y.l cl ws[y.i].sq).2.2 = 0
      · obtain ⟨g1, g2, g3, g4⟩ := fm.1 e0
        have p1 : (decide (ws[y.i].sq ≥ 1)) = true := by simp [argB] at g2; simp; omega
        have p2 : (decide (ws[y.i].sq ≤ 4611686018427387904)) = true := by simp [argB] at g2; simp; omega
        have p3 : (decide (ws[y.i].sq > y.mr.sq)) = false := by simp; omega
        have p4 : (decide (ws[y.i].sq ≥ y.mr.sq)) = true := by simp; omega
        rw [g1] at r2
        rw [hb, e0, g1, p1, p2, p3, p4]
        exact ifB_true (ifB_true (ifB_false (ifB_true (ifB_false (ifB_false ⟨⟨y.i, y.l, y.a, y.c, y.mr, y.l, a2, c2, 0, m2⟩, ⟨⟨hk2, Y.tab, Rs.cons r2 (Y.row.step hN2 ag2), fun h => absurd rfl h, fun _ => ⟨Y.tab, g4⟩⟩, rfl, by simp⟩, rfl⟩)))))
      · obtain ⟨g1, g2⟩ := fm.2 e0
        have h0 : ((beginM y.l cl ws[y.i].sq).2.2 == 0) = false := by simpa using e0
        rw [g1] at r2
        rw [hb, h0, g1]
        refine ifB_intro (fun p1 => ifB_intro (fun p2 => ?_) (fun p2 => ifB_false (ifB_intro (fun p3 => absurd (p3.symm.trans p2) (by decide)) (fun p3 => ifB_false (ifB_false ⟨⟨y.i, y.l, y.a, y.c, y.mr, [], a2, c2, (beginM y.l cl ws[y.i].sq).2.2, m2⟩, ⟨⟨hk2, Y.tab, Rs.cons r2 (Y.row.step hN2 ag2), fun _ => ⟨rfl, Y.mr⟩, fun h => absurd h e0⟩, rfl, by simp⟩, rfl⟩))))) (fun p1 => ifB_false (ifB_false (ifB_false ⟨⟨y.i, y.l, y.a, y.c, y.mr, [], a2, c2, (beginM y.l cl ws[y.i].sq).2.2, m2⟩, ⟨⟨hk2, Y.tab, Rs.cons r2 (Y.row.step hN2 ag2), fun _ => ⟨rfl, Y.mr⟩, fun h => absurd h e0⟩, rfl, by simp⟩, rfl⟩)))
        have p1 : 1 ≤ ws[y.i].sq := by simpa using p1
        have p2' : ws[y.i].sq ≤ 4611686018427387904 := by simpa using p2
        have g2 := g2 ⟨p1, p2'⟩
        have p3 : (decide (ws[y.i].sq > y.mr.sq)) = false := by simp; omega
        have p4 : (decide (ws[y.i].sq ≥ y.mr.sq)) = false := by simp; omega
        rw [p2, p3, p4]
        exact ifB_false (ifB_true (ifB_false (ifB_false ⟨⟨y.i, y.l, y.a, y.c, y.mr, [], a2, c2, (beginM y.l cl ws[y.i].sq).2.2, m2⟩, ⟨⟨hk2, Y.tab, Rs.cons r2 (Y.row.step hN2 ag2), fun _ => ⟨rfl, Y.mr⟩, fun h => absurd h e0⟩, rfl, by simp⟩, rfl⟩)))
  · have hzi : z.i = y.i := by have := Z.i; simp at Zl; omega
    have h1z : IntKind.i64.wrap ((z.i : Int) + 1) = ((z.i + 1 : Nat) : Int) := by rw [hzi]; exact w1
    refine ifB_intro (fun q1 => ?_) (fun q1 => ?_)
    · have q1 : z.e ≠ 0 := by simpa using q1
      obtain ⟨b1', b2'⟩ := Z.bad q1
      rw [b1']
      exact ifB_false ⟨⟨z.i + 1, z.l, z.a, z.c, z.mr, [], none, 0, 0, z.m⟩, ⟨⟨Z.i, Z.tab, Z.row.2, b2'⟩, rfl, by simp [h1z]⟩, by simp only; omega⟩
    · have q1 : z.e = 0 := by simpa using q1
      obtain ⟨b1', b2'⟩ := Z.good q1
      have h8z := tab8 b1'
      have hfz : findO z.lx cl = some z.mr := by simp [findO, b1', b2']
      refine ⟨_, _, _, _, _, _, _, _, find_q z.ax z.cx z.lx cl (by omega) _ Z.row.1, _, scheck_q z.ax z.cx z.lx (by omega) _ Z.row.1, ?_⟩
      rw [hfz, b1']
      simp only [if_true, Option.getD_some, Option.isSome_some, bne_self_eq_false, beq_self_eq_true, Bool.and_self, Bool.not_true, Bool.and_true]
      refine ifB_false (ifB_false (ifB_false ⟨⟨z.i + 1, z.lx, z.ax, z.cx, z.mr, [], none, 0, 0, z.m⟩, ⟨⟨Z.i, b1', ⟨Z.row.1, Z.row.2.2⟩, by rw [b2']; rfl⟩, rfl, by simp [h1z]⟩, by simp only; omega⟩))

end Go.Proofs.Ytpfiodchlbofmaa
