/-
  Contracts of functions of this seat: what each hands back, and what it leaves of memory (led9). Nothing here is trusted: Lean checks it.
-/
import Derived.Test.YtfkielfnceeedaaLed8
import Derived.Test.YtfkielfnceeedaaAcc22
set_option linter.unusedVariables false
set_option linter.unusedSimpArgs false
namespace Go.Proofs.Ytfkielfnceeedaa
open Go.Vc Go.RowKit
set_option maxRecDepth 100000

theorem held_find {l : List Rt} {g : Int} {x : Ac} {nd : Int} {z : Bool} (h : heldE l g x nd z = 0) : findB x nd = true := by
  unfold heldE at h
  cases hb : findB x nd with
  | true => rfl
  | false =>
    rw [hb] at h
    split at h
    · simp at h
    · split at h
      · simp at h
      · simp at h

structure OnX where
  i : Nat
  l : List Rt
  a : Option Addr
  c : Nat
  net : Int
  m : M

def oneR (x : Ac) (nd net : Int) : Rt := ⟨2, x.key, (findH x nd).le, net⟩

structure OnP (x : Ac) (nd : Int) (l : List Rt) (net : Int) : Prop where
  shape : (l = [] ∧ net = 0) ∨ (findB x nd = true ∧ l = [oneR x nd net] ∧ inB (findH x nd) net = true)

structure OnI (x : Ac) (a : Option Addr) (nd : Int) (sa : Option Addr) (ss : List Int) (y : OnX) : Prop where
  i : y.i ≤ ss.length
  p : OnP x nd y.l y.net
  rs : Rs y.m [(y.a, rts y.l), (sa, ints ss), (a, hds x.hs)]

theorem one_may {x : Ac} {nd : Int} (hx : x.wf) (hb : findB x nd = true) (net : Int) : rmayB (oneR x nd net) = true := by
  have F := find_fact hx hb
  have hk := ((right_iff x).1 F.right).key
  have := F.le
  simp [rmayB, oneR, hk, this]

theorem OnP.led {x : Ac} {nd : Int} {l : List Rt} {net : Int} (P : OnP x nd l net) (hx : x.wf) : ledB none l = true := by
  rcases P.shape with ⟨rfl, -⟩ | ⟨hb, rfl, -⟩
  · rfl
  · exact led_cons.2 ⟨fun q e => (by cases e), one_may hx hb net, rfl⟩

theorem OnP.net {x : Ac} {nd : Int} {l : List Rt} {net : Int} (P : OnP x nd l net) (hx : x.wf) : netR l 2 x.key (findH x nd).le = net := by
  rcases P.shape with ⟨rfl, rfl⟩ | ⟨hb, rfl, -⟩
  · simp [netR]
  · have h : ledB none [oneR x nd net] = true := led_cons.2 ⟨fun q e => (by cases e), one_may hx hb net, rfl⟩
    rw [netR, h, if_pos rfl]
    simp [isN, oneR]

theorem OnP.put {x : Ac} {nd : Int} {l : List Rt} {net : Int} (P : OnP x nd l net) (hx : x.wf) (hb : findB x nd = true) (n : Int) : putE l (oneR x nd n) = ([oneR x nd n], 0) := by
  have hm := one_may hx hb n
  have hl := P.led hx
  have e : putL l (oneR x nd n) = [oneR x nd n] := by
    rcases P.shape with ⟨rfl, rfl⟩ | ⟨-, rfl, -⟩
    · rfl
    · have hs : sameK (oneR x nd net) (oneR x nd n) = true := by simp [sameK, oneR]
      have := bel_same hs
      simp [putL, this.1, this.2]
  simp [putE, hl, hm, e]

theorem OnP.wf {x : Ac} {nd : Int} {l : List Rt} {net : Int} (P : OnP x nd l net) (hx : x.wf) : ∀ r ∈ l, r.wf := by
  rcases P.shape with ⟨rfl, -⟩ | ⟨hb, rfl, hi⟩
  · intro r hr; simp at hr
  · intro r hr
    have hr : r = oneR x nd net := by simpa using hr
    subst hr
    have F := find_fact hx hb
    have h1 := F.up
    have h2 := F.dn
    simp [inB] at hi
    exact ⟨by simp [oneR, In64], hx.key, F.wf.2.1, by show In64 net; unfold In64; omega⟩

/-- what a spending makes of it -/
theorem OnP.spend {x : Ac} {nd : Int} {l : List Rt} {net : Int} (P : OnP x nd l net) (hx : x.wf) (s : Int) (he : (spendE l 2 x nd s).2 = 0) :
    findB x nd = true ∧ inB (findH x nd) (net + s) = true ∧ spendE l 2 x nd s = (oneR x nd (net + s), 0) := by
  unfold spendE at he ⊢
  split at he
  · rename_i h; exact absurd he h
  · rename_i h
    have h : heldE l 2 x nd (decide (s = 0)) = 0 := Decidable.not_not.1 h
    have hb : findB x nd = true := held_find h
    rw [P.net hx] at he ⊢
    split at he
    · simp at he
    · rename_i h2
      rw [if_neg (by simpa using h), if_neg h2]
      exact ⟨hb, by simpa using h2, rfl⟩

theorem hd_none {B : List Hd} {a : Option Addr} {m : M} (h : Row m a (hds B)) (e : a = none) : B = [] := by
  cases B with
  | nil => rfl
  | cons x xs =>
    obtain ⟨b, o, e2, -⟩ := h.cells (by rw [hds_len]; simp)
    rw [e] at e2; simp at e2

set_option maxHeartbeats 2000000 in
theorem ledgeronce (x : Ac) (a : Option Addr) (c : Nat) (nd : Int) (sa : Option Addr) (cs : Nat) (ss : List Int) (ro : Int) (hx : x.wf) (hss : ∀ s ∈ ss, In64 s) (hsl : ss.length ≤ 9223372036854775807) (hro : In64 ro) (h0 : a = none → x.hs = []) (m : M) (h : Row m a (hds x.hs)) (h2 : Row m sa (ints ss)) :
    QSpec Try.prog 7 [acv x a c, I nd, .slice sa ss.length cs, I ro] m (.bool true) := by
  refine QSpec.of_vc Try.func7 (ann := fun n _ => { A := OnX, inv := OnI x a nd sa ss, st := fun y => [(13, .val (I y.i)), (2, .val (.slice sa ss.length cs)), (11, .val (.slice y.a y.l.length y.c)), (4, .own 0 0), (1, .val (I nd)), (10, .val (.bool (findB x nd))), (12, .val (I y.net)), (9, .own 20 0), (3, .val (I ro))], own := fun _ => [(0, ⟨46, [.string x.key, I x.lo, I x.hi, I x.base, I x.round, .slice a x.hs.length c, I x.lk.cl, I x.lk.sq, I x.lk.hm, I x.lk.n]⟩), (20, ⟨67, encH (findH x nd)⟩)], m := fun y => y.m, μ := fun y => ss.length - y.i }) fun N hN => ?_
  refine vc_by (X :=
      true = true ∧
      ∃ (b : Bool),
      QSpec Try.prog (13 : Nat) [] { π := m.π, sz := N, uf := m.uf : M } (Value.bool b) ∧
      ifB (!b) (∃ (b : Bool), QSpec Try.prog (13 : Nat) [] { π := m.π, sz := N, uf := m.uf : M } (Value.bool b) ∧ Done (Value.bool b = Value.bool true))
      (∃ (b : Bool),
      QSpec Try.prog (32 : Nat)
      [Value.agg
      #[Value.string x.key, Value.int IntKind.i64 x.lo, Value.int IntKind.i64 x.hi, Value.int IntKind.i64 x.base, Value.int IntKind.i64 x.round,
      Value.slice a x.hs.length c, Value.int IntKind.i64 x.lk.cl, Value.int IntKind.i64 x.lk.sq, Value.int IntKind.i64 x.lk.hm, Value.int IntKind.i64 x.lk.n]]
      { π := m.π, sz := N, uf := m.uf : M } (Value.bool b) ∧
      ifB (!b) (∃ (b : Bool), QSpec Try.prog (13 : Nat) [] { π := m.π, sz := N, uf := m.uf : M } (Value.bool b) ∧ Done (Value.bool b = Value.bool true))
      (ifB (x.round != (0 : Int)) (∃ (b : Bool), QSpec Try.prog (13 : Nat) [] { π := m.π, sz := N, uf := m.uf : M } (Value.bool b) ∧ Done (Value.bool b = Value.bool true))
      (∃ (n : Int),
      ∃ (n_1 : Int),
      ∃ (n_2 : Int),
      ∃ (n_3 : Int),
      ∃ (b : Bool),
      QSpec Try.prog (33 : Nat)
      [Value.agg
      #[Value.string x.key, Value.int IntKind.i64 x.lo, Value.int IntKind.i64 x.hi, Value.int IntKind.i64 x.base, Value.int IntKind.i64 x.round,
      Value.slice a x.hs.length c, Value.int IntKind.i64 x.lk.cl, Value.int IntKind.i64 x.lk.sq, Value.int IntKind.i64 x.lk.hm,
      Value.int IntKind.i64 x.lk.n],
      Value.int IntKind.i64 nd]
      { π := m.π, sz := N, uf := m.uf : M }
      (Value.tuple #[Value.agg #[Value.int IntKind.i64 n, Value.int IntKind.i64 n_1, Value.int IntKind.i64 n_2, Value.int IntKind.i64 n_3], Value.bool b]) ∧
      (∃ (a_1 : OnX),
      OnI x a nd sa ss a_1 ∧
      { π := m.π, sz := N, uf := m.uf : M } = a_1.m ∧
      ((SV.val (Value.int IntKind.i64 (0 : Int)) = SV.val (Value.int IntKind.i64 (↑a_1.i : Int)) ∧ true = true) ∧
      (SV.val (Value.slice sa ss.length cs) = SV.val (Value.slice sa ss.length cs) ∧ true = true) ∧
      (SV.val (Value.slice none (0 : Nat) (0 : Nat)) = SV.val (Value.slice a_1.a a_1.l.length a_1.c) ∧ true = true) ∧
      (SV.own ((0 : Nat) + (0 : Nat)) (0 : Nat) = SV.own (0 : Nat) (0 : Nat) ∧ true = true) ∧
      (SV.val (Value.int IntKind.i64 nd) = SV.val (Value.int IntKind.i64 nd) ∧ true = true) ∧
      (SV.val (Value.bool b) = SV.val (Value.bool (findB x nd)) ∧ true = true) ∧
      (SV.val (Value.int IntKind.i64 (0 : Int)) = SV.val (Value.int IntKind.i64 a_1.net) ∧ true = true) ∧
      (SV.own ((0 : Nat) + (2 : Nat) + (12 : Nat) + (6 : Nat)) (0 : Nat) = SV.own (20 : Nat) (0 : Nat) ∧ true = true) ∧
      (SV.val (Value.int IntKind.i64 ro) = SV.val (Value.int IntKind.i64 ro) ∧ true = true) ∧ True) ∧
      (some
      { ty := (46 : Nat), cs := [Value.string x.key, Value.int IntKind.i64 x.lo, Value.int IntKind.i64 x.hi, Value.int IntKind.i64 x.base, Value.int IntKind.i64 x.round, Value.slice a x.hs.length c, Value.int IntKind.i64 x.lk.cl, Value.int IntKind.i64 x.lk.sq, Value.int IntKind.i64 x.lk.hm, Value.int IntKind.i64 x.lk.n] : Bx } =
      some
      { ty := (46 : TypeId), cs := [Value.string x.key, Value.int IntKind.i64 x.lo, Value.int IntKind.i64 x.hi, Value.int IntKind.i64 x.base, Value.int IntKind.i64 x.round, Value.slice a x.hs.length c, Value.int IntKind.i64 x.lk.cl, Value.int IntKind.i64 x.lk.sq, Value.int IntKind.i64 x.lk.hm, Value.int IntKind.i64 x.lk.n] : Bx } ∧
      true = true) ∧
      (some
      { ty := (67 : Nat), cs := [Value.int IntKind.i64 n, Value.int IntKind.i64 n_1, Value.int IntKind.i64 n_2, Value.int IntKind.i64 n_3] : Bx } =
      some
      { ty := (67 : TypeId), cs := [Value.int IntKind.i64 (findH x nd).nd, Value.int IntKind.i64 (findH x nd).le, Value.int IntKind.i64 (findH x nd).up, Value.int IntKind.i64 (findH x nd).dn] : Bx } ∧
      true = true) ∧
      True) ∧
      ∀ (a_1 : OnX),
      OnI x a nd sa ss a_1 →
      ifB (decide ((↑a_1.i : Int) < (↑ss.length : Int)))
      (true = true ∧
      ∃ (b : Nat),
      ∃ (off : Nat),
      sa = some { block := b, off := off : Addr } ∧
      ((0 : Int) ≤ (↑a_1.i : Int) ∧ (↑a_1.i : Int) < (↑ss.length : Int)) ∧
      ∃ (n : Int),
      CellsAt a_1.m b (off + (↑a_1.i : Int).toNat * (1 : Nat)) [Value.int IntKind.i64 n] ∧
      ∃ (n_4 : Int),
      ∃ (s : ByteArray),
      ∃ (n_5 : Int),
      ∃ (n_6 : Int),
      ∃ (n_7 : Int),
      QSpec Try.prog (24 : Nat)
      [Value.slice a_1.a a_1.l.length a_1.c, Value.int IntKind.i64 (2 : Int),
      Value.agg
      #[Value.string x.key, Value.int IntKind.i64 x.lo, Value.int IntKind.i64 x.hi, Value.int IntKind.i64 x.base,
      Value.int IntKind.i64 x.round, Value.slice a x.hs.length c, Value.int IntKind.i64 x.lk.cl,
      Value.int IntKind.i64 x.lk.sq, Value.int IntKind.i64 x.lk.hm, Value.int IntKind.i64 x.lk.n],
      Value.int IntKind.i64 nd, Value.int IntKind.i64 n]
      a_1.m
      (Value.tuple
      #[Value.agg #[Value.int IntKind.i64 n_4, Value.string s, Value.int IntKind.i64 n_5, Value.int IntKind.i64 n_6],
      Value.int IntKind.i64 n_7]) ∧
      ifB (n_7 != (0 : Int))
      (∃ (a' : OnX),
      (OnI x a nd sa ss a' ∧
      a_1.m = a'.m ∧
      ((SV.val (Value.int IntKind.i64 (IntKind.i64.wrap ((↑a_1.i : Int) + (1 : Int)))) =
      SV.val (Value.int IntKind.i64 (↑a'.i : Int)) ∧
      true = true) ∧
      (SV.val (Value.slice sa ss.length cs) = SV.val (Value.slice sa ss.length cs) ∧ true = true) ∧
      (SV.val (Value.slice a_1.a a_1.l.length a_1.c) = SV.val (Value.slice a'.a a'.l.length a'.c) ∧
      true = true) ∧
      (SV.own (0 : Nat) (0 : Nat) = SV.own (0 : Nat) (0 : Nat) ∧ true = true) ∧
      (SV.val (Value.int IntKind.i64 nd) = SV.val (Value.int IntKind.i64 nd) ∧ true = true) ∧
      (SV.val (Value.bool (findB x nd)) = SV.val (Value.bool (findB x nd)) ∧ true = true) ∧
      (SV.val (Value.int IntKind.i64 a_1.net) = SV.val (Value.int IntKind.i64 a'.net) ∧
      true = true) ∧
      (SV.own (20 : Nat) (0 : Nat) = SV.own (20 : Nat) (0 : Nat) ∧ true = true) ∧
      (SV.val (Value.int IntKind.i64 ro) = SV.val (Value.int IntKind.i64 ro) ∧ true = true) ∧
      True) ∧
      (some
      { ty := (46 : TypeId), cs := [Value.string x.key, Value.int IntKind.i64 x.lo, Value.int IntKind.i64 x.hi, Value.int IntKind.i64 x.base, Value.int IntKind.i64 x.round, Value.slice a x.hs.length c, Value.int IntKind.i64 x.lk.cl, Value.int IntKind.i64 x.lk.sq, Value.int IntKind.i64 x.lk.hm, Value.int IntKind.i64 x.lk.n] : Bx } =
      some
      { ty := (46 : TypeId), cs := [Value.string x.key, Value.int IntKind.i64 x.lo, Value.int IntKind.i64 x.hi, Value.int IntKind.i64 x.base, Value.int IntKind.i64 x.round, Value.slice a x.hs.length c, Value.int IntKind.i64 x.lk.cl, Value.int IntKind.i64 x.lk.sq, Value.int IntKind.i64 x.lk.hm, Value.int IntKind.i64 x.lk.n] : Bx } ∧
      true = true) ∧
      (some
      { ty := (67 : TypeId), cs := [Value.int IntKind.i64 (findH x nd).nd, Value.int IntKind.i64 (findH x nd).le, Value.int IntKind.i64 (findH x nd).up, Value.int IntKind.i64 (findH x nd).dn] : Bx } =
      some
      { ty := (67 : TypeId), cs := [Value.int IntKind.i64 (findH x nd).nd, Value.int IntKind.i64 (findH x nd).le, Value.int IntKind.i64 (findH x nd).up, Value.int IntKind.i64 (findH x nd).dn] : Bx } ∧
      true = true) ∧
      True) ∧
      ss.length - a'.i < ss.length - a_1.i)
      (ifB (!findB x nd) (Done (Value.bool false = Value.bool true))
      (∃ (S' : Nat → Prop),
      (∀ (b : Nat), S' b → a_1.m.uf b ∧ (N ≤ b ∨ False)) ∧
      ∀ (n : Nat),
      a_1.m.sz ≤ n →
      SpecW Try.prog (11 : Nat)
      [Value.slice a_1.a a_1.l.length a_1.c,
      Value.agg
      #[Value.int IntKind.i64 n_4, Value.string s, Value.int IntKind.i64 n_5, Value.int IntKind.i64 n_6]]
      { π := a_1.m.π, sz := n, uf := a_1.m.uf : M } S' fun (v : Value) (m' : M) =>
      ∃ (a_4 : Option Addr),
      ∃ (n : Nat),
      ∃ (c_1 : Nat),
      ∃ (n_8 : Int),
      v = Value.tuple #[Value.slice a_4 n c_1, Value.int IntKind.i64 n_8] ∧
      ∃ (b : Nat),
      ∃ (off : Nat),
      sa = some { block := b, off := off : Addr } ∧
      ((0 : Int) ≤ (↑a_1.i : Int) ∧ (↑a_1.i : Int) < (↑ss.length : Int)) ∧
      ∃ (n_9 : Int),
      CellsAt m' b (off + (↑a_1.i : Int).toNat * (1 : Nat)) [Value.int IntKind.i64 n_9] ∧
      ifB (n_8 != (0 : Int)) (Done (Value.bool false = Value.bool true))
      (ifB (n_6 != IntKind.i64.wrap (a_1.net + n_9))
      (Done (Value.bool false = Value.bool true))
      (ifB (n_5 != (findH x nd).le) (Done (Value.bool false = Value.bool true))
      (ifB (decide (IntKind.i64.wrap (a_1.net + n_9) > (findH x nd).up))
      (Done (Value.bool false = Value.bool true))
      (ifB
      (decide
      (IntKind.i64.wrap (a_1.net + n_9) <
      IntKind.i64.wrap ((0 : Int) - (findH x nd).dn)))
      (Done (Value.bool false = Value.bool true))
      (∃ (a' : OnX),
      (OnI x a nd sa ss a' ∧
      m' = a'.m ∧
      ((SV.val
      (Value.int IntKind.i64
      (IntKind.i64.wrap ((↑a_1.i : Int) + (1 : Int)))) =
      SV.val (Value.int IntKind.i64 (↑a'.i : Int)) ∧
      true = true) ∧
      (SV.val (Value.slice sa ss.length cs) =
      SV.val (Value.slice sa ss.length cs) ∧
      true = true) ∧
      (SV.val (Value.slice a_4 n c_1) =
      SV.val (Value.slice a'.a a'.l.length a'.c) ∧
      true = true) ∧
      (SV.own (0 : Nat) (0 : Nat) =
      SV.own (0 : Nat) (0 : Nat) ∧
      true = true) ∧
      (SV.val (Value.int IntKind.i64 nd) =
      SV.val (Value.int IntKind.i64 nd) ∧
      true = true) ∧
      (SV.val (Value.bool (findB x nd)) =
      SV.val (Value.bool (findB x nd)) ∧
      true = true) ∧
      (SV.val
      (Value.int IntKind.i64
      (IntKind.i64.wrap (a_1.net + n_9))) =
      SV.val (Value.int IntKind.i64 a'.net) ∧
      true = true) ∧
      (SV.own (20 : Nat) (0 : Nat) =
      SV.own (20 : Nat) (0 : Nat) ∧
      true = true) ∧
      (SV.val (Value.int IntKind.i64 ro) =
      SV.val (Value.int IntKind.i64 ro) ∧
      true = true) ∧
      True) ∧
      (some
      { ty := (46 : TypeId), cs := [Value.string x.key, Value.int IntKind.i64 x.lo, Value.int IntKind.i64 x.hi, Value.int IntKind.i64 x.base, Value.int IntKind.i64 x.round, Value.slice a x.hs.length c, Value.int IntKind.i64 x.lk.cl, Value.int IntKind.i64 x.lk.sq, Value.int IntKind.i64 x.lk.hm, Value.int IntKind.i64 x.lk.n] : Bx } =
      some
      { ty := (46 : TypeId), cs := [Value.string x.key, Value.int IntKind.i64 x.lo, Value.int IntKind.i64 x.hi, Value.int IntKind.i64 x.base, Value.int IntKind.i64 x.round, Value.slice a x.hs.length c, Value.int IntKind.i64 x.lk.cl, Value.int IntKind.i64 x.lk.sq, Value.int IntKind.i64 x.lk.hm, Value.int IntKind.i64 x.lk.n] : Bx } ∧
      true = true) ∧
      (some
      { ty := (67 : TypeId), cs := [Value.int IntKind.i64 (findH x nd).nd, Value.int IntKind.i64 (findH x nd).le, Value.int IntKind.i64 (findH x nd).up, Value.int IntKind.i64 (findH x nd).dn] : Bx } =
      some
      { ty := (67 : TypeId), cs := [Value.int IntKind.i64 (findH x nd).nd, Value.int IntKind.i64 (findH x nd).le, Value.int IntKind.i64 (findH x nd).up, Value.int IntKind.i64 (findH x nd).dn] : Bx } ∧
      true = true) ∧
      True) ∧
      ss.length - a'.i < ss.length - a_1.i))))))))
      (∀ (n : Nat),
      a_1.m.sz ≤ n →
      Vc.Spec Try.prog (34 : Nat)
      [Value.agg
      #[Value.string x.key, Value.int IntKind.i64 x.lo, Value.int IntKind.i64 x.hi, Value.int IntKind.i64 x.base,
      Value.int IntKind.i64 x.round, Value.slice a x.hs.length c, Value.int IntKind.i64 x.lk.cl, Value.int IntKind.i64 x.lk.sq,
      Value.int IntKind.i64 x.lk.hm, Value.int IntKind.i64 x.lk.n],
      Value.int IntKind.i64 ro]
      { π := a_1.m.π, sz := n, uf := a_1.m.uf : M } fun (v : Value) (m' : M) =>
      ∃ (s : ByteArray),
      ∃ (n : Int),
      ∃ (n_4 : Int),
      ∃ (n_5 : Int),
      ∃ (n_6 : Int),
      ∃ (a : Option Addr),
      ∃ (n_7 : Nat),
      ∃ (c : Nat),
      ∃ (n_8 : Int),
      ∃ (n_9 : Int),
      ∃ (n_10 : Int),
      ∃ (n_11 : Int),
      ∃ (n_12 : Int),
      v =
      Value.tuple
      #[Value.agg
      #[Value.string s, Value.int IntKind.i64 n, Value.int IntKind.i64 n_4, Value.int IntKind.i64 n_5,
      Value.int IntKind.i64 n_6, Value.slice a n_7 c, Value.int IntKind.i64 n_8,
      Value.int IntKind.i64 n_9, Value.int IntKind.i64 n_10, Value.int IntKind.i64 n_11],
      Value.int IntKind.i64 n_12] ∧
      ifB (n_12 != (0 : Int))
      (ifB (n_12 != (0 : Int)) (Done (Value.bool true = Value.bool true))
      (Done (Value.bool ((↑a_1.l.length : Int) == (0 : Int)) = Value.bool true)))
      (ifB (!findB x nd)
      (ifB (n_12 != (0 : Int)) (Done (Value.bool true = Value.bool true))
      (Done (Value.bool ((↑a_1.l.length : Int) == (0 : Int)) = Value.bool true)))
      (∃ (n_13 : Int),
      ∃ (s_1 : ByteArray),
      ∃ (n_14 : Int),
      ∃ (n_15 : Int),
      ∃ (n_16 : Int),
      QSpec Try.prog (24 : Nat)
      [Value.slice a_1.a a_1.l.length a_1.c, Value.int IntKind.i64 (2 : Int),
      Value.agg
      #[Value.string s, Value.int IntKind.i64 n, Value.int IntKind.i64 n_4,
      Value.int IntKind.i64 n_5, Value.int IntKind.i64 n_6, Value.slice a n_7 c,
      Value.int IntKind.i64 n_8, Value.int IntKind.i64 n_9, Value.int IntKind.i64 n_10,
      Value.int IntKind.i64 n_11],
      Value.int IntKind.i64 nd, Value.int IntKind.i64 (1 : Int)]
      m'
      (Value.tuple
      #[Value.agg
      #[Value.int IntKind.i64 n_13, Value.string s_1, Value.int IntKind.i64 n_14,
      Value.int IntKind.i64 n_15],
      Value.int IntKind.i64 n_16]) ∧
      ∃ (S' : Nat → Prop),
      (∀ (b : Nat), S' b → m'.uf b ∧ (N ≤ b ∨ False)) ∧
      ∀ (n_17 : Nat),
      m'.sz ≤ n_17 →
      SpecW Try.prog (28 : Nat)
      [Value.slice a_1.a a_1.l.length a_1.c, Value.int IntKind.i64 (2 : Int),
      Value.agg
      #[Value.string s, Value.int IntKind.i64 n, Value.int IntKind.i64 n_4,
      Value.int IntKind.i64 n_5, Value.int IntKind.i64 n_6, Value.slice a n_7 c,
      Value.int IntKind.i64 n_8, Value.int IntKind.i64 n_9,
      Value.int IntKind.i64 n_10, Value.int IntKind.i64 n_11],
      Value.int IntKind.i64 nd]
      { π := m'.π, sz := n_17, uf := m'.uf : M } S' fun (v : Value) (m' : M) =>
      ∃ (n_18 : Int),
      ∃ (n_19 : Int),
      ∃ (n_20 : Int),
      ∃ (n_21 : Int),
      ∃ (n_22 : Int),
      ∃ (n_23 : Int),
      ∃ (s_2 : ByteArray),
      ∃ (n_24 : Int),
      ∃ (n_25 : Int),
      ∃ (n_26 : Int),
      ∃ (b : Bool),
      ∃ (n_27 : Int),
      ∃ (s_3 : ByteArray),
      ∃ (s_4 : ByteArray),
      ∃ (n_28 : Int),
      ∃ (n_29 : Int),
      ∃ (n_30 : Int),
      ∃ (n_31 : Int),
      ∃ (n_32 : Int),
      ∃ (n_33 : Int),
      ∃ (s_5 : ByteArray),
      ∃ (s_6 : ByteArray),
      ∃ (n_34 : Int),
      ∃ (n_35 : Int),
      ∃ (a_5 : Option Addr),
      ∃ (n_36 : Nat),
      ∃ (c_1 : Nat),
      ∃ (b_1 : Bool),
      v =
      Value.tuple
      #[Value.agg
      #[Value.int
      IntKind.i64
      n_18,
      Value.int
      IntKind.i64
      n_19,
      Value.int
      IntKind.i64
      n_20,
      Value.int
      IntKind.i64
      n_21,
      Value.int
      IntKind.i64
      n_22,
      Value.int
      IntKind.i64
      n_23,
      Value.string
      s_2,
      Value.int
      IntKind.i64
      n_24,
      Value.int
      IntKind.i64
      n_25,
      Value.int
      IntKind.i64
      n_26,
      Value.bool b,
      Value.int
      IntKind.i64
      n_27,
      Value.string
      s_3,
      Value.string
      s_4,
      Value.int
      IntKind.i64
      n_28,
      Value.int
      IntKind.i64
      n_29,
      Value.int
      IntKind.i64
      n_30,
      Value.int
      IntKind.i64
      n_31,
      Value.int
      IntKind.i64
      n_32,
      Value.int
      IntKind.i64
      n_33,
      Value.string
      s_5,
      Value.string
      s_6,
      Value.int
      IntKind.i64
      n_34,
      Value.int
      IntKind.i64
      n_35,
      Value.slice a_5
      n_36 c_1],
      Value.bool b_1] ∧
      ∀ (n_37 : Nat),
      m'.sz ≤ n_37 →
      Vc.Spec Try.prog
      (35 : Nat)
      [Value.agg
      #[Value.string
      s,
      Value.int
      IntKind.i64
      n,
      Value.int
      IntKind.i64
      n_4,
      Value.int
      IntKind.i64
      n_5,
      Value.int
      IntKind.i64
      n_6,
      Value.slice a
      n_7 c,
      Value.int
      IntKind.i64
      n_8,
      Value.int
      IntKind.i64
      n_9,
      Value.int
      IntKind.i64
      n_10,
      Value.int
      IntKind.i64
      n_11],
      Value.int
      IntKind.i64
      n_22,
      Value.int
      IntKind.i64
      n_24,
      Value.int
      IntKind.i64
      n_25,
      Value.int
      IntKind.i64
      n_26]
      { π := m'.π, sz := n_37, uf := m'.uf : M }
      fun (v : Value)
      (m' : M) =>
      ∃ (s : ByteArray),
      ∃ (n : Int),
      ∃ (n_38 : Int),
      ∃ (n_39 :
      Int),
      ∃ (n_40 :
      Int),
      ∃ (a :
      Option
      Addr),
      ∃ (n_41
      :
      Nat),
      ∃ (c :
      Nat),
      ∃
      (n_42
      :
      Int),
      ∃
      (n_43
      :
      Int),
      ∃
      (n_44
      :
      Int),
      ∃
      (n_45
      :
      Int),
      ∃
      (n_46
      :
      Int),
      v =
      Value.tuple
      #[Value.agg
      #[Value.string
      s,
      Value.int
      IntKind.i64
      n,
      Value.int
      IntKind.i64
      n_38,
      Value.int
      IntKind.i64
      n_39,
      Value.int
      IntKind.i64
      n_40,
      Value.slice
      a
      n_41
      c,
      Value.int
      IntKind.i64
      n_42,
      Value.int
      IntKind.i64
      n_43,
      Value.int
      IntKind.i64
      n_44,
      Value.int
      IntKind.i64
      n_45],
      Value.int
      IntKind.i64
      n_46] ∧
      ∃
      (S'
      :
      Nat →
      Prop),
      (∀
      (b :
      Nat),
      S'
      b →
      m'.uf
      b ∧
      (N ≤
      b ∨
      False)) ∧
      ∀
      (n_47 :
      Nat),
      m'.sz ≤
      n_47 →
      SpecW
      Try.prog
      (28 :
      Nat)
      [Value.slice
      a_1.a
      a_1.l.length
      a_1.c,
      Value.int
      IntKind.i64
      (2 :
      Int),
      Value.agg
      #[Value.string
      s,
      Value.int
      IntKind.i64
      n,
      Value.int
      IntKind.i64
      n_38,
      Value.int
      IntKind.i64
      n_39,
      Value.int
      IntKind.i64
      n_40,
      Value.slice
      a
      n_41
      c,
      Value.int
      IntKind.i64
      n_42,
      Value.int
      IntKind.i64
      n_43,
      Value.int
      IntKind.i64
      n_44,
      Value.int
      IntKind.i64
      n_45],
      Value.int
      IntKind.i64
      nd]
      { π := m'.π, sz := n_47, uf := m'.uf : M }
      S'
      fun
      (v :
      Value)
      (m' :
      M) =>
      ∃
      (n_48
      :
      Int),
      ∃
      (n_49
      :
      Int),
      ∃
      (n_50
      :
      Int),
      ∃
      (n_51
      :
      Int),
      ∃
      (n_52
      :
      Int),
      ∃
      (n_53
      :
      Int),
      ∃
      (s_7
      :
      ByteArray),
      ∃
      (n_54
      :
      Int),
      ∃
      (n_55
      :
      Int),
      ∃
      (n_56
      :
      Int),
      ∃
      (b
      :
      Bool),
      ∃
      (n_57
      :
      Int),
      ∃
      (s_8
      :
      ByteArray),
      ∃
      (s_9
      :
      ByteArray),
      ∃
      (n_58
      :
      Int),
      ∃
      (n_59
      :
      Int),
      ∃
      (n_60
      :
      Int),
      ∃
      (n_61
      :
      Int),
      ∃
      (n_62
      :
      Int),
      ∃
      (n_63
      :
      Int),
      ∃
      (s_10
      :
      ByteArray),
      ∃
      (s_11
      :
      ByteArray),
      ∃
      (n_64
      :
      Int),
      ∃
      (n_65
      :
      Int),
      ∃
      (a_8
      :
      Option
      Addr),
      ∃
      (n_66
      :
      Nat),
      ∃
      (c_2
      :
      Nat),
      ∃
      (b_2
      :
      Bool),
      v =
      Value.tuple
      #[Value.agg
      #[Value.int
      IntKind.i64
      n_48,
      Value.int
      IntKind.i64
      n_49,
      Value.int
      IntKind.i64
      n_50,
      Value.int
      IntKind.i64
      n_51,
      Value.int
      IntKind.i64
      n_52,
      Value.int
      IntKind.i64
      n_53,
      Value.string
      s_7,
      Value.int
      IntKind.i64
      n_54,
      Value.int
      IntKind.i64
      n_55,
      Value.int
      IntKind.i64
      n_56,
      Value.bool
      b,
      Value.int
      IntKind.i64
      n_57,
      Value.string
      s_8,
      Value.string
      s_9,
      Value.int
      IntKind.i64
      n_58,
      Value.int
      IntKind.i64
      n_59,
      Value.int
      IntKind.i64
      n_60,
      Value.int
      IntKind.i64
      n_61,
      Value.int
      IntKind.i64
      n_62,
      Value.int
      IntKind.i64
      n_63,
      Value.string
      s_10,
      Value.string
      s_11,
      Value.int
      IntKind.i64
      n_64,
      Value.int
      IntKind.i64
      n_65,
      Value.slice
      a_8
      n_66
      c_2],
      Value.bool
      b_2] ∧
      ∀
      (n_67 :
      Nat),
      m'.sz ≤
      n_67 →
      Vc.Spec
      Try.prog
      (36 :
      Nat)
      [Value.agg
      #[Value.string
      s,
      Value.int
      IntKind.i64
      n,
      Value.int
      IntKind.i64
      n_38,
      Value.int
      IntKind.i64
      n_39,
      Value.int
      IntKind.i64
      n_40,
      Value.slice
      a
      n_41
      c,
      Value.int
      IntKind.i64
      n_42,
      Value.int
      IntKind.i64
      n_43,
      Value.int
      IntKind.i64
      n_44,
      Value.int
      IntKind.i64
      n_45]]
      { π := m'.π, sz := n_67, uf := m'.uf : M }
      fun
      (v :
      Value)
      (m' :
      M) =>
      ∃
      (s
      :
      ByteArray),
      ∃
      (n
      :
      Int),
      ∃
      (n_68
      :
      Int),
      ∃
      (n_69
      :
      Int),
      ∃
      (n_70
      :
      Int),
      ∃
      (a
      :
      Option
      Addr),
      ∃
      (n_71
      :
      Nat),
      ∃
      (c
      :
      Nat),
      ∃
      (n_72
      :
      Int),
      ∃
      (n_73
      :
      Int),
      ∃
      (n_74
      :
      Int),
      ∃
      (n_75
      :
      Int),
      ∃
      (n_76
      :
      Int),
      v =
      Value.tuple
      #[Value.agg
      #[Value.string
      s,
      Value.int
      IntKind.i64
      n,
      Value.int
      IntKind.i64
      n_68,
      Value.int
      IntKind.i64
      n_69,
      Value.int
      IntKind.i64
      n_70,
      Value.slice
      a
      n_71
      c,
      Value.int
      IntKind.i64
      n_72,
      Value.int
      IntKind.i64
      n_73,
      Value.int
      IntKind.i64
      n_74,
      Value.int
      IntKind.i64
      n_75],
      Value.int
      IntKind.i64
      n_76] ∧
      ∃
      (n_77
      :
      Int),
      ∃
      (s_12
      :
      ByteArray),
      ∃
      (n_78
      :
      Int),
      ∃
      (n_79
      :
      Int),
      ∃
      (n_80
      :
      Int),
      QSpec
      Try.prog
      (24 :
      Nat)
      [Value.slice
      a_1.a
      a_1.l.length
      a_1.c,
      Value.int
      IntKind.i64
      (2 :
      Int),
      Value.agg
      #[Value.string
      s,
      Value.int
      IntKind.i64
      n,
      Value.int
      IntKind.i64
      n_68,
      Value.int
      IntKind.i64
      n_69,
      Value.int
      IntKind.i64
      n_70,
      Value.slice
      a
      n_71
      c,
      Value.int
      IntKind.i64
      n_72,
      Value.int
      IntKind.i64
      n_73,
      Value.int
      IntKind.i64
      n_74,
      Value.int
      IntKind.i64
      n_75],
      Value.int
      IntKind.i64
      nd,
      Value.int
      IntKind.i64
      (1 :
      Int)]
      m'
      (Value.tuple
      #[Value.agg
      #[Value.int
      IntKind.i64
      n_77,
      Value.string
      s_12,
      Value.int
      IntKind.i64
      n_78,
      Value.int
      IntKind.i64
      n_79],
      Value.int
      IntKind.i64
      n_80]) ∧
      ifB
      (n_16 ==
      (152 :
      Int))
      (ifB
      b_1
      (ifB
      (n_26 ==
      a_1.net)
      (ifB
      (n_46 ==
      (0 :
      Int))
      (ifB
      (!b_2)
      (ifB
      (n_76 ==
      (0 :
      Int))
      (ifB
      (n_69 ==
      IntKind.i64.wrap
      (x.base +
      a_1.net))
      (Done
      (Value.bool
      (n_80 ==
      (151 :
      Int)) =
      Value.bool
      true))
      (Done
      (Value.bool
      false =
      Value.bool
      true)))
      (Done
      (Value.bool
      false =
      Value.bool
      true)))
      (Done
      (Value.bool
      false =
      Value.bool
      true)))
      (Done
      (Value.bool
      false =
      Value.bool
      true)))
      (Done
      (Value.bool
      false =
      Value.bool
      true)))
      (Done
      (Value.bool
      false =
      Value.bool
      true)))
      (Done
      (Value.bool
      false =
      Value.bool
      true))))))))) (by kernel_rfl) ?_
  have R : Rs { m with sz := N } [(sa, ints ss), (a, hds x.hs)] := ⟨h2.sz hN, h.sz hN, trivial⟩
  refine ⟨rfl, _, lawake_q _, ifB_false ⟨_, rright_q x a c hx _ R.2.1, ?_⟩⟩
  cases hr : rightB x
  · exact ifB_true ⟨_, lawake_q _, ⟨rfl⟩⟩
  refine ifB_false (ifB_intro (fun q => ⟨_, lawake_q _, ⟨rfl⟩⟩) (fun q => ⟨_, _, _, _, _, find_q x a c nd hx _ R.2.1, ⟨⟨0, [], none, 0, 0, { m with sz := N }⟩, ⟨Nat.zero_le _, ⟨.inl ⟨rfl, rfl⟩⟩, .nil _, R⟩, rfl, by simp⟩, fun y Y => ifB_intro (fun h1 => ?_) (fun h1 => ?_)⟩))
  · have hk2 : y.i < ss.length := by simpa using h1
    have q : x.round = 0 := by simpa using q
    obtain ⟨b, o, rfl, hc⟩ := Y.rs.2.1.cells (by rw [ints_len]; omega)
    have w1 : IntKind.i64.wrap ((y.i : Int) + 1) = ((y.i + 1 : Nat) : Int) := by simp [IntKind.wrap_i64]; omega
    have hs := hss _ (List.getElem_mem hk2)
    have hled := Y.p.led hx
    have hlen : y.l.length ≤ 1 := by rcases Y.p.shape with ⟨e, -⟩ | ⟨-, e, -⟩ <;> simp [e]
    have c0 : CellsAt y.m b (o + y.i * 1) [I ss[y.i]] := CellsAt.elem (k := 1) (enc := fun n : Int => [I n]) (fun _ => rfl) ss o y.i hk2 hc
    refine ⟨rfl, b, o, rfl, by omega, _, by simpa using c0, _, _, _, _, _, lspend_q y.a y.c y.l 2 x a c nd ss[y.i] (by omega) (Y.p.wf hx) hx hs _ Y.rs.1 Y.rs.2.2.1, ifB_intro (fun q1 => ?_) (fun q1 => ?_)⟩
    · exact ⟨⟨y.i + 1, y.l, y.a, y.c, y.net, y.m⟩, ⟨⟨hk2, Y.p, Y.rs⟩, rfl, by simp [w1]⟩, by simp only; omega⟩
    have q1 : (spendE y.l 2 x nd ss[y.i]).2 = 0 := by simpa using q1
    obtain ⟨hb, hi, hsp⟩ := Y.p.spend hx _ q1
    have F := find_fact hx hb
    have hup := F.up
    have hdn := F.dn
    have hput := Y.p.put hx hb (y.net + ss[y.i])
    rw [hsp, hb]
    refine ifB_false ⟨_, noS, fun N1 hN1 => (lput_s y.a y.c y.l (oneR x nd (y.net + ss[y.i])) (by omega) _ (Y.rs.sz hN1).1).monoW fun v1 m1 ag1 q2 => ?_⟩
    obtain ⟨a1, c1, e1, r1⟩ := q2
    rw [hput] at r1 e1
    have R1 := Rs.cons r1 (Rs.step Y.rs hN1 ag1).2
    obtain ⟨b', o', e', hc'⟩ := R1.2.1.cells (by rw [ints_len]; omega)
    cases e'
    have c1' : CellsAt m1 b (o + y.i * 1) [I ss[y.i]] := CellsAt.elem (k := 1) (enc := fun n : Int => [I n]) (fun _ => rfl) ss o y.i hk2 hc'
    have hi2 := hi
    simp only [inB, Bool.and_eq_true, decide_eq_true_eq] at hi2
    have wn : IntKind.i64.wrap (y.net + ss[y.i]) = y.net + ss[y.i] := by simp [IntKind.wrap_i64]; omega
    have wd : IntKind.i64.wrap (0 - (findH x nd).dn) = -(findH x nd).dn := by simp [IntKind.wrap_i64]; omega
    refine ⟨_, _, _, _, e1, b, o, rfl, by omega, _, by simpa using c1', ?_⟩
    rw [wn, wd]
    have d1 : (decide (y.net + ss[y.i] > (findH x nd).up)) = false := by simp; omega
    have d2 : (decide (y.net + ss[y.i] < -(findH x nd).dn)) = false := by simp; omega
    have d3 : ((oneR x nd (y.net + ss[y.i])).ne != y.net + ss[y.i]) = false := by simp [oneR]
    have d4 : ((oneR x nd (y.net + ss[y.i])).le != (findH x nd).le) = false := by simp [oneR]
    rw [d1, d2]
    refine ifB_false ?_
    rw [d3, d4]
    refine ifB_false (ifB_false (ifB_false (ifB_false ⟨⟨y.i + 1, [oneR x nd (y.net + ss[y.i])], a1, c1, y.net + ss[y.i], m1⟩, ⟨⟨hk2, ⟨.inr ⟨hb, rfl, hi⟩⟩, R1⟩, rfl, by simp [w1]⟩, by simp only; omega⟩)))
  · have q : x.round = 0 := by simpa using q
    intro N1 hN1
    refine (afreeze_s x a c ro hx h0 _ (Y.rs.sz hN1).2.2.1).mono fun v1 m1 ag1 q1 => ?_
    obtain ⟨a1, c1, e1, r1⟩ := q1
    refine ⟨_, _, _, _, _, _, _, _, _, _, _, _, _, e1, ?_⟩
    have R1 := Rs.cons r1.row (Rs.step Y.rs hN1 ag1)
    by_cases hE : (aFreeze x ro).2 = 0
    rotate_left
    · have : ((aFreeze x ro).2 != 0) = true := by simpa using hE
      rw [this]; exact ifB_true (ifB_true ⟨rfl⟩)
    obtain ⟨-, o1, o2, hF⟩ := aFreeze_ok hE
    have er : rndR x ro = ro := by simp [rndR, q]
    rw [er] at hF
    obtain ⟨X1, hX1⟩ : ∃ X1 : Ac, X1 = { x with round := ro } := ⟨_, rfl⟩
    rw [← hX1] at hF
    rw [hF] at R1 ⊢
    obtain ⟨r1', w1'⟩ := round_right (r := ro) hx hr (by omega) hro
    rw [← hX1] at r1' w1'
    have hled := Y.p.led hx
    have hlen : y.l.length ≤ 1 := by rcases Y.p.shape with ⟨e, -⟩ | ⟨-, e, -⟩ <;> simp [e]
    cases hb : findB x nd
    · have hl : y.l = [] := by
        rcases Y.p.shape with ⟨e, -⟩ | ⟨e, -⟩
        · exact e
        · rw [hb] at e; cases e
      rw [hl]
      exact ifB_false (ifB_true (ifB_false ⟨rfl⟩))
    have F := find_fact hx hb
    have hup := F.up
    have hdn := F.dn
    have hnet := Y.p.net hx
    have hi2 : -(findH x nd).dn ≤ y.net ∧ y.net ≤ (findH x nd).up := by
      rcases Y.p.shape with ⟨-, e⟩ | ⟨-, -, e⟩
      · omega
      · simp only [inB, Bool.and_eq_true, decide_eq_true_eq] at e; omega
    have eh : X1.hs = x.hs := by rw [hX1]
    have ek : X1.key = x.key := by rw [hX1]
    have ero : X1.round = ro := by rw [hX1]
    have eb : X1.base = x.base := by rw [hX1]
    have fB1 : findB X1 nd = true := by
      have := hb
      simp only [findB, hr, Bool.true_and] at this
      simp only [findB, r1', eh, this, Bool.and_self]
    have fH1 : findH X1 nd = findH x nd := by simp only [findH, r1', hr, if_true, eh]
    have hh1 : heldE y.l 2 X1 nd (decide ((1 : Int) = 0)) = 152 := by
      have : ro ≠ 0 := by omega
      simp [heldE, hled, r1', fB1, ero, groupB, this]
    have s1 : (spendE y.l 2 X1 nd 1).2 = 152 := by simp only [spendE, hh1]; rfl
    have hrb : repB y.l 2 X1 nd = true := by
      have : ro ≠ 0 := by omega
      simp [repB, hled, fB1, ero, groupB, this]
    have hrc : repC y.l 2 X1 nd = ⟨2, nd, X1.key, (findH x nd).le, ro, y.net⟩ := by
      rw [repC, hrb, if_pos rfl, fH1, ero, ek, hnet]
    obtain ⟨Y1, hY1⟩ : ∃ Y1 : Ac, Y1 = cutA X1 nd y.net := ⟨_, rfl⟩
    have hrp : aReport X1 nd (findH x nd).le ro y.net = (Y1, 0) := by
      have hro0 : ¬ (X1.round = 0 ∨ X1.round ≠ ro) := by rw [ero]; simp; omega
      have h3 : ¬ ((findH X1 nd).up < y.net ∨ y.net < -(findH X1 nd).dn) := by rw [fH1]; omega
      have h2 : ¬ (findB X1 nd = false ∨ (findH X1 nd).le ≠ (findH x nd).le) := by rw [fB1, fH1]; simp
      rw [aReport, if_neg (by rw [r1']; simp), if_neg h2, if_neg hro0, if_neg h3, hY1]; rfl
    obtain ⟨-, hm1, hn1⟩ := find_mem fB1
    have hi3 : y.net ≤ (findH X1 nd).up ∧ -(findH X1 nd).dn ≤ y.net := by rw [fH1]; omega
    obtain ⟨g1, g2⟩ := cut_right w1' r1' hm1 hi3.1 hi3.2
    rw [hn1] at g1 g2
    have rY : rightB Y1 = true := by rw [hY1]; exact g1
    have wY : Y1.wf := by rw [hY1]; exact g2
    have fBY : findB Y1 nd = false := by
      have : fndH Y1.hs nd = none := by
        rw [hY1]
        exact List.find?_eq_none.2 fun z hz => by
          have := (List.mem_filter.1 hz).2
          simpa using this
      simp [findB, this]
    have hrb2 : repB y.l 2 Y1 nd = false := by simp [repB, fBY]
    have hth : aThaw Y1 = ({ Y1 with round := 0 }, 0) := by simp [aThaw, rY]
    obtain ⟨Z1, hZ1⟩ : ∃ Z1 : Ac, Z1 = { Y1 with round := 0 } := ⟨_, rfl⟩
    rw [← hZ1] at hth
    obtain ⟨rZ, wZ⟩ := round_right (r := 0) wY rY (by omega) (by simp [In64])
    rw [← hZ1] at rZ wZ
    have fBZ : findB Z1 nd = false := by
      rw [findB, rZ, Bool.true_and]
      rw [findB, rY, Bool.true_and] at fBY
      rw [hZ1]; exact fBY
    have hh2 : heldE y.l 2 Z1 nd (decide ((1 : Int) = 0)) = 151 := by simp [heldE, hled, rZ, fBZ, groupB]
    have s2 : (spendE y.l 2 Z1 nd 1).2 = 151 := by simp only [spendE, hh2]; rfl
    have ebz : Z1.base = x.base + y.net := by rw [hZ1, hY1]; simp [cutA, eb]
    have fhi := F.hi
    have flo := F.lo
    have hlo := hx.lo
    have hhi := hx.hi
    have wb : IntKind.i64.wrap (x.base + y.net) = x.base + y.net := by unfold In64 at *; simp [IntKind.wrap_i64]; omega
    have hwf := Y.p.wf hx
    refine ifB_false (ifB_false ?_)
    refine ⟨_, _, _, _, _, lspend_q y.a y.c y.l 2 X1 a1 c1 nd 1 (by omega) hwf w1' (by simp [In64]) _ R1.2.1 R1.1, ?_⟩
    refine ⟨_, noS, fun N2 hN2 => ((lreport_q y.a y.c y.l 2 X1 a1 c1 nd (by omega) w1' _ (R1.sz hN2).2.1 (R1.sz hN2).1).spec).monoW fun v2 m2 ag2 q2 => ?_⟩
    refine ⟨_, _, _, _, _, _, _, _, _, _, _, _, _, _, _, _, _, _, _, _, _, _, _, _, _, _, _, _, q2.1, ?_⟩
    have R2 := Rs.step R1 hN2 ag2
    rw [hrb, hrc, s1]
    intro N3 hN3
    refine (areport_s X1 a1 c1 nd (findH x nd).le ro y.net w1' (by unfold In64; omega) (hd_none (R2.sz hN3).1) _ (R2.sz hN3).1).mono fun v3 m3 ag3 q3 => ?_
    obtain ⟨a3, c3, e3, r3⟩ := q3
    refine ⟨_, _, _, _, _, _, _, _, _, _, _, _, _, e3, ?_⟩
    have R3 := Rs.cons r3.row (Rs.step R2 hN3 ag3)
    rw [hrp] at R3 ⊢
    refine ⟨_, noS, fun N4 hN4 => ((lreport_q y.a y.c y.l 2 Y1 a3 c3 nd (by omega) wY _ (R3.sz hN4).2.2.1 (R3.sz hN4).1).spec).monoW fun v4 m4 ag4 q4 => ?_⟩
    refine ⟨_, _, _, _, _, _, _, _, _, _, _, _, _, _, _, _, _, _, _, _, _, _, _, _, _, _, _, _, q4.1, ?_⟩
    have R4 := Rs.step R3 hN4 ag4
    rw [hrb2]
    intro N5 hN5
    refine (athaw_s Y1 a3 c3 wY (hd_none (R4.sz hN5).1) _ (R4.sz hN5).1).mono fun v5 m5 ag5 q5 => ?_
    obtain ⟨a5, c5, e5, r5⟩ := q5
    refine ⟨_, _, _, _, _, _, _, _, _, _, _, _, _, e5, ?_⟩
    have R5 := Rs.cons r5.row (Rs.step R4 hN5 ag5)
    rw [hth] at R5 ⊢
    refine ⟨_, _, _, _, _, lspend_q y.a y.c y.l 2 Z1 a5 c5 nd 1 (by omega) hwf wZ (by simp [In64]) _ R5.2.2.2.1 R5.1, ?_⟩
    rw [s2]
    simp only [ebz, wb, beq_self_eq_true, Bool.not_false]
    exact ifB_true (ifB_true (ifB_true (ifB_true (ifB_true (ifB_true (ifB_true ⟨by trivial⟩))))))

end Go.Proofs.Ytfkielfnceeedaa
