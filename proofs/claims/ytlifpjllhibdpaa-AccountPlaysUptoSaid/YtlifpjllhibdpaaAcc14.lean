/-
  Contracts of functions of this seat: what each hands back, and what it leaves of memory (acc14). Nothing here is trusted: Lean checks it.
-/
import Derived.Test.YtlifpjllhibdpaaAcc13
set_option linter.unusedVariables false
set_option linter.unusedSimpArgs false
namespace Go.Proofs.Ytlifpjllhibdpaa
open Go.Vc Go.RowKit
set_option maxRecDepth 100000

def netOf (h : Hd) (ns : List Int) (i : Nat) : Int := match ns[i]? with | some v => max (-h.dn) (min v h.up) | none => 0

def netsSum (hs : List Hd) (ns : List Int) : Nat → Int
  | 0 => 0
  | k + 1 => netsSum hs ns k + (match hs[k]? with | some h => netOf h ns k | none => 0)

def rndA (x : Ac) (R : Int) (ns : List Int) (k : Nat) : Ac := { x with round := R, base := x.base + netsSum x.hs ns k, hs := x.hs.drop k }

structure RndX where
  k : Nat
  a : Option Addr
  c : Nat
  m : M

structure RndI (x : Ac) (R : Int) (ns : List Int) (m : M) (y : RndX) : Prop where
  k : y.k ≤ x.hs.length
  right : rightB (rndA x R ns y.k) = true
  wf : (rndA x R ns y.k).wf
  own : NewR m.sz (fun _ => False) y.m 4 y.a (x.hs.drop y.k).length y.c (hds (x.hs.drop y.k))
  ag : Agree m.sz m y.m

def rndR (x : Ac) (r : Int) : Int := if x.round = 0 then r else x.round

def hAt (x : Ac) (k : Nat) : Hd := (x.hs[k]?).getD hd0

def rndAnn (x : Ac) (a : Option Addr) (c : Nat) (an : Option Addr) (cn : Nat) (ns : List Int) (R : Int) (m : M) : Ann := {
    A := RndX
    inv := RndI x R ns m
    st := fun y => [(10, .val (I y.k)), (3, .own 0 0), (2, .val (.slice an ns.length cn)), (7, .own 10 0), (9, .own 19 0)]
    own := fun y => [(0, ⟨28, acc x a c⟩), (10, ⟨28, acc (rndA x R ns y.k) y.a y.c⟩), (19, ⟨52, [I (wideHi (rndA x R ns y.k).base), U (wideLo (rndA x R ns y.k).base)]⟩)]
    m := fun y => y.m
    μ := fun y => x.hs.length - y.k }

theorem aFreeze_ok {x : Ac} {r : Int} (h : (aFreeze x r).2 = 0) : rightB x = true ∧ 1 ≤ r ∧ r ≤ 4611686018427387904 ∧ aFreeze x r = ({ x with round := rndR x r }, 0) := by
  unfold aFreeze at h ⊢
  split at h
  · simp at h
  split at h
  · simp at h
  rename_i h1 h2
  refine ⟨by simpa using h1, by omega, by omega, by simp only [h1, h2, if_false, rndR]; simp⟩

theorem aFreeze_err {x : Ac} {r : Int} (h : (aFreeze x r).2 ≠ 0) : aFreeze x r = (ac0, (aFreeze x r).2) := by
  unfold aFreeze at h ⊢
  repeat' split
  all_goals simp_all

theorem round_right {x : Ac} {r : Int} (hx : x.wf) (hr : rightB x = true) (h : 0 ≤ r) (h2 : In64 r) : rightB { x with round := r } = true ∧ ({ x with round := r } : Ac).wf := by
  have hp := (right_iff x).1 hr
  refine ⟨(right_iff _).2 ⟨hp.key, hp.has, h, hp.hold, hp.up, hp.dn, ?_⟩, ⟨hx.key, hx.lo, hx.hi, hx.base, h2, hx.hs, hx.len, hx.lk⟩⟩
  have := hp.lock
  simp only [lockB, fitsB] at this ⊢
  exact this

theorem rnd_zero (x : Ac) (R : Int) (ns : List Int) : rndA x R ns 0 = { x with round := R } := by simp [rndA, netsSum]

theorem find_head {x : Ac} {h : Hd} {r : List Hd} (hr : rightB x = true) (he : x.hs = h :: r) : findB x h.nd = true ∧ findH x h.nd = h := by
  simp [findB, findH, hr, he, fndH]

theorem find_gone {x : Ac} {nd : Int} (hr : holdB nd x.hs = true) : findB x nd = false := by
  have : fndH x.hs nd = none := by
    unfold fndH
    rw [List.find?_eq_none]
    intro z hz
    have := hold_mem _ _ hr z hz
    simp; omega
  simp [findB, this]

theorem rnd_step {x : Ac} {R : Int} {ns : List Int} {k : Nat} (hk : k < x.hs.length) (hr : rightB (rndA x R ns k) = true) (hw : (rndA x R ns k).wf) (hR : R ≠ 0) :
    (∀ q, q ≠ R → aReport (rndA x R ns k) (hAt x k).nd (hAt x k).le q (netOf (hAt x k) ns k) = (ac0, 152)) ∧
    aReport (rndA x R ns k) (hAt x k).nd (hAt x k).le R (netOf (hAt x k) ns k) = (rndA x R ns (k + 1), 0) ∧
    aReport (rndA x R ns (k + 1)) (hAt x k).nd (hAt x k).le R (netOf (hAt x k) ns k) = (ac0, 151) ∧
    rightB (rndA x R ns (k + 1)) = true ∧ (rndA x R ns (k + 1)).wf ∧ In64 (netOf (hAt x k) ns k) := by
  have eh : hAt x k = x.hs[k] := by simp [hAt, List.getElem?_eq_getElem hk]
  have ehs : (rndA x R ns k).hs = hAt x k :: x.hs.drop (k + 1) := by rw [eh]; exact List.drop_eq_getElem_cons hk
  obtain ⟨f1, f2⟩ := find_head hr ehs
  have hm : hAt x k ∈ (rndA x R ns k).hs := by rw [ehs]; simp
  have hroom := hold_room hr hm
  have hhold := ((right_iff _).1 hr).hold
  rw [ehs] at hhold
  have hnet : netOf (hAt x k) ns k ≤ (hAt x k).up ∧ -(hAt x k).dn ≤ netOf (hAt x k) ns k := by
    unfold netOf
    split <;> omega
  have ecut : ({ rndA x R ns k with base := (rndA x R ns k).base + netOf (hAt x k) ns k, hs := (rndA x R ns k).hs.filter fun z => decide (z.nd ≠ (hAt x k).nd) } : Ac) = rndA x R ns (k + 1) := by
    rw [ehs, hold_cut hhold]
    simp only [rndA, netsSum, eh, List.getElem?_eq_getElem hk]
    simp; omega
  have hcut := cut_right hw hr hm hnet.1 hnet.2
  rw [ecut] at hcut
  have hwf := hw.hs _ hm
  refine ⟨fun q hq => ?_, ?_, ?_, hcut.1, hcut.2, ?_⟩
  · have hq' : (rndA x R ns k).round ≠ q := fun e => hq e.symm
    simp [aReport, hr, f1, f2, hq']
  · have hr1 : (rndA x R ns k).round = R := rfl
    have hnb : ¬ ((hAt x k).up < netOf (hAt x k) ns k ∨ netOf (hAt x k) ns k < -(hAt x k).dn) := by omega
    rw [← ecut]
    simp only [aReport, hr, f1, f2, hr1, hnb, hR]
    simp
  · have : findB (rndA x R ns (k + 1)) (hAt x k).nd = false := find_gone (by
      simp only [holdB, Bool.and_eq_true] at hhold
      exact hhold.2)
    simp [aReport, hcut.1, this]
  · unfold In64
    have h1 := hwf.2.2.1
    have h2 := hwf.2.2.2
    unfold In64 at h1 h2
    omega

theorem accountrounds (x : Ac) (a : Option Addr) (c : Nat) (r : Int) (an : Option Addr) (cn : Nat) (ns : List Int) (hx : x.wf) (hr64 : In64 r) (hns : ∀ v ∈ ns, In64 v) (hnl : ns.length ≤ 9223372036854775807) (h0 : a = none → x.hs = []) (m : M) (h : Row m a (hds x.hs)) (hn2 : Row m an (ints ns)) :
    QSpec Try.prog 5 [acv x a c, I r, .slice an ns.length cn] m (.bool true) := by
  refine QSpec.of_vc Try.func5 (ann := fun n _ => rndAnn x a c an cn ns (rndR x r) { m with sz := n }) fun N hN => ?_
  refine vc_by (X :=
      true = true ∧
      ∃ (b : Bool),
      QSpec Try.prog (21 : Nat) [] { π := m.π, sz := N, uf := m.uf : M } (Value.bool b) ∧
      ifB (!b) (Done (Value.bool false = Value.bool true))
      (∀ (n : Nat),
      N ≤ n →
      Vc.Spec Try.prog (28 : Nat)
      [Value.agg
      #[Value.string x.key, Value.int IntKind.i64 x.lo, Value.int IntKind.i64 x.hi, Value.int IntKind.i64 x.base, Value.int IntKind.i64 x.round,
      Value.slice a x.hs.length c, Value.int IntKind.i64 x.lk.cl, Value.int IntKind.i64 x.lk.sq, Value.int IntKind.i64 x.lk.hm, Value.int IntKind.i64 x.lk.n],
      Value.int IntKind.i64 r]
      { π := m.π, sz := n, uf := m.uf : M } fun (v : Value) (m' : M) =>
      ∃ (s : ByteArray),
      ∃ (n : Int),
      ∃ (n_1 : Int),
      ∃ (n_2 : Int),
      ∃ (n_3 : Int),
      ∃ (a_2 : Option Addr),
      ∃ (n_4 : Nat),
      ∃ (c_1 : Nat),
      ∃ (n_5 : Int),
      ∃ (n_6 : Int),
      ∃ (n_7 : Int),
      ∃ (n_8 : Int),
      ∃ (n_9 : Int),
      v =
      Value.tuple
      #[Value.agg
      #[Value.string s, Value.int IntKind.i64 n, Value.int IntKind.i64 n_1, Value.int IntKind.i64 n_2, Value.int IntKind.i64 n_3,
      Value.slice a_2 n_4 c_1, Value.int IntKind.i64 n_5, Value.int IntKind.i64 n_6, Value.int IntKind.i64 n_7,
      Value.int IntKind.i64 n_8],
      Value.int IntKind.i64 n_9] ∧
      ifB (n_9 != (0 : Int))
      (∃ (b : Bool),
      QSpec Try.prog (23 : Nat)
      [Value.agg
      #[Value.string s, Value.int IntKind.i64 n, Value.int IntKind.i64 n_1, Value.int IntKind.i64 n_2, Value.int IntKind.i64 n_3,
      Value.slice a_2 n_4 c_1, Value.int IntKind.i64 n_5, Value.int IntKind.i64 n_6, Value.int IntKind.i64 n_7,
      Value.int IntKind.i64 n_8],
      Value.agg
      #[Value.string { data := #[] : ByteArray }, Value.int IntKind.i64 (0 : Int), Value.int IntKind.i64 (0 : Int),
      Value.int IntKind.i64 (0 : Int), Value.int IntKind.i64 (0 : Int), Value.slice none (0 : Nat) (0 : Nat),
      Value.int IntKind.i64 (0 : Int), Value.int IntKind.i64 (0 : Int), Value.int IntKind.i64 (0 : Int),
      Value.int IntKind.i64 (0 : Int)]]
      m' (Value.bool b) ∧
      Done (Value.bool b = Value.bool true))
      (true = true ∧
      ∀ (b : Nat),
      m'.sz ≤ b →
      ∃ (n_10 : Int),
      ∃ (n_11 : Int),
      QSpec Try.prog (29 : Nat) [Value.slice (some { block := b, off := (0 : Nat) : Addr }) (1 : Nat) (1 : Nat)]
      (m'.newBlock b [Value.int IntKind.i64 x.base]) (Value.agg #[Value.int IntKind.i64 n_10, Value.int IntKind.u64 n_11]) ∧
      (∃ (a_4 : RndX),
      RndI x (rndR x r) ns { π := m.π, sz := N, uf := m.uf : M } a_4 ∧
      m'.newBlock b [Value.int IntKind.i64 x.base] = a_4.m ∧
      ((SV.val (Value.int IntKind.i64 (0 : Int)) = SV.val (Value.int IntKind.i64 (↑a_4.k : Int)) ∧ true = true) ∧
      (SV.own ((0 : Nat) + (0 : Nat)) (0 : Nat) = SV.own (0 : Nat) (0 : Nat) ∧ true = true) ∧
      (SV.val (Value.slice an ns.length cn) = SV.val (Value.slice an ns.length cn) ∧ true = true) ∧
      (SV.own ((0 : Nat) + (2 : Nat) + (2 : Nat) + (6 : Nat)) (0 : Nat) = SV.own (10 : Nat) (0 : Nat) ∧
      true = true) ∧
      (SV.own ((0 : Nat) + (2 : Nat) + (2 : Nat) + (9 : Nat) + (2 : Nat) + (4 : Nat)) (0 : Nat) =
      SV.own (19 : Nat) (0 : Nat) ∧
      true = true) ∧
      True) ∧
      (some
      { ty := (28 : Nat), cs := [Value.string x.key, Value.int IntKind.i64 x.lo, Value.int IntKind.i64 x.hi, Value.int IntKind.i64 x.base, Value.int IntKind.i64 x.round, Value.slice a x.hs.length c, Value.int IntKind.i64 x.lk.cl, Value.int IntKind.i64 x.lk.sq, Value.int IntKind.i64 x.lk.hm, Value.int IntKind.i64 x.lk.n] : Bx } =
      some
      { ty := (28 : TypeId), cs := [Value.string x.key, Value.int IntKind.i64 x.lo, Value.int IntKind.i64 x.hi, Value.int IntKind.i64 x.base, Value.int IntKind.i64 x.round, Value.slice a x.hs.length c, Value.int IntKind.i64 x.lk.cl, Value.int IntKind.i64 x.lk.sq, Value.int IntKind.i64 x.lk.hm, Value.int IntKind.i64 x.lk.n] : Bx } ∧
      true = true) ∧
      (some
      { ty := (28 : Nat), cs := [Value.string s, Value.int IntKind.i64 n, Value.int IntKind.i64 n_1, Value.int IntKind.i64 n_2, Value.int IntKind.i64 n_3, Value.slice a_2 n_4 c_1, Value.int IntKind.i64 n_5, Value.int IntKind.i64 n_6, Value.int IntKind.i64 n_7, Value.int IntKind.i64 n_8] : Bx } =
      some
      { ty := (28 : TypeId), cs := [Value.string x.key, Value.int IntKind.i64 x.lo, Value.int IntKind.i64 x.hi, Value.int IntKind.i64 (x.base + netsSum x.hs ns a_4.k), Value.int IntKind.i64 (rndR x r), Value.slice a_4.a (List.drop a_4.k x.hs).length a_4.c, Value.int IntKind.i64 x.lk.cl, Value.int IntKind.i64 x.lk.sq, Value.int IntKind.i64 x.lk.hm, Value.int IntKind.i64 x.lk.n] : Bx } ∧
      true = true) ∧
      (some { ty := (52 : Nat), cs := [Value.int IntKind.i64 n_10, Value.int IntKind.u64 n_11] : Bx } =
      some
      { ty := (52 : TypeId), cs := [Value.int IntKind.i64 (wideHi (x.base + netsSum x.hs ns a_4.k)), Value.int IntKind.u64 (wideLo (x.base + netsSum x.hs ns a_4.k))] : Bx } ∧
      true = true) ∧
      True) ∧
      ∀ (a_4 : RndX),
      RndI x (rndR x r) ns { π := m.π, sz := N, uf := m.uf : M } a_4 →
      ifB (decide ((↑a_4.k : Int) < (↑x.hs.length : Int)))
      (∃ (b : Nat),
      ∃ (off : Nat),
      a = some { block := b, off := off : Addr } ∧
      ((0 : Int) ≤ (↑a_4.k : Int) ∧ (↑a_4.k : Int) < (↑x.hs.length : Int)) ∧
      ∃ (n : Int),
      ∃ (n_12 : Int),
      ∃ (n_13 : Int),
      ∃ (n_14 : Int),
      CellsAt a_4.m b (off + (↑a_4.k : Int).toNat * (4 : Nat))
      [Value.int IntKind.i64 n, Value.int IntKind.i64 n_12, Value.int IntKind.i64 n_13,
      Value.int IntKind.i64 n_14] ∧
      ifB (decide ((↑a_4.k : Int) < (↑ns.length : Int)))
      (true = true ∧
      ∃ (b : Nat),
      ∃ (off : Nat),
      an = some { block := b, off := off : Addr } ∧
      ((0 : Int) ≤ (↑a_4.k : Int) ∧ (↑a_4.k : Int) < (↑ns.length : Int)) ∧
      ∃ (n_15 : Int),
      CellsAt a_4.m b (off + (↑a_4.k : Int).toNat * (1 : Nat))
      [Value.int IntKind.i64 n_15] ∧
      ∀ (n_16 : Nat),
      a_4.m.sz ≤ n_16 →
      Vc.Spec Try.prog (30 : Nat)
      [Value.agg
      #[Value.string x.key, Value.int IntKind.i64 x.lo,
      Value.int IntKind.i64 x.hi,
      Value.int IntKind.i64 (x.base + netsSum x.hs ns a_4.k),
      Value.int IntKind.i64 (rndR x r),
      Value.slice a_4.a (List.drop a_4.k x.hs).length a_4.c,
      Value.int IntKind.i64 x.lk.cl, Value.int IntKind.i64 x.lk.sq,
      Value.int IntKind.i64 x.lk.hm, Value.int IntKind.i64 x.lk.n],
      Value.int IntKind.i64 n, Value.int IntKind.i64 n_12,
      Value.int IntKind.i64 (IntKind.i64.wrap (rndR x r + (1 : Int))),
      Value.int IntKind.i64
      (if
      (if n_13 < n_15 then n_13 else n_15) >
      IntKind.i64.wrap ((0 : Int) - n_14) then
      if n_13 < n_15 then n_13 else n_15
      else IntKind.i64.wrap ((0 : Int) - n_14))]
      { π := a_4.m.π, sz := n_16, uf := a_4.m.uf : M } fun (v : Value) (m' : M) =>
      ∃ (s : ByteArray),
      ∃ (n_17 : Int),
      ∃ (n_18 : Int),
      ∃ (n_19 : Int),
      ∃ (n_20 : Int),
      ∃ (a_7 : Option Addr),
      ∃ (n_21 : Nat),
      ∃ (c_2 : Nat),
      ∃ (n_22 : Int),
      ∃ (n_23 : Int),
      ∃ (n_24 : Int),
      ∃ (n_25 : Int),
      ∃ (n_26 : Int),
      v =
      Value.tuple
      #[Value.agg
      #[Value.string s,
      Value.int IntKind.i64 n_17,
      Value.int IntKind.i64 n_18,
      Value.int IntKind.i64 n_19,
      Value.int IntKind.i64 n_20,
      Value.slice a_7 n_21 c_2,
      Value.int IntKind.i64 n_22,
      Value.int IntKind.i64 n_23,
      Value.int IntKind.i64 n_24,
      Value.int IntKind.i64 n_25],
      Value.int IntKind.i64 n_26] ∧
      ∀ (n_27 : Nat),
      m'.sz ≤ n_27 →
      Vc.Spec Try.prog (30 : Nat)
      [Value.agg
      #[Value.string x.key,
      Value.int IntKind.i64 x.lo,
      Value.int IntKind.i64 x.hi,
      Value.int IntKind.i64
      (x.base + netsSum x.hs ns a_4.k),
      Value.int IntKind.i64 (rndR x r),
      Value.slice a_4.a
      (List.drop a_4.k x.hs).length
      a_4.c,
      Value.int IntKind.i64 x.lk.cl,
      Value.int IntKind.i64 x.lk.sq,
      Value.int IntKind.i64 x.lk.hm,
      Value.int IntKind.i64 x.lk.n],
      Value.int IntKind.i64 n,
      Value.int IntKind.i64 n_12,
      Value.int IntKind.i64 (rndR x r),
      Value.int IntKind.i64
      (if
      (if n_13 < n_15 then n_13
      else n_15) >
      IntKind.i64.wrap
      ((0 : Int) - n_14) then
      if n_13 < n_15 then n_13 else n_15
      else
      IntKind.i64.wrap
      ((0 : Int) - n_14))]
      { π := m'.π, sz := n_27, uf := m'.uf : M }
      fun (v : Value) (m' : M) =>
      ∃ (s : ByteArray),
      ∃ (n_28 : Int),
      ∃ (n_29 : Int),
      ∃ (n_30 : Int),
      ∃ (n_31 : Int),
      ∃ (a_9 : Option Addr),
      ∃ (n_32 : Nat),
      ∃ (c_3 : Nat),
      ∃ (n_33 : Int),
      ∃ (n_34 : Int),
      ∃ (n_35 : Int),
      ∃ (n_36 : Int),
      ∃ (n_37 : Int),
      v =
      Value.tuple
      #[Value.agg
      #[Value.string
      s,
      Value.int
      IntKind.i64
      n_28,
      Value.int
      IntKind.i64
      n_29,
      Value.int
      IntKind.i64
      n_30,
      Value.int
      IntKind.i64
      n_31,
      Value.slice
      a_9
      n_32
      c_3,
      Value.int
      IntKind.i64
      n_33,
      Value.int
      IntKind.i64
      n_34,
      Value.int
      IntKind.i64
      n_35,
      Value.int
      IntKind.i64
      n_36],
      Value.int
      IntKind.i64
      n_37] ∧
      ∀
      (n_38 :
      Nat),
      m'.sz ≤
      n_38 →
      Vc.Spec
      Try.prog
      (30 :
      Nat)
      [Value.agg
      #[Value.string
      s,
      Value.int
      IntKind.i64
      n_28,
      Value.int
      IntKind.i64
      n_29,
      Value.int
      IntKind.i64
      n_30,
      Value.int
      IntKind.i64
      n_31,
      Value.slice
      a_9
      n_32
      c_3,
      Value.int
      IntKind.i64
      n_33,
      Value.int
      IntKind.i64
      n_34,
      Value.int
      IntKind.i64
      n_35,
      Value.int
      IntKind.i64
      n_36],
      Value.int
      IntKind.i64
      n,
      Value.int
      IntKind.i64
      n_12,
      Value.int
      IntKind.i64
      (rndR
      x
      r),
      Value.int
      IntKind.i64
      (if
      (if
      n_13 <
      n_15 then
      n_13
      else
      n_15) >
      IntKind.i64.wrap
      ((0 :
      Int) -
      n_14) then
      if
      n_13 <
      n_15 then
      n_13
      else
      n_15
      else
      IntKind.i64.wrap
      ((0 :
      Int) -
      n_14))]
      { π := m'.π, sz := n_38, uf := m'.uf : M }
      fun
      (v :
      Value)
      (m' :
      M) =>
      ∃ (s_1 :
      ByteArray),
      ∃ (n :
      Int),
      ∃
      (n_39
      :
      Int),
      ∃
      (n_40
      :
      Int),
      ∃
      (n_41
      :
      Int),
      ∃
      (a_11
      :
      Option
      Addr),
      ∃
      (n_42
      :
      Nat),
      ∃
      (c_4
      :
      Nat),
      ∃
      (n_43
      :
      Int),
      ∃
      (n_44
      :
      Int),
      ∃
      (n_45
      :
      Int),
      ∃
      (n_46
      :
      Int),
      ∃
      (n_47
      :
      Int),
      v =
      Value.tuple
      #[Value.agg
      #[Value.string
      s_1,
      Value.int
      IntKind.i64
      n,
      Value.int
      IntKind.i64
      n_39,
      Value.int
      IntKind.i64
      n_40,
      Value.int
      IntKind.i64
      n_41,
      Value.slice
      a_11
      n_42
      c_4,
      Value.int
      IntKind.i64
      n_43,
      Value.int
      IntKind.i64
      n_44,
      Value.int
      IntKind.i64
      n_45,
      Value.int
      IntKind.i64
      n_46],
      Value.int
      IntKind.i64
      n_47] ∧
      ifB
      (n_26 !=
      (152 :
      Int))
      (Done
      (Value.bool
      false =
      Value.bool
      true))
      (ifB
      (n_37 !=
      (0 :
      Int))
      (Done
      (Value.bool
      false =
      Value.bool
      true))
      (ifB
      (n_47 !=
      (151 :
      Int))
      (Done
      (Value.bool
      false =
      Value.bool
      true))
      (∃
      (n
      :
      Int),
      ∃
      (n_48
      :
      Int),
      QSpec
      Try.prog
      (31 :
      Nat)
      [Value.agg
      #[Value.int
      IntKind.i64
      (wideHi
      (x.base +
      netsSum
      x.hs
      ns
      a_4.k)),
      Value.int
      IntKind.u64
      (wideLo
      (x.base +
      netsSum
      x.hs
      ns
      a_4.k))],
      Value.int
      IntKind.i64
      (if
      (if
      n_13 <
      n_15 then
      n_13
      else
      n_15) >
      IntKind.i64.wrap
      ((0 :
      Int) -
      n_14) then
      if
      n_13 <
      n_15 then
      n_13
      else
      n_15
      else
      IntKind.i64.wrap
      ((0 :
      Int) -
      n_14))]
      m'
      (Value.agg
      #[Value.int
      IntKind.i64
      n,
      Value.int
      IntKind.u64
      n_48]) ∧
      ∃
      (a'
      :
      RndX),
      (RndI
      x
      (rndR
      x
      r)
      ns
      { π := m.π, sz := N, uf := m.uf : M }
      a' ∧
      m' =
      a'.m ∧
      ((SV.val
      (Value.int
      IntKind.i64
      (IntKind.i64.wrap
      ((↑a_4.k :
      Int) +
      (1 :
      Int)))) =
      SV.val
      (Value.int
      IntKind.i64
      (↑a'.k :
      Int)) ∧
      true =
      true) ∧
      (SV.own
      (0 :
      Nat)
      (0 :
      Nat) =
      SV.own
      (0 :
      Nat)
      (0 :
      Nat) ∧
      true =
      true) ∧
      (SV.val
      (Value.slice
      an
      ns.length
      cn) =
      SV.val
      (Value.slice
      an
      ns.length
      cn) ∧
      true =
      true) ∧
      (SV.own
      (10 :
      Nat)
      (0 :
      Nat) =
      SV.own
      (10 :
      Nat)
      (0 :
      Nat) ∧
      true =
      true) ∧
      (SV.own
      (19 :
      Nat)
      (0 :
      Nat) =
      SV.own
      (19 :
      Nat)
      (0 :
      Nat) ∧
      true =
      true) ∧
      True) ∧
      (some
      { ty := (28 : TypeId), cs := [Value.string x.key, Value.int IntKind.i64 x.lo, Value.int IntKind.i64 x.hi, Value.int IntKind.i64 x.base, Value.int IntKind.i64 x.round, Value.slice a x.hs.length c, Value.int IntKind.i64 x.lk.cl, Value.int IntKind.i64 x.lk.sq, Value.int IntKind.i64 x.lk.hm, Value.int IntKind.i64 x.lk.n] : Bx } =
      some
      { ty := (28 : TypeId), cs := [Value.string x.key, Value.int IntKind.i64 x.lo, Value.int IntKind.i64 x.hi, Value.int IntKind.i64 x.base, Value.int IntKind.i64 x.round, Value.slice a x.hs.length c, Value.int IntKind.i64 x.lk.cl, Value.int IntKind.i64 x.lk.sq, Value.int IntKind.i64 x.lk.hm, Value.int IntKind.i64 x.lk.n] : Bx } ∧
      true =
      true) ∧
      (some
      { ty := (28 : TypeId), cs := [Value.string s, Value.int IntKind.i64 n_28, Value.int IntKind.i64 n_29, Value.int IntKind.i64 n_30, Value.int IntKind.i64 n_31, Value.slice a_9 n_32 c_3, Value.int IntKind.i64 n_33, Value.int IntKind.i64 n_34, Value.int IntKind.i64 n_35, Value.int IntKind.i64 n_36] : Bx } =
      some
      { ty := (28 : TypeId), cs := [Value.string x.key, Value.int IntKind.i64 x.lo, Value.int IntKind.i64 x.hi, Value.int IntKind.i64 (x.base + netsSum x.hs ns a'.k), Value.int IntKind.i64 (rndR x r), Value.slice a'.a (List.drop a'.k x.hs).length a'.c, Value.int IntKind.i64 x.lk.cl, Value.int IntKind.i64 x.lk.sq, Value.int IntKind.i64 x.lk.hm, Value.int IntKind.i64 x.lk.n] : Bx } ∧
      true =
      true) ∧
      (some
      { ty := (52 : TypeId), cs := [Value.int IntKind.i64 n, Value.int IntKind.u64 n_48] : Bx } =
      some
      { ty := (52 : TypeId), cs := [Value.int IntKind.i64 (wideHi (x.base + netsSum x.hs ns a'.k)), Value.int IntKind.u64 (wideLo (x.base + netsSum x.hs ns a'.k))] : Bx } ∧
      true =
      true) ∧
      True) ∧
      x.hs.length -
      a'.k <
      x.hs.length -
      a_4.k))))
      (∀ (n_15 : Nat),
      a_4.m.sz ≤ n_15 →
      Vc.Spec Try.prog (30 : Nat)
      [Value.agg
      #[Value.string x.key, Value.int IntKind.i64 x.lo, Value.int IntKind.i64 x.hi,
      Value.int IntKind.i64 (x.base + netsSum x.hs ns a_4.k),
      Value.int IntKind.i64 (rndR x r),
      Value.slice a_4.a (List.drop a_4.k x.hs).length a_4.c,
      Value.int IntKind.i64 x.lk.cl, Value.int IntKind.i64 x.lk.sq,
      Value.int IntKind.i64 x.lk.hm, Value.int IntKind.i64 x.lk.n],
      Value.int IntKind.i64 n, Value.int IntKind.i64 n_12,
      Value.int IntKind.i64 (IntKind.i64.wrap (rndR x r + (1 : Int))),
      Value.int IntKind.i64 (0 : Int)]
      { π := a_4.m.π, sz := n_15, uf := a_4.m.uf : M } fun (v : Value) (m' : M) =>
      ∃ (s : ByteArray),
      ∃ (n_16 : Int),
      ∃ (n_17 : Int),
      ∃ (n_18 : Int),
      ∃ (n_19 : Int),
      ∃ (a_7 : Option Addr),
      ∃ (n_20 : Nat),
      ∃ (c_2 : Nat),
      ∃ (n_21 : Int),
      ∃ (n_22 : Int),
      ∃ (n_23 : Int),
      ∃ (n_24 : Int),
      ∃ (n_25 : Int),
      v =
      Value.tuple
      #[Value.agg
      #[Value.string s, Value.int IntKind.i64 n_16,
      Value.int IntKind.i64 n_17,
      Value.int IntKind.i64 n_18,
      Value.int IntKind.i64 n_19,
      Value.slice a_7 n_20 c_2,
      Value.int IntKind.i64 n_21,
      Value.int IntKind.i64 n_22,
      Value.int IntKind.i64 n_23,
      Value.int IntKind.i64 n_24],
      Value.int IntKind.i64 n_25] ∧
      ∀ (n_26 : Nat),
      m'.sz ≤ n_26 →
      Vc.Spec Try.prog (30 : Nat)
      [Value.agg
      #[Value.string x.key, Value.int IntKind.i64 x.lo,
      Value.int IntKind.i64 x.hi,
      Value.int IntKind.i64
      (x.base + netsSum x.hs ns a_4.k),
      Value.int IntKind.i64 (rndR x r),
      Value.slice a_4.a (List.drop a_4.k x.hs).length
      a_4.c,
      Value.int IntKind.i64 x.lk.cl,
      Value.int IntKind.i64 x.lk.sq,
      Value.int IntKind.i64 x.lk.hm,
      Value.int IntKind.i64 x.lk.n],
      Value.int IntKind.i64 n, Value.int IntKind.i64 n_12,
      Value.int IntKind.i64 (rndR x r),
      Value.int IntKind.i64 (0 : Int)]
      { π := m'.π, sz := n_26, uf := m'.uf : M }
      fun (v : Value) (m' : M) =>
      ∃ (s : ByteArray),
      ∃ (n_27 : Int),
      ∃ (n_28 : Int),
      ∃ (n_29 : Int),
      ∃ (n_30 : Int),
      ∃ (a_9 : Option Addr),
      ∃ (n_31 : Nat),
      ∃ (c_3 : Nat),
      ∃ (n_32 : Int),
      ∃ (n_33 : Int),
      ∃ (n_34 : Int),
      ∃ (n_35 : Int),
      ∃ (n_36 : Int),
      v =
      Value.tuple
      #[Value.agg
      #[Value.string s,
      Value.int
      IntKind.i64
      n_27,
      Value.int
      IntKind.i64
      n_28,
      Value.int
      IntKind.i64
      n_29,
      Value.int
      IntKind.i64
      n_30,
      Value.slice a_9
      n_31 c_3,
      Value.int
      IntKind.i64
      n_32,
      Value.int
      IntKind.i64
      n_33,
      Value.int
      IntKind.i64
      n_34,
      Value.int
      IntKind.i64
      n_35],
      Value.int IntKind.i64
      n_36] ∧
      ∀ (n_37 : Nat),
      m'.sz ≤ n_37 →
      Vc.Spec Try.prog
      (30 : Nat)
      [Value.agg
      #[Value.string s,
      Value.int
      IntKind.i64
      n_27,
      Value.int
      IntKind.i64
      n_28,
      Value.int
      IntKind.i64
      n_29,
      Value.int
      IntKind.i64
      n_30,
      Value.slice a_9
      n_31 c_3,
      Value.int
      IntKind.i64
      n_32,
      Value.int
      IntKind.i64
      n_33,
      Value.int
      IntKind.i64
      n_34,
      Value.int
      IntKind.i64
      n_35],
      Value.int
      IntKind.i64 n,
      Value.int
      IntKind.i64 n_12,
      Value.int
      IntKind.i64
      (rndR x r),
      Value.int
      IntKind.i64
      (0 : Int)]
      { π := m'.π, sz := n_37, uf := m'.uf : M }
      fun (v : Value)
      (m' : M) =>
      ∃ (s_1 : ByteArray),
      ∃ (n : Int),
      ∃ (n_38 : Int),
      ∃ (n_39 : Int),
      ∃ (n_40 :
      Int),
      ∃ (a_11 :
      Option
      Addr),
      ∃ (n_41 :
      Nat),
      ∃ (c_4 :
      Nat),
      ∃
      (n_42
      :
      Int),
      ∃
      (n_43
      :
      Int),
      ∃
      (n_44
      :
      Int),
      ∃
      (n_45
      :
      Int),
      ∃
      (n_46
      :
      Int),
      v =
      Value.tuple
      #[Value.agg
      #[Value.string
      s_1,
      Value.int
      IntKind.i64
      n,
      Value.int
      IntKind.i64
      n_38,
      Value.int
      IntKind.i64
      n_39,
      Value.int
      IntKind.i64
      n_40,
      Value.slice
      a_11
      n_41
      c_4,
      Value.int
      IntKind.i64
      n_42,
      Value.int
      IntKind.i64
      n_43,
      Value.int
      IntKind.i64
      n_44,
      Value.int
      IntKind.i64
      n_45],
      Value.int
      IntKind.i64
      n_46] ∧
      ifB
      (n_25 !=
      (152 :
      Int))
      (Done
      (Value.bool
      false =
      Value.bool
      true))
      (ifB
      (n_36 !=
      (0 :
      Int))
      (Done
      (Value.bool
      false =
      Value.bool
      true))
      (ifB
      (n_46 !=
      (151 :
      Int))
      (Done
      (Value.bool
      false =
      Value.bool
      true))
      (∃
      (n
      :
      Int),
      ∃
      (n_47
      :
      Int),
      QSpec
      Try.prog
      (31 :
      Nat)
      [Value.agg
      #[Value.int
      IntKind.i64
      (wideHi
      (x.base +
      netsSum
      x.hs
      ns
      a_4.k)),
      Value.int
      IntKind.u64
      (wideLo
      (x.base +
      netsSum
      x.hs
      ns
      a_4.k))],
      Value.int
      IntKind.i64
      (0 :
      Int)]
      m'
      (Value.agg
      #[Value.int
      IntKind.i64
      n,
      Value.int
      IntKind.u64
      n_47]) ∧
      ∃
      (a'
      :
      RndX),
      (RndI
      x
      (rndR
      x
      r)
      ns
      { π := m.π, sz := N, uf := m.uf : M }
      a' ∧
      m' =
      a'.m ∧
      ((SV.val
      (Value.int
      IntKind.i64
      (IntKind.i64.wrap
      ((↑a_4.k :
      Int) +
      (1 :
      Int)))) =
      SV.val
      (Value.int
      IntKind.i64
      (↑a'.k :
      Int)) ∧
      true =
      true) ∧
      (SV.own
      (0 :
      Nat)
      (0 :
      Nat) =
      SV.own
      (0 :
      Nat)
      (0 :
      Nat) ∧
      true =
      true) ∧
      (SV.val
      (Value.slice
      an
      ns.length
      cn) =
      SV.val
      (Value.slice
      an
      ns.length
      cn) ∧
      true =
      true) ∧
      (SV.own
      (10 :
      Nat)
      (0 :
      Nat) =
      SV.own
      (10 :
      Nat)
      (0 :
      Nat) ∧
      true =
      true) ∧
      (SV.own
      (19 :
      Nat)
      (0 :
      Nat) =
      SV.own
      (19 :
      Nat)
      (0 :
      Nat) ∧
      true =
      true) ∧
      True) ∧
      (some
      { ty := (28 : TypeId), cs := [Value.string x.key, Value.int IntKind.i64 x.lo, Value.int IntKind.i64 x.hi, Value.int IntKind.i64 x.base, Value.int IntKind.i64 x.round, Value.slice a x.hs.length c, Value.int IntKind.i64 x.lk.cl, Value.int IntKind.i64 x.lk.sq, Value.int IntKind.i64 x.lk.hm, Value.int IntKind.i64 x.lk.n] : Bx } =
      some
      { ty := (28 : TypeId), cs := [Value.string x.key, Value.int IntKind.i64 x.lo, Value.int IntKind.i64 x.hi, Value.int IntKind.i64 x.base, Value.int IntKind.i64 x.round, Value.slice a x.hs.length c, Value.int IntKind.i64 x.lk.cl, Value.int IntKind.i64 x.lk.sq, Value.int IntKind.i64 x.lk.hm, Value.int IntKind.i64 x.lk.n] : Bx } ∧
      true =
      true) ∧
      (some
      { ty := (28 : TypeId), cs := [Value.string s, Value.int IntKind.i64 n_27, Value.int IntKind.i64 n_28, Value.int IntKind.i64 n_29, Value.int IntKind.i64 n_30, Value.slice a_9 n_31 c_3, Value.int IntKind.i64 n_32, Value.int IntKind.i64 n_33, Value.int IntKind.i64 n_34, Value.int IntKind.i64 n_35] : Bx } =
      some
      { ty := (28 : TypeId), cs := [Value.string x.key, Value.int IntKind.i64 x.lo, Value.int IntKind.i64 x.hi, Value.int IntKind.i64 (x.base + netsSum x.hs ns a'.k), Value.int IntKind.i64 (rndR x r), Value.slice a'.a (List.drop a'.k x.hs).length a'.c, Value.int IntKind.i64 x.lk.cl, Value.int IntKind.i64 x.lk.sq, Value.int IntKind.i64 x.lk.hm, Value.int IntKind.i64 x.lk.n] : Bx } ∧
      true =
      true) ∧
      (some
      { ty := (52 : TypeId), cs := [Value.int IntKind.i64 n, Value.int IntKind.u64 n_47] : Bx } =
      some
      { ty := (52 : TypeId), cs := [Value.int IntKind.i64 (wideHi (x.base + netsSum x.hs ns a'.k)), Value.int IntKind.u64 (wideLo (x.base + netsSum x.hs ns a'.k))] : Bx } ∧
      true =
      true) ∧
      True) ∧
      x.hs.length -
      a'.k <
      x.hs.length -
      a_4.k)))))
      (∃ (n : Int),
      ∃ (b : Bool),
      QSpec Try.prog (32 : Nat)
      [Value.agg
      #[Value.int IntKind.i64 (wideHi (x.base + netsSum x.hs ns a_4.k)),
      Value.int IntKind.u64 (wideLo (x.base + netsSum x.hs ns a_4.k))]]
      a_4.m (Value.tuple #[Value.int IntKind.i64 n, Value.bool b]) ∧
      ∃ (n_12 : Int),
      ∃ (b_1 : Bool),
      QSpec Try.prog (17 : Nat)
      [Value.agg
      #[Value.string x.key, Value.int IntKind.i64 x.lo, Value.int IntKind.i64 x.hi,
      Value.int IntKind.i64 (x.base + netsSum x.hs ns a_4.k), Value.int IntKind.i64 (rndR x r),
      Value.slice a_4.a (List.drop a_4.k x.hs).length a_4.c, Value.int IntKind.i64 x.lk.cl,
      Value.int IntKind.i64 x.lk.sq, Value.int IntKind.i64 x.lk.hm, Value.int IntKind.i64 x.lk.n]]
      a_4.m (Value.tuple #[Value.int IntKind.i64 n_12, Value.bool b_1]) ∧
      ifB (x.lk.cl != (0 : Int)) (Done ((Value.bool !b_1) = Value.bool true))
      (ifB b
      (ifB b_1
      (ifB (n_12 == n) (Done (Value.bool (x.base + netsSum x.hs ns a_4.k == n) = Value.bool true))
      (Done (Value.bool false = Value.bool true)))
      (Done (Value.bool false = Value.bool true)))
      (Done (Value.bool false = Value.bool true))))))) (by kernel_rfl) ?_
  refine ⟨rfl, _, awake_q _, ifB_false fun N1 hN1 => (afreeze_s x a c r hx h0 _ (h.sz (Nat.le_trans hN hN1))).mono fun v m' hag ⟨a', c', hv, hr⟩ => ⟨_, _, _, _, _, _, _, _, _, _, _, _, _, hv, ?_⟩⟩
  by_cases he : (aFreeze x r).2 = 0
  · obtain ⟨h1, h2, h3, h4⟩ := aFreeze_ok he
    rw [h4] at hr ⊢
    have hp := (right_iff x).1 h1
    have hR1 : 1 ≤ rndR x r := by have := hp.round; unfold rndR; split <;> omega
    have hR2 : In64 (rndR x r) := by unfold rndR; split; exact hr64; exact hx.round
    have hRw : IntKind.i64.wrap (rndR x r + 1) ≠ rndR x r := by unfold In64 at hR2; simp [IntKind.wrap_i64]; omega
    obtain ⟨g1, g2⟩ := round_right hx h1 (by omega : 0 ≤ rndR x r) hR2
    have s1 : sumI [x.base] = x.base := by simp [sumI]
    have h5 : x.hs.length ≤ 5 := right_len h1
    refine ifB_false ⟨rfl, fun b hb => ⟨_, _, of_q (some ⟨b, 0, none⟩) 1 [x.base] (by simpa using hx.base) (by simp) _ (.at _ _ _ (by simp only [M.newBlock]; omega) cellsAt_new), ⟨⟨0, a', c', _⟩, ⟨Nat.zero_le _, by rw [rnd_zero]; exact g1, by rw [rnd_zero]; exact g2, ?_, ?_⟩, rfl, by simp, ⟨⟨rfl, rfl⟩, ⟨by simp [netsSum], rfl⟩, ⟨by simp [netsSum, s1], rfl⟩, trivial⟩⟩, fun y hy => ifB_intro (fun hb => ?_) (fun hb => ?_)⟩⟩
    · exact (hr.lower hN1).newBlock hb
    · exact (((Agree.szl (B := N) (m := { m with sz := N }) hN1).trans (hag.mono hN1)).trans (newBlock_agreeB (by have := hag.2.2; simp only at this; omega)))
    · have hk2 : y.k < x.hs.length := by simpa using hb
      have eh : hAt x y.k = x.hs[y.k] := by simp [hAt, List.getElem?_eq_getElem hk2]
      have hrow := (h.sz hN).agree hy.ag
      obtain ⟨b1, o1, rfl, hc⟩ := hrow.cells (by rw [hds_len]; omega)
      have hcell := hd_at hc hk2
      have hm : hAt x y.k ∈ (rndA x (rndR x r) ns y.k).hs := by
        rw [show (rndA x (rndR x r) ns y.k).hs = hAt x y.k :: x.hs.drop (y.k + 1) by rw [eh]; exact List.drop_eq_getElem_cons hk2]; simp
      have hroom := hold_room hy.right hm
      have hwh := hx.hs _ (List.getElem_mem hk2)
      rw [eh] at hroom
      have wd : IntKind.i64.wrap (0 - x.hs[y.k].dn) = - x.hs[y.k].dn := by have := hwh.2.2.2; unfold In64 at this; simp [IntKind.wrap_i64]; omega
      obtain ⟨e1, e2, e3, e4, e5, e6⟩ := rnd_step (ns := ns) hk2 hy.right hy.wf (by omega)
      have eb : x.base + netsSum x.hs ns y.k + netOf (hAt x y.k) ns y.k = x.base + netsSum x.hs ns (y.k + 1) := by
        simp only [netsSum, hAt, List.getElem?_eq_getElem hk2]; simp; omega
      have w1 : IntKind.i64.wrap ((y.k : Int) + 1) = ((y.k + 1 : Nat) : Int) := by simp [IntKind.wrap_i64]; omega
      have z0 : y.a = none → (rndA x (rndR x r) ns y.k).hs = [] := fun e => by have := hy.own; rw [e] at this; exact newr_none this
      refine ⟨b1, o1, rfl, by omega, _, _, _, _, by simpa using hcell, ifB_intro (fun h6 => ⟨rfl, ?_⟩) (fun h6 => ?_)⟩
      have hk3 : y.k < ns.length := by simpa using h6
      obtain ⟨b2, o2, rfl, hc2⟩ := ((hn2.sz hN).agree hy.ag).cells (by rw [ints_len]; omega)
      have en : (if (if x.hs[y.k].up < ns[y.k] then x.hs[y.k].up else ns[y.k]) > IntKind.i64.wrap (0 - x.hs[y.k].dn) then if x.hs[y.k].up < ns[y.k] then x.hs[y.k].up else ns[y.k] else IntKind.i64.wrap (0 - x.hs[y.k].dn)) = netOf (hAt x y.k) ns y.k := by
        rw [wd, eh]
        simp only [netOf, List.getElem?_eq_getElem hk3]
        split <;> split <;> omega
      refine ⟨b2, o2, rfl, by omega, ns[y.k], by simpa using ints_at hc2 hk3, ?_⟩
      rw [eh] at en e1 e2 e3 e6 eb
      rw [en]
      rotate_left
      have hk3 : ns.length ≤ y.k := by simp at h6; omega
      have en : netOf (hAt x y.k) ns y.k = 0 := by simp [netOf, List.getElem?_eq_none hk3]
      rw [en] at e1 e2 e3 e6 eb
      rw [eh] at e1 e2 e3
      all_goals
        intro N2 hN2
        refine (areport_s (rndA x (rndR x r) ns y.k) y.a y.c x.hs[y.k].nd x.hs[y.k].le _ _ hy.wf e6 z0 _ (hy.own.row.sz hN2)).mono fun v1 m1 hag1 ⟨a1, c1, hv1, _⟩ => ⟨_, _, _, _, _, _, _, _, _, _, _, _, _, hv1, fun N3 hN3 => ?_⟩
        have row1 := ((hy.own.row.sz hN2).agree hag1).sz hN3
        refine (areport_s (rndA x (rndR x r) ns y.k) y.a y.c x.hs[y.k].nd x.hs[y.k].le (rndR x r) _ hy.wf e6 z0 _ row1).mono fun v2 m2 hag2 ⟨a2, c2, hv2, hr2⟩ => ⟨_, _, _, _, _, _, _, _, _, _, _, _, _, hv2, fun N4 hN4 => ?_⟩
        rw [e2] at hr2 ⊢
        have z1 : a2 = none → (rndA x (rndR x r) ns (y.k + 1)).hs = [] := fun e => by have := hr2; rw [e] at this; exact newr_none this
        refine (areport_s (rndA x (rndR x r) ns (y.k + 1)) a2 c2 x.hs[y.k].nd x.hs[y.k].le (rndR x r) _ e5 e6 z1 _ (hr2.row.sz hN4)).mono fun v3 m3 hag3 ⟨a3, c3, hv3, _⟩ => ⟨_, _, _, _, _, _, _, _, _, _, _, _, _, hv3, ?_⟩
        rw [e3, e1 _ hRw]
        have h3 := hag1.2.2
        have h4 := hag2.2.2
        have h7 := hy.ag.2.2
        simp only at h3 h4 h7
        have A1 : Agree N { m with sz := N } m3 := (((hy.ag.trans (((Agree.szl (B := N) hN2).trans (hag1.mono (by simp only; omega))))).trans ((Agree.szl (B := N) hN3).trans (hag2.mono (by simp only; omega))))).trans ((Agree.szl (B := N) hN4).trans (hag3.mono (by simp only; omega)))
        refine ifB_false (ifB_false (ifB_false ⟨_, _, plus_q _ _ e6 _, ⟨y.k + 1, a2, c2, m3⟩, ⟨⟨hk2, e4, e5, ?_, A1⟩, rfl, ?_, ?_⟩, by simp only; omega⟩))
        · exact (((hr2.lower (by simp only; omega)).sz hN4).agree hag3)
        · exact ⟨⟨by rw [w1], rfl⟩, ⟨rfl, rfl⟩, ⟨rfl, rfl⟩, ⟨rfl, rfl⟩, ⟨rfl, rfl⟩, trivial⟩
        · exact ⟨⟨rfl, rfl⟩, ⟨rfl, rfl⟩, ⟨by rw [← eb], rfl⟩, trivial⟩
    · have hk : y.k = x.hs.length := by have := hy.k; simp at hb; omega
      have hb64 : In64 (x.base + netsSum x.hs ns y.k) := hy.wf.base
      have wb : IntKind.i64.wrap (x.base + netsSum x.hs ns y.k) = x.base + netsSum x.hs ns y.k := by unfold In64 at hb64; simp [IntKind.wrap_i64]; omega
      have hnil : (rndA x (rndR x r) ns y.k).hs = [] := by show x.hs.drop y.k = []; rw [hk, List.drop_length]
      refine ⟨_, _, int_q _ (by unfold In64 at hb64; omega) (by unfold In64 at hb64; omega) _, _, _, total_q (rndA x (rndR x r) ns y.k) y.a y.c hy.wf _ hy.own.row, ifB_intro (fun h6 => ⟨?_⟩) (fun h6 => ?_)⟩
      · have h6 : (rndA x (rndR x r) ns y.k).lk.cl ≠ 0 := by show x.lk.cl ≠ 0; simpa using h6
        simp [totB, h6]
      · have h6 : (rndA x (rndR x r) ns y.k).lk.cl = 0 := by show x.lk.cl = 0; simpa using h6
        have ht : totB (rndA x (rndR x r) ns y.k) = true := by simp [totB, hy.right, h6, hnil]
        rw [ht, wb]
        simp only [hb64, decide_true, if_true]
        refine ifB_true (ifB_true ?_)
        rw [show (rndA x (rndR x r) ns y.k).base = x.base + netsSum x.hs ns y.k from rfl]
        simp only [beq_self_eq_true]
        exact ifB_true ⟨trivial⟩
  · have hb : ((aFreeze x r).2 != 0) = true := by simpa using he
    rw [hb]
    have e := aFreeze_err he
    rw [e] at hr ⊢
    refine ifB_true ⟨_, saccount_q ac0 ac0 a' none c' 0 (wf_key _ (by decide)) (wf_key _ (by decide)) m' hr.row (.nil _), ⟨by simp⟩⟩

end Go.Proofs.Ytlifpjllhibdpaa
