/-
  Contracts of functions of this seat: what each hands back, and what it leaves of memory (acc14). Nothing here is trusted: Lean checks it.
-/
import Derived.Test.YtfkielfnceeedaaAcc13
set_option linter.unusedVariables false
set_option linter.unusedSimpArgs false
namespace Go.Proofs.Ytfkielfnceeedaa
open Go.Vc Go.RowKit
set_option maxRecDepth 100000

def netOf (h : Hd) (ns : List Int) (i : Nat) : Int := match ns[i]? with | some v => max (-h.dn) (min v h.up) | none => 0

def netsSum (hs : List Hd) (ns : List Int) : Nat → Int
  | 0 => 0
  | k + 1 => netsSum hs ns k + (match hs[k]? with | some h => netOf h ns k | none => 0)

def rndA (x : Ac) (R : Int) (ns : List Int) (k : Nat) : Ac := { x with round := R, base := x.base + netsSum x.hs ns k, hs := x.hs.drop k }

structure RndX where
  k : Nat
  a : Option Addr
  c : Nat
  m : M

structure RndI (x : Ac) (R : Int) (ns : List Int) (m : M) (y : RndX) : Prop where
  k : y.k ≤ x.hs.length
  right : rightB (rndA x R ns y.k) = true
  wf : (rndA x R ns y.k).wf
  own : NewR m.sz (fun _ => False) y.m 4 y.a (x.hs.drop y.k).length y.c (hds (x.hs.drop y.k))
  ag : Agree m.sz m y.m

def rndR (x : Ac) (r : Int) : Int := if x.round = 0 then r else x.round

def hAt (x : Ac) (k : Nat) : Hd := (x.hs[k]?).getD hd0

def rndAnn (x : Ac) (a : Option Addr) (c : Nat) (an : Option Addr) (cn : Nat) (ns : List Int) (R : Int) (m : M) : Ann := {
    A := RndX
    inv := RndI x R ns m
    st := fun y => [(10, .val (I y.k)), (3, .own 0 0), (2, .val (.slice an ns.length cn)), (7, .own 10 0), (9, .own 19 0)]
    own := fun y => [(0, ⟨46, acc x a c⟩), (10, ⟨46, acc (rndA x R ns y.k) y.a y.c⟩), (19, ⟨108, [I (wideHi (rndA x R ns y.k).base), U (wideLo (rndA x R ns y.k).base)]⟩)]
    m := fun y => y.m
    μ := fun y => x.hs.length - y.k }

theorem aFreeze_ok {x : Ac} {r : Int} (h : (aFreeze x r).2 = 0) : rightB x = true ∧ 1 ≤ r ∧ r ≤ 4611686018427387904 ∧ aFreeze x r = ({ x with round := rndR x r }, 0) := by
  unfold aFreeze at h ⊢
  split at h
  · simp at h
  split at h
  · simp at h
  rename_i h1 h2
  refine ⟨by simpa using h1, by omega, by omega, by simp only [h1, h2, if_false, rndR]; simp⟩

theorem aFreeze_err {x : Ac} {r : Int} (h : (aFreeze x r).2 ≠ 0) : aFreeze x r = (ac0, (aFreeze x r).2) := by
  unfold aFreeze at h ⊢
  repeat' split
  all_goals simp_all

theorem round_right {x : Ac} {r : Int} (hx : x.wf) (hr : rightB x = true) (h : 0 ≤ r) (h2 : In64 r) : rightB { x with round := r } = true ∧ ({ x with round := r } : Ac).wf := by
  have hp := (right_iff x).1 hr
  refine ⟨(right_iff _).2 ⟨hp.key, hp.has, h, hp.hold, hp.up, hp.dn, ?_⟩, ⟨hx.key, hx.lo, hx.hi, hx.base, h2, hx.hs, hx.len, hx.lk⟩⟩
  have := hp.lock
  simp only [lockB, fitsB] at this ⊢
  exact this

theorem rnd_zero (x : Ac) (R : Int) (ns : List Int) : rndA x R ns 0 = { x with round := R } := by simp [rndA, netsSum]

theorem find_head {x : Ac} {h : Hd} {r : List Hd} (hr : rightB x = true) (he : x.hs = h :: r) : findB x h.nd = true ∧ findH x h.nd = h := by
  simp [findB, findH, hr, he, fndH]

theorem find_gone {x : Ac} {nd : Int} (hr : holdB nd x.hs = true) : findB x nd = false := by
  have : fndH x.hs nd = none := by
    unfold fndH
    rw [List.find?_eq_none]
    intro z hz
    have := hold_mem _ _ hr z hz
    simp; omega
  simp [findB, this]

theorem rnd_step {x : Ac} {R : Int} {ns : List Int} {k : Nat} (hk : k < x.hs.length) (hr : rightB (rndA x R ns k) = true) (hw : (rndA x R ns k).wf) (hR : R ≠ 0) :
    (∀ q, q ≠ R → aReport (rndA x R ns k) (hAt x k).nd (hAt x k).le q (netOf (hAt x k) ns k) = (ac0, 152)) ∧
    aReport (rndA x R ns k) (hAt x k).nd (hAt x k).le R (netOf (hAt x k) ns k) = (rndA x R ns (k + 1), 0) ∧
    aReport (rndA x R ns (k + 1)) (hAt x k).nd (hAt x k).le R (netOf (hAt x k) ns k) = (ac0, 151) ∧
    rightB (rndA x R ns (k + 1)) = true ∧ (rndA x R ns (k + 1)).wf ∧ In64 (netOf (hAt x k) ns k) := by
  have eh : hAt x k = x.hs[k] := by simp [hAt, List.getElem?_eq_getElem hk]
  have ehs : (rndA x R ns k).hs = hAt x k :: x.hs.drop (k + 1) := by rw [eh]; exact List.drop_eq_getElem_cons hk
  obtain ⟨f1, f2⟩ := find_head hr ehs
  have hm : hAt x k ∈ (rndA x R ns k).hs := by rw [ehs]; simp
  have hroom := hold_room hr hm
  have hhold := ((right_iff _).1 hr).hold
  rw [ehs] at hhold
  have hnet : netOf (hAt x k) ns k ≤ (hAt x k).up ∧ -(hAt x k).dn ≤ netOf (hAt x k) ns k := by
    unfold netOf
    split <;> omega
  have ecut : ({ rndA x R ns k with base := (rndA x R ns k).base + netOf (hAt x k) ns k, hs := (rndA x R ns k).hs.filter fun z => decide (z.nd ≠ (hAt x k).nd) } : Ac) = rndA x R ns (k + 1) := by
    rw [ehs, hold_cut hhold]
    simp only [rndA, netsSum, eh, List.getElem?_eq_getElem hk]
    simp; omega
  have hcut := cut_right hw hr hm hnet.1 hnet.2
  rw [ecut] at hcut
  have hwf := hw.hs _ hm
  refine ⟨fun q hq => ?_, ?_, ?_, hcut.1, hcut.2, ?_⟩
  · have hq' : (rndA x R ns k).round ≠ q := fun e => hq e.symm
    simp [aReport, hr, f1, f2, hq']
  · have hr1 : (rndA x R ns k).round = R := rfl
    have hnb : ¬ ((hAt x k).up < netOf (hAt x k) ns k ∨ netOf (hAt x k) ns k < -(hAt x k).dn) := by omega
    rw [← ecut]
    simp only [aReport, hr, f1, f2, hr1, hnb, hR]
    simp
  · have : findB (rndA x R ns (k + 1)) (hAt x k).nd = false := find_gone (by
      simp only [holdB, Bool.and_eq_true] at hhold
      exact hhold.2)
    simp [aReport, hcut.1, this]
  · unfold In64
    have h1 := hwf.2.2.1
    have h2 := hwf.2.2.2
    unfold In64 at h1 h2
    omega

end Go.Proofs.Ytfkielfnceeedaa
