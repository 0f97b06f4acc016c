/-
  Contracts of functions of this seat: what each hands back, and what it leaves of memory (led6). Nothing here is trusted: Lean checks it.
-/
import Derived.Test.YtfkielfnceeedaaLed5
import Derived.Test.YtfkielfnceeedaaAcc13
set_option linter.unusedVariables false
set_option linter.unusedSimpArgs false
namespace Go.Proofs.Ytfkielfnceeedaa
open Go.Vc Go.RowKit
set_option maxRecDepth 100000

def groupB (g : Int) : Bool := decide (1 ≤ g) && decide (g < 8)

def heldE (l : List Rt) (g : Int) (x : Ac) (nd : Int) (zero : Bool) : Int :=
  if ledB none l = false ∨ rightB x = false then 21 else if groupB g = false ∨ zero = true then 1 else if findB x nd = false then 151 else if x.round ≠ 0 then 152 else 0

def heldH (l : List Rt) (g : Int) (x : Ac) (nd : Int) (zero : Bool) : Hd := if heldE l g x nd zero = 0 then findH x nd else hd0

theorem mem_sum (f : Hd → Int) : ∀ {l : List Hd} {h : Hd}, (∀ y ∈ l, 0 ≤ f y) → h ∈ l → f h ≤ sumI (l.map f) ∧ 0 ≤ sumI (l.map f)
  | x :: r, h, hp, hm => by
    have h0 := hp x (by simp)
    rw [List.map_cons, sumI_cons]
    have hr : 0 ≤ sumI (r.map f) := by
      cases r with
      | nil => simp [sumI]
      | cons y ys => exact (mem_sum f (h := y) (fun z hz => hp z (by simp [List.mem_cons.1 hz])) (by simp)).2
    rcases List.mem_cons.1 hm with rfl | hm
    · omega
    · have := mem_sum f (fun z hz => hp z (by simp [hz])) hm
      omega

/-- what a holder that was found may be -/
structure HdP (x : Ac) (h : Hd) : Prop where
  mem : h ∈ x.hs
  right : rightB x = true
  le : 1 ≤ h.le
  up : 0 ≤ h.up ∧ h.up ≤ 9223372036854775807
  dn : 0 ≤ h.dn ∧ h.dn ≤ 9223372036854775807
  wf : h.wf
  hi : x.base + h.up ≤ x.hi
  lo : x.lo ≤ x.base - h.dn

theorem find_fact {x : Ac} {nd : Int} (hx : x.wf) (h : findB x nd = true) : HdP x (findH x nd) := by
  simp only [findB, Bool.and_eq_true] at h
  obtain ⟨hr, hs⟩ := h
  obtain ⟨z, hz⟩ := Option.isSome_iff_exists.1 hs
  have e : findH x nd = z := by simp [findH, hr, hz]
  rw [e]
  have hm : z ∈ x.hs := List.mem_of_find?_eq_some hz
  have hp := (right_iff x).1 hr
  have hh := hold_mem _ _ hp.hold
  have hw := hx.hs z hm
  have h1 := hh z hm
  have s1 := mem_sum (fun y => y.up) (fun y hy => (hh y hy).2.2.2.1) hm
  have s2 := mem_sum (fun y => y.dn) (fun y hy => (hh y hy).2.2.2.2) hm
  have u := hp.up
  have d := hp.dn
  have eu : sumI (upsL x) = x.base + sumI (x.hs.map (·.up)) := by unfold upsL; rw [sumI_cons]
  have ed : sumI (dnsL x) = x.base - sumI (x.hs.map (·.dn)) := by
    unfold dnsL; rw [sumI_cons]
    have : ∀ l : List Hd, sumI (l.map fun h => -h.dn) = - sumI (l.map (·.dn)) := fun l => by
      induction l with
      | nil => rfl
      | cons y ys ih => rw [List.map_cons, List.map_cons, sumI_cons, sumI_cons, ih]; omega
    rw [this]; omega
  have w1 : In64 z.up := hw.2.2.1
  have w2 : In64 z.dn := hw.2.2.2
  unfold In64 at w1 w2
  exact ⟨hm, hr, h1.2.2.1, by omega, by omega, hw, by omega, by omega⟩

theorem net_in {l : List Rt} (h : ∀ r ∈ l, r.wf) (g : Int) (k : ByteArray) (le : Int) : In64 (netR l g k le) := by
  unfold netR
  split
  · cases hf : l.find? (isN g k le) with
    | none => simp [In64]
    | some z => exact (h z (List.mem_of_find?_eq_some hf)).2.2.2
  · simp [In64]

theorem holder_q (al : Option Addr) (cl : Nat) (l : List Rt) (g : Int) (x : Ac) (a : Option Addr) (c : Nat) (nd n : Int) (hl : l.length ≤ 9223372036854775807) (hx : x.wf) (m : M) (h1 : Row m al (rts l)) (h2 : Row m a (hds x.hs)) :
    QSpec Try.prog 54 [.slice al l.length cl, I g, acv x a c, I nd, I n] m (.tuple #[hdv (heldH l g x nd (decide (n = 0))), I (heldE l g x nd (decide (n = 0)))]) := by
  refine QSpec.of_vc Try.func54 (ann := fun _ => noAnn) fun N hN => ?_
  refine vc_by (X :=
      true = true ∧
      ∃ (n_1 : Int),
      QSpec Try.prog (14 : Nat) [Value.slice al l.length cl] { π := m.π, sz := N, uf := m.uf : M } (Value.int IntKind.i64 n_1) ∧
      ifB (n_1 != (0 : Int))
      (Done
      (Value.tuple
      #[Value.agg #[Value.int IntKind.i64 (0 : Int), Value.int IntKind.i64 (0 : Int), Value.int IntKind.i64 (0 : Int), Value.int IntKind.i64 (0 : Int)],
      Value.int IntKind.i64 (21 : Int)] =
      Value.tuple
      #[Value.agg
      #[Value.int IntKind.i64 (heldH l g x nd (decide (n = (0 : Int)))).nd, Value.int IntKind.i64 (heldH l g x nd (decide (n = (0 : Int)))).le,
      Value.int IntKind.i64 (heldH l g x nd (decide (n = (0 : Int)))).up, Value.int IntKind.i64 (heldH l g x nd (decide (n = (0 : Int)))).dn],
      Value.int IntKind.i64 (heldE l g x nd (decide (n = (0 : Int))))]))
      (∃ (n_2 : Int),
      QSpec Try.prog (47 : Nat)
      [Value.agg
      #[Value.string x.key, Value.int IntKind.i64 x.lo, Value.int IntKind.i64 x.hi, Value.int IntKind.i64 x.base, Value.int IntKind.i64 x.round,
      Value.slice a x.hs.length c, Value.int IntKind.i64 x.lk.cl, Value.int IntKind.i64 x.lk.sq, Value.int IntKind.i64 x.lk.hm, Value.int IntKind.i64 x.lk.n]]
      { π := m.π, sz := N, uf := m.uf : M } (Value.int IntKind.i64 n_2) ∧
      ifB (n_2 != (0 : Int))
      (Done
      (Value.tuple
      #[Value.agg #[Value.int IntKind.i64 (0 : Int), Value.int IntKind.i64 (0 : Int), Value.int IntKind.i64 (0 : Int), Value.int IntKind.i64 (0 : Int)],
      Value.int IntKind.i64 (21 : Int)] =
      Value.tuple
      #[Value.agg
      #[Value.int IntKind.i64 (heldH l g x nd (decide (n = (0 : Int)))).nd, Value.int IntKind.i64 (heldH l g x nd (decide (n = (0 : Int)))).le,
      Value.int IntKind.i64 (heldH l g x nd (decide (n = (0 : Int)))).up, Value.int IntKind.i64 (heldH l g x nd (decide (n = (0 : Int)))).dn],
      Value.int IntKind.i64 (heldE l g x nd (decide (n = (0 : Int))))]))
      (∃ (b : Bool),
      QSpec Try.prog (63 : Nat) [Value.int IntKind.i64 g] { π := m.π, sz := N, uf := m.uf : M } (Value.bool b) ∧
      ifB (!b)
      (Done
      (Value.tuple
      #[Value.agg #[Value.int IntKind.i64 (0 : Int), Value.int IntKind.i64 (0 : Int), Value.int IntKind.i64 (0 : Int), Value.int IntKind.i64 (0 : Int)],
      Value.int IntKind.i64 (1 : Int)] =
      Value.tuple
      #[Value.agg
      #[Value.int IntKind.i64 (heldH l g x nd (decide (n = (0 : Int)))).nd, Value.int IntKind.i64 (heldH l g x nd (decide (n = (0 : Int)))).le,
      Value.int IntKind.i64 (heldH l g x nd (decide (n = (0 : Int)))).up, Value.int IntKind.i64 (heldH l g x nd (decide (n = (0 : Int)))).dn],
      Value.int IntKind.i64 (heldE l g x nd (decide (n = (0 : Int))))]))
      (ifB (n == (0 : Int))
      (Done
      (Value.tuple
      #[Value.agg #[Value.int IntKind.i64 (0 : Int), Value.int IntKind.i64 (0 : Int), Value.int IntKind.i64 (0 : Int), Value.int IntKind.i64 (0 : Int)],
      Value.int IntKind.i64 (1 : Int)] =
      Value.tuple
      #[Value.agg
      #[Value.int IntKind.i64 (heldH l g x nd (decide (n = (0 : Int)))).nd, Value.int IntKind.i64 (heldH l g x nd (decide (n = (0 : Int)))).le,
      Value.int IntKind.i64 (heldH l g x nd (decide (n = (0 : Int)))).up, Value.int IntKind.i64 (heldH l g x nd (decide (n = (0 : Int)))).dn],
      Value.int IntKind.i64 (heldE l g x nd (decide (n = (0 : Int))))]))
      (∃ (n_3 : Int),
      ∃ (n_4 : Int),
      ∃ (n_5 : Int),
      ∃ (n_6 : Int),
      ∃ (b : Bool),
      QSpec Try.prog (33 : Nat)
      [Value.agg
      #[Value.string x.key, Value.int IntKind.i64 x.lo, Value.int IntKind.i64 x.hi, Value.int IntKind.i64 x.base, Value.int IntKind.i64 x.round,
      Value.slice a x.hs.length c, Value.int IntKind.i64 x.lk.cl, Value.int IntKind.i64 x.lk.sq, Value.int IntKind.i64 x.lk.hm,
      Value.int IntKind.i64 x.lk.n],
      Value.int IntKind.i64 nd]
      { π := m.π, sz := N, uf := m.uf : M }
      (Value.tuple
      #[Value.agg #[Value.int IntKind.i64 n_3, Value.int IntKind.i64 n_4, Value.int IntKind.i64 n_5, Value.int IntKind.i64 n_6], Value.bool b]) ∧
      ifB (!b)
      (Done
      (Value.tuple
      #[Value.agg
      #[Value.int IntKind.i64 (0 : Int), Value.int IntKind.i64 (0 : Int), Value.int IntKind.i64 (0 : Int), Value.int IntKind.i64 (0 : Int)],
      Value.int IntKind.i64 (151 : Int)] =
      Value.tuple
      #[Value.agg
      #[Value.int IntKind.i64 (heldH l g x nd (decide (n = (0 : Int)))).nd,
      Value.int IntKind.i64 (heldH l g x nd (decide (n = (0 : Int)))).le,
      Value.int IntKind.i64 (heldH l g x nd (decide (n = (0 : Int)))).up,
      Value.int IntKind.i64 (heldH l g x nd (decide (n = (0 : Int)))).dn],
      Value.int IntKind.i64 (heldE l g x nd (decide (n = (0 : Int))))]))
      (ifB (x.round != (0 : Int))
      (Done
      (Value.tuple
      #[Value.agg
      #[Value.int IntKind.i64 (0 : Int), Value.int IntKind.i64 (0 : Int), Value.int IntKind.i64 (0 : Int),
      Value.int IntKind.i64 (0 : Int)],
      Value.int IntKind.i64 (152 : Int)] =
      Value.tuple
      #[Value.agg
      #[Value.int IntKind.i64 (heldH l g x nd (decide (n = (0 : Int)))).nd,
      Value.int IntKind.i64 (heldH l g x nd (decide (n = (0 : Int)))).le,
      Value.int IntKind.i64 (heldH l g x nd (decide (n = (0 : Int)))).up,
      Value.int IntKind.i64 (heldH l g x nd (decide (n = (0 : Int)))).dn],
      Value.int IntKind.i64 (heldE l g x nd (decide (n = (0 : Int))))]))
      (Done
      (Value.tuple
      #[Value.agg #[Value.int IntKind.i64 n_3, Value.int IntKind.i64 n_4, Value.int IntKind.i64 n_5, Value.int IntKind.i64 n_6],
      Value.int IntKind.i64 (0 : Int)] =
      Value.tuple
      #[Value.agg
      #[Value.int IntKind.i64 (heldH l g x nd (decide (n = (0 : Int)))).nd,
      Value.int IntKind.i64 (heldH l g x nd (decide (n = (0 : Int)))).le,
      Value.int IntKind.i64 (heldH l g x nd (decide (n = (0 : Int)))).up,
      Value.int IntKind.i64 (heldH l g x nd (decide (n = (0 : Int)))).dn],
      Value.int IntKind.i64 (heldE l g x nd (decide (n = (0 : Int))))])))))))) (by kernel_rfl) ?_
  have k1 := h1.sz hN
  have k2 := h2.sz hN
  refine ⟨rfl, _, lcheck_q al cl l hl _ k1, ?_⟩
  cases ht : ledB none l
  · exact ifB_true ⟨by simp [heldH, heldE, ht, hd0]⟩
  refine ifB_false ⟨_, check_q x a c hx _ k2, ?_⟩
  cases hr : rightB x
  · exact ifB_true ⟨by simp [heldH, heldE, ht, hr, hd0]⟩
  refine ifB_false ⟨_, group_q g _, ifB_intro (fun q1 => ⟨?_⟩) (fun q1 => ifB_intro (fun q2 => ⟨?_⟩) (fun q2 => ⟨_, _, _, _, _, find_q x a c nd hx _ k2, ifB_intro (fun q3 => ⟨?_⟩) (fun q3 => ifB_intro (fun q4 => ⟨?_⟩) (fun q4 => ⟨?_⟩))⟩))⟩
  · have q1 : groupB g = false := by simp at q1; simp [groupB]; omega
    simp [heldH, heldE, ht, hr, q1, hd0]
  all_goals have q1 : groupB g = true := by simpa [groupB] using q1
  · have q2 : n = 0 := by simpa using q2
    simp [heldH, heldE, ht, hr, q1, q2, hd0]
  all_goals have q2 : ¬ n = 0 := by simpa using q2
  · have q3 : findB x nd = false := by simpa using q3
    simp [heldH, heldE, ht, hr, q1, q2, q3, hd0]
  all_goals have q3 : findB x nd = true := by simpa using q3
  · have q4 : x.round ≠ 0 := by simpa using q4
    simp [heldH, heldE, ht, hr, q1, q2, q3, q4, hd0]
  · have q4 : x.round = 0 := by simpa using q4
    simp [heldH, heldE, ht, hr, q1, q2, q3, q4]

theorem held_q (al : Option Addr) (cl : Nat) (l : List Rt) (g : Int) (x : Ac) (a : Option Addr) (c : Nat) (nd : Int) (z : Bool) (hl : l.length ≤ 9223372036854775807) (hx : x.wf) (m : M) (h1 : Row m al (rts l)) (h2 : Row m a (hds x.hs)) :
    QSpec Try.prog 57 [.slice al l.length cl, I g, acv x a c, I nd, .bool z] m (.tuple #[hdv (heldH l g x nd z), I (heldE l g x nd z)]) := by
  refine QSpec.of_vc Try.func57 (ann := fun _ => noAnn) fun N hN => ?_
  refine vc_by (X :=
      true = true ∧
      ∃ (b : Bool),
      QSpec Try.prog (10 : Nat) [Value.slice al l.length cl] { π := m.π, sz := N, uf := m.uf : M } (Value.bool b) ∧
      ifB (!b)
      (Done
      (Value.tuple
      #[Value.agg #[Value.int IntKind.i64 (0 : Int), Value.int IntKind.i64 (0 : Int), Value.int IntKind.i64 (0 : Int), Value.int IntKind.i64 (0 : Int)],
      Value.int IntKind.i64 (21 : Int)] =
      Value.tuple
      #[Value.agg
      #[Value.int IntKind.i64 (heldH l g x nd z).nd, Value.int IntKind.i64 (heldH l g x nd z).le, Value.int IntKind.i64 (heldH l g x nd z).up,
      Value.int IntKind.i64 (heldH l g x nd z).dn],
      Value.int IntKind.i64 (heldE l g x nd z)]))
      (∃ (b : Bool),
      QSpec Try.prog (32 : Nat)
      [Value.agg
      #[Value.string x.key, Value.int IntKind.i64 x.lo, Value.int IntKind.i64 x.hi, Value.int IntKind.i64 x.base, Value.int IntKind.i64 x.round,
      Value.slice a x.hs.length c, Value.int IntKind.i64 x.lk.cl, Value.int IntKind.i64 x.lk.sq, Value.int IntKind.i64 x.lk.hm, Value.int IntKind.i64 x.lk.n]]
      { π := m.π, sz := N, uf := m.uf : M } (Value.bool b) ∧
      ifB (!b)
      (Done
      (Value.tuple
      #[Value.agg #[Value.int IntKind.i64 (0 : Int), Value.int IntKind.i64 (0 : Int), Value.int IntKind.i64 (0 : Int), Value.int IntKind.i64 (0 : Int)],
      Value.int IntKind.i64 (21 : Int)] =
      Value.tuple
      #[Value.agg
      #[Value.int IntKind.i64 (heldH l g x nd z).nd, Value.int IntKind.i64 (heldH l g x nd z).le, Value.int IntKind.i64 (heldH l g x nd z).up,
      Value.int IntKind.i64 (heldH l g x nd z).dn],
      Value.int IntKind.i64 (heldE l g x nd z)]))
      (∃ (b : Bool),
      QSpec Try.prog (64 : Nat) [Value.int IntKind.i64 g] { π := m.π, sz := N, uf := m.uf : M } (Value.bool b) ∧
      ifB (!b)
      (Done
      (Value.tuple
      #[Value.agg #[Value.int IntKind.i64 (0 : Int), Value.int IntKind.i64 (0 : Int), Value.int IntKind.i64 (0 : Int), Value.int IntKind.i64 (0 : Int)],
      Value.int IntKind.i64 (1 : Int)] =
      Value.tuple
      #[Value.agg
      #[Value.int IntKind.i64 (heldH l g x nd z).nd, Value.int IntKind.i64 (heldH l g x nd z).le, Value.int IntKind.i64 (heldH l g x nd z).up,
      Value.int IntKind.i64 (heldH l g x nd z).dn],
      Value.int IntKind.i64 (heldE l g x nd z)]))
      (ifB z
      (Done
      (Value.tuple
      #[Value.agg #[Value.int IntKind.i64 (0 : Int), Value.int IntKind.i64 (0 : Int), Value.int IntKind.i64 (0 : Int), Value.int IntKind.i64 (0 : Int)],
      Value.int IntKind.i64 (1 : Int)] =
      Value.tuple
      #[Value.agg
      #[Value.int IntKind.i64 (heldH l g x nd z).nd, Value.int IntKind.i64 (heldH l g x nd z).le, Value.int IntKind.i64 (heldH l g x nd z).up,
      Value.int IntKind.i64 (heldH l g x nd z).dn],
      Value.int IntKind.i64 (heldE l g x nd z)]))
      (∃ (n : Int),
      ∃ (n_1 : Int),
      ∃ (n_2 : Int),
      ∃ (n_3 : Int),
      ∃ (b : Bool),
      QSpec Try.prog (52 : Nat)
      [Value.agg
      #[Value.string x.key, Value.int IntKind.i64 x.lo, Value.int IntKind.i64 x.hi, Value.int IntKind.i64 x.base, Value.int IntKind.i64 x.round,
      Value.slice a x.hs.length c, Value.int IntKind.i64 x.lk.cl, Value.int IntKind.i64 x.lk.sq, Value.int IntKind.i64 x.lk.hm,
      Value.int IntKind.i64 x.lk.n],
      Value.int IntKind.i64 nd]
      { π := m.π, sz := N, uf := m.uf : M }
      (Value.tuple
      #[Value.agg #[Value.int IntKind.i64 n, Value.int IntKind.i64 n_1, Value.int IntKind.i64 n_2, Value.int IntKind.i64 n_3], Value.bool b]) ∧
      ifB (!b)
      (Done
      (Value.tuple
      #[Value.agg
      #[Value.int IntKind.i64 (0 : Int), Value.int IntKind.i64 (0 : Int), Value.int IntKind.i64 (0 : Int), Value.int IntKind.i64 (0 : Int)],
      Value.int IntKind.i64 (151 : Int)] =
      Value.tuple
      #[Value.agg
      #[Value.int IntKind.i64 (heldH l g x nd z).nd, Value.int IntKind.i64 (heldH l g x nd z).le,
      Value.int IntKind.i64 (heldH l g x nd z).up, Value.int IntKind.i64 (heldH l g x nd z).dn],
      Value.int IntKind.i64 (heldE l g x nd z)]))
      (ifB (x.round != (0 : Int))
      (Done
      (Value.tuple
      #[Value.agg
      #[Value.int IntKind.i64 (0 : Int), Value.int IntKind.i64 (0 : Int), Value.int IntKind.i64 (0 : Int),
      Value.int IntKind.i64 (0 : Int)],
      Value.int IntKind.i64 (152 : Int)] =
      Value.tuple
      #[Value.agg
      #[Value.int IntKind.i64 (heldH l g x nd z).nd, Value.int IntKind.i64 (heldH l g x nd z).le,
      Value.int IntKind.i64 (heldH l g x nd z).up, Value.int IntKind.i64 (heldH l g x nd z).dn],
      Value.int IntKind.i64 (heldE l g x nd z)]))
      (Done
      (Value.tuple
      #[Value.agg #[Value.int IntKind.i64 n, Value.int IntKind.i64 n_1, Value.int IntKind.i64 n_2, Value.int IntKind.i64 n_3],
      Value.int IntKind.i64 (0 : Int)] =
      Value.tuple
      #[Value.agg
      #[Value.int IntKind.i64 (heldH l g x nd z).nd, Value.int IntKind.i64 (heldH l g x nd z).le,
      Value.int IntKind.i64 (heldH l g x nd z).up, Value.int IntKind.i64 (heldH l g x nd z).dn],
      Value.int IntKind.i64 (heldE l g x nd z)])))))))) (by kernel_rfl) ?_
  have k1 := h1.sz hN
  have k2 := h2.sz hN
  refine ⟨rfl, _, rright_l al cl l hl _ k1, ?_⟩
  cases ht : ledB none l
  · exact ifB_true ⟨by simp [heldH, heldE, ht, hd0]⟩
  refine ifB_false ⟨_, rright_q x a c hx _ k2, ?_⟩
  cases hr : rightB x
  · exact ifB_true ⟨by simp [heldH, heldE, ht, hr, hd0]⟩
  refine ifB_false ⟨_, rgroup_q g _, ifB_intro (fun q1 => ⟨?_⟩) (fun q1 => ifB_intro (fun q2 => ⟨?_⟩) (fun q2 => ⟨_, _, _, _, _, rfind_q x a c nd hx _ k2, ifB_intro (fun q3 => ⟨?_⟩) (fun q3 => ifB_intro (fun q4 => ⟨?_⟩) (fun q4 => ⟨?_⟩))⟩))⟩
  · have q1 : groupB g = false := by simp at q1; simp [groupB]; omega
    simp [heldH, heldE, ht, hr, q1, hd0]
  all_goals have q1 : groupB g = true := by simpa [groupB] using q1
  · have q2 : z = true := q2
    simp [heldH, heldE, ht, hr, q1, q2, hd0]
  all_goals have q2 : z = false := q2
  · have q3 : findB x nd = false := by simpa using q3
    simp [heldH, heldE, ht, hr, q1, q2, q3, hd0]
  all_goals have q3 : findB x nd = true := by simpa using q3
  · have q4 : x.round ≠ 0 := by simpa using q4
    simp [heldH, heldE, ht, hr, q1, q2, q3, q4, hd0]
  · have q4 : x.round = 0 := by simpa using q4
    simp [heldH, heldE, ht, hr, q1, q2, q3, q4]

def inB (h : Hd) (n : Int) : Bool := decide (n ≤ h.up) && decide (-h.dn ≤ n)

theorem within_q (h : Hd) (n : Int) (hd : 0 ≤ h.dn ∧ h.dn ≤ 9223372036854775807) (m : M) : QSpec Try.prog 56 [hdv h, I n] m (.bool (inB h n)) := by
  refine QSpec.of_vc Try.func56 (ann := fun _ => noAnn) fun N hN => ?_
  refine vc_by (X :=
      true = true ∧ ifB (decide (n ≤ h.up)) (Done (Value.bool (decide (n ≥ IntKind.i64.wrap ((0 : Int) - h.dn))) = Value.bool (inB h n))) (Done (Value.bool false = Value.bool (inB h n)))) (by kernel_rfl) ?_
  have w : IntKind.i64.wrap (0 - h.dn) = -h.dn := by simp [IntKind.wrap_i64]; omega
  rw [w]
  refine ⟨rfl, ifB_intro (fun q => ⟨?_⟩) (fun q => ⟨?_⟩)⟩
  · simp at q; simp [inB, q]
  · simp at q; simp [inB]; omega

theorem rwithin_q (h : Hd) (t n : Int) (hu : In64 h.up) (hd : 0 ≤ h.dn ∧ h.dn ≤ 9223372036854775807) (ht : In64 t) (hn : In64 n) (m : M) : QSpec Try.prog 58 [hdv h, I t, I n] m (.bool (inB h (t + n))) := by
  refine QSpec.of_vc Try.func58 (ann := fun _ => noAnn) fun N hN => ?_
  refine vc_by (X :=
      true = true ∧
      true = true ∧
      ∀ (b : Nat),
      N ≤ b →
      ∃ (n_1 : Int),
      ∃ (n_2 : Int),
      QSpec Try.prog (60 : Nat) [Value.slice (some { block := b, off := (0 : Nat) : Addr }) (2 : Nat) (2 : Nat)]
      ({ π := m.π, sz := N, uf := m.uf : M }.newBlock b [Value.int IntKind.i64 t, Value.int IntKind.i64 n])
      (Value.agg #[Value.int IntKind.i64 n_1, Value.int IntKind.u64 n_2]) ∧
      ∃ (b_1 : Bool),
      QSpec Try.prog (70 : Nat) [Value.agg #[Value.int IntKind.i64 n_1, Value.int IntKind.u64 n_2], Value.int IntKind.i64 h.up]
      ({ π := m.π, sz := N, uf := m.uf : M }.newBlock b [Value.int IntKind.i64 t, Value.int IntKind.i64 n]) (Value.bool b_1) ∧
      ifB (!b_1)
      (∃ (n_3 : Int),
      ∃ (n_4 : Int),
      QSpec Try.prog (83 : Nat) [Value.agg #[Value.int IntKind.i64 n_1, Value.int IntKind.u64 n_2], Value.int IntKind.i64 h.dn]
      ({ π := m.π, sz := N, uf := m.uf : M }.newBlock b [Value.int IntKind.i64 t, Value.int IntKind.i64 n])
      (Value.agg #[Value.int IntKind.i64 n_3, Value.int IntKind.u64 n_4]) ∧
      Done (Value.bool (decide (n_3 ≥ (0 : Int))) = Value.bool (inB h (t + n))))
      (Done (Value.bool false = Value.bool (inB h (t + n))))) (by kernel_rfl) ?_
  refine ⟨rfl, rfl, fun b hb => ⟨_, _, of_q (some ⟨b, 0, none⟩) 2 [t, n] (fun y hy => by simp at hy; rcases hy with rfl | rfl <;> assumption) (by simp) _ Row.new, _, above_q _ _ ?_ hu _, ?_⟩⟩
  · unfold In64 at *; simp [sumI]; omega
  have es : sumI [t, n] = t + n := by simp [sumI]
  rw [es]
  have hb2 : -18446744073709551616 ≤ t + n ∧ t + n ≤ 18446744073709551614 := by unfold In64 at *; omega
  refine ifB_intro (fun q => ⟨_, _, plus_q (t + n) h.dn (by unfold In64; omega) _, ⟨?_⟩⟩) (fun q => ⟨?_⟩)
  · simp at q
    have e : (decide (wideHi (t + n + h.dn) ≥ 0)) = decide (-h.dn ≤ t + n) := by
      simp only [wideHi, IntKind.wrap_i64, decide_eq_decide]; omega
    rw [e]
    simp [inB]; omega
  · simp at q; simp [inB]; omega

def spendE (l : List Rt) (g : Int) (x : Ac) (nd n : Int) : Rt × Int :=
  if heldE l g x nd (decide (n = 0)) ≠ 0 then (⟨0, .empty, 0, 0⟩, heldE l g x nd (decide (n = 0))) else
  if inB (findH x nd) (netR l g x.key (findH x nd).le + n) = false then (⟨0, .empty, 0, 0⟩, 150) else (⟨g, x.key, (findH x nd).le, netR l g x.key (findH x nd).le + n⟩, 0)

theorem lspend_q (al : Option Addr) (cl : Nat) (l : List Rt) (g : Int) (x : Ac) (a : Option Addr) (c : Nat) (nd n : Int) (hl : l.length ≤ 9223372036854775807) (hlw : ∀ r ∈ l, r.wf) (hx : x.wf) (hn : In64 n) (m : M) (h1 : Row m al (rts l)) (h2 : Row m a (hds x.hs)) :
    QSpec Try.prog 24 [.slice al l.length cl, I g, acv x a c, I nd, I n] m (.tuple #[rtv (spendE l g x nd n).1, I (spendE l g x nd n).2]) := by
  refine QSpec.of_vc Try.func24 (ann := fun _ => noAnn) fun N hN => ?_
  refine vc_by (X :=
      true = true ∧
      ∃ (n_1 : Int),
      ∃ (n_2 : Int),
      ∃ (n_3 : Int),
      ∃ (n_4 : Int),
      ∃ (n_5 : Int),
      QSpec Try.prog (54 : Nat)
      [Value.slice al l.length cl, Value.int IntKind.i64 g,
      Value.agg
      #[Value.string x.key, Value.int IntKind.i64 x.lo, Value.int IntKind.i64 x.hi, Value.int IntKind.i64 x.base, Value.int IntKind.i64 x.round,
      Value.slice a x.hs.length c, Value.int IntKind.i64 x.lk.cl, Value.int IntKind.i64 x.lk.sq, Value.int IntKind.i64 x.lk.hm, Value.int IntKind.i64 x.lk.n],
      Value.int IntKind.i64 nd, Value.int IntKind.i64 n]
      { π := m.π, sz := N, uf := m.uf : M }
      (Value.tuple
      #[Value.agg #[Value.int IntKind.i64 n_1, Value.int IntKind.i64 n_2, Value.int IntKind.i64 n_3, Value.int IntKind.i64 n_4], Value.int IntKind.i64 n_5]) ∧
      ifB (n_5 != (0 : Int))
      (Done
      (Value.tuple
      #[Value.agg #[Value.int IntKind.i64 (0 : Int), Value.string { data := #[] : ByteArray }, Value.int IntKind.i64 (0 : Int), Value.int IntKind.i64 (0 : Int)],
      Value.int IntKind.i64 n_5] =
      Value.tuple
      #[Value.agg
      #[Value.int IntKind.i64 (spendE l g x nd n).fst.g, Value.string (spendE l g x nd n).fst.ky, Value.int IntKind.i64 (spendE l g x nd n).fst.le,
      Value.int IntKind.i64 (spendE l g x nd n).fst.ne],
      Value.int IntKind.i64 (spendE l g x nd n).snd]))
      (∃ (n_6 : Int),
      QSpec Try.prog (16 : Nat) [Value.slice al l.length cl, Value.int IntKind.i64 g, Value.string x.key, Value.int IntKind.i64 n_2]
      { π := m.π, sz := N, uf := m.uf : M } (Value.int IntKind.i64 n_6) ∧
      ∃ (n_7 : Int),
      ∃ (n_8 : Int),
      QSpec Try.prog (55 : Nat) [Value.int IntKind.i64 n_6, Value.int IntKind.i64 n] { π := m.π, sz := N, uf := m.uf : M }
      (Value.tuple #[Value.int IntKind.i64 n_7, Value.int IntKind.i64 n_8]) ∧
      ifB (n_8 != (0 : Int))
      (Done
      (Value.tuple
      #[Value.agg
      #[Value.int IntKind.i64 (0 : Int), Value.string { data := #[] : ByteArray }, Value.int IntKind.i64 (0 : Int),
      Value.int IntKind.i64 (0 : Int)],
      Value.int IntKind.i64 (150 : Int)] =
      Value.tuple
      #[Value.agg
      #[Value.int IntKind.i64 (spendE l g x nd n).fst.g, Value.string (spendE l g x nd n).fst.ky, Value.int IntKind.i64 (spendE l g x nd n).fst.le,
      Value.int IntKind.i64 (spendE l g x nd n).fst.ne],
      Value.int IntKind.i64 (spendE l g x nd n).snd]))
      (∃ (b : Bool),
      QSpec Try.prog (56 : Nat)
      [Value.agg #[Value.int IntKind.i64 n_1, Value.int IntKind.i64 n_2, Value.int IntKind.i64 n_3, Value.int IntKind.i64 n_4],
      Value.int IntKind.i64 n_7]
      { π := m.π, sz := N, uf := m.uf : M } (Value.bool b) ∧
      ifB (!b)
      (Done
      (Value.tuple
      #[Value.agg
      #[Value.int IntKind.i64 (0 : Int), Value.string { data := #[] : ByteArray }, Value.int IntKind.i64 (0 : Int),
      Value.int IntKind.i64 (0 : Int)],
      Value.int IntKind.i64 (150 : Int)] =
      Value.tuple
      #[Value.agg
      #[Value.int IntKind.i64 (spendE l g x nd n).fst.g, Value.string (spendE l g x nd n).fst.ky,
      Value.int IntKind.i64 (spendE l g x nd n).fst.le, Value.int IntKind.i64 (spendE l g x nd n).fst.ne],
      Value.int IntKind.i64 (spendE l g x nd n).snd]))
      (Done
      (Value.tuple
      #[Value.agg #[Value.int IntKind.i64 g, Value.string x.key, Value.int IntKind.i64 n_2, Value.int IntKind.i64 n_7],
      Value.int IntKind.i64 (0 : Int)] =
      Value.tuple
      #[Value.agg
      #[Value.int IntKind.i64 (spendE l g x nd n).fst.g, Value.string (spendE l g x nd n).fst.ky,
      Value.int IntKind.i64 (spendE l g x nd n).fst.le, Value.int IntKind.i64 (spendE l g x nd n).fst.ne],
      Value.int IntKind.i64 (spendE l g x nd n).snd]))))) (by kernel_rfl) ?_
  have k1 := h1.sz hN
  have k2 := h2.sz hN
  refine ⟨rfl, _, _, _, _, _, holder_q al cl l g x a c nd n hl hx _ k1 k2, ?_⟩
  refine ifB_intro (fun q => ⟨?_⟩) (fun q => ?_)
  · have q : heldE l g x nd (decide (n = 0)) ≠ 0 := by simpa using q
    simp [spendE, q]; rfl
  have q : heldE l g x nd (decide (n = 0)) = 0 := by simpa using q
  have hh : heldH l g x nd (decide (n = 0)) = findH x nd := by simp [heldH, q]
  have hb : findB x nd = true := by
    unfold heldE at q
    split at q; · simp at q
    split at q; · simp at q
    split at q; · simp at q
    rename_i h; simpa using h
  have F := find_fact hx hb
  have hnet := net_in hlw g x.key (findH x nd).le
  have hup := F.up
  have hdn := F.dn
  rw [hh]
  refine ⟨_, lnet_q al cl l g x.key (findH x nd).le hl _ k1, _, _, add_q _ _ hnet hn _, ifB_intro (fun q2 => ⟨?_⟩) (fun q2 => ?_)⟩
  · have q2 : ¬ In64 (netR l g x.key (findH x nd).le + n) := by intro h; simp [addE, h] at q2
    have : inB (findH x nd) (netR l g x.key (findH x nd).le + n) = false := by
      unfold In64 at q2; simp [inB]; omega
    simp [spendE, q, this]; rfl
  have q2 : In64 (netR l g x.key (findH x nd).le + n) := by
    by_cases h : In64 (netR l g x.key (findH x nd).le + n)
    · exact h
    · simp [addE, h] at q2
  have ev : addV (netR l g x.key (findH x nd).le) n = netR l g x.key (findH x nd).le + n := by simp [addV, q2]
  rw [ev]
  refine ⟨_, within_q _ _ hdn _, ifB_intro (fun q3 => ⟨?_⟩) (fun q3 => ⟨?_⟩)⟩
  · have q3 : inB (findH x nd) (netR l g x.key (findH x nd).le + n) = false := by simpa using q3
    simp [spendE, q, q3]; rfl
  · have q3 : inB (findH x nd) (netR l g x.key (findH x nd).le + n) = true := by simpa using q3
    simp [spendE, q, q3]

theorem rspend_q (al : Option Addr) (cl : Nat) (l : List Rt) (g : Int) (x : Ac) (a : Option Addr) (c : Nat) (nd n : Int) (hl : l.length ≤ 9223372036854775807) (hlw : ∀ r ∈ l, r.wf) (hx : x.wf) (hn : In64 n) (m : M) (h1 : Row m al (rts l)) (h2 : Row m a (hds x.hs)) :
    QSpec Try.prog 25 [.slice al l.length cl, I g, acv x a c, I nd, I n] m (.tuple #[rtv (spendE l g x nd n).1, I (spendE l g x nd n).2]) := by
  refine QSpec.of_vc Try.func25 (ann := fun _ => noAnn) fun N hN => ?_
  refine vc_by (X :=
      true = true ∧
      ∃ (n_1 : Int),
      ∃ (n_2 : Int),
      ∃ (n_3 : Int),
      ∃ (n_4 : Int),
      ∃ (n_5 : Int),
      QSpec Try.prog (57 : Nat)
      [Value.slice al l.length cl, Value.int IntKind.i64 g,
      Value.agg
      #[Value.string x.key, Value.int IntKind.i64 x.lo, Value.int IntKind.i64 x.hi, Value.int IntKind.i64 x.base, Value.int IntKind.i64 x.round,
      Value.slice a x.hs.length c, Value.int IntKind.i64 x.lk.cl, Value.int IntKind.i64 x.lk.sq, Value.int IntKind.i64 x.lk.hm, Value.int IntKind.i64 x.lk.n],
      Value.int IntKind.i64 nd, Value.bool (n == (0 : Int))]
      { π := m.π, sz := N, uf := m.uf : M }
      (Value.tuple
      #[Value.agg #[Value.int IntKind.i64 n_1, Value.int IntKind.i64 n_2, Value.int IntKind.i64 n_3, Value.int IntKind.i64 n_4], Value.int IntKind.i64 n_5]) ∧
      ifB (n_5 != (0 : Int))
      (Done
      (Value.tuple
      #[Value.agg #[Value.int IntKind.i64 (0 : Int), Value.string { data := #[] : ByteArray }, Value.int IntKind.i64 (0 : Int), Value.int IntKind.i64 (0 : Int)],
      Value.int IntKind.i64 n_5] =
      Value.tuple
      #[Value.agg
      #[Value.int IntKind.i64 (spendE l g x nd n).fst.g, Value.string (spendE l g x nd n).fst.ky, Value.int IntKind.i64 (spendE l g x nd n).fst.le,
      Value.int IntKind.i64 (spendE l g x nd n).fst.ne],
      Value.int IntKind.i64 (spendE l g x nd n).snd]))
      (∃ (n_6 : Int),
      QSpec Try.prog (17 : Nat) [Value.slice al l.length cl, Value.int IntKind.i64 g, Value.string x.key, Value.int IntKind.i64 n_2]
      { π := m.π, sz := N, uf := m.uf : M } (Value.int IntKind.i64 n_6) ∧
      ∃ (b : Bool),
      QSpec Try.prog (58 : Nat)
      [Value.agg #[Value.int IntKind.i64 n_1, Value.int IntKind.i64 n_2, Value.int IntKind.i64 n_3, Value.int IntKind.i64 n_4], Value.int IntKind.i64 n_6,
      Value.int IntKind.i64 n]
      { π := m.π, sz := N, uf := m.uf : M } (Value.bool b) ∧
      ifB (!b)
      (Done
      (Value.tuple
      #[Value.agg
      #[Value.int IntKind.i64 (0 : Int), Value.string { data := #[] : ByteArray }, Value.int IntKind.i64 (0 : Int), Value.int IntKind.i64 (0 : Int)],
      Value.int IntKind.i64 (150 : Int)] =
      Value.tuple
      #[Value.agg
      #[Value.int IntKind.i64 (spendE l g x nd n).fst.g, Value.string (spendE l g x nd n).fst.ky, Value.int IntKind.i64 (spendE l g x nd n).fst.le,
      Value.int IntKind.i64 (spendE l g x nd n).fst.ne],
      Value.int IntKind.i64 (spendE l g x nd n).snd]))
      (Done
      (Value.tuple
      #[Value.agg #[Value.int IntKind.i64 g, Value.string x.key, Value.int IntKind.i64 n_2, Value.int IntKind.i64 (IntKind.i64.wrap (n_6 + n))],
      Value.int IntKind.i64 (0 : Int)] =
      Value.tuple
      #[Value.agg
      #[Value.int IntKind.i64 (spendE l g x nd n).fst.g, Value.string (spendE l g x nd n).fst.ky, Value.int IntKind.i64 (spendE l g x nd n).fst.le,
      Value.int IntKind.i64 (spendE l g x nd n).fst.ne],
      Value.int IntKind.i64 (spendE l g x nd n).snd])))) (by kernel_rfl) ?_
  have k1 := h1.sz hN
  have k2 := h2.sz hN
  refine ⟨rfl, _, _, _, _, _, held_q al cl l g x a c nd (decide (n = 0)) hl hx _ k1 k2, ?_⟩
  refine ifB_intro (fun q => ⟨?_⟩) (fun q => ?_)
  · have q : heldE l g x nd (decide (n = 0)) ≠ 0 := by simpa using q
    simp [spendE, q]; rfl
  have q : heldE l g x nd (decide (n = 0)) = 0 := by simpa using q
  have hh : heldH l g x nd (decide (n = 0)) = findH x nd := by simp [heldH, q]
  have hb : findB x nd = true := by
    unfold heldE at q
    split at q; · simp at q
    split at q; · simp at q
    split at q; · simp at q
    rename_i h; simpa using h
  have F := find_fact hx hb
  have hnet := net_in hlw g x.key (findH x nd).le
  have hup := F.up
  have hdn := F.dn
  rw [hh]
  refine ⟨_, rnet_q al cl l g x.key (findH x nd).le hl _ k1, _, rwithin_q _ _ _ (by unfold In64; omega) hdn hnet hn _, ifB_intro (fun q3 => ⟨?_⟩) (fun q3 => ⟨?_⟩)⟩
  · have q3 : inB (findH x nd) (netR l g x.key (findH x nd).le + n) = false := by simpa using q3
    simp [spendE, q, q3]; rfl
  · have q3 : inB (findH x nd) (netR l g x.key (findH x nd).le + n) = true := by simpa using q3
    have w : IntKind.i64.wrap (netR l g x.key (findH x nd).le + n) = netR l g x.key (findH x nd).le + n := by
      simp [inB] at q3; simp [IntKind.wrap_i64]; omega
    simp [spendE, q, q3, w]

end Go.Proofs.Ytfkielfnceeedaa
