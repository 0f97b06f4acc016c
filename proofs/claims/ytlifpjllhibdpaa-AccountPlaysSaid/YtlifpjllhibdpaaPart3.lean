/-
  Contracts of functions of this seat: what each hands back, and what it leaves of memory (acc15, acc16, acc18, acc19, acc20, acc21, opo, acc22, acc23). Nothing here is trusted: Lean checks it.
-/
import Derived.Test.YtlifpjllhibdpaaPart2
import Derived.Test.YtlifpjllhibdpaaPart1
set_option linter.unusedVariables false
set_option linter.unusedSimpArgs false
namespace Go.Proofs.Ytlifpjllhibdpaa
open Go.Vc Go.RowKit
set_option maxRecDepth 100000

def moreI (v s : Int) : Int := v + min s (9223372036854775807 - v)

theorem more_q (v n : Int) (hv : 0 ≤ v ∧ v ≤ 9223372036854775807) (hn : 0 ≤ n ∧ n ≤ 9223372036854775807) (m : M) : QSpec Try.prog 56 [I v, I n] m (I (moreI v n)) := by
  refine QSpec.of_vc Try.func56 (ann := fun _ => noAnn) fun N hN => ?_
  refine vc_by (X :=
      true = true ∧
      Done
      (Value.int IntKind.i64 (IntKind.i64.wrap (v + if IntKind.i64.wrap ((9223372036854775807 : Int) - v) < n then IntKind.i64.wrap ((9223372036854775807 : Int) - v) else n)) =
      Value.int IntKind.i64 (moreI v n))) (by kernel_rfl) ?_
  refine ⟨rfl, ⟨?_⟩⟩
  simp [moreI, IntKind.wrap_i64]
  omega

theorem rmore_q (v s : Int) (hv : 0 ≤ v ∧ v ≤ 9223372036854775807) (hs : InU s) (m : M) : QSpec Try.prog 80 [I v, U s] m (I (moreI v s)) := by
  refine QSpec.of_vc Try.func80 (ann := fun _ => noAnn) fun N hN => ?_
  refine vc_by (X :=
      true = true ∧
      ∃ (n : Int),
      QSpec Try.prog (86 : Nat)
      [Value.int IntKind.u64
      (if IntKind.u64.wrap (IntKind.i64.wrap ((9223372036854775807 : Int) - v)) < s then IntKind.u64.wrap (IntKind.i64.wrap ((9223372036854775807 : Int) - v)) else s)]
      { π := m.π, sz := N, uf := m.uf : M } (Value.int IntKind.i64 n) ∧
      Done (Value.int IntKind.i64 (IntKind.i64.wrap (v + n)) = Value.int IntKind.i64 (moreI v s))) (by kernel_rfl) ?_
  unfold InU at hs
  have e : (if IntKind.u64.wrap (IntKind.i64.wrap (9223372036854775807 - v)) < s then IntKind.u64.wrap (IntKind.i64.wrap (9223372036854775807 - v)) else s) = min s (9223372036854775807 - v) := by
    have : IntKind.u64.wrap (IntKind.i64.wrap (9223372036854775807 - v)) = 9223372036854775807 - v := by simp [IntKind.wrap_i64, IntKind.wrap_u64]; omega
    rw [this]; split <;> omega
  rw [e]
  refine ⟨rfl, _, rfit_q _ (by unfold InU; omega) _, ⟨?_⟩⟩
  have e2 : IntKind.i64.wrap (v + fitV (min s (9223372036854775807 - v))) = moreI v s := by unfold fitV moreI; simp [IntKind.wrap_i64]; omega
  rw [e2]

theorem cmp_q (h : Hd) (nd : Int) (m : M) : QSpec Try.prog 54 [.agg (encH h).toArray, I nd] m (I (IntKind.i64.wrap (h.nd - nd))) := by
  refine QSpec.of_vc Try.func54 (ann := fun _ => noAnn) fun N hN => ?_
  refine vc_by (X :=
      true = true ∧ Done (Value.int IntKind.i64 (IntKind.i64.wrap (h.nd - nd)) = Value.int IntKind.i64 (IntKind.i64.wrap (h.nd - nd)))) (by kernel_rfl) ?_
  exact ⟨rfl, ⟨rfl⟩⟩

def putH (l : List Hd) (h : Hd) : List Hd := (l.filter fun z => decide (z.nd < h.nd)) ++ h :: l.filter fun z => decide (h.nd < z.nd)

def grantH (x : Ac) (nd le ns : Int) : Hd :=
  let h := if findB x nd then findH x nd else ⟨nd, le, 0, 0⟩
  { h with up := moreI h.up (shareV (roomUp x) (ns + 1) ns), dn := moreI h.dn (shareV (roomDn x) (ns + 1) ns) }

def aGrant (x : Ac) (nd le ns : Int) : Ac × Int :=
  if rightB x = false then (ac0, 21) else if ns < 1 ∨ 5 < ns ∨ nd < 1 ∨ ns < nd ∨ le < 1 ∨ 4611686018427387904 < le then (ac0, 1) else if x.round ≠ 0 ∨ x.lk.cl ≠ 0 then (ac0, 152) else
  ({ x with hs := putH x.hs (grantH x nd le ns) }, 0)

theorem share_in (n p i : Int) (hn : InU n) : 0 ≤ shareV n p i ∧ shareV n p i ≤ n := by
  unfold InU at hn
  unfold shareV
  split
  · omega
  · rename_i h
    have hd := div_facts n p hn.1 (by omega)
    split <;> omega

theorem more_fit (v s : Int) (hv : 0 ≤ v) : moreI v (fitV s) = moreI v s := by unfold moreI fitV; omega

theorem hold_split (nd : Int) : ∀ {l : List Hd} {last : Int}, holdB last l = true → l = (l.filter fun z => decide (z.nd < nd)) ++ ((fndH l nd).toList ++ l.filter fun z => decide (nd < z.nd))
  | [], _, _ => rfl
  | h :: r, last, hb => by
    have hb' := hb
    simp only [holdB, Bool.and_eq_true] at hb'
    have hm := hold_mem _ _ hb'.2
    rcases Int.lt_trichotomy h.nd nd with hlt | heq | hgt
    · have hne : (h.nd == nd) = false := by simp; omega
      rw [List.filter_cons_of_pos (by simpa using hlt), List.filter_cons_of_neg (by simp; omega)]
      have : fndH (h :: r) nd = fndH r nd := by simp [fndH, List.find?_cons, hne]
      rw [this, List.cons_append, ← hold_split nd hb'.2]
    · subst heq
      have e1 : (r.filter fun z => decide (z.nd < h.nd)) = [] := List.filter_eq_nil_iff.2 fun z hz => by have := hm z hz; simp; omega
      have e2 : (r.filter fun z => decide (h.nd < z.nd)) = r := List.filter_eq_self.2 fun z hz => by have := hm z hz; simp; omega
      rw [List.filter_cons_of_neg (by simp), List.filter_cons_of_neg (by simp), e1, e2]
      simp [fndH]
    · have hne : (h.nd == nd) = false := by simp; omega
      have e1 : (r.filter fun z => decide (z.nd < nd)) = [] := List.filter_eq_nil_iff.2 fun z hz => by have := hm z hz; simp; omega
      have e2 : (r.filter fun z => decide (nd < z.nd)) = r := List.filter_eq_self.2 fun z hz => by have := hm z hz; simp; omega
      have e3 : r.find? (fun h => h.nd == nd) = none := List.find?_eq_none.2 fun z hz => by have := hm z hz; simp; omega
      rw [List.filter_cons_of_neg (by simp; omega), List.filter_cons_of_pos (by simpa using hgt), e1, e2]
      simp [fndH, List.find?_cons, hne, e3]

/-- one holder's Up, and its Down, written -/
theorem own_up {B : Nat} {S : Nat → Prop} {m : M} {b o len cap : Nat} {F G : List Hd} {e : Hd} (h : OwnB B S m 4 (some ⟨b, o, none⟩) len cap (hds (F ++ e :: G))) (u : Int) :
    Wr B S m b (o + F.length * 4 + 2) 1 ∧ OwnB B S (m.setCells b (o + F.length * 4 + 2) [I u]) 4 (some ⟨b, o, none⟩) len cap (hds (F ++ { e with up := u } :: G)) := by
  have e1 : ∀ x : Hd, hds (F ++ x :: G) = (hds F ++ [I x.nd, I x.le]) ++ ([I x.up] ++ ([I x.dn] ++ hds G)) := fun x => by simp [hds]
  rw [e1] at h
  obtain ⟨g1, g2⟩ := h.set (new := [I u]) rfl
  have el : o + (hds F ++ [I e.nd, I e.le]).length = o + F.length * 4 + 2 := by rw [List.length_append, hds_len]; simp; omega
  rw [el] at g1 g2
  rw [e1]
  exact ⟨g1, g2⟩

theorem own_dn {B : Nat} {S : Nat → Prop} {m : M} {b o len cap : Nat} {F G : List Hd} {e : Hd} (h : OwnB B S m 4 (some ⟨b, o, none⟩) len cap (hds (F ++ e :: G))) (u : Int) :
    Wr B S m b (o + F.length * 4 + 3) 1 ∧ OwnB B S (m.setCells b (o + F.length * 4 + 3) [I u]) 4 (some ⟨b, o, none⟩) len cap (hds (F ++ { e with dn := u } :: G)) := by
  have e1 : ∀ x : Hd, hds (F ++ x :: G) = (hds F ++ [I x.nd, I x.le, I x.up]) ++ ([I x.dn] ++ hds G) := fun x => by simp [hds]
  rw [e1] at h
  obtain ⟨g1, g2⟩ := h.set (new := [I u]) rfl
  have el : o + (hds F ++ [I e.nd, I e.le, I e.up]).length = o + F.length * 4 + 3 := by rw [List.length_append, hds_len]; simp; omega
  rw [el] at g1 g2
  rw [e1]
  exact ⟨g1, g2⟩

theorem up_cell {m : M} {b o : Nat} {F G : List Hd} {e : Hd} (h : CellsAt m b o (hds (F ++ e :: G))) : CellsAt m b (o + F.length * 4 + 2) [I e.up] ∧ CellsAt m b (o + F.length * 4 + 3) [I e.dn] := by
  have e1 : hds (F ++ e :: G) = (hds F ++ [I e.nd, I e.le]) ++ ([I e.up] ++ ([I e.dn] ++ hds G)) := by simp [hds]
  rw [e1] at h
  have h2 := h.drop
  have el : o + (hds F ++ [I e.nd, I e.le]).length = o + F.length * 4 + 2 := by rw [List.length_append, hds_len]; simp; omega
  rw [el] at h2
  exact ⟨h2.take, h2.drop.take⟩

theorem agrant_s (x : Ac) (a : Option Addr) (c : Nat) (nd le ns : Int) (hx : x.wf) (h0 : a = none → x.hs = []) (m : M) (h : Row m a (hds x.hs)) : Vc.Spec Try.prog 33 [acv x a c, I nd, I le, I ns] m (AcR m (aGrant x nd le ns)) := by
  refine Vc.Spec.of_vc Try.func33 (ann := noAnn) ?_
  refine vc_by (X :=
      true = true ∧
      ∃ (b : Bool),
      QSpec Try.prog (45 : Nat)
      [Value.agg
      #[Value.string x.key, Value.int IntKind.i64 x.lo, Value.int IntKind.i64 x.hi, Value.int IntKind.i64 x.base, Value.int IntKind.i64 x.round, Value.slice a x.hs.length c,
      Value.int IntKind.i64 x.lk.cl, Value.int IntKind.i64 x.lk.sq, Value.int IntKind.i64 x.lk.hm, Value.int IntKind.i64 x.lk.n]]
      m (Value.bool b) ∧
      ifB (!b)
      (Done
      (AcR m (aGrant x nd le ns)
      (Value.tuple
      #[Value.agg
      #[Value.string { data := #[] : ByteArray }, Value.int IntKind.i64 (0 : Int), Value.int IntKind.i64 (0 : Int), Value.int IntKind.i64 (0 : Int),
      Value.int IntKind.i64 (0 : Int), Value.slice none (0 : Nat) (0 : Nat), Value.int IntKind.i64 (0 : Int), Value.int IntKind.i64 (0 : Int),
      Value.int IntKind.i64 (0 : Int), Value.int IntKind.i64 (0 : Int)],
      Value.int IntKind.i64 (21 : Int)])
      m))
      (ifB (decide (ns < (1 : Int)))
      (Done
      (AcR m (aGrant x nd le ns)
      (Value.tuple
      #[Value.agg
      #[Value.string { data := #[] : ByteArray }, Value.int IntKind.i64 (0 : Int), Value.int IntKind.i64 (0 : Int), Value.int IntKind.i64 (0 : Int),
      Value.int IntKind.i64 (0 : Int), Value.slice none (0 : Nat) (0 : Nat), Value.int IntKind.i64 (0 : Int), Value.int IntKind.i64 (0 : Int),
      Value.int IntKind.i64 (0 : Int), Value.int IntKind.i64 (0 : Int)],
      Value.int IntKind.i64 (1 : Int)])
      m))
      (ifB (decide (ns > (5 : Int)))
      (Done
      (AcR m (aGrant x nd le ns)
      (Value.tuple
      #[Value.agg
      #[Value.string { data := #[] : ByteArray }, Value.int IntKind.i64 (0 : Int), Value.int IntKind.i64 (0 : Int), Value.int IntKind.i64 (0 : Int),
      Value.int IntKind.i64 (0 : Int), Value.slice none (0 : Nat) (0 : Nat), Value.int IntKind.i64 (0 : Int), Value.int IntKind.i64 (0 : Int),
      Value.int IntKind.i64 (0 : Int), Value.int IntKind.i64 (0 : Int)],
      Value.int IntKind.i64 (1 : Int)])
      m))
      (ifB (decide (nd < (1 : Int)))
      (Done
      (AcR m (aGrant x nd le ns)
      (Value.tuple
      #[Value.agg
      #[Value.string { data := #[] : ByteArray }, Value.int IntKind.i64 (0 : Int), Value.int IntKind.i64 (0 : Int), Value.int IntKind.i64 (0 : Int),
      Value.int IntKind.i64 (0 : Int), Value.slice none (0 : Nat) (0 : Nat), Value.int IntKind.i64 (0 : Int), Value.int IntKind.i64 (0 : Int),
      Value.int IntKind.i64 (0 : Int), Value.int IntKind.i64 (0 : Int)],
      Value.int IntKind.i64 (1 : Int)])
      m))
      (ifB (decide (nd > ns))
      (Done
      (AcR m (aGrant x nd le ns)
      (Value.tuple
      #[Value.agg
      #[Value.string { data := #[] : ByteArray }, Value.int IntKind.i64 (0 : Int), Value.int IntKind.i64 (0 : Int), Value.int IntKind.i64 (0 : Int),
      Value.int IntKind.i64 (0 : Int), Value.slice none (0 : Nat) (0 : Nat), Value.int IntKind.i64 (0 : Int), Value.int IntKind.i64 (0 : Int),
      Value.int IntKind.i64 (0 : Int), Value.int IntKind.i64 (0 : Int)],
      Value.int IntKind.i64 (1 : Int)])
      m))
      (ifB (decide (le < (1 : Int)))
      (Done
      (AcR m (aGrant x nd le ns)
      (Value.tuple
      #[Value.agg
      #[Value.string { data := #[] : ByteArray }, Value.int IntKind.i64 (0 : Int), Value.int IntKind.i64 (0 : Int), Value.int IntKind.i64 (0 : Int),
      Value.int IntKind.i64 (0 : Int), Value.slice none (0 : Nat) (0 : Nat), Value.int IntKind.i64 (0 : Int), Value.int IntKind.i64 (0 : Int),
      Value.int IntKind.i64 (0 : Int), Value.int IntKind.i64 (0 : Int)],
      Value.int IntKind.i64 (1 : Int)])
      m))
      (ifB (decide (le > (4611686018427387904 : Int)))
      (Done
      (AcR m (aGrant x nd le ns)
      (Value.tuple
      #[Value.agg
      #[Value.string { data := #[] : ByteArray }, Value.int IntKind.i64 (0 : Int), Value.int IntKind.i64 (0 : Int), Value.int IntKind.i64 (0 : Int),
      Value.int IntKind.i64 (0 : Int), Value.slice none (0 : Nat) (0 : Nat), Value.int IntKind.i64 (0 : Int), Value.int IntKind.i64 (0 : Int),
      Value.int IntKind.i64 (0 : Int), Value.int IntKind.i64 (0 : Int)],
      Value.int IntKind.i64 (1 : Int)])
      m))
      (ifB (x.round != (0 : Int))
      (Done
      (AcR m (aGrant x nd le ns)
      (Value.tuple
      #[Value.agg
      #[Value.string { data := #[] : ByteArray }, Value.int IntKind.i64 (0 : Int), Value.int IntKind.i64 (0 : Int), Value.int IntKind.i64 (0 : Int),
      Value.int IntKind.i64 (0 : Int), Value.slice none (0 : Nat) (0 : Nat), Value.int IntKind.i64 (0 : Int), Value.int IntKind.i64 (0 : Int),
      Value.int IntKind.i64 (0 : Int), Value.int IntKind.i64 (0 : Int)],
      Value.int IntKind.i64 (152 : Int)])
      m))
      (∃ (b : Bool),
      QSpec Try.prog (46 : Nat)
      [Value.agg
      #[Value.string x.key, Value.int IntKind.i64 x.lo, Value.int IntKind.i64 x.hi, Value.int IntKind.i64 x.base, Value.int IntKind.i64 x.round,
      Value.slice a x.hs.length c, Value.int IntKind.i64 x.lk.cl, Value.int IntKind.i64 x.lk.sq, Value.int IntKind.i64 x.lk.hm,
      Value.int IntKind.i64 x.lk.n]]
      m (Value.bool b) ∧
      ifB b
      (Done
      (AcR m (aGrant x nd le ns)
      (Value.tuple
      #[Value.agg
      #[Value.string { data := #[] : ByteArray }, Value.int IntKind.i64 (0 : Int), Value.int IntKind.i64 (0 : Int), Value.int IntKind.i64 (0 : Int),
      Value.int IntKind.i64 (0 : Int), Value.slice none (0 : Nat) (0 : Nat), Value.int IntKind.i64 (0 : Int), Value.int IntKind.i64 (0 : Int),
      Value.int IntKind.i64 (0 : Int), Value.int IntKind.i64 (0 : Int)],
      Value.int IntKind.i64 (152 : Int)])
      m))
      (∃ (n : Int),
      ∃ (n_1 : Int),
      QSpec Try.prog (15 : Nat)
      [Value.agg
      #[Value.string x.key, Value.int IntKind.i64 x.lo, Value.int IntKind.i64 x.hi, Value.int IntKind.i64 x.base, Value.int IntKind.i64 x.round,
      Value.slice a x.hs.length c, Value.int IntKind.i64 x.lk.cl, Value.int IntKind.i64 x.lk.sq, Value.int IntKind.i64 x.lk.hm,
      Value.int IntKind.i64 x.lk.n]]
      m (Value.tuple #[Value.int IntKind.u64 n, Value.int IntKind.u64 n_1]) ∧
      ∀ (n_2 : Nat),
      m.sz ≤ n_2 →
      Vc.Spec Try.prog (49 : Nat)
      [Value.agg
      #[Value.string x.key, Value.int IntKind.i64 x.lo, Value.int IntKind.i64 x.hi, Value.int IntKind.i64 x.base,
      Value.int IntKind.i64 x.round, Value.slice a x.hs.length c, Value.int IntKind.i64 x.lk.cl, Value.int IntKind.i64 x.lk.sq,
      Value.int IntKind.i64 x.lk.hm, Value.int IntKind.i64 x.lk.n]]
      { π := m.π, sz := n_2, uf := m.uf : M } fun (v : Value) (m' : M) =>
      ∃ (s : ByteArray),
      ∃ (n_3 : Int),
      ∃ (n_4 : Int),
      ∃ (n_5 : Int),
      ∃ (n_6 : Int),
      ∃ (a : Option Addr),
      ∃ (n_7 : Nat),
      ∃ (c : Nat),
      ∃ (n_8 : Int),
      ∃ (n_9 : Int),
      ∃ (n_10 : Int),
      ∃ (n_11 : Int),
      v =
      Value.agg
      #[Value.string s, Value.int IntKind.i64 n_3, Value.int IntKind.i64 n_4, Value.int IntKind.i64 n_5,
      Value.int IntKind.i64 n_6, Value.slice a n_7 c, Value.int IntKind.i64 n_8, Value.int IntKind.i64 n_9,
      Value.int IntKind.i64 n_10, Value.int IntKind.i64 n_11] ∧
      ∃ (n_12 : Int),
      ∃ (b : Bool),
      QSpec Try.prog (53 : Nat)
      [Value.slice a n_7 c, Value.int IntKind.i64 nd, Value.func (Fn.func (54 : Nat)) #[] #[]] m'
      (Value.tuple #[Value.int IntKind.i64 n_12, Value.bool b]) ∧
      ifB (!b)
      (true = true ∧
      ∀ (b : Nat),
      m'.sz ≤ b →
      ∃ (S' : Nat → Prop),
      (∀ (b_1 : Nat),
      S' b_1 →
      (m'.newBlock b
      [Value.int IntKind.i64 nd, Value.int IntKind.i64 le,
      Value.int IntKind.i64 (0 : Int), Value.int IntKind.i64 (0 : Int)]).uf
      b_1 ∧
      (m.sz ≤ b_1 ∨ False)) ∧
      ∀ (n_13 : Nat),
      max m'.sz (b + (1 : Nat)) ≤ n_13 →
      SpecW Try.prog (55 : Nat)
      [Value.slice a n_7 c, Value.int IntKind.i64 n_12,
      Value.slice (some { block := b, off := (0 : Nat) : Addr }) (1 : Nat) (1 : Nat)]
      { π := (m'.newBlock b [Value.int IntKind.i64 nd, Value.int IntKind.i64 le, Value.int IntKind.i64 (0 : Int), Value.int IntKind.i64 (0 : Int)]).π, sz := n_13, uf := (m'.newBlock b [Value.int IntKind.i64 nd, Value.int IntKind.i64 le, Value.int IntKind.i64 (0 : Int), Value.int IntKind.i64 (0 : Int)]).uf : M }
      S' fun (v : Value) (m' : M) =>
      ∃ (a : Option Addr),
      ∃ (n_14 : Nat),
      ∃ (c : Nat),
      v = Value.slice a n_14 c ∧
      ∃ (b : Nat),
      ∃ (off : Nat),
      a = some { block := b, off := off : Addr } ∧
      ((0 : Int) ≤ n_12 ∧ n_12 < (↑n_14 : Int)) ∧
      true = true ∧
      ∃ (n_15 : Int),
      CellsAt m' b (off + n_12.toNat * (4 : Nat) + (2 : Nat))
      [Value.int IntKind.i64 n_15] ∧
      ∃ (n_16 : Int),
      QSpec Try.prog (58 : Nat)
      [Value.int IntKind.u64 n_1,
      Value.int IntKind.i64 (IntKind.i64.wrap (ns + (1 : Int))),
      Value.int IntKind.i64 ns]
      m' (Value.int IntKind.u64 n_16) ∧
      ∃ (n_17 : Int),
      QSpec Try.prog (57 : Nat) [Value.int IntKind.u64 n_16] m'
      (Value.int IntKind.i64 n_17) ∧
      ∃ (n_18 : Int),
      QSpec Try.prog (56 : Nat)
      [Value.int IntKind.i64 n_15,
      Value.int IntKind.i64 n_17]
      m' (Value.int IntKind.i64 n_18) ∧
      (Wr m.sz (fun (x : Nat) => False) m' b
      (off + n_12.toNat * (4 : Nat) + (2 : Nat))
      #[Value.int IntKind.i64 n_18].size ∧
      true = true ∧
      ∃ (n_19 : Int),
      CellsAt
      (m'.setCells b
      (off + n_12.toNat * (4 : Nat) + (2 : Nat))
      [Value.int IntKind.i64 n_18])
      b (off + n_12.toNat * (4 : Nat) + (3 : Nat))
      [Value.int IntKind.i64 n_19] ∧
      ∃ (n_20 : Int),
      QSpec Try.prog (58 : Nat)
      [Value.int IntKind.u64 n,
      Value.int IntKind.i64
      (IntKind.i64.wrap (ns + (1 : Int))),
      Value.int IntKind.i64 ns]
      (m'.setCells b
      (off + n_12.toNat * (4 : Nat) +
      (2 : Nat))
      [Value.int IntKind.i64 n_18])
      (Value.int IntKind.u64 n_20) ∧
      ∃ (n : Int),
      QSpec Try.prog (57 : Nat)
      [Value.int IntKind.u64 n_20]
      (m'.setCells b
      (off + n_12.toNat * (4 : Nat) +
      (2 : Nat))
      [Value.int IntKind.i64 n_18])
      (Value.int IntKind.i64 n) ∧
      ∃ (n_21 : Int),
      QSpec Try.prog (56 : Nat)
      [Value.int IntKind.i64 n_19,
      Value.int IntKind.i64 n]
      (m'.setCells b
      (off +
      n_12.toNat * (4 : Nat) +
      (2 : Nat))
      [Value.int IntKind.i64 n_18])
      (Value.int IntKind.i64 n_21) ∧
      (Wr m.sz (fun (x : Nat) => False)
      (m'.setCells b
      (off +
      n_12.toNat *
      (4 : Nat) +
      (2 : Nat))
      [Value.int IntKind.i64
      n_18])
      b
      (off +
      n_12.toNat * (4 : Nat) +
      (3 : Nat))
      #[Value.int IntKind.i64
      n_21].size ∧
      Done
      (AcR m (aGrant x nd le ns)
      (Value.tuple
      #[Value.agg
      #[Value.string s,
      Value.int
      IntKind.i64 n_3,
      Value.int
      IntKind.i64 n_4,
      Value.int
      IntKind.i64 n_5,
      Value.int
      IntKind.i64 n_6,
      Value.slice a n_14
      c,
      Value.int
      IntKind.i64 n_8,
      Value.int
      IntKind.i64 n_9,
      Value.int
      IntKind.i64
      n_10,
      Value.int
      IntKind.i64
      n_11],
      Value.int IntKind.i64
      (0 : Int)])
      ((m'.setCells b
      (off +
      n_12.toNat *
      (4 : Nat) +
      (2 : Nat))
      [Value.int
      IntKind.i64
      n_18]).setCells
      b
      (off +
      n_12.toNat *
      (4 : Nat) +
      (3 : Nat))
      [Value.int IntKind.i64
      n_21]))) ∧
      True) ∧
      True)
      (∃ (b : Nat),
      ∃ (off : Nat),
      a = some { block := b, off := off : Addr } ∧
      ((0 : Int) ≤ n_12 ∧ n_12 < (↑n_7 : Int)) ∧
      true = true ∧
      ∃ (n_13 : Int),
      CellsAt m' b (off + n_12.toNat * (4 : Nat) + (2 : Nat)) [Value.int IntKind.i64 n_13] ∧
      ∃ (n_14 : Int),
      QSpec Try.prog (58 : Nat)
      [Value.int IntKind.u64 n_1, Value.int IntKind.i64 (IntKind.i64.wrap (ns + (1 : Int))),
      Value.int IntKind.i64 ns]
      m' (Value.int IntKind.u64 n_14) ∧
      ∃ (n_15 : Int),
      QSpec Try.prog (57 : Nat) [Value.int IntKind.u64 n_14] m'
      (Value.int IntKind.i64 n_15) ∧
      ∃ (n_16 : Int),
      QSpec Try.prog (56 : Nat) [Value.int IntKind.i64 n_13, Value.int IntKind.i64 n_15]
      m' (Value.int IntKind.i64 n_16) ∧
      (Wr m.sz (fun (x : Nat) => False) m' b
      (off + n_12.toNat * (4 : Nat) + (2 : Nat))
      #[Value.int IntKind.i64 n_16].size ∧
      true = true ∧
      ∃ (n_17 : Int),
      CellsAt
      (m'.setCells b (off + n_12.toNat * (4 : Nat) + (2 : Nat))
      [Value.int IntKind.i64 n_16])
      b (off + n_12.toNat * (4 : Nat) + (3 : Nat))
      [Value.int IntKind.i64 n_17] ∧
      ∃ (n_18 : Int),
      QSpec Try.prog (58 : Nat)
      [Value.int IntKind.u64 n,
      Value.int IntKind.i64 (IntKind.i64.wrap (ns + (1 : Int))),
      Value.int IntKind.i64 ns]
      (m'.setCells b (off + n_12.toNat * (4 : Nat) + (2 : Nat))
      [Value.int IntKind.i64 n_16])
      (Value.int IntKind.u64 n_18) ∧
      ∃ (n : Int),
      QSpec Try.prog (57 : Nat) [Value.int IntKind.u64 n_18]
      (m'.setCells b (off + n_12.toNat * (4 : Nat) + (2 : Nat))
      [Value.int IntKind.i64 n_16])
      (Value.int IntKind.i64 n) ∧
      ∃ (n_19 : Int),
      QSpec Try.prog (56 : Nat)
      [Value.int IntKind.i64 n_17, Value.int IntKind.i64 n]
      (m'.setCells b
      (off + n_12.toNat * (4 : Nat) + (2 : Nat))
      [Value.int IntKind.i64 n_16])
      (Value.int IntKind.i64 n_19) ∧
      (Wr m.sz (fun (x : Nat) => False)
      (m'.setCells b
      (off + n_12.toNat * (4 : Nat) + (2 : Nat))
      [Value.int IntKind.i64 n_16])
      b (off + n_12.toNat * (4 : Nat) + (3 : Nat))
      #[Value.int IntKind.i64 n_19].size ∧
      Done
      (AcR m (aGrant x nd le ns)
      (Value.tuple
      #[Value.agg
      #[Value.string s, Value.int IntKind.i64 n_3,
      Value.int IntKind.i64 n_4,
      Value.int IntKind.i64 n_5,
      Value.int IntKind.i64 n_6,
      Value.slice a n_7 c,
      Value.int IntKind.i64 n_8,
      Value.int IntKind.i64 n_9,
      Value.int IntKind.i64 n_10,
      Value.int IntKind.i64 n_11],
      Value.int IntKind.i64 (0 : Int)])
      ((m'.setCells b
      (off + n_12.toNat * (4 : Nat) + (2 : Nat))
      [Value.int IntKind.i64 n_16]).setCells
      b (off + n_12.toNat * (4 : Nat) + (3 : Nat))
      [Value.int IntKind.i64 n_19]))) ∧
      True) ∧
      True))))))))))) (by kernel_rfl) ?_
  refine ⟨rfl, _, right_q x a c hx _ h, ?_⟩
  cases hr : rightB x
  · exact ifB_true (fail_d (by simp [aGrant, hr]))
  refine ifB_false ?_
  refine ifB_intro (fun h1 => fail_d ?_) (fun h1 => ifB_intro (fun h2 => fail_d ?_) (fun h2 => ifB_intro (fun h3 => fail_d ?_) (fun h3 => ifB_intro (fun h4 => fail_d ?_) (fun h4 => ifB_intro (fun h5 => fail_d ?_) (fun h5 => ifB_intro (fun h6 => fail_d ?_) (fun h6 => ifB_intro (fun h7 => fail_d ?_) (fun h7 => ⟨_, locked_q x a c _, ifB_intro (fun h8 => fail_d ?_) (fun h8 => ⟨_, _, room_q x a c hx _ h, fun N hN => ?_⟩)⟩)))))))
  · simp at h1; simp [aGrant, hr, h1]
  · simp at h2; simp [aGrant, hr, h2]
  · simp at h3; simp [aGrant, hr, h3]
  · simp at h4; simp [aGrant, hr, h4]
  · simp at h5; simp [aGrant, hr, h5]
  · simp at h6; simp [aGrant, hr, h6]
  all_goals
    have harg : ¬ (ns < 1 ∨ 5 < ns ∨ nd < 1 ∨ ns < nd ∨ le < 1 ∨ 4611686018427387904 < le) := by simp at h1 h2 h3 h4 h5 h6; omega
  · simp at h7; simp [aGrant, hr, harg, h7]
  · simp at h8; simp [aGrant, hr, harg, h8]
  have h7 : x.round = 0 := by simpa using h7
  have h8 : x.lk.cl = 0 := by simpa using h8
  have hres : aGrant x nd le ns = ({ x with hs := putH x.hs (grantH x nd le ns) }, 0) := by simp [aGrant, hr, harg, h7, h8]
  have hp := (right_iff x).1 hr
  have hm := hold_mem _ _ hp.hold
  have hb := room_bounds hx hr h8
  have hl5 := right_len hr
  have hlo := hx.lo
  have hhi := hx.hi
  have hsp := hold_split nd hp.hold
  have uU : InU (roomUp x) := by have := hx.base; unfold InU; unfold In64 at *; omega
  have uD : InU (roomDn x) := by have := hx.base; unfold InU; unfold In64 at *; omega
  have w1 : IntKind.i64.wrap (ns + 1) = ns + 1 := by simp [IntKind.wrap_i64]; omega
  have s1 := share_in (roomUp x) (ns + 1) ns uU
  have s2 := share_in (roomDn x) (ns + 1) ns uD
  have i1 : In64 (ns + 1) := by unfold In64; omega
  have i2 : In64 ns := by unfold In64; omega
  have iU1 : InU (shareV (roomUp x) (ns + 1) ns) := by unfold InU at *; omega
  have iU2 : InU (shareV (roomDn x) (ns + 1) ns) := by unfold InU at *; omega
  rw [w1]
  generalize hF : (x.hs.filter fun z => decide (z.nd < nd)) = F at hsp
  generalize hG : (x.hs.filter fun z => decide (nd < z.nd)) = G at hsp
  have hFm : ∀ z ∈ F, z.nd < nd := fun z hz => by rw [← hF] at hz; simpa using (List.mem_filter.1 hz).2
  have hGm : ∀ z ∈ G, nd < z.nd := fun z hz => by rw [← hG] at hz; simpa using (List.mem_filter.1 hz).2
  have hput : ∀ e : Hd, e.nd = nd → putH x.hs e = F ++ e :: G := fun e he => by simp only [putH, he, hF, hG]
  have hEm : ∀ z ∈ (fndH x.hs nd).toList, z.nd = nd := fun z hz => by
    rw [Option.mem_toList] at hz
    have := List.find?_some hz
    simpa using this
  have hFl : F.length ≤ x.hs.length := by rw [← hF]; exact List.length_filter_le _ _
  refine (copied_q x a c (by omega) h0 _ (h.sz hN)).mono fun v m' hag ⟨a', c', hv, hr'⟩ => ⟨_, _, _, _, _, _, _, _, _, _, _, _, hv, ?_⟩
  have hmag := hag.2.2
  simp only at hmag
  have hpos : ∀ k (hk : k < x.hs.length), (k < F.length → x.hs[k].nd < nd) ∧ (F.length ≤ k → nd ≤ x.hs[k].nd) := fun k hk => by
    have hk' : k < (F ++ ((fndH x.hs nd).toList ++ G)).length := by rw [← hsp]; exact hk
    have he : x.hs[k] = (F ++ ((fndH x.hs nd).toList ++ G))[k] := by congr 1
    rw [he]
    refine ⟨fun hkF => ?_, fun hkF => ?_⟩
    · rw [List.getElem_append_left hkF]; exact hFm _ (List.getElem_mem _)
    · rw [List.getElem_append_right hkF]
      have hm2 := List.getElem_mem (l := (fndH x.hs nd).toList ++ G) (n := k - F.length) (by simp at hk' ⊢; omega)
      rcases List.mem_append.1 hm2 with h | h
      · have := hEm _ h; omega
      · have := hGm _ h; omega
  have hndb : ∀ k (hk : k < x.hs.length), 0 < x.hs[k].nd ∧ x.hs[k].nd ≤ 5 := fun k hk => by have := hm _ (List.getElem_mem hk); omega
  have hwr : ∀ z : Hd, 0 < z.nd ∧ z.nd ≤ 5 → IntKind.i64.wrap (z.nd - nd) = z.nd - nd := fun z hz => by simp [IntKind.wrap_i64]; omega
  have hbs := hd_bsearch a' c' x.hs nd (fun z => IntKind.i64.wrap (z.nd - nd)) F.length (by omega) m' hr'.row (fun z _ m2 => cmp_q z nd m2) hFl
    (fun k hk hkF => by rw [hwr _ (hndb k hk)]; have := (hpos k hk).1 hkF; omega) (fun k hk hkF => by rw [hwr _ (hndb k hk)]; have := (hpos k hk).2 hkF; omega)
  refine ⟨_, _, hbs, ?_⟩
  -- what is left, where the list holds e at F's end
  have hF0 : x.hs[F.length]? = ((fndH x.hs nd).toList ++ G)[0]? := by
    conv => lhs; rw [hsp]
    rw [List.getElem?_append_right (Nat.le_refl _), Nat.sub_self]
  cases hfnd : fndH x.hs nd with
  | some e =>
    rw [hfnd] at hsp hF0
    simp only [Option.toList_some, List.singleton_append] at hsp hF0
    have hend : e.nd = nd := hEm e (by rw [hfnd]; simp)
    have hany : (x.hs[F.length]?.any fun z => decide (IntKind.i64.wrap (z.nd - nd) = 0)) = true := by
      rw [hF0]; simp [hend, IntKind.wrap_i64]
    rw [hany]
    have hfe : findB x nd = true ∧ findH x nd = e := by simp [findB, findH, hr, hfnd]
    have hin : e ∈ x.hs := by rw [hsp]; simp
    have hwf := hx.hs e hin
    have hme := hm e hin
    have hup : 0 ≤ e.up ∧ e.up ≤ 9223372036854775807 := by have := hwf.2.2.1; unfold In64 at this; omega
    have hdn : 0 ≤ e.dn ∧ e.dn ≤ 9223372036854775807 := by have := hwf.2.2.2; unfold In64 at this; omega
    have hge : grantH x nd le ns = { nd := e.nd, le := e.le, up := moreI e.up (shareV (roomUp x) (ns + 1) ns), dn := moreI e.dn (shareV (roomDn x) (ns + 1) ns) } := by simp [grantH, hfe]
    have ho3 : OwnB m.sz (fun _ => False) m' 4 a' x.hs.length c' (hds (F ++ e :: G)) := by
      rw [← hsp]
      exact (hr'.toOwn (by rw [hsp]; simp)).lower hN
    have hlen3 : x.hs.length = F.length + 1 + G.length := by rw [hsp]; simp; omega
    refine ifB_false ?_
    simp only [Int.toNat_natCast]
    obtain ⟨b, o, rfl, hcl⟩ := ho3.row.cells (by rw [hds_len]; simp)
    obtain ⟨g1, q1⟩ := own_up ho3 (moreI e.up (fitV (shareV (roomUp x) (ns + 1) ns)))
    obtain ⟨g2, q2⟩ := own_dn q1 (moreI e.dn (fitV (shareV (roomDn x) (ns + 1) ns)))
    obtain ⟨b2, o2, e2, hcl2⟩ := q1.row.cells (by rw [hds_len]; simp)
    cases e2
    have c1 := (up_cell hcl).1
    have c2 := (up_cell hcl2).2
    refine ⟨b, o, rfl, ⟨by omega, by simp only [hlen3]; omega⟩, trivial, e.up, c1, _, share_q _ _ _ uU i1 i2 _, _, fit_q _ iU1 _, _, more_q _ _ (by omega) (by unfold fitV; unfold InU at iU1; omega) _, ⟨g1, trivial, e.dn, c2, _, share_q _ _ _ uD i1 i2 _, _, fit_q _ iU2 _, _, more_q _ _ (by omega) (by unfold fitV; unfold InU at iU2; omega) _, ⟨g2, ?_⟩, trivial⟩, trivial⟩
    rw [hres]
    have ege : putH x.hs (grantH x nd le ns) = F ++ { nd := e.nd, le := e.le, up := moreI e.up (fitV (shareV (roomUp x) (ns + 1) ns)), dn := moreI e.dn (fitV (shareV (roomDn x) (ns + 1) ns)) : Hd } :: G := by
      rw [more_fit _ _ hup.1, more_fit _ _ hdn.1, ← hge]
      exact hput _ (by rw [hge]; exact hend)
    have elen : x.hs.length = (putH x.hs (grantH x nd le ns)).length := by rw [ege, hlen3]; simp; omega
    rw [elen] at q2 ⊢
    refine ok_d (n := m.sz) (z := { x with hs := putH x.hs (grantH x nd le ns) }) rfl (.own ?_) (Nat.le_refl _)
    show OwnB _ _ _ _ _ _ _ (hds (putH x.hs (grantH x nd le ns)))
    rw [ege] at q2 ⊢
    exact q2
  | none =>
    rw [hfnd] at hsp hF0
    simp only [Option.toList_none, List.nil_append] at hsp hF0
    have hany : (x.hs[F.length]?.any fun z => decide (IntKind.i64.wrap (z.nd - nd) = 0)) = false := by
      rw [hF0]
      cases hG0 : G[0]? with
      | none => rfl
      | some g =>
        have hg := hGm g (List.mem_of_getElem? hG0)
        have hgm : g ∈ x.hs := by rw [hsp]; exact List.mem_append_right _ (List.mem_of_getElem? hG0)
        have := hm g hgm
        simp only [Option.any_some, decide_eq_false_iff_not]
        rw [hwr g (by omega)]; omega
    rw [hany]
    have hfe : findB x nd = false := by simp [findB, hfnd]
    have hge : grantH x nd le ns = { nd := nd, le := le, up := moreI 0 (shareV (roomUp x) (ns + 1) ns), dn := moreI 0 (shareV (roomDn x) (ns + 1) ns) } := by simp [grantH, hfe]
    refine ifB_true ⟨rfl, fun b hb => ?_⟩
    have hrN := hr'.newBlock (ds := [I nd, I le, I 0, I 0]) hb
    have hs := hd_insert a' c' x.hs F.length b 0 1 ⟨nd, le, 0, 0⟩ (fun b' => ∃ o, a' = some ⟨b', o, none⟩ ∧ (m'.newBlock b [I nd, I le, I 0, I 0]).uf b' ∧ m.sz ≤ b') (by omega) hFl
    refine ⟨fun b' => ∃ o, a' = some ⟨b', o, none⟩ ∧ (m'.newBlock b [I nd, I le, I 0, I 0]).uf b' ∧ m.sz ≤ b', fun b' ⟨o, e, hu, hlo⟩ => ⟨hu, .inl hlo⟩, fun n hn => ?_⟩
    refine (hs { m'.newBlock b [I nd, I le, I 0, I 0] with sz := n } ((hrN.sz hn).re fun b' o e hu hlo => .inr ⟨o, e, hu, by rcases hlo with h | h; simp only at h; omega; exact h.elim⟩)
      (fun hne b' o e => ?_) (by simp only; omega) (.inl rfl) ⟨(cellsAt_new (m := m') (b := b) (cs := [I nd, I le, I 0, I 0])).out⟩).mono fun v3 m3 hag3 ⟨a3, c3, hv3, hr3⟩ => ⟨a3, _, c3, hv3, ?_⟩
    · have := (hr'.toOwn (fun e => hne (List.eq_nil_of_length_eq_zero e))).lt e
      omega
    have etd : x.hs.take F.length ++ (⟨nd, le, 0, 0⟩ : Hd) :: x.hs.drop F.length = F ++ (⟨nd, le, 0, 0⟩ : Hd) :: G := by
      rw [hsp]; simp
    rw [etd] at hr3
    have ho3 : OwnB m.sz (fun _ => False) m3 4 a3 (x.hs.length + 1) c3 (hds (F ++ (⟨nd, le, 0, 0⟩ : Hd) :: G)) := by
      refine (hr3.toOwn (by omega)).re fun b' o e => .inl ?_
      rcases (hr3.toOwn (by omega)).lo e with h | ⟨o', -, -, h⟩
      · simp only at h; omega
      · exact h
    simp only [Int.toNat_natCast]
    obtain ⟨b, o, rfl, hcl⟩ := ho3.row.cells (by rw [hds_len]; simp)
    obtain ⟨g1, q1⟩ := own_up ho3 (moreI (0 : Int) (fitV (shareV (roomUp x) (ns + 1) ns)))
    obtain ⟨g2, q2⟩ := own_dn q1 (moreI (0 : Int) (fitV (shareV (roomDn x) (ns + 1) ns)))
    obtain ⟨b2, o2, e2, hcl2⟩ := q1.row.cells (by rw [hds_len]; simp)
    cases e2
    have c1 := (up_cell hcl).1
    have c2 := (up_cell hcl2).2
    refine ⟨b, o, rfl, ⟨by omega, by have := congrArg List.length hsp; simp at this; omega⟩, trivial, (0 : Int), c1, _, share_q _ _ _ uU i1 i2 _, _, fit_q _ iU1 _, _, more_q _ _ (by omega) (by unfold fitV; unfold InU at iU1; omega) _, ⟨g1, trivial, (0 : Int), c2, _, share_q _ _ _ uD i1 i2 _, _, fit_q _ iU2 _, _, more_q _ _ (by omega) (by unfold fitV; unfold InU at iU2; omega) _, ⟨g2, ?_⟩, trivial⟩, trivial⟩
    rw [hres]
    have ege : putH x.hs (grantH x nd le ns) = F ++ { nd := nd, le := le, up := moreI (0 : Int) (fitV (shareV (roomUp x) (ns + 1) ns)), dn := moreI (0 : Int) (fitV (shareV (roomDn x) (ns + 1) ns)) : Hd } :: G := by
      rw [more_fit _ _ (Int.le_refl 0), more_fit _ _ (Int.le_refl 0), ← hge]
      exact hput _ (by rw [hge])
    have elen : x.hs.length + 1 = (putH x.hs (grantH x nd le ns)).length := by rw [ege, hsp]; simp; omega
    rw [elen] at q2 ⊢
    refine ok_d (n := m.sz) (z := { x with hs := putH x.hs (grantH x nd le ns) }) rfl (.own ?_) (Nat.le_refl _)
    show OwnB _ _ _ _ _ _ _ (hds (putH x.hs (grantH x nd le ns)))
    rw [ege] at q2 ⊢
    exact q2

end Go.Proofs.Ytlifpjllhibdpaa
set_option linter.unusedVariables false
set_option linter.unusedSimpArgs false
namespace Go.Proofs.Ytlifpjllhibdpaa
open Go.Vc Go.RowKit
set_option maxRecDepth 100000

theorem fndH_append (F G : List Hd) (nd : Int) : fndH (F ++ G) nd = (fndH F nd).or (fndH G nd) := by
  simp [fndH, List.find?_append]

theorem fndH_cons (h : Hd) (G : List Hd) (nd : Int) : fndH (h :: G) nd = if h.nd = nd then some h else fndH G nd := by
  unfold fndH
  rw [List.find?_cons]
  by_cases hn : h.nd = nd
  · simp [hn]
  · have e : (h.nd == nd) = false := by simpa using hn
    rw [e]; simp [hn]

theorem fndH_none {F : List Hd} {nd : Int} (h : ∀ z ∈ F, z.nd ≠ nd) : fndH F nd = none := by
  unfold fndH
  rw [List.find?_eq_none]
  intro z hz; simpa using h z hz

theorem putH_find {l : List Hd} {h : Hd} {last : Int} (hl : holdB last l = true) (nd : Int) : fndH (putH l h) nd = if nd = h.nd then some h else fndH l nd := by
  have hsp := hold_split h.nd hl
  have hF : ∀ z ∈ (l.filter fun z => decide (z.nd < h.nd)), z.nd < h.nd := fun z hz => by simpa using (List.mem_filter.1 hz).2
  have hG : ∀ z ∈ (l.filter fun z => decide (h.nd < z.nd)), h.nd < z.nd := fun z hz => by simpa using (List.mem_filter.1 hz).2
  by_cases hn : nd = h.nd
  · subst hn
    rw [putH, fndH_append, fndH_none (fun z hz => by have := hF z hz; omega), fndH_cons]
    simp
  · rw [if_neg hn]
    conv => rhs; rw [hsp]
    rw [putH, fndH_append, fndH_append, fndH_append, fndH_cons, if_neg (fun e => hn e.symm)]
    have : fndH (fndH l h.nd).toList nd = none := fndH_none fun z hz => by
      rw [Option.mem_toList] at hz
      have := List.find?_some hz
      simp at this; omega
    rw [this]; simp

theorem putH_sum {l : List Hd} {h : Hd} {last : Int} (hl : holdB last l = true) (f : Hd → Int) : sumI ((putH l h).map f) = sumI (l.map f) + f h - (((fndH l h.nd).map f).getD 0) := by
  have hsp := congrArg (fun z => sumI (List.map f z)) (hold_split h.nd hl)
  simp only [List.map_append, sumI_append] at hsp
  rw [putH, List.map_append, List.map_cons, sumI_append, sumI_cons, hsp]
  cases fndH l h.nd with
  | none => simp [sumI]; omega
  | some e => simp [sumI]; omega

theorem hold_append : ∀ {F : List Hd} {h : Hd} {G : List Hd} {last : Int}, holdB last F = true → (∀ z ∈ F, z.nd < h.nd) → last < h.nd → hdB last h = true → holdB h.nd G = true → holdB last (F ++ h :: G) = true
  | [], h, G, last, _, _, _, hh, hG => by simp only [List.nil_append, holdB, hh, hG, Bool.and_self]
  | z :: r, h, G, last, hF, hlt, hl, hh, hG => by
    simp only [holdB, Bool.and_eq_true] at hF
    have h1 := hlt z (by simp)
    have := hold_append (F := r) (h := h) (G := G) hF.2 (fun w hw => hlt w (by simp [hw])) h1 (by simp only [hdB, Bool.and_eq_true, decide_eq_true_eq] at hh ⊢; omega) hG
    simp only [List.cons_append, holdB, hF.1, this, Bool.and_self]

theorem hold_after {nd : Int} : ∀ {l : List Hd} {last : Int}, holdB last l = true → holdB nd (l.filter fun z => decide (nd < z.nd)) = true
  | [], _, _ => rfl
  | h :: r, last, hb => by
    simp only [holdB, Bool.and_eq_true] at hb
    by_cases hp : nd < h.nd
    · rw [List.filter_cons_of_pos (by simpa using hp)]
      have e2 : (r.filter fun z => decide (nd < z.nd)) = r := List.filter_eq_self.2 fun z hz => by have := hold_mem _ _ hb.2 z hz; simp; omega
      rw [e2]
      simp only [holdB, Bool.and_eq_true]
      refine ⟨?_, hb.2⟩
      have h1 := hb.1
      simp only [hdB, Bool.and_eq_true, decide_eq_true_eq] at h1 ⊢
      omega
    · rw [List.filter_cons_of_neg (by simpa using hp)]
      exact hold_after hb.2

theorem putH_hold {l : List Hd} {h : Hd} (hl : holdB 0 l = true) (hh : hdB 0 h = true) : holdB 0 (putH l h) = true := by
  refine hold_append (hold_filter hl) (fun z hz => by simpa using (List.mem_filter.1 hz).2) ?_ hh (hold_after hl)
  simp only [hdB, Bool.and_eq_true, decide_eq_true_eq] at hh
  omega

/-- what a grant makes of an account -/
def grantA (x : Ac) (nd le ns : Int) : Ac := { x with hs := putH x.hs (grantH x nd le ns) }

theorem aGrant_ok {x : Ac} {nd le ns : Int} (h : (aGrant x nd le ns).2 = 0) : rightB x = true ∧ 1 ≤ ns ∧ ns ≤ 5 ∧ 1 ≤ nd ∧ nd ≤ ns ∧ 1 ≤ le ∧ x.round = 0 ∧ x.lk.cl = 0 ∧ aGrant x nd le ns = (grantA x nd le ns, 0) := by
  unfold aGrant at h ⊢
  split at h
  · simp at h
  split at h
  · simp at h
  split at h
  · simp at h
  rename_i h1 h2 h3
  refine ⟨by simpa using h1, by omega, by omega, by omega, by omega, by omega, ?_, ?_, by simp only [h1, h2, h3, if_false, grantA]; simp⟩
  · exact Classical.byContradiction fun e => h3 (.inl e)
  · exact Classical.byContradiction fun e => h3 (.inr e)

theorem aGrant_err {x : Ac} {nd le ns : Int} (h : (aGrant x nd le ns).2 ≠ 0) : aGrant x nd le ns = (ac0, (aGrant x nd le ns).2) := by
  unfold aGrant at h ⊢
  repeat' split
  all_goals simp_all

structure GrantP (x : Ac) (nd le ns : Int) : Prop where
  right : rightB (grantA x nd le ns) = true
  wf : (grantA x nd le ns).wf
  gnd : (grantH x nd le ns).nd = nd
  gle : (grantH x nd le ns).le = if findB x nd then (findH x nd).le else le
  up : 0 ≤ (findH x nd).up ∧ (findH x nd).up ≤ (grantH x nd le ns).up ∧ (grantH x nd le ns).up ≤ 9223372036854775807 ∧ (grantH x nd le ns).up ≤ (findH x nd).up + roomUp x
  dn : 0 ≤ (findH x nd).dn ∧ (findH x nd).dn ≤ (grantH x nd le ns).dn ∧ (grantH x nd le ns).dn ≤ 9223372036854775807 ∧ (grantH x nd le ns).dn ≤ (findH x nd).dn + roomDn x
  roomU : roomUp (grantA x nd le ns) = roomUp x - ((grantH x nd le ns).up - (findH x nd).up)
  roomD : roomDn (grantA x nd le ns) = roomDn x - ((grantH x nd le ns).dn - (findH x nd).dn)
  find : findB (grantA x nd le ns) nd = true ∧ findH (grantA x nd le ns) nd = grantH x nd le ns
  other : ∀ o, o ≠ nd → findB (grantA x nd le ns) o = findB x o ∧ findH (grantA x nd le ns) o = findH x o

theorem grant_p {x : Ac} {nd le ns : Int} (hx : x.wf) (hr : rightB x = true) (h1 : 1 ≤ ns) (h2 : ns ≤ 5) (h3 : 1 ≤ nd) (h4 : nd ≤ ns) (h5 : 1 ≤ le) (h5' : In64 le) (h6 : x.round = 0) (h7 : x.lk.cl = 0) : GrantP x nd le ns := by
  have hp := (right_iff x).1 hr
  have hm := hold_mem _ _ hp.hold
  have hb := room_bounds hx hr h7
  have hlo := hx.lo
  have hhi := hx.hi
  have hba := hx.base
  have uU : InU (roomUp x) := by unfold InU; unfold In64 at *; omega
  have uD : InU (roomDn x) := by unfold InU; unfold In64 at *; omega
  have s1 := share_in (roomUp x) (ns + 1) ns uU
  have s2 := share_in (roomDn x) (ns + 1) ns uD
  generalize hsU : shareV (roomUp x) (ns + 1) ns = sU at s1
  generalize hsD : shareV (roomDn x) (ns + 1) ns = sD at s2
  have hg0 : 0 ≤ (findH x nd).up ∧ (findH x nd).up ≤ 9223372036854775807 ∧ 0 ≤ (findH x nd).dn ∧ (findH x nd).dn ≤ 9223372036854775807 := by
    cases hf : findB x nd
    · have : fndH x.hs nd = none := by simpa [findB, hr] using hf
      simp [findH, hr, this, hd0]
    · have hmem := (find_mem hf).2.1
      have h8 := hm _ hmem
      have h9 := hx.hs _ hmem
      unfold Hd.wf In64 at h9
      omega
  have gnd : (grantH x nd le ns).nd = nd := by
    unfold grantH
    cases hf : findB x nd
    · simp
    · simp [(find_mem hf).2.2]
  have gle : (grantH x nd le ns).le = if findB x nd then (findH x nd).le else le := by
    unfold grantH
    cases hf : findB x nd <;> simp
  have gup : (grantH x nd le ns).up = moreI (findH x nd).up sU := by
    unfold grantH
    rw [hsU]
    cases hf : findB x nd
    · have : fndH x.hs nd = none := by simpa [findB, hr] using hf
      simp [findH, hr, this, hd0]
    · simp
  have gdn : (grantH x nd le ns).dn = moreI (findH x nd).dn sD := by
    unfold grantH
    rw [hsD]
    cases hf : findB x nd
    · have : fndH x.hs nd = none := by simpa [findB, hr] using hf
      simp [findH, hr, this, hd0]
    · simp
  have hup : 0 ≤ (findH x nd).up ∧ (findH x nd).up ≤ (grantH x nd le ns).up ∧ (grantH x nd le ns).up ≤ 9223372036854775807 ∧ (grantH x nd le ns).up ≤ (findH x nd).up + roomUp x := by
    rw [gup]; unfold moreI; omega
  have hdn : 0 ≤ (findH x nd).dn ∧ (findH x nd).dn ≤ (grantH x nd le ns).dn ∧ (grantH x nd le ns).dn ≤ 9223372036854775807 ∧ (grantH x nd le ns).dn ≤ (findH x nd).dn + roomDn x := by
    rw [gdn]; unfold moreI; omega
  have gle1 : 1 ≤ (grantH x nd le ns).le ∧ In64 (grantH x nd le ns).le := by
    rw [gle]
    cases hf : findB x nd
    · simp; exact ⟨h5, h5'⟩
    · simp only [if_true]
      have hmem := (find_mem hf).2.1
      exact ⟨(hm _ hmem).2.2.1, (hx.hs _ hmem).2.1⟩
  have hhd : hdB 0 (grantH x nd le ns) = true := by simp only [hdB, Bool.and_eq_true, decide_eq_true_eq]; omega
  have hgf : ∀ f : Hd → Int, f hd0 = 0 → ((fndH x.hs nd).map f).getD 0 = f (findH x nd) := fun f hf0 => by
    cases hf : fndH x.hs nd with
    | none => simp [findH, hr, hf, hf0]
    | some e => simp [findH, hr, hf]
  have su := putH_sum (h := grantH x nd le ns) hp.hold (·.up)
  have sd := putH_sum (h := grantH x nd le ns) hp.hold (·.dn)
  rw [gnd, hgf (·.up) rfl] at su
  rw [gnd, hgf (·.dn) rfl] at sd
  have eU : sumI (upsL (grantA x nd le ns)) = sumI (upsL x) + ((grantH x nd le ns).up - (findH x nd).up) := by
    simp only [upsL, grantA, sumI_cons, su]; omega
  have eD : sumI (dnsL (grantA x nd le ns)) = sumI (dnsL x) - ((grantH x nd le ns).dn - (findH x nd).dn) := by
    have n1 := sumI_neg x.hs (·.dn)
    have n2 := sumI_neg (putH x.hs (grantH x nd le ns)) (·.dn)
    simp only [dnsL, grantA, sumI_cons]
    rw [n1, n2, sd]; omega
  have hR : rightB (grantA x nd le ns) = true := by
    refine (right_iff _).2 ⟨hp.key, hp.has, hp.round, putH_hold hp.hold hhd, ?_, ?_, ?_⟩
    · rw [eU]; show _ ≤ x.hi; omega
    · rw [eD]; show x.lo ≤ _; omega
    · have := hp.lock
      simp only [lockB, h7, if_true] at this
      simp only [lockB, grantA, h7, if_true]
      exact this
  have hmemp : ∀ z ∈ putH x.hs (grantH x nd le ns), z = grantH x nd le ns ∨ z ∈ x.hs := fun z hz => by
    simp only [putH, List.mem_append, List.mem_cons, List.mem_filter] at hz
    rcases hz with h | h | h
    · exact .inr h.1
    · exact .inl h
    · exact .inr h.1
  have hW : (grantA x nd le ns).wf := by
    refine ⟨hx.key, hx.lo, hx.hi, hx.base, hx.round, fun z hz => ?_, ?_, hx.lk⟩
    · rcases hmemp z hz with rfl | h
      · refine ⟨by rw [gnd]; unfold In64; omega, gle1.2, ?_, ?_⟩ <;> unfold In64 <;> omega
      · exact hx.hs z h
    · have := right_len hR; omega
  have hl' : (grantA x nd le ns).lk.cl = 0 := h7
  have hb' := room_bounds hW hR hl'
  refine ⟨hR, hW, gnd, gle, hup, hdn, ?_, ?_, ?_, fun o ho => ?_⟩
  · have : (grantA x nd le ns).hi = x.hi := rfl
    omega
  · have : (grantA x nd le ns).lo = x.lo := rfl
    omega
  · have := putH_find (h := grantH x nd le ns) hp.hold nd
    rw [gnd, if_pos rfl] at this
    simp [findB, findH, hR, show (grantA x nd le ns).hs = putH x.hs (grantH x nd le ns) from rfl, this]
  · have := putH_find (h := grantH x nd le ns) hp.hold o
    rw [gnd, if_neg ho] at this
    simp [findB, findH, hR, hr, show (grantA x nd le ns).hs = putH x.hs (grantH x nd le ns) from rfl, this]

end Go.Proofs.Ytlifpjllhibdpaa
set_option linter.unusedVariables false
set_option linter.unusedSimpArgs false
namespace Go.Proofs.Ytlifpjllhibdpaa
open Go.Vc Go.RowKit
set_option maxRecDepth 100000

theorem aTake_ok {x : Ac} {k : Lk} (h : (aTake x k).2 = 0) : rightB x = true ∧ keeperB k = true ∧ x.lk.cl = 0 ∧ x.hs = [] ∧ fitsB x k = true ∧ aTake x k = ({ x with lk := k }, 0) := by
  unfold aTake at h ⊢
  split at h
  · simp at h
  split at h
  · simp at h
  split at h
  · rename_i h3; exact absurd h h3
  split at h
  · simp at h
  rename_i h1 h2 h3 h4
  have h1 : rightB x = true := by simpa using h1
  have h3 : knownE x = 0 := Classical.byContradiction h3
  have ht : totB x = true := by
    cases ht : totB x
    · simp [knownE, h1, ht] at h3
    · rfl
  simp only [totB, Bool.and_eq_true, decide_eq_true_eq, List.isEmpty_iff] at ht
  have h2' : keeperB k = true := by simpa using h2
  have h4' : fitsB x k = true := by simpa using h4
  exact ⟨h1, h2', ht.1.2, ht.2, h4', by simp [h1, h2', h3, h4']⟩

theorem aTake_err {x : Ac} {k : Lk} (h : (aTake x k).2 ≠ 0) : aTake x k = (ac0, (aTake x k).2) := by
  unfold aTake at h ⊢
  repeat' split
  all_goals simp_all

theorem take_right {x : Ac} {k : Lk} (hx : x.wf) (hk : k.wf) (hr : rightB x = true) (h1 : keeperB k = true) (h2 : x.lk.cl = 0) (h3 : x.hs = []) (h4 : fitsB x k = true) : rightB { x with lk := k } = true ∧ ({ x with lk := k } : Ac).wf ∧ k.cl ≠ 0 := by
  have hp := (right_iff x).1 hr
  have hc : k.cl ≠ 0 := by simp [keeperB] at h1; omega
  refine ⟨(right_iff _).2 ⟨hp.key, hp.has, hp.round, hp.hold, hp.up, hp.dn, ?_⟩, ⟨hx.key, hx.lo, hx.hi, hx.base, hx.round, hx.hs, hx.len, hk⟩, hc⟩
  have hf : fitsB { x with lk := k } k = true := h4
  show (if k.cl = 0 then lkZ k else keeperB k && x.hs.isEmpty && fitsB { x with lk := k } k) = true
  rw [if_neg hc, h1, hf, h3]
  rfl

theorem lk0_wf : lk0.wf := ⟨by decide, by decide, by decide, by decide⟩

theorem free_right {x : Ac} {b : Bool} (hx : x.wf) (hr : rightB x = true) (hc : x.lk.cl ≠ 0) :
    rightB { x with base := if b then x.base + x.lk.n else x.base, lk := lk0 } = true ∧ ({ x with base := if b then x.base + x.lk.n else x.base, lk := lk0 } : Ac).wf := by
  have hp := (right_iff x).1 hr
  have hl := hp.lock
  simp only [lockB] at hl
  rw [if_neg hc] at hl
  simp only [Bool.and_eq_true, List.isEmpty_iff, fitsB, hasB, decide_eq_true_eq] at hl
  obtain ⟨⟨h1, h2⟩, h3⟩ := hl
  have hh := hp.has
  have hlo := hx.lo
  have hhi := hx.hi
  have hb : x.lo ≤ (if b then x.base + x.lk.n else x.base) ∧ (if b then x.base + x.lk.n else x.base) ≤ x.hi := by cases b <;> simp <;> omega
  refine ⟨(right_iff _).2 ⟨hp.key, hb, hp.round, hp.hold, ?_, ?_, ?_⟩, ⟨hx.key, hx.lo, hx.hi, ?_, hx.round, hx.hs, hx.len, lk0_wf⟩⟩
  · simp only [upsL, h2, List.map_nil, sumI_cons]; simp only [sumI, List.foldl_nil]; omega
  · simp only [dnsL, h2, List.map_nil, sumI_cons]; simp only [sumI, List.foldl_nil]; omega
  · simp [lockB, lk0, lkZ]
  · simp only; unfold In64 at *; omega

theorem accountlocks (x : Ac) (a : Option Addr) (c : Nat) (k : Lk) (n : Int) (lo hi : Int) (b : Bool) (hx : x.wf) (hk : k.wf) (hn : In64 n) (h0 : a = none → x.hs = []) (m : M) (h : Row m a (hds x.hs)) :
    QSpec Try.prog 7 [acv x a c, .agg #[I k.cl, I k.sq, I k.hm, I k.n], I n, sp lo hi, .bool b] m (.bool true) := by
  refine QSpec.of_vc Try.func7 (ann := fun _ => noAnn) fun N hN => ?_
  refine vc_by (X :=
      true = true ∧
      ∃ (b_1 : Bool),
      QSpec Try.prog (21 : Nat) [] { π := m.π, sz := N, uf := m.uf : M } (Value.bool b_1) ∧
      ifB (!b_1) (Done (Value.bool false = Value.bool true))
      (∀ (n_1 : Nat),
      N ≤ n_1 →
      Vc.Spec Try.prog (34 : Nat)
      [Value.agg
      #[Value.string x.key, Value.int IntKind.i64 x.lo, Value.int IntKind.i64 x.hi, Value.int IntKind.i64 x.base, Value.int IntKind.i64 x.round,
      Value.slice a x.hs.length c, Value.int IntKind.i64 x.lk.cl, Value.int IntKind.i64 x.lk.sq, Value.int IntKind.i64 x.lk.hm, Value.int IntKind.i64 x.lk.n],
      Value.agg #[Value.int IntKind.i64 k.cl, Value.int IntKind.i64 k.sq, Value.int IntKind.i64 k.hm, Value.int IntKind.i64 k.n]]
      { π := m.π, sz := n_1, uf := m.uf : M } fun (v : Value) (m' : M) =>
      ∃ (s : ByteArray),
      ∃ (n_2 : Int),
      ∃ (n_3 : Int),
      ∃ (n_4 : Int),
      ∃ (n_5 : Int),
      ∃ (a_2 : Option Addr),
      ∃ (n_6 : Nat),
      ∃ (c_1 : Nat),
      ∃ (n_7 : Int),
      ∃ (n_8 : Int),
      ∃ (n_9 : Int),
      ∃ (n_10 : Int),
      ∃ (n_11 : Int),
      v =
      Value.tuple
      #[Value.agg
      #[Value.string s, Value.int IntKind.i64 n_2, Value.int IntKind.i64 n_3, Value.int IntKind.i64 n_4, Value.int IntKind.i64 n_5,
      Value.slice a_2 n_6 c_1, Value.int IntKind.i64 n_7, Value.int IntKind.i64 n_8, Value.int IntKind.i64 n_9,
      Value.int IntKind.i64 n_10],
      Value.int IntKind.i64 n_11] ∧
      ifB (n_11 != (0 : Int))
      (∃ (b : Bool),
      QSpec Try.prog (23 : Nat)
      [Value.agg
      #[Value.string s, Value.int IntKind.i64 n_2, Value.int IntKind.i64 n_3, Value.int IntKind.i64 n_4, Value.int IntKind.i64 n_5,
      Value.slice a_2 n_6 c_1, Value.int IntKind.i64 n_7, Value.int IntKind.i64 n_8, Value.int IntKind.i64 n_9,
      Value.int IntKind.i64 n_10],
      Value.agg
      #[Value.string { data := #[] : ByteArray }, Value.int IntKind.i64 (0 : Int), Value.int IntKind.i64 (0 : Int),
      Value.int IntKind.i64 (0 : Int), Value.int IntKind.i64 (0 : Int), Value.slice none (0 : Nat) (0 : Nat),
      Value.int IntKind.i64 (0 : Int), Value.int IntKind.i64 (0 : Int), Value.int IntKind.i64 (0 : Int),
      Value.int IntKind.i64 (0 : Int)]]
      m' (Value.bool b) ∧
      Done (Value.bool b = Value.bool true))
      (∀ (n_12 : Nat),
      m'.sz ≤ n_12 →
      Vc.Spec Try.prog (27 : Nat)
      [Value.agg
      #[Value.string s, Value.int IntKind.i64 n_2, Value.int IntKind.i64 n_3, Value.int IntKind.i64 n_4, Value.int IntKind.i64 n_5,
      Value.slice a_2 n_6 c_1, Value.int IntKind.i64 n_7, Value.int IntKind.i64 n_8, Value.int IntKind.i64 n_9,
      Value.int IntKind.i64 n_10],
      Value.int IntKind.i64 n]
      { π := m'.π, sz := n_12, uf := m'.uf : M } fun (v : Value) (m' : M) =>
      ∃ (s_1 : ByteArray),
      ∃ (n : Int),
      ∃ (n_13 : Int),
      ∃ (n_14 : Int),
      ∃ (n_15 : Int),
      ∃ (a_4 : Option Addr),
      ∃ (n_16 : Nat),
      ∃ (c_2 : Nat),
      ∃ (n_17 : Int),
      ∃ (n_18 : Int),
      ∃ (n_19 : Int),
      ∃ (n_20 : Int),
      ∃ (n_21 : Int),
      v =
      Value.tuple
      #[Value.agg
      #[Value.string s_1, Value.int IntKind.i64 n, Value.int IntKind.i64 n_13,
      Value.int IntKind.i64 n_14, Value.int IntKind.i64 n_15, Value.slice a_4 n_16 c_2,
      Value.int IntKind.i64 n_17, Value.int IntKind.i64 n_18, Value.int IntKind.i64 n_19,
      Value.int IntKind.i64 n_20],
      Value.int IntKind.i64 n_21] ∧
      ∀ (n : Nat),
      m'.sz ≤ n →
      Vc.Spec Try.prog (35 : Nat)
      [Value.agg
      #[Value.string s, Value.int IntKind.i64 n_2, Value.int IntKind.i64 n_3,
      Value.int IntKind.i64 n_4, Value.int IntKind.i64 n_5, Value.slice a_2 n_6 c_1,
      Value.int IntKind.i64 n_7, Value.int IntKind.i64 n_8, Value.int IntKind.i64 n_9,
      Value.int IntKind.i64 n_10],
      Value.agg #[Value.int IntKind.i64 lo, Value.int IntKind.i64 hi]]
      { π := m'.π, sz := n, uf := m'.uf : M } fun (v : Value) (m' : M) =>
      ∃ (s_2 : ByteArray),
      ∃ (n : Int),
      ∃ (n_22 : Int),
      ∃ (n_23 : Int),
      ∃ (n_24 : Int),
      ∃ (a_6 : Option Addr),
      ∃ (n_25 : Nat),
      ∃ (c_3 : Nat),
      ∃ (n_26 : Int),
      ∃ (n_27 : Int),
      ∃ (n_28 : Int),
      ∃ (n_29 : Int),
      ∃ (n_30 : Int),
      v =
      Value.tuple
      #[Value.agg
      #[Value.string s_2, Value.int IntKind.i64 n,
      Value.int IntKind.i64 n_22, Value.int IntKind.i64 n_23,
      Value.int IntKind.i64 n_24, Value.slice a_6 n_25 c_3,
      Value.int IntKind.i64 n_26, Value.int IntKind.i64 n_27,
      Value.int IntKind.i64 n_28, Value.int IntKind.i64 n_29],
      Value.int IntKind.i64 n_30] ∧
      ∀ (n : Nat),
      m'.sz ≤ n →
      Vc.Spec Try.prog (34 : Nat)
      [Value.agg
      #[Value.string s, Value.int IntKind.i64 n_2,
      Value.int IntKind.i64 n_3, Value.int IntKind.i64 n_4,
      Value.int IntKind.i64 n_5, Value.slice a_2 n_6 c_1,
      Value.int IntKind.i64 n_7, Value.int IntKind.i64 n_8,
      Value.int IntKind.i64 n_9, Value.int IntKind.i64 n_10],
      Value.agg
      #[Value.int IntKind.i64 k.cl, Value.int IntKind.i64 k.sq,
      Value.int IntKind.i64 k.hm, Value.int IntKind.i64 k.n]]
      { π := m'.π, sz := n, uf := m'.uf : M }
      fun (v : Value) (m' : M) =>
      ∃ (s_3 : ByteArray),
      ∃ (n : Int),
      ∃ (n_31 : Int),
      ∃ (n_32 : Int),
      ∃ (n_33 : Int),
      ∃ (a_8 : Option Addr),
      ∃ (n_34 : Nat),
      ∃ (c_4 : Nat),
      ∃ (n_35 : Int),
      ∃ (n_36 : Int),
      ∃ (n_37 : Int),
      ∃ (n_38 : Int),
      ∃ (n_39 : Int),
      v =
      Value.tuple
      #[Value.agg
      #[Value.string s_3,
      Value.int IntKind.i64 n,
      Value.int IntKind.i64
      n_31,
      Value.int IntKind.i64
      n_32,
      Value.int IntKind.i64
      n_33,
      Value.slice a_8 n_34
      c_4,
      Value.int IntKind.i64
      n_35,
      Value.int IntKind.i64
      n_36,
      Value.int IntKind.i64
      n_37,
      Value.int IntKind.i64
      n_38],
      Value.int IntKind.i64
      n_39] ∧
      ∀ (n : Nat),
      m'.sz ≤ n →
      Vc.Spec Try.prog (33 : Nat)
      [Value.agg
      #[Value.string s,
      Value.int IntKind.i64
      n_2,
      Value.int IntKind.i64
      n_3,
      Value.int IntKind.i64
      n_4,
      Value.int IntKind.i64
      n_5,
      Value.slice a_2 n_6
      c_1,
      Value.int IntKind.i64
      n_7,
      Value.int IntKind.i64
      n_8,
      Value.int IntKind.i64
      n_9,
      Value.int IntKind.i64
      n_10],
      Value.int IntKind.i64
      (1 : Int),
      Value.int IntKind.i64
      (1 : Int),
      Value.int IntKind.i64
      (1 : Int)]
      { π := m'.π, sz := n, uf := m'.uf : M }
      fun (v : Value) (m' : M) =>
      ∃ (s_4 : ByteArray),
      ∃ (n : Int),
      ∃ (n_40 : Int),
      ∃ (n_41 : Int),
      ∃ (n_42 : Int),
      ∃ (a_10 :
      Option Addr),
      ∃ (n_43 : Nat),
      ∃ (c_5 : Nat),
      ∃ (n_44 :
      Int),
      ∃ (n_45 :
      Int),
      ∃ (n_46
      :
      Int),
      ∃
      (n_47
      :
      Int),
      ∃
      (n_48
      :
      Int),
      v =
      Value.tuple
      #[Value.agg
      #[Value.string
      s_4,
      Value.int
      IntKind.i64
      n,
      Value.int
      IntKind.i64
      n_40,
      Value.int
      IntKind.i64
      n_41,
      Value.int
      IntKind.i64
      n_42,
      Value.slice
      a_10
      n_43
      c_5,
      Value.int
      IntKind.i64
      n_44,
      Value.int
      IntKind.i64
      n_45,
      Value.int
      IntKind.i64
      n_46,
      Value.int
      IntKind.i64
      n_47],
      Value.int
      IntKind.i64
      n_48] ∧
      ∀
      (n :
      Nat),
      m'.sz ≤
      n →
      Vc.Spec
      Try.prog
      (36 :
      Nat)
      [Value.agg
      #[Value.string
      s,
      Value.int
      IntKind.i64
      n_2,
      Value.int
      IntKind.i64
      n_3,
      Value.int
      IntKind.i64
      n_4,
      Value.int
      IntKind.i64
      n_5,
      Value.slice
      a_2
      n_6
      c_1,
      Value.int
      IntKind.i64
      n_7,
      Value.int
      IntKind.i64
      n_8,
      Value.int
      IntKind.i64
      n_9,
      Value.int
      IntKind.i64
      n_10],
      Value.bool
      b]
      { π := m'.π, sz := n, uf := m'.uf : M }
      fun
      (v :
      Value)
      (m' :
      M) =>
      ∃
      (s
      :
      ByteArray),
      ∃
      (n
      :
      Int),
      ∃
      (n_49
      :
      Int),
      ∃
      (n_50
      :
      Int),
      ∃
      (n_51
      :
      Int),
      ∃
      (a_12
      :
      Option
      Addr),
      ∃
      (n_52
      :
      Nat),
      ∃
      (c_6
      :
      Nat),
      ∃
      (n_53
      :
      Int),
      ∃
      (n_54
      :
      Int),
      ∃
      (n_55
      :
      Int),
      ∃
      (n_56
      :
      Int),
      ∃
      (n_57
      :
      Int),
      v =
      Value.tuple
      #[Value.agg
      #[Value.string
      s,
      Value.int
      IntKind.i64
      n,
      Value.int
      IntKind.i64
      n_49,
      Value.int
      IntKind.i64
      n_50,
      Value.int
      IntKind.i64
      n_51,
      Value.slice
      a_12
      n_52
      c_6,
      Value.int
      IntKind.i64
      n_53,
      Value.int
      IntKind.i64
      n_54,
      Value.int
      IntKind.i64
      n_55,
      Value.int
      IntKind.i64
      n_56],
      Value.int
      IntKind.i64
      n_57] ∧
      ∀
      (n_58 :
      Nat),
      m'.sz ≤
      n_58 →
      Vc.Spec
      Try.prog
      (36 :
      Nat)
      [Value.agg
      #[Value.string
      s,
      Value.int
      IntKind.i64
      n,
      Value.int
      IntKind.i64
      n_49,
      Value.int
      IntKind.i64
      n_50,
      Value.int
      IntKind.i64
      n_51,
      Value.slice
      a_12
      n_52
      c_6,
      Value.int
      IntKind.i64
      n_53,
      Value.int
      IntKind.i64
      n_54,
      Value.int
      IntKind.i64
      n_55,
      Value.int
      IntKind.i64
      n_56],
      Value.bool
      b]
      { π := m'.π, sz := n_58, uf := m'.uf : M }
      fun
      (v :
      Value)
      (m' :
      M) =>
      ∃
      (s_5
      :
      ByteArray),
      ∃
      (n_59
      :
      Int),
      ∃
      (n_60
      :
      Int),
      ∃
      (n_61
      :
      Int),
      ∃
      (n_62
      :
      Int),
      ∃
      (a_14
      :
      Option
      Addr),
      ∃
      (n_63
      :
      Nat),
      ∃
      (c_7
      :
      Nat),
      ∃
      (n_64
      :
      Int),
      ∃
      (n_65
      :
      Int),
      ∃
      (n_66
      :
      Int),
      ∃
      (n_67
      :
      Int),
      ∃
      (n_68
      :
      Int),
      v =
      Value.tuple
      #[Value.agg
      #[Value.string
      s_5,
      Value.int
      IntKind.i64
      n_59,
      Value.int
      IntKind.i64
      n_60,
      Value.int
      IntKind.i64
      n_61,
      Value.int
      IntKind.i64
      n_62,
      Value.slice
      a_14
      n_63
      c_7,
      Value.int
      IntKind.i64
      n_64,
      Value.int
      IntKind.i64
      n_65,
      Value.int
      IntKind.i64
      n_66,
      Value.int
      IntKind.i64
      n_67],
      Value.int
      IntKind.i64
      n_68] ∧
      ifB
      (n_21 ==
      (0 :
      Int))
      (Done
      (Value.bool
      false =
      Value.bool
      true))
      (ifB
      (n_30 ==
      (0 :
      Int))
      (Done
      (Value.bool
      false =
      Value.bool
      true))
      (ifB
      (n_39 ==
      (0 :
      Int))
      (Done
      (Value.bool
      false =
      Value.bool
      true))
      (ifB
      (n_48 ==
      (0 :
      Int))
      (Done
      (Value.bool
      false =
      Value.bool
      true))
      (ifB
      (n_57 !=
      (0 :
      Int))
      (Done
      (Value.bool
      false =
      Value.bool
      true))
      (ifB
      (n_68 !=
      (60 :
      Int))
      (Done
      (Value.bool
      false =
      Value.bool
      true))
      (ifB
      (n_4 !=
      x.base)
      (Done
      (Value.bool
      false =
      Value.bool
      true))
      (ifB
      b
      (∃
      (b
      :
      Bool),
      QSpec
      Try.prog
      (23 :
      Nat)
      [Value.agg
      #[Value.string
      s,
      Value.int
      IntKind.i64
      n,
      Value.int
      IntKind.i64
      n_49,
      Value.int
      IntKind.i64
      n_50,
      Value.int
      IntKind.i64
      n_51,
      Value.slice
      a_12
      n_52
      c_6,
      Value.int
      IntKind.i64
      n_53,
      Value.int
      IntKind.i64
      n_54,
      Value.int
      IntKind.i64
      n_55,
      Value.int
      IntKind.i64
      n_56],
      Value.agg
      #[Value.string
      x.key,
      Value.int
      IntKind.i64
      x.lo,
      Value.int
      IntKind.i64
      x.hi,
      Value.int
      IntKind.i64
      (IntKind.i64.wrap
      (x.base +
      k.n)),
      Value.int
      IntKind.i64
      x.round,
      Value.slice
      a
      x.hs.length
      c,
      Value.int
      IntKind.i64
      (0 :
      Int),
      Value.int
      IntKind.i64
      (0 :
      Int),
      Value.int
      IntKind.i64
      (0 :
      Int),
      Value.int
      IntKind.i64
      (0 :
      Int)]]
      m'
      (Value.bool
      b) ∧
      Done
      (Value.bool
      b =
      Value.bool
      true))
      (∃
      (b
      :
      Bool),
      QSpec
      Try.prog
      (23 :
      Nat)
      [Value.agg
      #[Value.string
      s,
      Value.int
      IntKind.i64
      n,
      Value.int
      IntKind.i64
      n_49,
      Value.int
      IntKind.i64
      n_50,
      Value.int
      IntKind.i64
      n_51,
      Value.slice
      a_12
      n_52
      c_6,
      Value.int
      IntKind.i64
      n_53,
      Value.int
      IntKind.i64
      n_54,
      Value.int
      IntKind.i64
      n_55,
      Value.int
      IntKind.i64
      n_56],
      Value.agg
      #[Value.string
      x.key,
      Value.int
      IntKind.i64
      x.lo,
      Value.int
      IntKind.i64
      x.hi,
      Value.int
      IntKind.i64
      x.base,
      Value.int
      IntKind.i64
      x.round,
      Value.slice
      a
      x.hs.length
      c,
      Value.int
      IntKind.i64
      (0 :
      Int),
      Value.int
      IntKind.i64
      (0 :
      Int),
      Value.int
      IntKind.i64
      (0 :
      Int),
      Value.int
      IntKind.i64
      (0 :
      Int)]]
      m'
      (Value.bool
      b) ∧
      Done
      (Value.bool
      b =
      Value.bool
      true)))))))))))) (by kernel_rfl) ?_
  refine ⟨rfl, _, awake_q _, ifB_false fun N1 hN1 => (atake_s x a c k hx hk h0 _ (h.sz (Nat.le_trans hN hN1))).mono fun v m' hag ⟨a', c', hv, hr⟩ => ⟨_, _, _, _, _, _, _, _, _, _, _, _, _, hv, ?_⟩⟩
  by_cases he : (aTake x k).2 = 0
  · obtain ⟨h1, h2, h3, h4, h5, h6⟩ := aTake_ok he
    obtain ⟨g1, g2, g3⟩ := take_right hx hk h1 h2 h3 h4 h5
    rw [h6] at hr ⊢
    have rx : Row m' a (hds x.hs) := (h.sz (Nat.le_trans hN hN1)).agree hag
    have z0 : a' = none → ({ x with lk := k } : Ac).hs = [] := fun _ => h4
    have r0 : ∀ M1 : M, Row M1 a' (hds ({ x with lk := k } : Ac).hs) := fun M1 => by
      show Row M1 a' (hds x.hs)
      rw [h4]; exact .nil _
    have hk0 : knownE { x with lk := k } = 152 := by simp [knownE, g1, totB, g3]
    have e1 : (aAdd { x with lk := k } n).2 ≠ 0 := by
      by_cases hn0 : n = 0
      · simp [aAdd, g1, hn0]
      · simp [aAdd, g1, hn0, g3]
    have e2 : (aBounds { x with lk := k } lo hi).2 ≠ 0 := by simp [aBounds, hk0]
    have e3 : (aTake { x with lk := k } k).2 ≠ 0 := by simp [aTake, g1, h2, hk0]
    have e4 : (aGrant { x with lk := k } 1 1 1).2 ≠ 0 := by simp [aGrant, g1, g3]
    have e5 : aFree { x with lk := k } b = ({ x with base := if b then x.base + k.n else x.base, lk := lk0 }, 0) := by simp [aFree, g1, g3]
    obtain ⟨g5, g6⟩ := free_right (b := b) g2 g1 g3
    have e6 : aFree { x with base := if b then x.base + k.n else x.base, lk := lk0 } b = (ac0, 60) := by
      have g5 : rightB { x with base := if b then x.base + k.n else x.base, lk := lk0 } = true := g5
      unfold aFree
      rw [if_neg (by rw [g5]; simp)]
      exact if_pos rfl
    refine ifB_false fun N2 hN2 => (aadd_s { x with lk := k } a' c' n g2 hn z0 _ (r0 _)).mono fun v1 m1 hag1 ⟨a1, c1, hv1, _⟩ => ⟨_, _, _, _, _, _, _, _, _, _, _, _, _, hv1, fun N3 hN3 => ?_⟩
    refine (abounds_s { x with lk := k } a' c' lo hi g2 z0 _ (r0 _)).mono fun v2 m2 hag2 ⟨a2, c2, hv2, _⟩ => ⟨_, _, _, _, _, _, _, _, _, _, _, _, _, hv2, fun N4 hN4 => ?_⟩
    refine (atake_s { x with lk := k } a' c' k g2 hk z0 _ (r0 _)).mono fun v3 m3 hag3 ⟨a3, c3, hv3, _⟩ => ⟨_, _, _, _, _, _, _, _, _, _, _, _, _, hv3, fun N5 hN5 => ?_⟩
    refine (agrant_s { x with lk := k } a' c' 1 1 1 g2 z0 _ (r0 _)).mono fun v4 m4 hag4 ⟨a4, c4, hv4, _⟩ => ⟨_, _, _, _, _, _, _, _, _, _, _, _, _, hv4, fun N6 hN6 => ?_⟩
    refine (afree_s { x with lk := k } a' c' b g2 z0 _ (r0 _)).mono fun v5 m5 hag5 ⟨a5, c5, hv5, hr5⟩ => ⟨_, _, _, _, _, _, _, _, _, _, _, _, _, hv5, fun N7 hN7 => ?_⟩
    rw [e5] at hr5 ⊢
    have r5 : ∀ (M1 : M) (a9 : Option Addr), Row M1 a9 (hds ({ x with base := if b then x.base + k.n else x.base, lk := lk0 } : Ac).hs) := fun M1 a9 => by
      show Row M1 a9 (hds x.hs)
      rw [h4]; exact .nil _
    refine (afree_s { x with base := if b then x.base + k.n else x.base, lk := lk0 } a5 c5 b g6 (fun _ => h4) _ (r5 _ _)).mono fun v6 m6 hag6 ⟨a6, c6, hv6, hr6⟩ => ⟨_, _, _, _, _, _, _, _, _, _, _, _, _, hv6, ?_⟩
    rw [e6]
    have t1 : ((aAdd { x with lk := k } n).2 == 0) = false := by simpa using e1
    have t2 : ((aBounds { x with lk := k } lo hi).2 == 0) = false := by simpa using e2
    have t3 : ((aTake { x with lk := k } k).2 == 0) = false := by simpa using e3
    have t4 : ((aGrant { x with lk := k } 1 1 1).2 == 0) = false := by simpa using e4
    rw [t1, t2, t3, t4]
    refine ifB_false (ifB_false (ifB_false (ifB_false (ifB_false (ifB_false ?_)))))
    rw [show ((({ x with lk := k } : Ac), (0 : Int)).1.base != x.base) = false by simp]
    have hf : fitsB x k = true := h5
    simp only [fitsB, hasB, Bool.and_eq_true, decide_eq_true_eq] at hf
    have hlo := hx.lo
    have hhi := hx.hi
    have w1 : IntKind.i64.wrap (x.base + k.n) = x.base + k.n := by unfold In64 at *; simp [IntKind.wrap_i64]; omega
    refine ifB_false ?_
    cases b
    · exact ifB_false ⟨_, saccount_q _ { x with lk := lk0 } a5 a c5 c g6 ⟨hx.key, hx.lo, hx.hi, hx.base, hx.round, hx.hs, hx.len, lk0_wf⟩ m6 (r5 _ _) (by show Row m6 a (hds x.hs); rw [h4]; exact .nil _), ⟨by simp⟩⟩
    · rw [w1]
      exact ifB_true ⟨_, saccount_q _ { x with base := x.base + k.n, lk := lk0 } a5 a c5 c g6 ⟨hx.key, hx.lo, hx.hi, (by simpa using g6.base), hx.round, hx.hs, hx.len, lk0_wf⟩ m6 (r5 _ _) (by show Row m6 a (hds x.hs); rw [h4]; exact .nil _), ⟨by simp⟩⟩
  · have hb : ((aTake x k).2 != 0) = true := by simpa using he
    rw [hb]
    have e := aTake_err he
    rw [e] at hr ⊢
    refine ifB_true ⟨_, saccount_q ac0 ac0 a' none c' 0 (wf_key _ (by decide)) (wf_key _ (by decide)) m' hr.row (.nil _), ⟨by simp⟩⟩

end Go.Proofs.Ytlifpjllhibdpaa
set_option linter.unusedVariables false
set_option linter.unusedSimpArgs false
namespace Go.Proofs.Ytlifpjllhibdpaa
open Go.Vc Go.RowKit
set_option maxRecDepth 100000

def oneW (h : Hd) (k : Nat) : List Hd := if ((k + 1 : Nat) : Int) = h.nd then [h] else []

def resW (L : List Hd) (h : Hd) : Nat → List Hd
  | 0 => []
  | k + 1 => resW L h k ++ oneW h k ++ L.filter fun z => decide (z.nd = ((k + 1 : Nat) : Int))

structure WiX where
  k : Nat
  i : Nat
  aL : Option Addr
  cL : Nat
  a : Option Addr
  c : Nat
  m : M
  B : Nat

structure WiI (L : List Hd) (m : M) (y : WiX) (l : List Hd) : Prop where
  B : m.sz ≤ y.B
  Bm : y.B ≤ y.m.sz
  row : Row { y.m with sz := y.B } y.aL (hds L)
  own : NewR y.B (fun _ => False) y.m 4 y.a l.length y.c (hds l)

def inW (L : List Hd) (h : Hd) (y : WiX) : List Hd := resW L h y.k ++ oneW h y.k ++ (L.take y.i).filter fun z => decide (z.nd = ((y.k + 1 : Nat) : Int))

theorem oneW_len (h : Hd) (k : Nat) : (oneW h k).length ≤ 1 := by unfold oneW; split <;> simp

theorem resW_len (L : List Hd) (h : Hd) : ∀ k, (resW L h k).length ≤ k * (L.length + 1)
  | 0 => by simp [resW]
  | k + 1 => by
    have h1 := resW_len L h k
    have h2 := oneW_len h k
    have h3 := List.length_filter_le (fun z : Hd => decide (z.nd = ((k + 1 : Nat) : Int))) L
    simp only [resW, List.length_append, Nat.add_mul, Nat.one_mul]
    omega

theorem inW_len (L : List Hd) (h : Hd) (y : WiX) : (inW L h y).length ≤ (y.k + 1) * (L.length + 1) := by
  have h1 := resW_len L h y.k
  have h2 := oneW_len h y.k
  have h3 := List.length_filter_le (fun z : Hd => decide (z.nd = ((y.k + 1 : Nat) : Int))) (L.take y.i)
  have h4 : (L.take y.i).length ≤ L.length := by simp; omega
  simp only [inW, List.length_append, Nat.add_mul, Nat.one_mul]
  omega

theorem wi_push {L : List Hd} {m : M} {y : WiX} {l : List Hd} (hy : WiI L m y l) (hl : l.length ≤ 100000) (e : Hd) {b : Nat} (hb : y.m.sz ≤ b) :
    AppPre m.sz (fun _ => False) (y.m.newBlock b (encH e)) 4 32 y.a l.length y.c (some ⟨b, 0, none⟩) 1 (hds l) (encH e) ∧
      ∀ a' c' m', AppPost Try.prog 31 (y.m.newBlock b (encH e)) 4 y.a l.length y.c 1 (hds l) (encH e) a' c' m' → ∀ k i l', l' = l ++ [e] → WiI L m ⟨k, i, y.aL, y.cL, a', c', m', y.B⟩ l' := by
  have h1 := hy.B
  have h2 := hy.Bm
  obtain ⟨g1, -⟩ := (hy.own.lower h1).push (P := Try.prog) (e := 31) (bytes := 32) (src := encH e) hb (by omega) rfl rfl (by omega) zr_hd
  obtain ⟨-, g2⟩ := hy.own.push (P := Try.prog) (e := 31) (bytes := 32) (src := encH e) hb h2 rfl rfl (by omega) zr_hd
  refine ⟨g1, fun a' c' m' hp k i l' hl' => ?_⟩
  obtain ⟨g3, g4⟩ := g2 a' c' m' hp
  subst hl'
  refine ⟨h1, (by have := g4.2.2; show y.B ≤ m'.sz; omega), ?_, ?_⟩
  · exact hy.row.of (Nat.le_refl _) fun b' o e' hb' => g4.1 b' hb'
  · have e1 : hds (l ++ [e]) = hds l ++ encH e := by simp [hds]
    have e2 : (l ++ [e]).length = l.length + 1 := by simp
    rw [e1, e2]
    exact g3

def withAnn (x : Ac) (L : List Hd) (h : Hd) (m : M) : Nat → Ann
  | 9 => {
    A := WiX
    inv := fun y => WiI L m y (inW L h y) ∧ y.i ≤ L.length ∧ y.k < 5
    st := fun y => [(7, .val (I y.i)), (6, .val (I ((y.k + 1 : Nat) : Int))), (3, .own 1 0), (2, .own 0 0), (4, .own 2 0), (5, .val (.slice y.a (inW L h y).length y.c))]
    own := fun y => [(0, ⟨28, acc { x with hs := L } y.aL y.cL⟩), (1, ⟨31, encH h⟩), (2, ⟨28, acc ac0 none 0⟩)]
    m := fun y => y.m
    μ := fun y => L.length - y.i
    link := some fun y ctx => ctx = [5 - y.k] }
  | _ => {
    A := WiX
    inv := fun y => WiI L m y (resW L h y.k) ∧ y.k ≤ 5
    st := fun y => [(6, .val (I ((y.k + 1 : Nat) : Int))), (3, .own 1 0), (2, .own 0 0), (4, .own 2 0), (5, .val (.slice y.a (resW L h y.k).length y.c))]
    own := fun y => [(0, ⟨28, acc { x with hs := L } y.aL y.cL⟩), (1, ⟨31, encH h⟩), (2, ⟨28, acc ac0 none 0⟩)]
    m := fun y => y.m
    μ := fun y => 5 - y.k }

theorem with_s (x : Ac) (a : Option Addr) (c : Nat) (h : Hd) (hn : x.hs.length ≤ 1000) (m : M) (hrow : Row m a (hds x.hs)) :
    Vc.Spec Try.prog 82 [acv x a c, hdv h] m fun v m' => ∃ a' c', v = acv { x with hs := resW (x.hs.filter fun z => decide (z.nd ≠ h.nd)) h 5 } a' c' ∧ NewR m.sz (fun _ => False) m' 4 a' (resW (x.hs.filter fun z => decide (z.nd ≠ h.nd)) h 5).length c' (hds (resW (x.hs.filter fun z => decide (z.nd ≠ h.nd)) h 5)) := by
  refine Vc.Spec.of_vc Try.func82 (ann := withAnn x (x.hs.filter fun z => decide (z.nd ≠ h.nd)) h m) ?_
  refine vc_by (X :=
      true = true ∧
      ∀ (n : Nat),
      m.sz ≤ n →
      Vc.Spec Try.prog (84 : Nat)
      [Value.agg
      #[Value.string x.key, Value.int IntKind.i64 x.lo, Value.int IntKind.i64 x.hi, Value.int IntKind.i64 x.base, Value.int IntKind.i64 x.round, Value.slice a x.hs.length c,
      Value.int IntKind.i64 x.lk.cl, Value.int IntKind.i64 x.lk.sq, Value.int IntKind.i64 x.lk.hm, Value.int IntKind.i64 x.lk.n],
      Value.int IntKind.i64 h.nd]
      { π := m.π, sz := n, uf := m.uf : M } fun (v : Value) (m' : M) =>
      ∃ (s : ByteArray),
      ∃ (n : Int),
      ∃ (n_1 : Int),
      ∃ (n_2 : Int),
      ∃ (n_3 : Int),
      ∃ (a : Option Addr),
      ∃ (n_4 : Nat),
      ∃ (c : Nat),
      ∃ (n_5 : Int),
      ∃ (n_6 : Int),
      ∃ (n_7 : Int),
      ∃ (n_8 : Int),
      v =
      Value.agg
      #[Value.string s, Value.int IntKind.i64 n, Value.int IntKind.i64 n_1, Value.int IntKind.i64 n_2, Value.int IntKind.i64 n_3,
      Value.slice a n_4 c, Value.int IntKind.i64 n_5, Value.int IntKind.i64 n_6, Value.int IntKind.i64 n_7, Value.int IntKind.i64 n_8] ∧
      (∃ (a_2 : WiX),
      (WiI (List.filter (fun (z : Hd) => decide (z.nd ≠ h.nd)) x.hs) m a_2
      (resW (List.filter (fun (z : Hd) => decide (z.nd ≠ h.nd)) x.hs) h a_2.k) ∧
      a_2.k ≤ (5 : Nat)) ∧
      m' = a_2.m ∧
      ((SV.val (Value.int IntKind.i64 (1 : Int)) = SV.val (Value.int IntKind.i64 (↑(a_2.k + (1 : Nat)) : Int)) ∧ true = true) ∧
      (SV.own ((0 : Nat) + (1 : Nat)) (0 : Nat) = SV.own (1 : Nat) (0 : Nat) ∧ true = true) ∧
      (SV.own ((0 : Nat) + (0 : Nat)) (0 : Nat) = SV.own (0 : Nat) (0 : Nat) ∧ true = true) ∧
      (SV.own ((0 : Nat) + (2 : Nat)) (0 : Nat) = SV.own (2 : Nat) (0 : Nat) ∧ true = true) ∧
      (SV.val (Value.slice none (0 : Nat) (0 : Nat)) =
      SV.val (Value.slice a_2.a (resW (List.filter (fun (z : Hd) => decide (z.nd ≠ h.nd)) x.hs) h a_2.k).length a_2.c) ∧
      true = true) ∧
      True) ∧
      (some
      { ty := (28 : Nat), cs := [Value.string s, Value.int IntKind.i64 n, Value.int IntKind.i64 n_1, Value.int IntKind.i64 n_2, Value.int IntKind.i64 n_3, Value.slice a n_4 c, Value.int IntKind.i64 n_5, Value.int IntKind.i64 n_6, Value.int IntKind.i64 n_7, Value.int IntKind.i64 n_8] : Bx } =
      some
      { ty := (28 : TypeId), cs := [Value.string x.key, Value.int IntKind.i64 x.lo, Value.int IntKind.i64 x.hi, Value.int IntKind.i64 x.base, Value.int IntKind.i64 x.round, Value.slice a_2.aL (List.filter (fun (z : Hd) => decide (z.nd ≠ h.nd)) x.hs).length a_2.cL, Value.int IntKind.i64 x.lk.cl, Value.int IntKind.i64 x.lk.sq, Value.int IntKind.i64 x.lk.hm, Value.int IntKind.i64 x.lk.n] : Bx } ∧
      true = true) ∧
      (some
      { ty := (31 : Nat), cs := [Value.int IntKind.i64 h.nd, Value.int IntKind.i64 h.le, Value.int IntKind.i64 h.up, Value.int IntKind.i64 h.dn] : Bx } =
      some
      { ty := (31 : TypeId), cs := [Value.int IntKind.i64 h.nd, Value.int IntKind.i64 h.le, Value.int IntKind.i64 h.up, Value.int IntKind.i64 h.dn] : Bx } ∧
      true = true) ∧
      (some
      { ty := (28 : Nat), cs := [Value.string { data := #[] : ByteArray }, Value.int IntKind.i64 (0 : Int), Value.int IntKind.i64 (0 : Int), Value.int IntKind.i64 (0 : Int), Value.int IntKind.i64 (0 : Int), Value.slice none (0 : Nat) (0 : Nat), Value.int IntKind.i64 (0 : Int), Value.int IntKind.i64 (0 : Int), Value.int IntKind.i64 (0 : Int), Value.int IntKind.i64 (0 : Int)] : Bx } =
      some
      { ty := (28 : TypeId), cs := [Value.string ByteArray.empty, Value.int IntKind.i64 (0 : Int), Value.int IntKind.i64 (0 : Int), Value.int IntKind.i64 (0 : Int), Value.int IntKind.i64 (0 : Int), Value.slice none (0 : Nat) (0 : Nat), Value.int IntKind.i64 (0 : Int), Value.int IntKind.i64 (0 : Int), Value.int IntKind.i64 (0 : Int), Value.int IntKind.i64 (0 : Int)] : Bx } ∧
      true = true) ∧
      True) ∧
      ∀ (a : WiX),
      WiI (List.filter (fun (z : Hd) => decide (z.nd ≠ h.nd)) x.hs) m a (resW (List.filter (fun (z : Hd) => decide (z.nd ≠ h.nd)) x.hs) h a.k) ∧
      a.k ≤ (5 : Nat) →
      ifB (decide ((↑(a.k + (1 : Nat)) : Int) ≤ (5 : Int)))
      (ifB ((↑(a.k + (1 : Nat)) : Int) == h.nd)
      (true = true ∧
      ∀ (b : Nat),
      a.m.sz ≤ b →
      ∃ (old : List Value),
      ∃ (src : List Value),
      AppPre m.sz (fun (x : Nat) => False)
      (a.m.newBlock b
      [Value.int IntKind.i64 h.nd, Value.int IntKind.i64 h.le, Value.int IntKind.i64 h.up, Value.int IntKind.i64 h.dn])
      (4 : Nat) (32 : Nat) a.a (resW (List.filter (fun (z : Hd) => decide (z.nd ≠ h.nd)) x.hs) h a.k).length a.c
      (some { block := b, off := (0 : Nat) : Addr }) (1 : Nat) old src ∧
      ∀ (a' : Option Addr) (c' : Nat) (m' : M),
      AppPost Try.prog (31 : Nat)
      (a.m.newBlock b
      [Value.int IntKind.i64 h.nd, Value.int IntKind.i64 h.le, Value.int IntKind.i64 h.up, Value.int IntKind.i64 h.dn])
      (4 : Nat) a.a (resW (List.filter (fun (z : Hd) => decide (z.nd ≠ h.nd)) x.hs) h a.k).length a.c (1 : Nat) old src a'
      c' m' →
      (∃ (a_5 : WiX),
      ((WiI (List.filter (fun (z : Hd) => decide (z.nd ≠ h.nd)) x.hs) m a_5
      (inW (List.filter (fun (z : Hd) => decide (z.nd ≠ h.nd)) x.hs) h a_5) ∧
      a_5.i ≤ (List.filter (fun (z : Hd) => decide (z.nd ≠ h.nd)) x.hs).length ∧ a_5.k < (5 : Nat)) ∧
      m' = a_5.m ∧
      ((SV.val (Value.int IntKind.i64 (0 : Int)) = SV.val (Value.int IntKind.i64 (↑a_5.i : Int)) ∧ true = true) ∧
      (SV.val (Value.int IntKind.i64 (↑(a.k + (1 : Nat)) : Int)) =
      SV.val (Value.int IntKind.i64 (↑(a_5.k + (1 : Nat)) : Int)) ∧
      true = true) ∧
      (SV.own (1 : Nat) (0 : Nat) = SV.own (1 : Nat) (0 : Nat) ∧ true = true) ∧
      (SV.own (0 : Nat) (0 : Nat) = SV.own (0 : Nat) (0 : Nat) ∧ true = true) ∧
      (SV.own (2 : Nat) (0 : Nat) = SV.own (2 : Nat) (0 : Nat) ∧ true = true) ∧
      (SV.val
      (Value.slice a'
      ((resW (List.filter (fun (z : Hd) => decide (z.nd ≠ h.nd)) x.hs) h a.k).length +
      (1 : Nat))
      c') =
      SV.val
      (Value.slice a_5.a
      (inW (List.filter (fun (z : Hd) => decide (z.nd ≠ h.nd)) x.hs) h a_5).length a_5.c) ∧
      true = true) ∧
      True) ∧
      (some
      { ty := (28 : TypeId), cs := [Value.string x.key, Value.int IntKind.i64 x.lo, Value.int IntKind.i64 x.hi, Value.int IntKind.i64 x.base, Value.int IntKind.i64 x.round, Value.slice a.aL (List.filter (fun (z : Hd) => decide (z.nd ≠ h.nd)) x.hs).length a.cL, Value.int IntKind.i64 x.lk.cl, Value.int IntKind.i64 x.lk.sq, Value.int IntKind.i64 x.lk.hm, Value.int IntKind.i64 x.lk.n] : Bx } =
      some
      { ty := (28 : TypeId), cs := [Value.string x.key, Value.int IntKind.i64 x.lo, Value.int IntKind.i64 x.hi, Value.int IntKind.i64 x.base, Value.int IntKind.i64 x.round, Value.slice a_5.aL (List.filter (fun (z : Hd) => decide (z.nd ≠ h.nd)) x.hs).length a_5.cL, Value.int IntKind.i64 x.lk.cl, Value.int IntKind.i64 x.lk.sq, Value.int IntKind.i64 x.lk.hm, Value.int IntKind.i64 x.lk.n] : Bx } ∧
      true = true) ∧
      (some
      { ty := (31 : TypeId), cs := [Value.int IntKind.i64 h.nd, Value.int IntKind.i64 h.le, Value.int IntKind.i64 h.up, Value.int IntKind.i64 h.dn] : Bx } =
      some
      { ty := (31 : TypeId), cs := [Value.int IntKind.i64 h.nd, Value.int IntKind.i64 h.le, Value.int IntKind.i64 h.up, Value.int IntKind.i64 h.dn] : Bx } ∧
      true = true) ∧
      (some
      { ty := (28 : TypeId), cs := [Value.string ByteArray.empty, Value.int IntKind.i64 (0 : Int), Value.int IntKind.i64 (0 : Int), Value.int IntKind.i64 (0 : Int), Value.int IntKind.i64 (0 : Int), Value.slice none (0 : Nat) (0 : Nat), Value.int IntKind.i64 (0 : Int), Value.int IntKind.i64 (0 : Int), Value.int IntKind.i64 (0 : Int), Value.int IntKind.i64 (0 : Int)] : Bx } =
      some
      { ty := (28 : TypeId), cs := [Value.string ByteArray.empty, Value.int IntKind.i64 (0 : Int), Value.int IntKind.i64 (0 : Int), Value.int IntKind.i64 (0 : Int), Value.int IntKind.i64 (0 : Int), Value.slice none (0 : Nat) (0 : Nat), Value.int IntKind.i64 (0 : Int), Value.int IntKind.i64 (0 : Int), Value.int IntKind.i64 (0 : Int), Value.int IntKind.i64 (0 : Int)] : Bx } ∧
      true = true) ∧
      True) ∧
      [(5 : Nat) - a.k] = [(5 : Nat) - a_5.k]) ∧
      ∀ (a_5 : WiX),
      (WiI (List.filter (fun (z : Hd) => decide (z.nd ≠ h.nd)) x.hs) m a_5
      (inW (List.filter (fun (z : Hd) => decide (z.nd ≠ h.nd)) x.hs) h a_5) ∧
      a_5.i ≤ (List.filter (fun (z : Hd) => decide (z.nd ≠ h.nd)) x.hs).length ∧ a_5.k < (5 : Nat)) ∧
      [(5 : Nat) - a.k] = [(5 : Nat) - a_5.k] →
      ifB (decide ((↑a_5.i : Int) < (↑(List.filter (fun (z : Hd) => decide (z.nd ≠ h.nd)) x.hs).length : Int)))
      (∃ (b : Nat),
      ∃ (off : Nat),
      a_5.aL = some { block := b, off := off : Addr } ∧
      ((0 : Int) ≤ (↑a_5.i : Int) ∧
      (↑a_5.i : Int) < (↑(List.filter (fun (z : Hd) => decide (z.nd ≠ h.nd)) x.hs).length : Int)) ∧
      ∃ (n : Int),
      CellsAt a_5.m b (off + (↑a_5.i : Int).toNat * (4 : Nat) + (0 : Nat)) [Value.int IntKind.i64 n] ∧
      ifB (n == (↑(a_5.k + (1 : Nat)) : Int))
      (∃ (b : Nat),
      ∃ (off : Nat),
      a_5.aL = some { block := b, off := off : Addr } ∧
      ((0 : Int) ≤ (↑a_5.i : Int) ∧
      (↑a_5.i : Int) <
      (↑(List.filter (fun (z : Hd) => decide (z.nd ≠ h.nd)) x.hs).length : Int)) ∧
      ∃ (n : Int),
      ∃ (n_9 : Int),
      ∃ (n_10 : Int),
      ∃ (n_11 : Int),
      CellsAt a_5.m b (off + (↑a_5.i : Int).toNat * (4 : Nat))
      [Value.int IntKind.i64 n, Value.int IntKind.i64 n_9,
      Value.int IntKind.i64 n_10, Value.int IntKind.i64 n_11] ∧
      true = true ∧
      ∀ (b : Nat),
      a_5.m.sz ≤ b →
      ∃ (old : List Value),
      ∃ (src : List Value),
      AppPre m.sz (fun (x : Nat) => False)
      (a_5.m.newBlock b
      [Value.int IntKind.i64 n, Value.int IntKind.i64 n_9,
      Value.int IntKind.i64 n_10, Value.int IntKind.i64 n_11])
      (4 : Nat) (32 : Nat) a_5.a
      (inW (List.filter (fun (z : Hd) => decide (z.nd ≠ h.nd)) x.hs) h
      a_5).length
      a_5.c (some { block := b, off := (0 : Nat) : Addr }) (1 : Nat) old
      src ∧
      ∀ (a' : Option Addr) (c' : Nat) (m' : M),
      AppPost Try.prog (31 : Nat)
      (a_5.m.newBlock b
      [Value.int IntKind.i64 n, Value.int IntKind.i64 n_9,
      Value.int IntKind.i64 n_10, Value.int IntKind.i64 n_11])
      (4 : Nat) a_5.a
      (inW (List.filter (fun (z : Hd) => decide (z.nd ≠ h.nd)) x.hs)
      h a_5).length
      a_5.c (1 : Nat) old src a' c' m' →
      ∃ (a'_1 : WiX),
      (((WiI
      (List.filter (fun (z : Hd) => decide (z.nd ≠ h.nd))
      x.hs)
      m a'_1
      (inW
      (List.filter
      (fun (z : Hd) => decide (z.nd ≠ h.nd)) x.hs)
      h a'_1) ∧
      a'_1.i ≤
      (List.filter
      (fun (z : Hd) => decide (z.nd ≠ h.nd))
      x.hs).length ∧
      a'_1.k < (5 : Nat)) ∧
      m' = a'_1.m ∧
      ((SV.val
      (Value.int IntKind.i64
      (IntKind.i64.wrap
      ((↑a_5.i : Int) + (1 : Int)))) =
      SV.val
      (Value.int IntKind.i64 (↑a'_1.i : Int)) ∧
      true = true) ∧
      (SV.val
      (Value.int IntKind.i64
      (↑(a_5.k + (1 : Nat)) : Int)) =
      SV.val
      (Value.int IntKind.i64
      (↑(a'_1.k + (1 : Nat)) : Int)) ∧
      true = true) ∧
      (SV.own (1 : Nat) (0 : Nat) =
      SV.own (1 : Nat) (0 : Nat) ∧
      true = true) ∧
      (SV.own (0 : Nat) (0 : Nat) =
      SV.own (0 : Nat) (0 : Nat) ∧
      true = true) ∧
      (SV.own (2 : Nat) (0 : Nat) =
      SV.own (2 : Nat) (0 : Nat) ∧
      true = true) ∧
      (SV.val
      (Value.slice a'
      ((inW
      (List.filter
      (fun (z : Hd) =>
      decide (z.nd ≠ h.nd))
      x.hs)
      h a_5).length +
      (1 : Nat))
      c') =
      SV.val
      (Value.slice a'_1.a
      (inW
      (List.filter
      (fun (z : Hd) =>
      decide (z.nd ≠ h.nd))
      x.hs)
      h a'_1).length
      a'_1.c) ∧
      true = true) ∧
      True) ∧
      (some
      { ty := (28 : TypeId), cs := [Value.string x.key, Value.int IntKind.i64 x.lo, Value.int IntKind.i64 x.hi, Value.int IntKind.i64 x.base, Value.int IntKind.i64 x.round, Value.slice a_5.aL (List.filter (fun (z : Hd) => decide (z.nd ≠ h.nd)) x.hs).length a_5.cL, Value.int IntKind.i64 x.lk.cl, Value.int IntKind.i64 x.lk.sq, Value.int IntKind.i64 x.lk.hm, Value.int IntKind.i64 x.lk.n] : Bx } =
      some
      { ty := (28 : TypeId), cs := [Value.string x.key, Value.int IntKind.i64 x.lo, Value.int IntKind.i64 x.hi, Value.int IntKind.i64 x.base, Value.int IntKind.i64 x.round, Value.slice a'_1.aL (List.filter (fun (z : Hd) => decide (z.nd ≠ h.nd)) x.hs).length a'_1.cL, Value.int IntKind.i64 x.lk.cl, Value.int IntKind.i64 x.lk.sq, Value.int IntKind.i64 x.lk.hm, Value.int IntKind.i64 x.lk.n] : Bx } ∧
      true = true) ∧
      (some
      { ty := (31 : TypeId), cs := [Value.int IntKind.i64 h.nd, Value.int IntKind.i64 h.le, Value.int IntKind.i64 h.up, Value.int IntKind.i64 h.dn] : Bx } =
      some
      { ty := (31 : TypeId), cs := [Value.int IntKind.i64 h.nd, Value.int IntKind.i64 h.le, Value.int IntKind.i64 h.up, Value.int IntKind.i64 h.dn] : Bx } ∧
      true = true) ∧
      (some
      { ty := (28 : TypeId), cs := [Value.string ByteArray.empty, Value.int IntKind.i64 (0 : Int), Value.int IntKind.i64 (0 : Int), Value.int IntKind.i64 (0 : Int), Value.int IntKind.i64 (0 : Int), Value.slice none (0 : Nat) (0 : Nat), Value.int IntKind.i64 (0 : Int), Value.int IntKind.i64 (0 : Int), Value.int IntKind.i64 (0 : Int), Value.int IntKind.i64 (0 : Int)] : Bx } =
      some
      { ty := (28 : TypeId), cs := [Value.string ByteArray.empty, Value.int IntKind.i64 (0 : Int), Value.int IntKind.i64 (0 : Int), Value.int IntKind.i64 (0 : Int), Value.int IntKind.i64 (0 : Int), Value.slice none (0 : Nat) (0 : Nat), Value.int IntKind.i64 (0 : Int), Value.int IntKind.i64 (0 : Int), Value.int IntKind.i64 (0 : Int), Value.int IntKind.i64 (0 : Int)] : Bx } ∧
      true = true) ∧
      True) ∧
      [(5 : Nat) - a.k] = [(5 : Nat) - a'_1.k]) ∧
      (List.filter (fun (z : Hd) => decide (z.nd ≠ h.nd))
      x.hs).length -
      a'_1.i <
      (List.filter (fun (z : Hd) => decide (z.nd ≠ h.nd))
      x.hs).length -
      a_5.i)
      (∃ (a' : WiX),
      (((WiI (List.filter (fun (z : Hd) => decide (z.nd ≠ h.nd)) x.hs) m a'
      (inW (List.filter (fun (z : Hd) => decide (z.nd ≠ h.nd)) x.hs) h a') ∧
      a'.i ≤ (List.filter (fun (z : Hd) => decide (z.nd ≠ h.nd)) x.hs).length ∧
      a'.k < (5 : Nat)) ∧
      a_5.m = a'.m ∧
      ((SV.val (Value.int IntKind.i64 (IntKind.i64.wrap ((↑a_5.i : Int) + (1 : Int)))) =
      SV.val (Value.int IntKind.i64 (↑a'.i : Int)) ∧
      true = true) ∧
      (SV.val (Value.int IntKind.i64 (↑(a_5.k + (1 : Nat)) : Int)) =
      SV.val (Value.int IntKind.i64 (↑(a'.k + (1 : Nat)) : Int)) ∧
      true = true) ∧
      (SV.own (1 : Nat) (0 : Nat) = SV.own (1 : Nat) (0 : Nat) ∧ true = true) ∧
      (SV.own (0 : Nat) (0 : Nat) = SV.own (0 : Nat) (0 : Nat) ∧ true = true) ∧
      (SV.own (2 : Nat) (0 : Nat) = SV.own (2 : Nat) (0 : Nat) ∧ true = true) ∧
      (SV.val
      (Value.slice a_5.a
      (inW (List.filter (fun (z : Hd) => decide (z.nd ≠ h.nd)) x.hs) h
      a_5).length
      a_5.c) =
      SV.val
      (Value.slice a'.a
      (inW (List.filter (fun (z : Hd) => decide (z.nd ≠ h.nd)) x.hs) h
      a').length
      a'.c) ∧
      true = true) ∧
      True) ∧
      (some
      { ty := (28 : TypeId), cs := [Value.string x.key, Value.int IntKind.i64 x.lo, Value.int IntKind.i64 x.hi, Value.int IntKind.i64 x.base, Value.int IntKind.i64 x.round, Value.slice a_5.aL (List.filter (fun (z : Hd) => decide (z.nd ≠ h.nd)) x.hs).length a_5.cL, Value.int IntKind.i64 x.lk.cl, Value.int IntKind.i64 x.lk.sq, Value.int IntKind.i64 x.lk.hm, Value.int IntKind.i64 x.lk.n] : Bx } =
      some
      { ty := (28 : TypeId), cs := [Value.string x.key, Value.int IntKind.i64 x.lo, Value.int IntKind.i64 x.hi, Value.int IntKind.i64 x.base, Value.int IntKind.i64 x.round, Value.slice a'.aL (List.filter (fun (z : Hd) => decide (z.nd ≠ h.nd)) x.hs).length a'.cL, Value.int IntKind.i64 x.lk.cl, Value.int IntKind.i64 x.lk.sq, Value.int IntKind.i64 x.lk.hm, Value.int IntKind.i64 x.lk.n] : Bx } ∧
      true = true) ∧
      (some
      { ty := (31 : TypeId), cs := [Value.int IntKind.i64 h.nd, Value.int IntKind.i64 h.le, Value.int IntKind.i64 h.up, Value.int IntKind.i64 h.dn] : Bx } =
      some
      { ty := (31 : TypeId), cs := [Value.int IntKind.i64 h.nd, Value.int IntKind.i64 h.le, Value.int IntKind.i64 h.up, Value.int IntKind.i64 h.dn] : Bx } ∧
      true = true) ∧
      (some
      { ty := (28 : TypeId), cs := [Value.string ByteArray.empty, Value.int IntKind.i64 (0 : Int), Value.int IntKind.i64 (0 : Int), Value.int IntKind.i64 (0 : Int), Value.int IntKind.i64 (0 : Int), Value.slice none (0 : Nat) (0 : Nat), Value.int IntKind.i64 (0 : Int), Value.int IntKind.i64 (0 : Int), Value.int IntKind.i64 (0 : Int), Value.int IntKind.i64 (0 : Int)] : Bx } =
      some
      { ty := (28 : TypeId), cs := [Value.string ByteArray.empty, Value.int IntKind.i64 (0 : Int), Value.int IntKind.i64 (0 : Int), Value.int IntKind.i64 (0 : Int), Value.int IntKind.i64 (0 : Int), Value.slice none (0 : Nat) (0 : Nat), Value.int IntKind.i64 (0 : Int), Value.int IntKind.i64 (0 : Int), Value.int IntKind.i64 (0 : Int), Value.int IntKind.i64 (0 : Int)] : Bx } ∧
      true = true) ∧
      True) ∧
      [(5 : Nat) - a.k] = [(5 : Nat) - a'.k]) ∧
      (List.filter (fun (z : Hd) => decide (z.nd ≠ h.nd)) x.hs).length - a'.i <
      (List.filter (fun (z : Hd) => decide (z.nd ≠ h.nd)) x.hs).length - a_5.i))
      (∃ (a' : WiX),
      ((WiI (List.filter (fun (z : Hd) => decide (z.nd ≠ h.nd)) x.hs) m a'
      (resW (List.filter (fun (z : Hd) => decide (z.nd ≠ h.nd)) x.hs) h a'.k) ∧
      a'.k ≤ (5 : Nat)) ∧
      a_5.m = a'.m ∧
      ((SV.val (Value.int IntKind.i64 (IntKind.i64.wrap ((↑(a_5.k + (1 : Nat)) : Int) + (1 : Int)))) =
      SV.val (Value.int IntKind.i64 (↑(a'.k + (1 : Nat)) : Int)) ∧
      true = true) ∧
      (SV.own (1 : Nat) (0 : Nat) = SV.own (1 : Nat) (0 : Nat) ∧ true = true) ∧
      (SV.own (0 : Nat) (0 : Nat) = SV.own (0 : Nat) (0 : Nat) ∧ true = true) ∧
      (SV.own (2 : Nat) (0 : Nat) = SV.own (2 : Nat) (0 : Nat) ∧ true = true) ∧
      (SV.val
      (Value.slice a_5.a
      (inW (List.filter (fun (z : Hd) => decide (z.nd ≠ h.nd)) x.hs) h a_5).length
      a_5.c) =
      SV.val
      (Value.slice a'.a
      (resW (List.filter (fun (z : Hd) => decide (z.nd ≠ h.nd)) x.hs) h a'.k).length
      a'.c) ∧
      true = true) ∧
      True) ∧
      (some
      { ty := (28 : TypeId), cs := [Value.string x.key, Value.int IntKind.i64 x.lo, Value.int IntKind.i64 x.hi, Value.int IntKind.i64 x.base, Value.int IntKind.i64 x.round, Value.slice a_5.aL (List.filter (fun (z : Hd) => decide (z.nd ≠ h.nd)) x.hs).length a_5.cL, Value.int IntKind.i64 x.lk.cl, Value.int IntKind.i64 x.lk.sq, Value.int IntKind.i64 x.lk.hm, Value.int IntKind.i64 x.lk.n] : Bx } =
      some
      { ty := (28 : TypeId), cs := [Value.string x.key, Value.int IntKind.i64 x.lo, Value.int IntKind.i64 x.hi, Value.int IntKind.i64 x.base, Value.int IntKind.i64 x.round, Value.slice a'.aL (List.filter (fun (z : Hd) => decide (z.nd ≠ h.nd)) x.hs).length a'.cL, Value.int IntKind.i64 x.lk.cl, Value.int IntKind.i64 x.lk.sq, Value.int IntKind.i64 x.lk.hm, Value.int IntKind.i64 x.lk.n] : Bx } ∧
      true = true) ∧
      (some
      { ty := (31 : TypeId), cs := [Value.int IntKind.i64 h.nd, Value.int IntKind.i64 h.le, Value.int IntKind.i64 h.up, Value.int IntKind.i64 h.dn] : Bx } =
      some
      { ty := (31 : TypeId), cs := [Value.int IntKind.i64 h.nd, Value.int IntKind.i64 h.le, Value.int IntKind.i64 h.up, Value.int IntKind.i64 h.dn] : Bx } ∧
      true = true) ∧
      (some
      { ty := (28 : TypeId), cs := [Value.string ByteArray.empty, Value.int IntKind.i64 (0 : Int), Value.int IntKind.i64 (0 : Int), Value.int IntKind.i64 (0 : Int), Value.int IntKind.i64 (0 : Int), Value.slice none (0 : Nat) (0 : Nat), Value.int IntKind.i64 (0 : Int), Value.int IntKind.i64 (0 : Int), Value.int IntKind.i64 (0 : Int), Value.int IntKind.i64 (0 : Int)] : Bx } =
      some
      { ty := (28 : TypeId), cs := [Value.string ByteArray.empty, Value.int IntKind.i64 (0 : Int), Value.int IntKind.i64 (0 : Int), Value.int IntKind.i64 (0 : Int), Value.int IntKind.i64 (0 : Int), Value.slice none (0 : Nat) (0 : Nat), Value.int IntKind.i64 (0 : Int), Value.int IntKind.i64 (0 : Int), Value.int IntKind.i64 (0 : Int), Value.int IntKind.i64 (0 : Int)] : Bx } ∧
      true = true) ∧
      True) ∧
      (5 : Nat) - a'.k < (5 : Nat) - a.k))
      ((∃ (a_3 : WiX),
      ((WiI (List.filter (fun (z : Hd) => decide (z.nd ≠ h.nd)) x.hs) m a_3
      (inW (List.filter (fun (z : Hd) => decide (z.nd ≠ h.nd)) x.hs) h a_3) ∧
      a_3.i ≤ (List.filter (fun (z : Hd) => decide (z.nd ≠ h.nd)) x.hs).length ∧ a_3.k < (5 : Nat)) ∧
      a.m = a_3.m ∧
      ((SV.val (Value.int IntKind.i64 (0 : Int)) = SV.val (Value.int IntKind.i64 (↑a_3.i : Int)) ∧ true = true) ∧
      (SV.val (Value.int IntKind.i64 (↑(a.k + (1 : Nat)) : Int)) = SV.val (Value.int IntKind.i64 (↑(a_3.k + (1 : Nat)) : Int)) ∧
      true = true) ∧
      (SV.own (1 : Nat) (0 : Nat) = SV.own (1 : Nat) (0 : Nat) ∧ true = true) ∧
      (SV.own (0 : Nat) (0 : Nat) = SV.own (0 : Nat) (0 : Nat) ∧ true = true) ∧
      (SV.own (2 : Nat) (0 : Nat) = SV.own (2 : Nat) (0 : Nat) ∧ true = true) ∧
      (SV.val (Value.slice a.a (resW (List.filter (fun (z : Hd) => decide (z.nd ≠ h.nd)) x.hs) h a.k).length a.c) =
      SV.val
      (Value.slice a_3.a (inW (List.filter (fun (z : Hd) => decide (z.nd ≠ h.nd)) x.hs) h a_3).length a_3.c) ∧
      true = true) ∧
      True) ∧
      (some
      { ty := (28 : TypeId), cs := [Value.string x.key, Value.int IntKind.i64 x.lo, Value.int IntKind.i64 x.hi, Value.int IntKind.i64 x.base, Value.int IntKind.i64 x.round, Value.slice a.aL (List.filter (fun (z : Hd) => decide (z.nd ≠ h.nd)) x.hs).length a.cL, Value.int IntKind.i64 x.lk.cl, Value.int IntKind.i64 x.lk.sq, Value.int IntKind.i64 x.lk.hm, Value.int IntKind.i64 x.lk.n] : Bx } =
      some
      { ty := (28 : TypeId), cs := [Value.string x.key, Value.int IntKind.i64 x.lo, Value.int IntKind.i64 x.hi, Value.int IntKind.i64 x.base, Value.int IntKind.i64 x.round, Value.slice a_3.aL (List.filter (fun (z : Hd) => decide (z.nd ≠ h.nd)) x.hs).length a_3.cL, Value.int IntKind.i64 x.lk.cl, Value.int IntKind.i64 x.lk.sq, Value.int IntKind.i64 x.lk.hm, Value.int IntKind.i64 x.lk.n] : Bx } ∧
      true = true) ∧
      (some
      { ty := (31 : TypeId), cs := [Value.int IntKind.i64 h.nd, Value.int IntKind.i64 h.le, Value.int IntKind.i64 h.up, Value.int IntKind.i64 h.dn] : Bx } =
      some
      { ty := (31 : TypeId), cs := [Value.int IntKind.i64 h.nd, Value.int IntKind.i64 h.le, Value.int IntKind.i64 h.up, Value.int IntKind.i64 h.dn] : Bx } ∧
      true = true) ∧
      (some
      { ty := (28 : TypeId), cs := [Value.string ByteArray.empty, Value.int IntKind.i64 (0 : Int), Value.int IntKind.i64 (0 : Int), Value.int IntKind.i64 (0 : Int), Value.int IntKind.i64 (0 : Int), Value.slice none (0 : Nat) (0 : Nat), Value.int IntKind.i64 (0 : Int), Value.int IntKind.i64 (0 : Int), Value.int IntKind.i64 (0 : Int), Value.int IntKind.i64 (0 : Int)] : Bx } =
      some
      { ty := (28 : TypeId), cs := [Value.string ByteArray.empty, Value.int IntKind.i64 (0 : Int), Value.int IntKind.i64 (0 : Int), Value.int IntKind.i64 (0 : Int), Value.int IntKind.i64 (0 : Int), Value.slice none (0 : Nat) (0 : Nat), Value.int IntKind.i64 (0 : Int), Value.int IntKind.i64 (0 : Int), Value.int IntKind.i64 (0 : Int), Value.int IntKind.i64 (0 : Int)] : Bx } ∧
      true = true) ∧
      True) ∧
      [(5 : Nat) - a.k] = [(5 : Nat) - a_3.k]) ∧
      ∀ (a_3 : WiX),
      (WiI (List.filter (fun (z : Hd) => decide (z.nd ≠ h.nd)) x.hs) m a_3
      (inW (List.filter (fun (z : Hd) => decide (z.nd ≠ h.nd)) x.hs) h a_3) ∧
      a_3.i ≤ (List.filter (fun (z : Hd) => decide (z.nd ≠ h.nd)) x.hs).length ∧ a_3.k < (5 : Nat)) ∧
      [(5 : Nat) - a.k] = [(5 : Nat) - a_3.k] →
      ifB (decide ((↑a_3.i : Int) < (↑(List.filter (fun (z : Hd) => decide (z.nd ≠ h.nd)) x.hs).length : Int)))
      (∃ (b : Nat),
      ∃ (off : Nat),
      a_3.aL = some { block := b, off := off : Addr } ∧
      ((0 : Int) ≤ (↑a_3.i : Int) ∧
      (↑a_3.i : Int) < (↑(List.filter (fun (z : Hd) => decide (z.nd ≠ h.nd)) x.hs).length : Int)) ∧
      ∃ (n : Int),
      CellsAt a_3.m b (off + (↑a_3.i : Int).toNat * (4 : Nat) + (0 : Nat)) [Value.int IntKind.i64 n] ∧
      ifB (n == (↑(a_3.k + (1 : Nat)) : Int))
      (∃ (b : Nat),
      ∃ (off : Nat),
      a_3.aL = some { block := b, off := off : Addr } ∧
      ((0 : Int) ≤ (↑a_3.i : Int) ∧
      (↑a_3.i : Int) < (↑(List.filter (fun (z : Hd) => decide (z.nd ≠ h.nd)) x.hs).length : Int)) ∧
      ∃ (n : Int),
      ∃ (n_9 : Int),
      ∃ (n_10 : Int),
      ∃ (n_11 : Int),
      CellsAt a_3.m b (off + (↑a_3.i : Int).toNat * (4 : Nat))
      [Value.int IntKind.i64 n, Value.int IntKind.i64 n_9, Value.int IntKind.i64 n_10,
      Value.int IntKind.i64 n_11] ∧
      true = true ∧
      ∀ (b : Nat),
      a_3.m.sz ≤ b →
      ∃ (old : List Value),
      ∃ (src : List Value),
      AppPre m.sz (fun (x : Nat) => False)
      (a_3.m.newBlock b
      [Value.int IntKind.i64 n, Value.int IntKind.i64 n_9, Value.int IntKind.i64 n_10,
      Value.int IntKind.i64 n_11])
      (4 : Nat) (32 : Nat) a_3.a
      (inW (List.filter (fun (z : Hd) => decide (z.nd ≠ h.nd)) x.hs) h a_3).length a_3.c
      (some { block := b, off := (0 : Nat) : Addr }) (1 : Nat) old src ∧
      ∀ (a' : Option Addr) (c' : Nat) (m' : M),
      AppPost Try.prog (31 : Nat)
      (a_3.m.newBlock b
      [Value.int IntKind.i64 n, Value.int IntKind.i64 n_9,
      Value.int IntKind.i64 n_10, Value.int IntKind.i64 n_11])
      (4 : Nat) a_3.a
      (inW (List.filter (fun (z : Hd) => decide (z.nd ≠ h.nd)) x.hs) h a_3).length
      a_3.c (1 : Nat) old src a' c' m' →
      ∃ (a'_1 : WiX),
      (((WiI (List.filter (fun (z : Hd) => decide (z.nd ≠ h.nd)) x.hs) m a'_1
      (inW (List.filter (fun (z : Hd) => decide (z.nd ≠ h.nd)) x.hs) h
      a'_1) ∧
      a'_1.i ≤
      (List.filter (fun (z : Hd) => decide (z.nd ≠ h.nd)) x.hs).length ∧
      a'_1.k < (5 : Nat)) ∧
      m' = a'_1.m ∧
      ((SV.val
      (Value.int IntKind.i64
      (IntKind.i64.wrap ((↑a_3.i : Int) + (1 : Int)))) =
      SV.val (Value.int IntKind.i64 (↑a'_1.i : Int)) ∧
      true = true) ∧
      (SV.val (Value.int IntKind.i64 (↑(a_3.k + (1 : Nat)) : Int)) =
      SV.val
      (Value.int IntKind.i64 (↑(a'_1.k + (1 : Nat)) : Int)) ∧
      true = true) ∧
      (SV.own (1 : Nat) (0 : Nat) = SV.own (1 : Nat) (0 : Nat) ∧
      true = true) ∧
      (SV.own (0 : Nat) (0 : Nat) = SV.own (0 : Nat) (0 : Nat) ∧
      true = true) ∧
      (SV.own (2 : Nat) (0 : Nat) = SV.own (2 : Nat) (0 : Nat) ∧
      true = true) ∧
      (SV.val
      (Value.slice a'
      ((inW
      (List.filter
      (fun (z : Hd) => decide (z.nd ≠ h.nd))
      x.hs)
      h a_3).length +
      (1 : Nat))
      c') =
      SV.val
      (Value.slice a'_1.a
      (inW
      (List.filter
      (fun (z : Hd) => decide (z.nd ≠ h.nd))
      x.hs)
      h a'_1).length
      a'_1.c) ∧
      true = true) ∧
      True) ∧
      (some
      { ty := (28 : TypeId), cs := [Value.string x.key, Value.int IntKind.i64 x.lo, Value.int IntKind.i64 x.hi, Value.int IntKind.i64 x.base, Value.int IntKind.i64 x.round, Value.slice a_3.aL (List.filter (fun (z : Hd) => decide (z.nd ≠ h.nd)) x.hs).length a_3.cL, Value.int IntKind.i64 x.lk.cl, Value.int IntKind.i64 x.lk.sq, Value.int IntKind.i64 x.lk.hm, Value.int IntKind.i64 x.lk.n] : Bx } =
      some
      { ty := (28 : TypeId), cs := [Value.string x.key, Value.int IntKind.i64 x.lo, Value.int IntKind.i64 x.hi, Value.int IntKind.i64 x.base, Value.int IntKind.i64 x.round, Value.slice a'_1.aL (List.filter (fun (z : Hd) => decide (z.nd ≠ h.nd)) x.hs).length a'_1.cL, Value.int IntKind.i64 x.lk.cl, Value.int IntKind.i64 x.lk.sq, Value.int IntKind.i64 x.lk.hm, Value.int IntKind.i64 x.lk.n] : Bx } ∧
      true = true) ∧
      (some
      { ty := (31 : TypeId), cs := [Value.int IntKind.i64 h.nd, Value.int IntKind.i64 h.le, Value.int IntKind.i64 h.up, Value.int IntKind.i64 h.dn] : Bx } =
      some
      { ty := (31 : TypeId), cs := [Value.int IntKind.i64 h.nd, Value.int IntKind.i64 h.le, Value.int IntKind.i64 h.up, Value.int IntKind.i64 h.dn] : Bx } ∧
      true = true) ∧
      (some
      { ty := (28 : TypeId), cs := [Value.string ByteArray.empty, Value.int IntKind.i64 (0 : Int), Value.int IntKind.i64 (0 : Int), Value.int IntKind.i64 (0 : Int), Value.int IntKind.i64 (0 : Int), Value.slice none (0 : Nat) (0 : Nat), Value.int IntKind.i64 (0 : Int), Value.int IntKind.i64 (0 : Int), Value.int IntKind.i64 (0 : Int), Value.int IntKind.i64 (0 : Int)] : Bx } =
      some
      { ty := (28 : TypeId), cs := [Value.string ByteArray.empty, Value.int IntKind.i64 (0 : Int), Value.int IntKind.i64 (0 : Int), Value.int IntKind.i64 (0 : Int), Value.int IntKind.i64 (0 : Int), Value.slice none (0 : Nat) (0 : Nat), Value.int IntKind.i64 (0 : Int), Value.int IntKind.i64 (0 : Int), Value.int IntKind.i64 (0 : Int), Value.int IntKind.i64 (0 : Int)] : Bx } ∧
      true = true) ∧
      True) ∧
      [(5 : Nat) - a.k] = [(5 : Nat) - a'_1.k]) ∧
      (List.filter (fun (z : Hd) => decide (z.nd ≠ h.nd)) x.hs).length - a'_1.i <
      (List.filter (fun (z : Hd) => decide (z.nd ≠ h.nd)) x.hs).length - a_3.i)
      (∃ (a' : WiX),
      (((WiI (List.filter (fun (z : Hd) => decide (z.nd ≠ h.nd)) x.hs) m a'
      (inW (List.filter (fun (z : Hd) => decide (z.nd ≠ h.nd)) x.hs) h a') ∧
      a'.i ≤ (List.filter (fun (z : Hd) => decide (z.nd ≠ h.nd)) x.hs).length ∧ a'.k < (5 : Nat)) ∧
      a_3.m = a'.m ∧
      ((SV.val (Value.int IntKind.i64 (IntKind.i64.wrap ((↑a_3.i : Int) + (1 : Int)))) =
      SV.val (Value.int IntKind.i64 (↑a'.i : Int)) ∧
      true = true) ∧
      (SV.val (Value.int IntKind.i64 (↑(a_3.k + (1 : Nat)) : Int)) =
      SV.val (Value.int IntKind.i64 (↑(a'.k + (1 : Nat)) : Int)) ∧
      true = true) ∧
      (SV.own (1 : Nat) (0 : Nat) = SV.own (1 : Nat) (0 : Nat) ∧ true = true) ∧
      (SV.own (0 : Nat) (0 : Nat) = SV.own (0 : Nat) (0 : Nat) ∧ true = true) ∧
      (SV.own (2 : Nat) (0 : Nat) = SV.own (2 : Nat) (0 : Nat) ∧ true = true) ∧
      (SV.val
      (Value.slice a_3.a
      (inW (List.filter (fun (z : Hd) => decide (z.nd ≠ h.nd)) x.hs) h a_3).length
      a_3.c) =
      SV.val
      (Value.slice a'.a
      (inW (List.filter (fun (z : Hd) => decide (z.nd ≠ h.nd)) x.hs) h a').length
      a'.c) ∧
      true = true) ∧
      True) ∧
      (some
      { ty := (28 : TypeId), cs := [Value.string x.key, Value.int IntKind.i64 x.lo, Value.int IntKind.i64 x.hi, Value.int IntKind.i64 x.base, Value.int IntKind.i64 x.round, Value.slice a_3.aL (List.filter (fun (z : Hd) => decide (z.nd ≠ h.nd)) x.hs).length a_3.cL, Value.int IntKind.i64 x.lk.cl, Value.int IntKind.i64 x.lk.sq, Value.int IntKind.i64 x.lk.hm, Value.int IntKind.i64 x.lk.n] : Bx } =
      some
      { ty := (28 : TypeId), cs := [Value.string x.key, Value.int IntKind.i64 x.lo, Value.int IntKind.i64 x.hi, Value.int IntKind.i64 x.base, Value.int IntKind.i64 x.round, Value.slice a'.aL (List.filter (fun (z : Hd) => decide (z.nd ≠ h.nd)) x.hs).length a'.cL, Value.int IntKind.i64 x.lk.cl, Value.int IntKind.i64 x.lk.sq, Value.int IntKind.i64 x.lk.hm, Value.int IntKind.i64 x.lk.n] : Bx } ∧
      true = true) ∧
      (some
      { ty := (31 : TypeId), cs := [Value.int IntKind.i64 h.nd, Value.int IntKind.i64 h.le, Value.int IntKind.i64 h.up, Value.int IntKind.i64 h.dn] : Bx } =
      some
      { ty := (31 : TypeId), cs := [Value.int IntKind.i64 h.nd, Value.int IntKind.i64 h.le, Value.int IntKind.i64 h.up, Value.int IntKind.i64 h.dn] : Bx } ∧
      true = true) ∧
      (some
      { ty := (28 : TypeId), cs := [Value.string ByteArray.empty, Value.int IntKind.i64 (0 : Int), Value.int IntKind.i64 (0 : Int), Value.int IntKind.i64 (0 : Int), Value.int IntKind.i64 (0 : Int), Value.slice none (0 : Nat) (0 : Nat), Value.int IntKind.i64 (0 : Int), Value.int IntKind.i64 (0 : Int), Value.int IntKind.i64 (0 : Int), Value.int IntKind.i64 (0 : Int)] : Bx } =
      some
      { ty := (28 : TypeId), cs := [Value.string ByteArray.empty, Value.int IntKind.i64 (0 : Int), Value.int IntKind.i64 (0 : Int), Value.int IntKind.i64 (0 : Int), Value.int IntKind.i64 (0 : Int), Value.slice none (0 : Nat) (0 : Nat), Value.int IntKind.i64 (0 : Int), Value.int IntKind.i64 (0 : Int), Value.int IntKind.i64 (0 : Int), Value.int IntKind.i64 (0 : Int)] : Bx } ∧
      true = true) ∧
      True) ∧
      [(5 : Nat) - a.k] = [(5 : Nat) - a'.k]) ∧
      (List.filter (fun (z : Hd) => decide (z.nd ≠ h.nd)) x.hs).length - a'.i <
      (List.filter (fun (z : Hd) => decide (z.nd ≠ h.nd)) x.hs).length - a_3.i))
      (∃ (a' : WiX),
      ((WiI (List.filter (fun (z : Hd) => decide (z.nd ≠ h.nd)) x.hs) m a'
      (resW (List.filter (fun (z : Hd) => decide (z.nd ≠ h.nd)) x.hs) h a'.k) ∧
      a'.k ≤ (5 : Nat)) ∧
      a_3.m = a'.m ∧
      ((SV.val (Value.int IntKind.i64 (IntKind.i64.wrap ((↑(a_3.k + (1 : Nat)) : Int) + (1 : Int)))) =
      SV.val (Value.int IntKind.i64 (↑(a'.k + (1 : Nat)) : Int)) ∧
      true = true) ∧
      (SV.own (1 : Nat) (0 : Nat) = SV.own (1 : Nat) (0 : Nat) ∧ true = true) ∧
      (SV.own (0 : Nat) (0 : Nat) = SV.own (0 : Nat) (0 : Nat) ∧ true = true) ∧
      (SV.own (2 : Nat) (0 : Nat) = SV.own (2 : Nat) (0 : Nat) ∧ true = true) ∧
      (SV.val
      (Value.slice a_3.a (inW (List.filter (fun (z : Hd) => decide (z.nd ≠ h.nd)) x.hs) h a_3).length
      a_3.c) =
      SV.val
      (Value.slice a'.a (resW (List.filter (fun (z : Hd) => decide (z.nd ≠ h.nd)) x.hs) h a'.k).length
      a'.c) ∧
      true = true) ∧
      True) ∧
      (some
      { ty := (28 : TypeId), cs := [Value.string x.key, Value.int IntKind.i64 x.lo, Value.int IntKind.i64 x.hi, Value.int IntKind.i64 x.base, Value.int IntKind.i64 x.round, Value.slice a_3.aL (List.filter (fun (z : Hd) => decide (z.nd ≠ h.nd)) x.hs).length a_3.cL, Value.int IntKind.i64 x.lk.cl, Value.int IntKind.i64 x.lk.sq, Value.int IntKind.i64 x.lk.hm, Value.int IntKind.i64 x.lk.n] : Bx } =
      some
      { ty := (28 : TypeId), cs := [Value.string x.key, Value.int IntKind.i64 x.lo, Value.int IntKind.i64 x.hi, Value.int IntKind.i64 x.base, Value.int IntKind.i64 x.round, Value.slice a'.aL (List.filter (fun (z : Hd) => decide (z.nd ≠ h.nd)) x.hs).length a'.cL, Value.int IntKind.i64 x.lk.cl, Value.int IntKind.i64 x.lk.sq, Value.int IntKind.i64 x.lk.hm, Value.int IntKind.i64 x.lk.n] : Bx } ∧
      true = true) ∧
      (some
      { ty := (31 : TypeId), cs := [Value.int IntKind.i64 h.nd, Value.int IntKind.i64 h.le, Value.int IntKind.i64 h.up, Value.int IntKind.i64 h.dn] : Bx } =
      some
      { ty := (31 : TypeId), cs := [Value.int IntKind.i64 h.nd, Value.int IntKind.i64 h.le, Value.int IntKind.i64 h.up, Value.int IntKind.i64 h.dn] : Bx } ∧
      true = true) ∧
      (some
      { ty := (28 : TypeId), cs := [Value.string ByteArray.empty, Value.int IntKind.i64 (0 : Int), Value.int IntKind.i64 (0 : Int), Value.int IntKind.i64 (0 : Int), Value.int IntKind.i64 (0 : Int), Value.slice none (0 : Nat) (0 : Nat), Value.int IntKind.i64 (0 : Int), Value.int IntKind.i64 (0 : Int), Value.int IntKind.i64 (0 : Int), Value.int IntKind.i64 (0 : Int)] : Bx } =
      some
      { ty := (28 : TypeId), cs := [Value.string ByteArray.empty, Value.int IntKind.i64 (0 : Int), Value.int IntKind.i64 (0 : Int), Value.int IntKind.i64 (0 : Int), Value.int IntKind.i64 (0 : Int), Value.slice none (0 : Nat) (0 : Nat), Value.int IntKind.i64 (0 : Int), Value.int IntKind.i64 (0 : Int), Value.int IntKind.i64 (0 : Int), Value.int IntKind.i64 (0 : Int)] : Bx } ∧
      true = true) ∧
      True) ∧
      (5 : Nat) - a'.k < (5 : Nat) - a.k)))
      (Done
      (∃ (a' : Option Addr),
      ∃ (c' : Nat),
      Value.agg
      #[Value.string x.key, Value.int IntKind.i64 x.lo, Value.int IntKind.i64 x.hi, Value.int IntKind.i64 x.base,
      Value.int IntKind.i64 x.round,
      Value.slice a.a (resW (List.filter (fun (z : Hd) => decide (z.nd ≠ h.nd)) x.hs) h a.k).length a.c,
      Value.int IntKind.i64 x.lk.cl, Value.int IntKind.i64 x.lk.sq, Value.int IntKind.i64 x.lk.hm, Value.int IntKind.i64 x.lk.n] =
      Value.agg
      #[Value.string x.key, Value.int IntKind.i64 x.lo, Value.int IntKind.i64 x.hi, Value.int IntKind.i64 x.base,
      Value.int IntKind.i64 x.round,
      Value.slice a' (resW (List.filter (fun (z : Hd) => decide (z.nd ≠ h.nd)) x.hs) h (5 : Nat)).length c',
      Value.int IntKind.i64 x.lk.cl, Value.int IntKind.i64 x.lk.sq, Value.int IntKind.i64 x.lk.hm, Value.int IntKind.i64 x.lk.n] ∧
      NewR m.sz (fun (x : Nat) => False) a.m (4 : Nat) a'
      (resW (List.filter (fun (z : Hd) => decide (z.nd ≠ h.nd)) x.hs) h (5 : Nat)).length c'
      (hds (resW (List.filter (fun (z : Hd) => decide (z.nd ≠ h.nd)) x.hs) h (5 : Nat)))))) (by kernel_rfl) ?_
  generalize hL : (x.hs.filter fun z => decide (z.nd ≠ h.nd)) = L
  have hLl : L.length ≤ 1000 := by rw [← hL]; exact Nat.le_trans (List.length_filter_le _ _) hn
  refine ⟨rfl, fun N hN => (without_s x a c h.nd (by omega) _ (hrow.sz hN)).mono fun v m1 hag ⟨a1, c1, hv, hr1⟩ => ⟨_, _, _, _, _, _, _, _, _, _, _, _, hv, ?_⟩⟩
  have hr1' : NewR N (fun _ => False) m1 4 a1 L.length c1 (hds L) := by simp only [hL] at hr1; exact hr1
  have hmag := hag.2.2
  simp only at hmag
  have hw0 : WiI L m ⟨0, 0, a1, c1, none, 0, m1, m1.sz⟩ (resW L h 0) := ⟨by simp only; omega, Nat.le_refl _, hr1'.row, .nil _⟩
  refine ⟨⟨⟨0, 0, a1, c1, none, 0, m1, m1.sz⟩, ⟨hw0, by simp⟩, rfl, ?_, ⟨by simp only [hL], rfl⟩, ⟨rfl, rfl⟩, ⟨rfl, rfl⟩, trivial⟩, fun y ⟨hy, hk⟩ => ifB_intro (fun hb => ?_) (fun hb => ?_)⟩
  · exact ⟨⟨rfl, rfl⟩, ⟨rfl, rfl⟩, ⟨rfl, rfl⟩, ⟨rfl, rfl⟩, ⟨rfl, rfl⟩, trivial⟩
  · have hk5 : y.k < 5 := by simp at hb; omega
    have hrl := resW_len L h y.k
    have hrl2 : (resW L h y.k).length ≤ 100000 := Nat.le_trans hrl (Nat.le_trans (Nat.mul_le_mul (by omega : y.k ≤ 5) (by omega : L.length + 1 ≤ 1001)) (by omega))
    have hin0 : ∀ (y' : WiX), y'.k = y.k → y'.i = 0 → inW L h y' = resW L h y.k ++ oneW h y.k := fun y' e1 e2 => by simp [inW, e1, e2]
    refine ifB_intro (fun hb2 => ⟨rfl, fun b hb => ⟨_, _, (wi_push hy hrl2 h hb).1, fun a' c' m' hp => ⟨?_, ?_⟩⟩⟩) (fun hb2 => ⟨?_, ?_⟩)
    · have h1 : oneW h y.k = [h] := by unfold oneW; rw [if_pos (by simpa using hb2)]
      have e1 := hin0 ⟨y.k, 0, y.aL, y.cL, a', c', m', y.B⟩ rfl rfl
      rw [h1] at e1
      refine ⟨⟨y.k, 0, y.aL, y.cL, a', c', m', y.B⟩, ⟨⟨⟨(wi_push hy hrl2 h hb).2 a' c' m' hp _ _ _ e1, Nat.zero_le _, hk5⟩, rfl, ⟨⟨rfl, rfl⟩, ⟨rfl, rfl⟩, ⟨rfl, rfl⟩, ⟨rfl, rfl⟩, ⟨rfl, rfl⟩, ⟨by rw [e1]; simp, rfl⟩, trivial⟩, ⟨rfl, rfl⟩, ⟨rfl, rfl⟩, ⟨rfl, rfl⟩, trivial⟩, rfl⟩⟩
    rotate_left
    · have h1 : oneW h y.k = [] := by unfold oneW; rw [if_neg (by simpa using hb2)]
      have e1 := hin0 ⟨y.k, 0, y.aL, y.cL, y.a, y.c, y.m, y.B⟩ rfl rfl
      rw [h1, List.append_nil] at e1
      refine ⟨⟨y.k, 0, y.aL, y.cL, y.a, y.c, y.m, y.B⟩, ⟨⟨⟨by rw [e1]; exact ⟨hy.B, hy.Bm, hy.row, hy.own⟩, Nat.zero_le _, hk5⟩, rfl, ⟨⟨rfl, rfl⟩, ⟨rfl, rfl⟩, ⟨rfl, rfl⟩, ⟨rfl, rfl⟩, ⟨rfl, rfl⟩, ⟨by rw [e1], rfl⟩, trivial⟩, ⟨rfl, rfl⟩, ⟨rfl, rfl⟩, ⟨rfl, rfl⟩, trivial⟩, rfl⟩⟩
    all_goals
      intro z ⟨⟨hz, hzi, hzk⟩, hlk⟩
      have hzy : z.k = y.k := by simp at hlk; omega
      have hil := inW_len L h z
      have hil2 : (inW L h z).length ≤ 100000 := Nat.le_trans hil (Nat.le_trans (Nat.mul_le_mul (by omega : z.k + 1 ≤ 5) (by omega : L.length + 1 ≤ 1001)) (by omega))
      refine ifB_intro (fun hb3 => ?_) (fun hb3 => ?_)
      · have hi2 : z.i < L.length := by simpa using hb3
        obtain ⟨b1, o1, e1, hc1⟩ := hz.row.cells (by rw [hds_len]; omega)
        have hcell : CellsAt z.m b1 (o1 + z.i * 4) (encH L[z.i]) := ⟨(hd_at hc1 hi2).out⟩
        have hc0 : CellsAt z.m b1 (o1 + z.i * 4) [I L[z.i].nd] := hcell.take (ds := [I L[z.i].le, I L[z.i].up, I L[z.i].dn])
        have w1 : IntKind.i64.wrap ((z.i : Int) + 1) = ((z.i + 1 : Nat) : Int) := by simp [IntKind.wrap_i64]; omega
        have ts : L.take (z.i + 1) = L.take z.i ++ [L[z.i]] := List.take_succ_eq_append_getElem hi2
        rw [e1, w1]
        refine ⟨b1, o1, rfl, by omega, _, by simpa using hc0, ifB_intro (fun hb4 => ⟨b1, o1, rfl, by omega, _, _, _, _, by simpa using hcell, rfl, fun b hb => ⟨_, _, (wi_push hz hil2 L[z.i] hb).1, fun a' c' m' hp => ?_⟩⟩) (fun hb4 => ?_)⟩
        · have e2 : inW L h ⟨z.k, z.i + 1, z.aL, z.cL, a', c', m', z.B⟩ = inW L h z ++ [L[z.i]] := by
            have hb4 : L[z.i].nd = (z.k : Int) + 1 := by simpa using hb4
            simp only [inW, ts, List.filter_append]
            simp [hb4]
          refine ⟨⟨z.k, z.i + 1, z.aL, z.cL, a', c', m', z.B⟩, ⟨⟨⟨(wi_push hz hil2 L[z.i] hb).2 a' c' m' hp _ _ _ e2, hi2, hzk⟩, rfl, ⟨⟨rfl, rfl⟩, ⟨rfl, rfl⟩, ⟨rfl, rfl⟩, ⟨rfl, rfl⟩, ⟨rfl, rfl⟩, ⟨by rw [e2]; simp, rfl⟩, trivial⟩, ⟨by rw [← e1], rfl⟩, ⟨rfl, rfl⟩, ⟨rfl, rfl⟩, trivial⟩, hlk⟩, by simp only; omega⟩
        · have e2 : inW L h ⟨z.k, z.i + 1, z.aL, z.cL, z.a, z.c, z.m, z.B⟩ = inW L h z := by
            have hb4 : ¬ L[z.i].nd = (z.k : Int) + 1 := by simpa using hb4
            simp only [inW, ts, List.filter_append]
            simp [hb4]
          refine ⟨⟨z.k, z.i + 1, z.aL, z.cL, z.a, z.c, z.m, z.B⟩, ⟨⟨⟨by rw [e2]; exact ⟨hz.B, hz.Bm, hz.row, hz.own⟩, hi2, hzk⟩, rfl, ⟨⟨rfl, rfl⟩, ⟨rfl, rfl⟩, ⟨rfl, rfl⟩, ⟨rfl, rfl⟩, ⟨rfl, rfl⟩, ⟨by rw [e2], rfl⟩, trivial⟩, ⟨by rw [← e1], rfl⟩, ⟨rfl, rfl⟩, ⟨rfl, rfl⟩, trivial⟩, hlk⟩, by simp only; omega⟩
      · have hi2 : z.i = L.length := by simp at hb3; omega
        have e2 : inW L h z = resW L h (z.k + 1) := by simp only [inW, hi2, List.take_length, resW]
        have w2 : IntKind.i64.wrap (((z.k + 1 : Nat) : Int) + 1) = ((z.k + 1 + 1 : Nat) : Int) := by simp [IntKind.wrap_i64]; omega
        rw [w2]
        refine ⟨⟨z.k + 1, 0, z.aL, z.cL, z.a, z.c, z.m, z.B⟩, ⟨⟨by rw [← e2]; exact ⟨hz.B, hz.Bm, hz.row, hz.own⟩, by simp only; omega⟩, rfl, ⟨⟨rfl, rfl⟩, ⟨rfl, rfl⟩, ⟨rfl, rfl⟩, ⟨rfl, rfl⟩, ⟨by rw [e2], rfl⟩, trivial⟩, ⟨rfl, rfl⟩, ⟨rfl, rfl⟩, ⟨rfl, rfl⟩, trivial⟩, by simp only; omega⟩
  · have hk5 : y.k = 5 := by simp at hb; omega
    have ho := hy.own.lower hy.B
    rw [hk5] at ho
    rw [hk5]
    exact ⟨_, _, rfl, ho⟩

end Go.Proofs.Ytlifpjllhibdpaa
set_option linter.unusedVariables false
set_option linter.unusedSimpArgs false
namespace Go.Proofs.Ytlifpjllhibdpaa
open Go.Vc Go.RowKit
set_option maxRecDepth 100000

theorem hold_step : ∀ {l : List Hd} {last : Int} (k : Int), holdB last l = true → (l.filter fun z => decide (z.nd ≤ k + 1)) = (l.filter fun z => decide (z.nd ≤ k)) ++ l.filter fun z => decide (z.nd = k + 1)
  | [], _, _, _ => rfl
  | h :: r, last, k, hb => by
    simp only [holdB, Bool.and_eq_true] at hb
    have hm := hold_mem _ _ hb.2
    by_cases h1 : h.nd ≤ k
    · rw [List.filter_cons_of_pos (by simp; omega), List.filter_cons_of_pos (by simpa using h1), List.filter_cons_of_neg (by simp; omega), hold_step k hb.2, List.cons_append]
    · have e1 : (r.filter fun z => decide (z.nd ≤ k)) = [] := List.filter_eq_nil_iff.2 fun z hz => by have := hm z hz; simp; omega
      by_cases h2 : h.nd = k + 1
      · have e2 : (r.filter fun z => decide (z.nd ≤ k + 1)) = [] := List.filter_eq_nil_iff.2 fun z hz => by have := hm z hz; simp; omega
        have e3 : (r.filter fun z => decide (z.nd = k + 1)) = [] := List.filter_eq_nil_iff.2 fun z hz => by have := hm z hz; simp; omega
        rw [List.filter_cons_of_pos (by simp; omega), List.filter_cons_of_neg (by simpa using h1), List.filter_cons_of_pos (by simpa using h2), e1, e2, e3]
        rfl
      · rw [List.filter_cons_of_neg (by simp; omega), List.filter_cons_of_neg (by simpa using h1), List.filter_cons_of_neg (by simpa using h2), hold_step k hb.2]

theorem putH_one (l : List Hd) (h : Hd) (k : Nat) : ((putH l h).filter fun z => decide (z.nd = ((k + 1 : Nat) : Int))) = oneW h k ++ (l.filter fun z => decide (z.nd ≠ h.nd)).filter fun z => decide (z.nd = ((k + 1 : Nat) : Int)) := by
  simp only [putH, List.filter_append, List.filter_cons, List.filter_filter]
  by_cases hk : ((k + 1 : Nat) : Int) = h.nd
  · have e1 : (l.filter fun a => decide (a.nd = ((k + 1 : Nat) : Int)) && decide (a.nd < h.nd)) = [] := List.filter_eq_nil_iff.2 fun z _ => by simp; omega
    have e2 : (l.filter fun a => decide (a.nd = ((k + 1 : Nat) : Int)) && decide (h.nd < a.nd)) = [] := List.filter_eq_nil_iff.2 fun z _ => by simp; omega
    have e3 : (l.filter fun a => decide (a.nd = ((k + 1 : Nat) : Int)) && decide (a.nd ≠ h.nd)) = [] := List.filter_eq_nil_iff.2 fun z _ => by simp; omega
    rw [e1, e2, e3, if_pos (by simpa using hk.symm)]
    unfold oneW
    rw [if_pos hk]; rfl
  · have hw : oneW h k = [] := by unfold oneW; rw [if_neg hk]
    rw [hw, if_neg (by simp; omega), List.nil_append]
    rcases (by omega : ((k + 1 : Nat) : Int) < h.nd ∨ h.nd ≤ ((k + 1 : Nat) : Int)) with hlt | hge
    · have e2 : (l.filter fun a => decide (a.nd = ((k + 1 : Nat) : Int)) && decide (h.nd < a.nd)) = [] := List.filter_eq_nil_iff.2 fun z _ => by simp; omega
      rw [e2, List.append_nil]
      exact List.filter_congr fun z _ => by rw [Bool.eq_iff_iff]; simp; omega
    · have e2 : (l.filter fun a => decide (a.nd = ((k + 1 : Nat) : Int)) && decide (a.nd < h.nd)) = [] := List.filter_eq_nil_iff.2 fun z _ => by simp; omega
      rw [e2, List.nil_append]
      exact List.filter_congr fun z _ => by rw [Bool.eq_iff_iff]; simp; omega

theorem resW_put {l : List Hd} {h : Hd} (hl : holdB 0 l = true) (hh : hdB 0 h = true) : resW (l.filter fun z => decide (z.nd ≠ h.nd)) h 5 = putH l h := by
  have hs := putH_hold hl hh
  have key : ∀ k : Nat, resW (l.filter fun z => decide (z.nd ≠ h.nd)) h k = (putH l h).filter fun z => decide (z.nd ≤ (k : Int)) := fun k => by
    induction k with
    | zero =>
      simp only [resW]
      exact (List.filter_eq_nil_iff.2 fun z hz => by have := hold_mem _ _ hs z hz; simp; omega).symm
    | succ k ih =>
      simp only [resW]
      rw [ih, List.append_assoc, ← putH_one]
      exact (hold_step (k : Int) hs).symm
  rw [key 5]
  exact List.filter_eq_self.2 fun z hz => by have := hold_mem _ _ hs z hz; simp; omega

theorem rgrant_s (x : Ac) (a : Option Addr) (c : Nat) (nd le ns : Int) (hx : x.wf) (hle : In64 le) (m : M) (h : Row m a (hds x.hs)) : Vc.Spec Try.prog 64 [acv x a c, I nd, I le, I ns] m (AcR m (aGrant x nd le ns)) := by
  refine Vc.Spec.of_vc Try.func64 (ann := noAnn) ?_
  refine vc_by (X :=
      true = true ∧
      ∃ (b : Bool),
      QSpec Try.prog (12 : Nat)
      [Value.agg
      #[Value.string x.key, Value.int IntKind.i64 x.lo, Value.int IntKind.i64 x.hi, Value.int IntKind.i64 x.base, Value.int IntKind.i64 x.round, Value.slice a x.hs.length c,
      Value.int IntKind.i64 x.lk.cl, Value.int IntKind.i64 x.lk.sq, Value.int IntKind.i64 x.lk.hm, Value.int IntKind.i64 x.lk.n]]
      m (Value.bool b) ∧
      ifB (!b)
      (Done
      (AcR m (aGrant x nd le ns)
      (Value.tuple
      #[Value.agg
      #[Value.string { data := #[] : ByteArray }, Value.int IntKind.i64 (0 : Int), Value.int IntKind.i64 (0 : Int), Value.int IntKind.i64 (0 : Int),
      Value.int IntKind.i64 (0 : Int), Value.slice none (0 : Nat) (0 : Nat), Value.int IntKind.i64 (0 : Int), Value.int IntKind.i64 (0 : Int),
      Value.int IntKind.i64 (0 : Int), Value.int IntKind.i64 (0 : Int)],
      Value.int IntKind.i64 (21 : Int)])
      m))
      (ifB (decide (ns < (1 : Int)))
      (Done
      (AcR m (aGrant x nd le ns)
      (Value.tuple
      #[Value.agg
      #[Value.string { data := #[] : ByteArray }, Value.int IntKind.i64 (0 : Int), Value.int IntKind.i64 (0 : Int), Value.int IntKind.i64 (0 : Int),
      Value.int IntKind.i64 (0 : Int), Value.slice none (0 : Nat) (0 : Nat), Value.int IntKind.i64 (0 : Int), Value.int IntKind.i64 (0 : Int),
      Value.int IntKind.i64 (0 : Int), Value.int IntKind.i64 (0 : Int)],
      Value.int IntKind.i64 (1 : Int)])
      m))
      (ifB (decide (ns > (5 : Int)))
      (Done
      (AcR m (aGrant x nd le ns)
      (Value.tuple
      #[Value.agg
      #[Value.string { data := #[] : ByteArray }, Value.int IntKind.i64 (0 : Int), Value.int IntKind.i64 (0 : Int), Value.int IntKind.i64 (0 : Int),
      Value.int IntKind.i64 (0 : Int), Value.slice none (0 : Nat) (0 : Nat), Value.int IntKind.i64 (0 : Int), Value.int IntKind.i64 (0 : Int),
      Value.int IntKind.i64 (0 : Int), Value.int IntKind.i64 (0 : Int)],
      Value.int IntKind.i64 (1 : Int)])
      m))
      (ifB (decide (nd < (1 : Int)))
      (Done
      (AcR m (aGrant x nd le ns)
      (Value.tuple
      #[Value.agg
      #[Value.string { data := #[] : ByteArray }, Value.int IntKind.i64 (0 : Int), Value.int IntKind.i64 (0 : Int), Value.int IntKind.i64 (0 : Int),
      Value.int IntKind.i64 (0 : Int), Value.slice none (0 : Nat) (0 : Nat), Value.int IntKind.i64 (0 : Int), Value.int IntKind.i64 (0 : Int),
      Value.int IntKind.i64 (0 : Int), Value.int IntKind.i64 (0 : Int)],
      Value.int IntKind.i64 (1 : Int)])
      m))
      (ifB (decide (nd > ns))
      (Done
      (AcR m (aGrant x nd le ns)
      (Value.tuple
      #[Value.agg
      #[Value.string { data := #[] : ByteArray }, Value.int IntKind.i64 (0 : Int), Value.int IntKind.i64 (0 : Int), Value.int IntKind.i64 (0 : Int),
      Value.int IntKind.i64 (0 : Int), Value.slice none (0 : Nat) (0 : Nat), Value.int IntKind.i64 (0 : Int), Value.int IntKind.i64 (0 : Int),
      Value.int IntKind.i64 (0 : Int), Value.int IntKind.i64 (0 : Int)],
      Value.int IntKind.i64 (1 : Int)])
      m))
      (∃ (b : Bool),
      QSpec Try.prog (79 : Nat) [Value.int IntKind.i64 le] m (Value.bool b) ∧
      ifB (!b)
      (Done
      (AcR m (aGrant x nd le ns)
      (Value.tuple
      #[Value.agg
      #[Value.string { data := #[] : ByteArray }, Value.int IntKind.i64 (0 : Int), Value.int IntKind.i64 (0 : Int), Value.int IntKind.i64 (0 : Int),
      Value.int IntKind.i64 (0 : Int), Value.slice none (0 : Nat) (0 : Nat), Value.int IntKind.i64 (0 : Int), Value.int IntKind.i64 (0 : Int),
      Value.int IntKind.i64 (0 : Int), Value.int IntKind.i64 (0 : Int)],
      Value.int IntKind.i64 (1 : Int)])
      m))
      (ifB (x.round != (0 : Int))
      (Done
      (AcR m (aGrant x nd le ns)
      (Value.tuple
      #[Value.agg
      #[Value.string { data := #[] : ByteArray }, Value.int IntKind.i64 (0 : Int), Value.int IntKind.i64 (0 : Int), Value.int IntKind.i64 (0 : Int),
      Value.int IntKind.i64 (0 : Int), Value.slice none (0 : Nat) (0 : Nat), Value.int IntKind.i64 (0 : Int), Value.int IntKind.i64 (0 : Int),
      Value.int IntKind.i64 (0 : Int), Value.int IntKind.i64 (0 : Int)],
      Value.int IntKind.i64 (152 : Int)])
      m))
      (ifB (x.lk.cl != (0 : Int))
      (Done
      (AcR m (aGrant x nd le ns)
      (Value.tuple
      #[Value.agg
      #[Value.string { data := #[] : ByteArray }, Value.int IntKind.i64 (0 : Int), Value.int IntKind.i64 (0 : Int), Value.int IntKind.i64 (0 : Int),
      Value.int IntKind.i64 (0 : Int), Value.slice none (0 : Nat) (0 : Nat), Value.int IntKind.i64 (0 : Int), Value.int IntKind.i64 (0 : Int),
      Value.int IntKind.i64 (0 : Int), Value.int IntKind.i64 (0 : Int)],
      Value.int IntKind.i64 (152 : Int)])
      m))
      (∃ (n : Int),
      ∃ (n_1 : Int),
      ∃ (n_2 : Int),
      ∃ (n_3 : Int),
      ∃ (b : Bool),
      QSpec Try.prog (20 : Nat)
      [Value.agg
      #[Value.string x.key, Value.int IntKind.i64 x.lo, Value.int IntKind.i64 x.hi, Value.int IntKind.i64 x.base,
      Value.int IntKind.i64 x.round, Value.slice a x.hs.length c, Value.int IntKind.i64 x.lk.cl, Value.int IntKind.i64 x.lk.sq,
      Value.int IntKind.i64 x.lk.hm, Value.int IntKind.i64 x.lk.n],
      Value.int IntKind.i64 nd]
      m
      (Value.tuple
      #[Value.agg #[Value.int IntKind.i64 n, Value.int IntKind.i64 n_1, Value.int IntKind.i64 n_2, Value.int IntKind.i64 n_3], Value.bool b]) ∧
      ifB (!b)
      (∃ (n : Int),
      ∃ (n_4 : Int),
      QSpec Try.prog (16 : Nat)
      [Value.agg
      #[Value.string x.key, Value.int IntKind.i64 x.lo, Value.int IntKind.i64 x.hi, Value.int IntKind.i64 x.base,
      Value.int IntKind.i64 x.round, Value.slice a x.hs.length c, Value.int IntKind.i64 x.lk.cl, Value.int IntKind.i64 x.lk.sq,
      Value.int IntKind.i64 x.lk.hm, Value.int IntKind.i64 x.lk.n]]
      m (Value.tuple #[Value.int IntKind.u64 n, Value.int IntKind.u64 n_4]) ∧
      true = true ∧
      ∃ (n_5 : Int),
      QSpec Try.prog (81 : Nat)
      [Value.int IntKind.u64 n, Value.int IntKind.i64 (IntKind.i64.wrap (ns + (1 : Int))), Value.int IntKind.i64 ns] m
      (Value.int IntKind.u64 n_5) ∧
      ∃ (n : Int),
      QSpec Try.prog (80 : Nat) [Value.int IntKind.i64 (0 : Int), Value.int IntKind.u64 n_5] m (Value.int IntKind.i64 n) ∧
      true = true ∧
      ∃ (n_6 : Int),
      QSpec Try.prog (81 : Nat)
      [Value.int IntKind.u64 n_4, Value.int IntKind.i64 (IntKind.i64.wrap (ns + (1 : Int))), Value.int IntKind.i64 ns] m
      (Value.int IntKind.u64 n_6) ∧
      ∃ (n_7 : Int),
      QSpec Try.prog (80 : Nat) [Value.int IntKind.i64 (0 : Int), Value.int IntKind.u64 n_6] m
      (Value.int IntKind.i64 n_7) ∧
      ∀ (n_8 : Nat),
      m.sz ≤ n_8 →
      Vc.Spec Try.prog (82 : Nat)
      [Value.agg
      #[Value.string x.key, Value.int IntKind.i64 x.lo, Value.int IntKind.i64 x.hi,
      Value.int IntKind.i64 x.base, Value.int IntKind.i64 x.round, Value.slice a x.hs.length c,
      Value.int IntKind.i64 x.lk.cl, Value.int IntKind.i64 x.lk.sq, Value.int IntKind.i64 x.lk.hm,
      Value.int IntKind.i64 x.lk.n],
      Value.agg
      #[Value.int IntKind.i64 nd, Value.int IntKind.i64 le, Value.int IntKind.i64 n_7,
      Value.int IntKind.i64 n]]
      { π := m.π, sz := n_8, uf := m.uf : M } fun (v : Value) (m' : M) =>
      ∃ (s : ByteArray),
      ∃ (n : Int),
      ∃ (n_9 : Int),
      ∃ (n_10 : Int),
      ∃ (n_11 : Int),
      ∃ (a : Option Addr),
      ∃ (n_12 : Nat),
      ∃ (c : Nat),
      ∃ (n_13 : Int),
      ∃ (n_14 : Int),
      ∃ (n_15 : Int),
      ∃ (n_16 : Int),
      v =
      Value.agg
      #[Value.string s, Value.int IntKind.i64 n, Value.int IntKind.i64 n_9,
      Value.int IntKind.i64 n_10, Value.int IntKind.i64 n_11,
      Value.slice a n_12 c, Value.int IntKind.i64 n_13,
      Value.int IntKind.i64 n_14, Value.int IntKind.i64 n_15,
      Value.int IntKind.i64 n_16] ∧
      Done
      (AcR m (aGrant x nd le ns)
      (Value.tuple
      #[Value.agg
      #[Value.string s, Value.int IntKind.i64 n, Value.int IntKind.i64 n_9,
      Value.int IntKind.i64 n_10, Value.int IntKind.i64 n_11,
      Value.slice a n_12 c, Value.int IntKind.i64 n_13,
      Value.int IntKind.i64 n_14, Value.int IntKind.i64 n_15,
      Value.int IntKind.i64 n_16],
      Value.int IntKind.i64 (0 : Int)])
      m'))
      (∃ (n_4 : Int),
      ∃ (n_5 : Int),
      QSpec Try.prog (16 : Nat)
      [Value.agg
      #[Value.string x.key, Value.int IntKind.i64 x.lo, Value.int IntKind.i64 x.hi, Value.int IntKind.i64 x.base,
      Value.int IntKind.i64 x.round, Value.slice a x.hs.length c, Value.int IntKind.i64 x.lk.cl, Value.int IntKind.i64 x.lk.sq,
      Value.int IntKind.i64 x.lk.hm, Value.int IntKind.i64 x.lk.n]]
      m (Value.tuple #[Value.int IntKind.u64 n_4, Value.int IntKind.u64 n_5]) ∧
      true = true ∧
      ∃ (n_6 : Int),
      QSpec Try.prog (81 : Nat)
      [Value.int IntKind.u64 n_4, Value.int IntKind.i64 (IntKind.i64.wrap (ns + (1 : Int))), Value.int IntKind.i64 ns] m
      (Value.int IntKind.u64 n_6) ∧
      ∃ (n_7 : Int),
      QSpec Try.prog (80 : Nat) [Value.int IntKind.i64 n_3, Value.int IntKind.u64 n_6] m (Value.int IntKind.i64 n_7) ∧
      true = true ∧
      ∃ (n_8 : Int),
      QSpec Try.prog (81 : Nat)
      [Value.int IntKind.u64 n_5, Value.int IntKind.i64 (IntKind.i64.wrap (ns + (1 : Int))), Value.int IntKind.i64 ns] m
      (Value.int IntKind.u64 n_8) ∧
      ∃ (n_9 : Int),
      QSpec Try.prog (80 : Nat) [Value.int IntKind.i64 n_2, Value.int IntKind.u64 n_8] m (Value.int IntKind.i64 n_9) ∧
      ∀ (n_10 : Nat),
      m.sz ≤ n_10 →
      Vc.Spec Try.prog (82 : Nat)
      [Value.agg
      #[Value.string x.key, Value.int IntKind.i64 x.lo, Value.int IntKind.i64 x.hi,
      Value.int IntKind.i64 x.base, Value.int IntKind.i64 x.round, Value.slice a x.hs.length c,
      Value.int IntKind.i64 x.lk.cl, Value.int IntKind.i64 x.lk.sq, Value.int IntKind.i64 x.lk.hm,
      Value.int IntKind.i64 x.lk.n],
      Value.agg
      #[Value.int IntKind.i64 n, Value.int IntKind.i64 n_1, Value.int IntKind.i64 n_9,
      Value.int IntKind.i64 n_7]]
      { π := m.π, sz := n_10, uf := m.uf : M } fun (v : Value) (m' : M) =>
      ∃ (s : ByteArray),
      ∃ (n : Int),
      ∃ (n_11 : Int),
      ∃ (n_12 : Int),
      ∃ (n_13 : Int),
      ∃ (a : Option Addr),
      ∃ (n_14 : Nat),
      ∃ (c : Nat),
      ∃ (n_15 : Int),
      ∃ (n_16 : Int),
      ∃ (n_17 : Int),
      ∃ (n_18 : Int),
      v =
      Value.agg
      #[Value.string s, Value.int IntKind.i64 n, Value.int IntKind.i64 n_11,
      Value.int IntKind.i64 n_12, Value.int IntKind.i64 n_13,
      Value.slice a n_14 c, Value.int IntKind.i64 n_15,
      Value.int IntKind.i64 n_16, Value.int IntKind.i64 n_17,
      Value.int IntKind.i64 n_18] ∧
      Done
      (AcR m (aGrant x nd le ns)
      (Value.tuple
      #[Value.agg
      #[Value.string s, Value.int IntKind.i64 n, Value.int IntKind.i64 n_11,
      Value.int IntKind.i64 n_12, Value.int IntKind.i64 n_13,
      Value.slice a n_14 c, Value.int IntKind.i64 n_15,
      Value.int IntKind.i64 n_16, Value.int IntKind.i64 n_17,
      Value.int IntKind.i64 n_18],
      Value.int IntKind.i64 (0 : Int)])
      m'))))))))))) (by kernel_rfl) ?_
  refine ⟨rfl, _, rright_q x a c hx _ h, ?_⟩
  cases hr : rightB x
  · exact ifB_true (fail_d (by simp [aGrant, hr]))
  refine ifB_false (ifB_intro (fun h1 => fail_d ?_) (fun h1 => ifB_intro (fun h2 => fail_d ?_) (fun h2 => ifB_intro (fun h3 => fail_d ?_) (fun h3 => ifB_intro (fun h4 => fail_d ?_) (fun h4 => ⟨_, rnumber_q le _, ifB_intro (fun h5 => fail_d ?_) (fun h5 => ifB_intro (fun h7 => fail_d ?_) (fun h7 => ifB_intro (fun h8 => fail_d ?_) (fun h8 => ?_)))⟩)))))
  · simp at h1; simp [aGrant, hr, h1]
  · simp at h2; simp [aGrant, hr, h2]
  · simp at h3; simp [aGrant, hr, h3]
  · simp at h4; simp [aGrant, hr, h4]
  · have h5 : le < 1 ∨ 4611686018427387904 < le := by simp at h5; omega
    simp [aGrant, hr, h5]
  all_goals
    have harg : ¬ (ns < 1 ∨ 5 < ns ∨ nd < 1 ∨ ns < nd ∨ le < 1 ∨ 4611686018427387904 < le) := by simp at h1 h2 h3 h4 h5; omega
  · simp at h7; simp [aGrant, hr, harg, h7]
  · simp at h8; simp [aGrant, hr, harg, h8]
  have h7 : x.round = 0 := by simpa using h7
  have h8 : x.lk.cl = 0 := by simpa using h8
  have hres : aGrant x nd le ns = (grantA x nd le ns, 0) := by simp [aGrant, hr, harg, h7, h8, grantA]
  have hp := (right_iff x).1 hr
  have hm := hold_mem _ _ hp.hold
  have hb := room_bounds hx hr h8
  have hl5 := right_len hr
  have hlo := hx.lo
  have hhi := hx.hi
  have P := grant_p hx hr (by omega) (by omega) (by omega) (by omega : nd ≤ ns) (by omega) hle h7 h8
  have uU : InU (roomUp x) := by have := hx.base; unfold InU; unfold In64 at *; omega
  have uD : InU (roomDn x) := by have := hx.base; unfold InU; unfold In64 at *; omega
  have w1 : IntKind.i64.wrap (ns + 1) = ns + 1 := by simp [IntKind.wrap_i64]; omega
  have s1 := share_in (roomUp x) (ns + 1) ns uU
  have s2 := share_in (roomDn x) (ns + 1) ns uD
  have i1 : In64 (ns + 1) := by unfold In64; omega
  have i2 : In64 ns := by unfold In64; omega
  have iU1 : InU (shareV (roomUp x) (ns + 1) ns) := by unfold InU at *; omega
  have iU2 : InU (shareV (roomDn x) (ns + 1) ns) := by unfold InU at *; omega
  have hgd : hdB 0 (grantH x nd le ns) = true := by
    have hmem : grantH x nd le ns ∈ (grantA x nd le ns).hs := List.mem_append_right _ List.mem_cons_self
    have h9 := hold_mem _ _ ((right_iff _).1 P.right).hold _ hmem
    simp only [hdB, Bool.and_eq_true, decide_eq_true_eq]; omega
  have hput := resW_put hp.hold hgd
  rw [P.gnd] at hput
  have hup := P.up
  have hdn := P.dn
  have hfin : ∀ (e : Hd) (N : Nat), e = grantH x nd le ns → m.sz ≤ N → Vc.Spec Try.prog 82 [acv x a c, hdv e] { m with sz := N } fun v m' => ∃ s n1 n2 n3 n4 a n5 c n6 n7 n8 n9, v = .agg #[.string s, I n1, I n2, I n3, I n4, .slice a n5 c, I n6, I n7, I n8, I n9] ∧ Done (AcR m (aGrant x nd le ns) (.tuple #[.agg #[.string s, I n1, I n2, I n3, I n4, .slice a n5 c, I n6, I n7, I n8, I n9], I 0]) m') := fun e N he hN => by
    subst he
    refine (with_s x a c (grantH x nd le ns) (by omega) _ (h.sz hN)).mono fun v m' hag ⟨a', c', hv, hr'⟩ => ⟨_, _, _, _, _, _, _, _, _, _, _, _, hv, ?_⟩
    rw [P.gnd, hput] at hr' ⊢
    rw [hres]
    exact ok_d (z := grantA x nd le ns) rfl hr' hN
  rw [w1]
  refine ⟨_, _, _, _, _, rfind_q x a c nd hx _ h, ?_⟩
  cases hf : findB x nd
  · have hfn : fndH x.hs nd = none := by simpa [findB, hr] using hf
    have hge : (⟨nd, le, moreI 0 (shareV (roomUp x) (ns + 1) ns), moreI 0 (shareV (roomDn x) (ns + 1) ns)⟩ : Hd) = grantH x nd le ns := by simp [grantH, hf]
    refine ifB_true ⟨_, _, rroom_q x a c hx _ h, rfl, _, rshare_q _ _ _ uD i1 i2 _, _, rmore_q 0 _ (by omega) iU2 _, rfl, _, rshare_q _ _ _ uU i1 i2 _, _, rmore_q 0 _ (by omega) iU1 _, fun N hN => ?_⟩
    exact hfin _ N hge hN
  · have hge : (⟨(findH x nd).nd, (findH x nd).le, moreI (findH x nd).up (shareV (roomUp x) (ns + 1) ns), moreI (findH x nd).dn (shareV (roomDn x) (ns + 1) ns)⟩ : Hd) = grantH x nd le ns := by simp [grantH, hf]
    refine ifB_false ⟨_, _, rroom_q x a c hx _ h, rfl, _, rshare_q _ _ _ uD i1 i2 _, _, rmore_q _ _ (by omega) iU2 _, rfl, _, rshare_q _ _ _ uU i1 i2 _, _, rmore_q _ _ (by omega) iU1 _, fun N hN => ?_⟩
    exact hfin _ N hge hN

end Go.Proofs.Ytlifpjllhibdpaa
set_option linter.unusedVariables false
set_option linter.unusedSimpArgs false
namespace Go.Proofs.Ytlifpjllhibdpaa
open Go.Vc Go.RowKit
set_option maxRecDepth 100000

structure OpA where
  kind : Int
  nd : Int
  le : Int
  ro : Int
  n : Int
  lo : Int
  hi : Int
  lk : Lk
  cm : Bool

def OpA.wf (o : OpA) : Prop := In64 o.kind ∧ In64 o.nd ∧ In64 o.le ∧ In64 o.ro ∧ In64 o.n ∧ In64 o.lo ∧ In64 o.hi ∧ o.lk.wf

abbrev encO (o : OpA) : List Value := [I o.kind, I o.nd, I o.le, I o.ro, I o.n, I o.lo, I o.hi, I o.lk.cl, I o.lk.sq, I o.lk.hm, I o.lk.n, .bool o.cm]

abbrev opv (o : OpA) : Value := .agg #[I o.kind, I o.nd, I o.le, I o.ro, I o.n, I o.lo, I o.hi, I o.lk.cl, I o.lk.sq, I o.lk.hm, I o.lk.n, .bool o.cm]

def aCall (x : Ac) (o : OpA) (ns : Int) : Ac × Int :=
  if o.kind = 1 then aGrant x o.nd o.le ns else if o.kind = 2 then aFreeze x o.ro else if o.kind = 3 then aThaw x else
  if o.kind = 4 then aReport x o.nd o.le o.ro o.n else if o.kind = 5 then aBounds x o.lo o.hi else if o.kind = 6 then aTake x o.lk else
  if o.kind = 7 then aFree x o.cm else aAdd x o.n

theorem pass_s {f : FuncId} {args : List Value} {m : M} {N : Nat} {y0 y : Ac × Int} (h : Vc.Spec Try.prog f args { m with sz := N } (AcR { m with sz := N } y)) (hN : m.sz ≤ N) (e : y0 = y) :
    Vc.Spec Try.prog f args { m with sz := N } fun v m' => ∃ (s : ByteArray) (n1 n2 n3 n4 : Int) (a : Option Addr) (n5 c : Nat) (n6 n7 n8 n9 n10 : Int), v = .tuple #[.agg #[.string s, I n1, I n2, I n3, I n4, .slice a n5 c, I n6, I n7, I n8, I n9], I n10] ∧ Done (AcR m y0 (.tuple #[.agg #[.string s, I n1, I n2, I n3, I n4, .slice a n5 c, I n6, I n7, I n8, I n9], I n10]) m') :=
  h.mono fun v m' hag ⟨a', c', hv, hr⟩ => ⟨_, _, _, _, _, _, _, _, _, _, _, _, _, hv, ⟨by subst e; exact ⟨a', c', rfl, hr.lower hN⟩⟩⟩

theorem call_s (x : Ac) (a : Option Addr) (c : Nat) (o : OpA) (ns : Int) (hx : x.wf) (ho : o.wf) (h0 : a = none → x.hs = []) (m : M) (h : Row m a (hds x.hs)) : Vc.Spec Try.prog 37 [acv x a c, opv o, I ns] m (AcR m (aCall x o ns)) := by
  refine Vc.Spec.of_vc Try.func37 (ann := noAnn) ?_
  refine vc_by (X :=
      true = true ∧
      ifB (o.kind == (1 : Int))
      (∀ (n : Nat),
      m.sz ≤ n →
      Vc.Spec Try.prog (33 : Nat)
      [Value.agg
      #[Value.string x.key, Value.int IntKind.i64 x.lo, Value.int IntKind.i64 x.hi, Value.int IntKind.i64 x.base, Value.int IntKind.i64 x.round,
      Value.slice a x.hs.length c, Value.int IntKind.i64 x.lk.cl, Value.int IntKind.i64 x.lk.sq, Value.int IntKind.i64 x.lk.hm, Value.int IntKind.i64 x.lk.n],
      Value.int IntKind.i64 o.nd, Value.int IntKind.i64 o.le, Value.int IntKind.i64 ns]
      { π := m.π, sz := n, uf := m.uf : M } fun (v : Value) (m' : M) =>
      ∃ (s : ByteArray),
      ∃ (n : Int),
      ∃ (n_1 : Int),
      ∃ (n_2 : Int),
      ∃ (n_3 : Int),
      ∃ (a : Option Addr),
      ∃ (n_4 : Nat),
      ∃ (c : Nat),
      ∃ (n_5 : Int),
      ∃ (n_6 : Int),
      ∃ (n_7 : Int),
      ∃ (n_8 : Int),
      ∃ (n_9 : Int),
      v =
      Value.tuple
      #[Value.agg
      #[Value.string s, Value.int IntKind.i64 n, Value.int IntKind.i64 n_1, Value.int IntKind.i64 n_2, Value.int IntKind.i64 n_3,
      Value.slice a n_4 c, Value.int IntKind.i64 n_5, Value.int IntKind.i64 n_6, Value.int IntKind.i64 n_7, Value.int IntKind.i64 n_8],
      Value.int IntKind.i64 n_9] ∧
      Done
      (AcR m (aCall x o ns)
      (Value.tuple
      #[Value.agg
      #[Value.string s, Value.int IntKind.i64 n, Value.int IntKind.i64 n_1, Value.int IntKind.i64 n_2, Value.int IntKind.i64 n_3,
      Value.slice a n_4 c, Value.int IntKind.i64 n_5, Value.int IntKind.i64 n_6, Value.int IntKind.i64 n_7, Value.int IntKind.i64 n_8],
      Value.int IntKind.i64 n_9])
      m'))
      (ifB (o.kind == (2 : Int))
      (∀ (n : Nat),
      m.sz ≤ n →
      Vc.Spec Try.prog (28 : Nat)
      [Value.agg
      #[Value.string x.key, Value.int IntKind.i64 x.lo, Value.int IntKind.i64 x.hi, Value.int IntKind.i64 x.base, Value.int IntKind.i64 x.round,
      Value.slice a x.hs.length c, Value.int IntKind.i64 x.lk.cl, Value.int IntKind.i64 x.lk.sq, Value.int IntKind.i64 x.lk.hm, Value.int IntKind.i64 x.lk.n],
      Value.int IntKind.i64 o.ro]
      { π := m.π, sz := n, uf := m.uf : M } fun (v : Value) (m' : M) =>
      ∃ (s : ByteArray),
      ∃ (n : Int),
      ∃ (n_1 : Int),
      ∃ (n_2 : Int),
      ∃ (n_3 : Int),
      ∃ (a : Option Addr),
      ∃ (n_4 : Nat),
      ∃ (c : Nat),
      ∃ (n_5 : Int),
      ∃ (n_6 : Int),
      ∃ (n_7 : Int),
      ∃ (n_8 : Int),
      ∃ (n_9 : Int),
      v =
      Value.tuple
      #[Value.agg
      #[Value.string s, Value.int IntKind.i64 n, Value.int IntKind.i64 n_1, Value.int IntKind.i64 n_2, Value.int IntKind.i64 n_3,
      Value.slice a n_4 c, Value.int IntKind.i64 n_5, Value.int IntKind.i64 n_6, Value.int IntKind.i64 n_7, Value.int IntKind.i64 n_8],
      Value.int IntKind.i64 n_9] ∧
      Done
      (AcR m (aCall x o ns)
      (Value.tuple
      #[Value.agg
      #[Value.string s, Value.int IntKind.i64 n, Value.int IntKind.i64 n_1, Value.int IntKind.i64 n_2, Value.int IntKind.i64 n_3,
      Value.slice a n_4 c, Value.int IntKind.i64 n_5, Value.int IntKind.i64 n_6, Value.int IntKind.i64 n_7,
      Value.int IntKind.i64 n_8],
      Value.int IntKind.i64 n_9])
      m'))
      (ifB (o.kind == (3 : Int))
      (∀ (n : Nat),
      m.sz ≤ n →
      Vc.Spec Try.prog (63 : Nat)
      [Value.agg
      #[Value.string x.key, Value.int IntKind.i64 x.lo, Value.int IntKind.i64 x.hi, Value.int IntKind.i64 x.base, Value.int IntKind.i64 x.round,
      Value.slice a x.hs.length c, Value.int IntKind.i64 x.lk.cl, Value.int IntKind.i64 x.lk.sq, Value.int IntKind.i64 x.lk.hm, Value.int IntKind.i64 x.lk.n]]
      { π := m.π, sz := n, uf := m.uf : M } fun (v : Value) (m' : M) =>
      ∃ (s : ByteArray),
      ∃ (n : Int),
      ∃ (n_1 : Int),
      ∃ (n_2 : Int),
      ∃ (n_3 : Int),
      ∃ (a : Option Addr),
      ∃ (n_4 : Nat),
      ∃ (c : Nat),
      ∃ (n_5 : Int),
      ∃ (n_6 : Int),
      ∃ (n_7 : Int),
      ∃ (n_8 : Int),
      ∃ (n_9 : Int),
      v =
      Value.tuple
      #[Value.agg
      #[Value.string s, Value.int IntKind.i64 n, Value.int IntKind.i64 n_1, Value.int IntKind.i64 n_2, Value.int IntKind.i64 n_3,
      Value.slice a n_4 c, Value.int IntKind.i64 n_5, Value.int IntKind.i64 n_6, Value.int IntKind.i64 n_7,
      Value.int IntKind.i64 n_8],
      Value.int IntKind.i64 n_9] ∧
      Done
      (AcR m (aCall x o ns)
      (Value.tuple
      #[Value.agg
      #[Value.string s, Value.int IntKind.i64 n, Value.int IntKind.i64 n_1, Value.int IntKind.i64 n_2, Value.int IntKind.i64 n_3,
      Value.slice a n_4 c, Value.int IntKind.i64 n_5, Value.int IntKind.i64 n_6, Value.int IntKind.i64 n_7,
      Value.int IntKind.i64 n_8],
      Value.int IntKind.i64 n_9])
      m'))
      (ifB (o.kind == (4 : Int))
      (∀ (n : Nat),
      m.sz ≤ n →
      Vc.Spec Try.prog (30 : Nat)
      [Value.agg
      #[Value.string x.key, Value.int IntKind.i64 x.lo, Value.int IntKind.i64 x.hi, Value.int IntKind.i64 x.base, Value.int IntKind.i64 x.round,
      Value.slice a x.hs.length c, Value.int IntKind.i64 x.lk.cl, Value.int IntKind.i64 x.lk.sq, Value.int IntKind.i64 x.lk.hm, Value.int IntKind.i64 x.lk.n],
      Value.int IntKind.i64 o.nd, Value.int IntKind.i64 o.le, Value.int IntKind.i64 o.ro, Value.int IntKind.i64 o.n]
      { π := m.π, sz := n, uf := m.uf : M } fun (v : Value) (m' : M) =>
      ∃ (s : ByteArray),
      ∃ (n : Int),
      ∃ (n_1 : Int),
      ∃ (n_2 : Int),
      ∃ (n_3 : Int),
      ∃ (a : Option Addr),
      ∃ (n_4 : Nat),
      ∃ (c : Nat),
      ∃ (n_5 : Int),
      ∃ (n_6 : Int),
      ∃ (n_7 : Int),
      ∃ (n_8 : Int),
      ∃ (n_9 : Int),
      v =
      Value.tuple
      #[Value.agg
      #[Value.string s, Value.int IntKind.i64 n, Value.int IntKind.i64 n_1, Value.int IntKind.i64 n_2, Value.int IntKind.i64 n_3,
      Value.slice a n_4 c, Value.int IntKind.i64 n_5, Value.int IntKind.i64 n_6, Value.int IntKind.i64 n_7,
      Value.int IntKind.i64 n_8],
      Value.int IntKind.i64 n_9] ∧
      Done
      (AcR m (aCall x o ns)
      (Value.tuple
      #[Value.agg
      #[Value.string s, Value.int IntKind.i64 n, Value.int IntKind.i64 n_1, Value.int IntKind.i64 n_2, Value.int IntKind.i64 n_3,
      Value.slice a n_4 c, Value.int IntKind.i64 n_5, Value.int IntKind.i64 n_6, Value.int IntKind.i64 n_7,
      Value.int IntKind.i64 n_8],
      Value.int IntKind.i64 n_9])
      m'))
      (ifB (o.kind == (5 : Int))
      (∀ (n : Nat),
      m.sz ≤ n →
      Vc.Spec Try.prog (35 : Nat)
      [Value.agg
      #[Value.string x.key, Value.int IntKind.i64 x.lo, Value.int IntKind.i64 x.hi, Value.int IntKind.i64 x.base, Value.int IntKind.i64 x.round,
      Value.slice a x.hs.length c, Value.int IntKind.i64 x.lk.cl, Value.int IntKind.i64 x.lk.sq, Value.int IntKind.i64 x.lk.hm, Value.int IntKind.i64 x.lk.n],
      Value.agg #[Value.int IntKind.i64 o.lo, Value.int IntKind.i64 o.hi]]
      { π := m.π, sz := n, uf := m.uf : M } fun (v : Value) (m' : M) =>
      ∃ (s : ByteArray),
      ∃ (n : Int),
      ∃ (n_1 : Int),
      ∃ (n_2 : Int),
      ∃ (n_3 : Int),
      ∃ (a : Option Addr),
      ∃ (n_4 : Nat),
      ∃ (c : Nat),
      ∃ (n_5 : Int),
      ∃ (n_6 : Int),
      ∃ (n_7 : Int),
      ∃ (n_8 : Int),
      ∃ (n_9 : Int),
      v =
      Value.tuple
      #[Value.agg
      #[Value.string s, Value.int IntKind.i64 n, Value.int IntKind.i64 n_1, Value.int IntKind.i64 n_2, Value.int IntKind.i64 n_3,
      Value.slice a n_4 c, Value.int IntKind.i64 n_5, Value.int IntKind.i64 n_6, Value.int IntKind.i64 n_7,
      Value.int IntKind.i64 n_8],
      Value.int IntKind.i64 n_9] ∧
      Done
      (AcR m (aCall x o ns)
      (Value.tuple
      #[Value.agg
      #[Value.string s, Value.int IntKind.i64 n, Value.int IntKind.i64 n_1, Value.int IntKind.i64 n_2, Value.int IntKind.i64 n_3,
      Value.slice a n_4 c, Value.int IntKind.i64 n_5, Value.int IntKind.i64 n_6, Value.int IntKind.i64 n_7,
      Value.int IntKind.i64 n_8],
      Value.int IntKind.i64 n_9])
      m'))
      (ifB (o.kind == (6 : Int))
      (∀ (n : Nat),
      m.sz ≤ n →
      Vc.Spec Try.prog (34 : Nat)
      [Value.agg
      #[Value.string x.key, Value.int IntKind.i64 x.lo, Value.int IntKind.i64 x.hi, Value.int IntKind.i64 x.base, Value.int IntKind.i64 x.round,
      Value.slice a x.hs.length c, Value.int IntKind.i64 x.lk.cl, Value.int IntKind.i64 x.lk.sq, Value.int IntKind.i64 x.lk.hm, Value.int IntKind.i64 x.lk.n],
      Value.agg #[Value.int IntKind.i64 o.lk.cl, Value.int IntKind.i64 o.lk.sq, Value.int IntKind.i64 o.lk.hm, Value.int IntKind.i64 o.lk.n]]
      { π := m.π, sz := n, uf := m.uf : M } fun (v : Value) (m' : M) =>
      ∃ (s : ByteArray),
      ∃ (n : Int),
      ∃ (n_1 : Int),
      ∃ (n_2 : Int),
      ∃ (n_3 : Int),
      ∃ (a : Option Addr),
      ∃ (n_4 : Nat),
      ∃ (c : Nat),
      ∃ (n_5 : Int),
      ∃ (n_6 : Int),
      ∃ (n_7 : Int),
      ∃ (n_8 : Int),
      ∃ (n_9 : Int),
      v =
      Value.tuple
      #[Value.agg
      #[Value.string s, Value.int IntKind.i64 n, Value.int IntKind.i64 n_1, Value.int IntKind.i64 n_2, Value.int IntKind.i64 n_3,
      Value.slice a n_4 c, Value.int IntKind.i64 n_5, Value.int IntKind.i64 n_6, Value.int IntKind.i64 n_7,
      Value.int IntKind.i64 n_8],
      Value.int IntKind.i64 n_9] ∧
      Done
      (AcR m (aCall x o ns)
      (Value.tuple
      #[Value.agg
      #[Value.string s, Value.int IntKind.i64 n, Value.int IntKind.i64 n_1, Value.int IntKind.i64 n_2,
      Value.int IntKind.i64 n_3, Value.slice a n_4 c, Value.int IntKind.i64 n_5, Value.int IntKind.i64 n_6,
      Value.int IntKind.i64 n_7, Value.int IntKind.i64 n_8],
      Value.int IntKind.i64 n_9])
      m'))
      (ifB (o.kind == (7 : Int))
      (∀ (n : Nat),
      m.sz ≤ n →
      Vc.Spec Try.prog (36 : Nat)
      [Value.agg
      #[Value.string x.key, Value.int IntKind.i64 x.lo, Value.int IntKind.i64 x.hi, Value.int IntKind.i64 x.base, Value.int IntKind.i64 x.round,
      Value.slice a x.hs.length c, Value.int IntKind.i64 x.lk.cl, Value.int IntKind.i64 x.lk.sq, Value.int IntKind.i64 x.lk.hm, Value.int IntKind.i64 x.lk.n],
      Value.bool o.cm]
      { π := m.π, sz := n, uf := m.uf : M } fun (v : Value) (m' : M) =>
      ∃ (s : ByteArray),
      ∃ (n : Int),
      ∃ (n_1 : Int),
      ∃ (n_2 : Int),
      ∃ (n_3 : Int),
      ∃ (a : Option Addr),
      ∃ (n_4 : Nat),
      ∃ (c : Nat),
      ∃ (n_5 : Int),
      ∃ (n_6 : Int),
      ∃ (n_7 : Int),
      ∃ (n_8 : Int),
      ∃ (n_9 : Int),
      v =
      Value.tuple
      #[Value.agg
      #[Value.string s, Value.int IntKind.i64 n, Value.int IntKind.i64 n_1, Value.int IntKind.i64 n_2,
      Value.int IntKind.i64 n_3, Value.slice a n_4 c, Value.int IntKind.i64 n_5, Value.int IntKind.i64 n_6,
      Value.int IntKind.i64 n_7, Value.int IntKind.i64 n_8],
      Value.int IntKind.i64 n_9] ∧
      Done
      (AcR m (aCall x o ns)
      (Value.tuple
      #[Value.agg
      #[Value.string s, Value.int IntKind.i64 n, Value.int IntKind.i64 n_1, Value.int IntKind.i64 n_2,
      Value.int IntKind.i64 n_3, Value.slice a n_4 c, Value.int IntKind.i64 n_5, Value.int IntKind.i64 n_6,
      Value.int IntKind.i64 n_7, Value.int IntKind.i64 n_8],
      Value.int IntKind.i64 n_9])
      m'))
      (∀ (n : Nat),
      m.sz ≤ n →
      Vc.Spec Try.prog (27 : Nat)
      [Value.agg
      #[Value.string x.key, Value.int IntKind.i64 x.lo, Value.int IntKind.i64 x.hi, Value.int IntKind.i64 x.base, Value.int IntKind.i64 x.round,
      Value.slice a x.hs.length c, Value.int IntKind.i64 x.lk.cl, Value.int IntKind.i64 x.lk.sq, Value.int IntKind.i64 x.lk.hm, Value.int IntKind.i64 x.lk.n],
      Value.int IntKind.i64 o.n]
      { π := m.π, sz := n, uf := m.uf : M } fun (v : Value) (m' : M) =>
      ∃ (s : ByteArray),
      ∃ (n : Int),
      ∃ (n_1 : Int),
      ∃ (n_2 : Int),
      ∃ (n_3 : Int),
      ∃ (a : Option Addr),
      ∃ (n_4 : Nat),
      ∃ (c : Nat),
      ∃ (n_5 : Int),
      ∃ (n_6 : Int),
      ∃ (n_7 : Int),
      ∃ (n_8 : Int),
      ∃ (n_9 : Int),
      v =
      Value.tuple
      #[Value.agg
      #[Value.string s, Value.int IntKind.i64 n, Value.int IntKind.i64 n_1, Value.int IntKind.i64 n_2,
      Value.int IntKind.i64 n_3, Value.slice a n_4 c, Value.int IntKind.i64 n_5, Value.int IntKind.i64 n_6,
      Value.int IntKind.i64 n_7, Value.int IntKind.i64 n_8],
      Value.int IntKind.i64 n_9] ∧
      Done
      (AcR m (aCall x o ns)
      (Value.tuple
      #[Value.agg
      #[Value.string s, Value.int IntKind.i64 n, Value.int IntKind.i64 n_1, Value.int IntKind.i64 n_2,
      Value.int IntKind.i64 n_3, Value.slice a n_4 c, Value.int IntKind.i64 n_5, Value.int IntKind.i64 n_6,
      Value.int IntKind.i64 n_7, Value.int IntKind.i64 n_8],
      Value.int IntKind.i64 n_9])
      m'))))))))) (by kernel_rfl) ?_
  refine ⟨rfl, ifB_intro (fun h1 N hN => pass_s (agrant_s x a c o.nd o.le ns hx h0 _ (h.sz hN)) hN ?_) (fun h1 => ifB_intro (fun h2 N hN => pass_s (afreeze_s x a c o.ro hx h0 _ (h.sz hN)) hN ?_) (fun h2 => ifB_intro (fun h3 N hN => pass_s (athaw_s x a c hx h0 _ (h.sz hN)) hN ?_) (fun h3 => ifB_intro (fun h4 N hN => pass_s (areport_s x a c o.nd o.le o.ro o.n hx ho.2.2.2.2.1 h0 _ (h.sz hN)) hN ?_) (fun h4 => ifB_intro (fun h5 N hN => pass_s (abounds_s x a c o.lo o.hi hx h0 _ (h.sz hN)) hN ?_) (fun h5 => ifB_intro (fun h6 N hN => pass_s (atake_s x a c o.lk hx ho.2.2.2.2.2.2.2 h0 _ (h.sz hN)) hN ?_) (fun h6 => ifB_intro (fun h7 N hN => pass_s (afree_s x a c o.cm hx h0 _ (h.sz hN)) hN ?_) (fun h7 N hN => pass_s (aadd_s x a c o.n hx ho.2.2.2.2.1 h0 _ (h.sz hN)) hN ?_)))))))⟩
  all_goals simp at *
  all_goals simp [aCall, *]

theorem told_s (x : Ac) (a : Option Addr) (c : Nat) (o : OpA) (ns : Int) (hx : x.wf) (ho : o.wf) (m : M) (h : Row m a (hds x.hs)) : Vc.Spec Try.prog 38 [acv x a c, opv o, I ns] m (AcR m (aCall x o ns)) := by
  refine Vc.Spec.of_vc Try.func38 (ann := noAnn) ?_
  refine vc_by (X :=
      true = true ∧
      ifB (o.kind == (1 : Int))
      (∀ (n : Nat),
      m.sz ≤ n →
      Vc.Spec Try.prog (64 : Nat)
      [Value.agg
      #[Value.string x.key, Value.int IntKind.i64 x.lo, Value.int IntKind.i64 x.hi, Value.int IntKind.i64 x.base, Value.int IntKind.i64 x.round,
      Value.slice a x.hs.length c, Value.int IntKind.i64 x.lk.cl, Value.int IntKind.i64 x.lk.sq, Value.int IntKind.i64 x.lk.hm, Value.int IntKind.i64 x.lk.n],
      Value.int IntKind.i64 o.nd, Value.int IntKind.i64 o.le, Value.int IntKind.i64 ns]
      { π := m.π, sz := n, uf := m.uf : M } fun (v : Value) (m' : M) =>
      ∃ (s : ByteArray),
      ∃ (n : Int),
      ∃ (n_1 : Int),
      ∃ (n_2 : Int),
      ∃ (n_3 : Int),
      ∃ (a : Option Addr),
      ∃ (n_4 : Nat),
      ∃ (c : Nat),
      ∃ (n_5 : Int),
      ∃ (n_6 : Int),
      ∃ (n_7 : Int),
      ∃ (n_8 : Int),
      ∃ (n_9 : Int),
      v =
      Value.tuple
      #[Value.agg
      #[Value.string s, Value.int IntKind.i64 n, Value.int IntKind.i64 n_1, Value.int IntKind.i64 n_2, Value.int IntKind.i64 n_3,
      Value.slice a n_4 c, Value.int IntKind.i64 n_5, Value.int IntKind.i64 n_6, Value.int IntKind.i64 n_7, Value.int IntKind.i64 n_8],
      Value.int IntKind.i64 n_9] ∧
      Done
      (AcR m (aCall x o ns)
      (Value.tuple
      #[Value.agg
      #[Value.string s, Value.int IntKind.i64 n, Value.int IntKind.i64 n_1, Value.int IntKind.i64 n_2, Value.int IntKind.i64 n_3,
      Value.slice a n_4 c, Value.int IntKind.i64 n_5, Value.int IntKind.i64 n_6, Value.int IntKind.i64 n_7, Value.int IntKind.i64 n_8],
      Value.int IntKind.i64 n_9])
      m'))
      (ifB (o.kind == (2 : Int))
      (∀ (n : Nat),
      m.sz ≤ n →
      Vc.Spec Try.prog (65 : Nat)
      [Value.agg
      #[Value.string x.key, Value.int IntKind.i64 x.lo, Value.int IntKind.i64 x.hi, Value.int IntKind.i64 x.base, Value.int IntKind.i64 x.round,
      Value.slice a x.hs.length c, Value.int IntKind.i64 x.lk.cl, Value.int IntKind.i64 x.lk.sq, Value.int IntKind.i64 x.lk.hm, Value.int IntKind.i64 x.lk.n],
      Value.int IntKind.i64 o.ro]
      { π := m.π, sz := n, uf := m.uf : M } fun (v : Value) (m' : M) =>
      ∃ (s : ByteArray),
      ∃ (n : Int),
      ∃ (n_1 : Int),
      ∃ (n_2 : Int),
      ∃ (n_3 : Int),
      ∃ (a : Option Addr),
      ∃ (n_4 : Nat),
      ∃ (c : Nat),
      ∃ (n_5 : Int),
      ∃ (n_6 : Int),
      ∃ (n_7 : Int),
      ∃ (n_8 : Int),
      ∃ (n_9 : Int),
      v =
      Value.tuple
      #[Value.agg
      #[Value.string s, Value.int IntKind.i64 n, Value.int IntKind.i64 n_1, Value.int IntKind.i64 n_2, Value.int IntKind.i64 n_3,
      Value.slice a n_4 c, Value.int IntKind.i64 n_5, Value.int IntKind.i64 n_6, Value.int IntKind.i64 n_7, Value.int IntKind.i64 n_8],
      Value.int IntKind.i64 n_9] ∧
      Done
      (AcR m (aCall x o ns)
      (Value.tuple
      #[Value.agg
      #[Value.string s, Value.int IntKind.i64 n, Value.int IntKind.i64 n_1, Value.int IntKind.i64 n_2, Value.int IntKind.i64 n_3,
      Value.slice a n_4 c, Value.int IntKind.i64 n_5, Value.int IntKind.i64 n_6, Value.int IntKind.i64 n_7,
      Value.int IntKind.i64 n_8],
      Value.int IntKind.i64 n_9])
      m'))
      (ifB (o.kind == (3 : Int))
      (∀ (n : Nat),
      m.sz ≤ n →
      Vc.Spec Try.prog (66 : Nat)
      [Value.agg
      #[Value.string x.key, Value.int IntKind.i64 x.lo, Value.int IntKind.i64 x.hi, Value.int IntKind.i64 x.base, Value.int IntKind.i64 x.round,
      Value.slice a x.hs.length c, Value.int IntKind.i64 x.lk.cl, Value.int IntKind.i64 x.lk.sq, Value.int IntKind.i64 x.lk.hm, Value.int IntKind.i64 x.lk.n]]
      { π := m.π, sz := n, uf := m.uf : M } fun (v : Value) (m' : M) =>
      ∃ (s : ByteArray),
      ∃ (n : Int),
      ∃ (n_1 : Int),
      ∃ (n_2 : Int),
      ∃ (n_3 : Int),
      ∃ (a : Option Addr),
      ∃ (n_4 : Nat),
      ∃ (c : Nat),
      ∃ (n_5 : Int),
      ∃ (n_6 : Int),
      ∃ (n_7 : Int),
      ∃ (n_8 : Int),
      ∃ (n_9 : Int),
      v =
      Value.tuple
      #[Value.agg
      #[Value.string s, Value.int IntKind.i64 n, Value.int IntKind.i64 n_1, Value.int IntKind.i64 n_2, Value.int IntKind.i64 n_3,
      Value.slice a n_4 c, Value.int IntKind.i64 n_5, Value.int IntKind.i64 n_6, Value.int IntKind.i64 n_7,
      Value.int IntKind.i64 n_8],
      Value.int IntKind.i64 n_9] ∧
      Done
      (AcR m (aCall x o ns)
      (Value.tuple
      #[Value.agg
      #[Value.string s, Value.int IntKind.i64 n, Value.int IntKind.i64 n_1, Value.int IntKind.i64 n_2, Value.int IntKind.i64 n_3,
      Value.slice a n_4 c, Value.int IntKind.i64 n_5, Value.int IntKind.i64 n_6, Value.int IntKind.i64 n_7,
      Value.int IntKind.i64 n_8],
      Value.int IntKind.i64 n_9])
      m'))
      (ifB (o.kind == (4 : Int))
      (∀ (n : Nat),
      m.sz ≤ n →
      Vc.Spec Try.prog (67 : Nat)
      [Value.agg
      #[Value.string x.key, Value.int IntKind.i64 x.lo, Value.int IntKind.i64 x.hi, Value.int IntKind.i64 x.base, Value.int IntKind.i64 x.round,
      Value.slice a x.hs.length c, Value.int IntKind.i64 x.lk.cl, Value.int IntKind.i64 x.lk.sq, Value.int IntKind.i64 x.lk.hm, Value.int IntKind.i64 x.lk.n],
      Value.int IntKind.i64 o.nd, Value.int IntKind.i64 o.le, Value.int IntKind.i64 o.ro, Value.int IntKind.i64 o.n]
      { π := m.π, sz := n, uf := m.uf : M } fun (v : Value) (m' : M) =>
      ∃ (s : ByteArray),
      ∃ (n : Int),
      ∃ (n_1 : Int),
      ∃ (n_2 : Int),
      ∃ (n_3 : Int),
      ∃ (a : Option Addr),
      ∃ (n_4 : Nat),
      ∃ (c : Nat),
      ∃ (n_5 : Int),
      ∃ (n_6 : Int),
      ∃ (n_7 : Int),
      ∃ (n_8 : Int),
      ∃ (n_9 : Int),
      v =
      Value.tuple
      #[Value.agg
      #[Value.string s, Value.int IntKind.i64 n, Value.int IntKind.i64 n_1, Value.int IntKind.i64 n_2, Value.int IntKind.i64 n_3,
      Value.slice a n_4 c, Value.int IntKind.i64 n_5, Value.int IntKind.i64 n_6, Value.int IntKind.i64 n_7,
      Value.int IntKind.i64 n_8],
      Value.int IntKind.i64 n_9] ∧
      Done
      (AcR m (aCall x o ns)
      (Value.tuple
      #[Value.agg
      #[Value.string s, Value.int IntKind.i64 n, Value.int IntKind.i64 n_1, Value.int IntKind.i64 n_2, Value.int IntKind.i64 n_3,
      Value.slice a n_4 c, Value.int IntKind.i64 n_5, Value.int IntKind.i64 n_6, Value.int IntKind.i64 n_7,
      Value.int IntKind.i64 n_8],
      Value.int IntKind.i64 n_9])
      m'))
      (ifB (o.kind == (5 : Int))
      (∀ (n : Nat),
      m.sz ≤ n →
      Vc.Spec Try.prog (68 : Nat)
      [Value.agg
      #[Value.string x.key, Value.int IntKind.i64 x.lo, Value.int IntKind.i64 x.hi, Value.int IntKind.i64 x.base, Value.int IntKind.i64 x.round,
      Value.slice a x.hs.length c, Value.int IntKind.i64 x.lk.cl, Value.int IntKind.i64 x.lk.sq, Value.int IntKind.i64 x.lk.hm, Value.int IntKind.i64 x.lk.n],
      Value.agg #[Value.int IntKind.i64 o.lo, Value.int IntKind.i64 o.hi]]
      { π := m.π, sz := n, uf := m.uf : M } fun (v : Value) (m' : M) =>
      ∃ (s : ByteArray),
      ∃ (n : Int),
      ∃ (n_1 : Int),
      ∃ (n_2 : Int),
      ∃ (n_3 : Int),
      ∃ (a : Option Addr),
      ∃ (n_4 : Nat),
      ∃ (c : Nat),
      ∃ (n_5 : Int),
      ∃ (n_6 : Int),
      ∃ (n_7 : Int),
      ∃ (n_8 : Int),
      ∃ (n_9 : Int),
      v =
      Value.tuple
      #[Value.agg
      #[Value.string s, Value.int IntKind.i64 n, Value.int IntKind.i64 n_1, Value.int IntKind.i64 n_2, Value.int IntKind.i64 n_3,
      Value.slice a n_4 c, Value.int IntKind.i64 n_5, Value.int IntKind.i64 n_6, Value.int IntKind.i64 n_7,
      Value.int IntKind.i64 n_8],
      Value.int IntKind.i64 n_9] ∧
      Done
      (AcR m (aCall x o ns)
      (Value.tuple
      #[Value.agg
      #[Value.string s, Value.int IntKind.i64 n, Value.int IntKind.i64 n_1, Value.int IntKind.i64 n_2, Value.int IntKind.i64 n_3,
      Value.slice a n_4 c, Value.int IntKind.i64 n_5, Value.int IntKind.i64 n_6, Value.int IntKind.i64 n_7,
      Value.int IntKind.i64 n_8],
      Value.int IntKind.i64 n_9])
      m'))
      (ifB (o.kind == (6 : Int))
      (∀ (n : Nat),
      m.sz ≤ n →
      Vc.Spec Try.prog (69 : Nat)
      [Value.agg
      #[Value.string x.key, Value.int IntKind.i64 x.lo, Value.int IntKind.i64 x.hi, Value.int IntKind.i64 x.base, Value.int IntKind.i64 x.round,
      Value.slice a x.hs.length c, Value.int IntKind.i64 x.lk.cl, Value.int IntKind.i64 x.lk.sq, Value.int IntKind.i64 x.lk.hm, Value.int IntKind.i64 x.lk.n],
      Value.agg #[Value.int IntKind.i64 o.lk.cl, Value.int IntKind.i64 o.lk.sq, Value.int IntKind.i64 o.lk.hm, Value.int IntKind.i64 o.lk.n]]
      { π := m.π, sz := n, uf := m.uf : M } fun (v : Value) (m' : M) =>
      ∃ (s : ByteArray),
      ∃ (n : Int),
      ∃ (n_1 : Int),
      ∃ (n_2 : Int),
      ∃ (n_3 : Int),
      ∃ (a : Option Addr),
      ∃ (n_4 : Nat),
      ∃ (c : Nat),
      ∃ (n_5 : Int),
      ∃ (n_6 : Int),
      ∃ (n_7 : Int),
      ∃ (n_8 : Int),
      ∃ (n_9 : Int),
      v =
      Value.tuple
      #[Value.agg
      #[Value.string s, Value.int IntKind.i64 n, Value.int IntKind.i64 n_1, Value.int IntKind.i64 n_2, Value.int IntKind.i64 n_3,
      Value.slice a n_4 c, Value.int IntKind.i64 n_5, Value.int IntKind.i64 n_6, Value.int IntKind.i64 n_7,
      Value.int IntKind.i64 n_8],
      Value.int IntKind.i64 n_9] ∧
      Done
      (AcR m (aCall x o ns)
      (Value.tuple
      #[Value.agg
      #[Value.string s, Value.int IntKind.i64 n, Value.int IntKind.i64 n_1, Value.int IntKind.i64 n_2,
      Value.int IntKind.i64 n_3, Value.slice a n_4 c, Value.int IntKind.i64 n_5, Value.int IntKind.i64 n_6,
      Value.int IntKind.i64 n_7, Value.int IntKind.i64 n_8],
      Value.int IntKind.i64 n_9])
      m'))
      (ifB (o.kind == (7 : Int))
      (∀ (n : Nat),
      m.sz ≤ n →
      Vc.Spec Try.prog (70 : Nat)
      [Value.agg
      #[Value.string x.key, Value.int IntKind.i64 x.lo, Value.int IntKind.i64 x.hi, Value.int IntKind.i64 x.base, Value.int IntKind.i64 x.round,
      Value.slice a x.hs.length c, Value.int IntKind.i64 x.lk.cl, Value.int IntKind.i64 x.lk.sq, Value.int IntKind.i64 x.lk.hm, Value.int IntKind.i64 x.lk.n],
      Value.bool o.cm]
      { π := m.π, sz := n, uf := m.uf : M } fun (v : Value) (m' : M) =>
      ∃ (s : ByteArray),
      ∃ (n : Int),
      ∃ (n_1 : Int),
      ∃ (n_2 : Int),
      ∃ (n_3 : Int),
      ∃ (a : Option Addr),
      ∃ (n_4 : Nat),
      ∃ (c : Nat),
      ∃ (n_5 : Int),
      ∃ (n_6 : Int),
      ∃ (n_7 : Int),
      ∃ (n_8 : Int),
      ∃ (n_9 : Int),
      v =
      Value.tuple
      #[Value.agg
      #[Value.string s, Value.int IntKind.i64 n, Value.int IntKind.i64 n_1, Value.int IntKind.i64 n_2,
      Value.int IntKind.i64 n_3, Value.slice a n_4 c, Value.int IntKind.i64 n_5, Value.int IntKind.i64 n_6,
      Value.int IntKind.i64 n_7, Value.int IntKind.i64 n_8],
      Value.int IntKind.i64 n_9] ∧
      Done
      (AcR m (aCall x o ns)
      (Value.tuple
      #[Value.agg
      #[Value.string s, Value.int IntKind.i64 n, Value.int IntKind.i64 n_1, Value.int IntKind.i64 n_2,
      Value.int IntKind.i64 n_3, Value.slice a n_4 c, Value.int IntKind.i64 n_5, Value.int IntKind.i64 n_6,
      Value.int IntKind.i64 n_7, Value.int IntKind.i64 n_8],
      Value.int IntKind.i64 n_9])
      m'))
      (∀ (n : Nat),
      m.sz ≤ n →
      Vc.Spec Try.prog (71 : Nat)
      [Value.agg
      #[Value.string x.key, Value.int IntKind.i64 x.lo, Value.int IntKind.i64 x.hi, Value.int IntKind.i64 x.base, Value.int IntKind.i64 x.round,
      Value.slice a x.hs.length c, Value.int IntKind.i64 x.lk.cl, Value.int IntKind.i64 x.lk.sq, Value.int IntKind.i64 x.lk.hm, Value.int IntKind.i64 x.lk.n],
      Value.int IntKind.i64 o.n]
      { π := m.π, sz := n, uf := m.uf : M } fun (v : Value) (m' : M) =>
      ∃ (s : ByteArray),
      ∃ (n : Int),
      ∃ (n_1 : Int),
      ∃ (n_2 : Int),
      ∃ (n_3 : Int),
      ∃ (a : Option Addr),
      ∃ (n_4 : Nat),
      ∃ (c : Nat),
      ∃ (n_5 : Int),
      ∃ (n_6 : Int),
      ∃ (n_7 : Int),
      ∃ (n_8 : Int),
      ∃ (n_9 : Int),
      v =
      Value.tuple
      #[Value.agg
      #[Value.string s, Value.int IntKind.i64 n, Value.int IntKind.i64 n_1, Value.int IntKind.i64 n_2,
      Value.int IntKind.i64 n_3, Value.slice a n_4 c, Value.int IntKind.i64 n_5, Value.int IntKind.i64 n_6,
      Value.int IntKind.i64 n_7, Value.int IntKind.i64 n_8],
      Value.int IntKind.i64 n_9] ∧
      Done
      (AcR m (aCall x o ns)
      (Value.tuple
      #[Value.agg
      #[Value.string s, Value.int IntKind.i64 n, Value.int IntKind.i64 n_1, Value.int IntKind.i64 n_2,
      Value.int IntKind.i64 n_3, Value.slice a n_4 c, Value.int IntKind.i64 n_5, Value.int IntKind.i64 n_6,
      Value.int IntKind.i64 n_7, Value.int IntKind.i64 n_8],
      Value.int IntKind.i64 n_9])
      m'))))))))) (by kernel_rfl) ?_
  refine ⟨rfl, ifB_intro (fun h1 N hN => pass_s (rgrant_s x a c o.nd o.le ns hx ho.2.2.1 _ (h.sz hN)) hN ?_) (fun h1 => ifB_intro (fun h2 N hN => pass_s (rfreeze_s x a c o.ro hx _ (h.sz hN)) hN ?_) (fun h2 => ifB_intro (fun h3 N hN => pass_s (rthaw_s x a c hx _ (h.sz hN)) hN ?_) (fun h3 => ifB_intro (fun h4 N hN => pass_s (rreport_s x a c o.nd o.le o.ro o.n hx ho.2.2.2.2.1 _ (h.sz hN)) hN ?_) (fun h4 => ifB_intro (fun h5 N hN => pass_s (rbounds_s x a c o.lo o.hi hx _ (h.sz hN)) hN ?_) (fun h5 => ifB_intro (fun h6 N hN => pass_s (rtake_s x a c o.lk hx ho.2.2.2.2.2.2.2 _ (h.sz hN)) hN ?_) (fun h6 => ifB_intro (fun h7 N hN => pass_s (rfree_s x a c o.cm hx _ (h.sz hN)) hN ?_) (fun h7 N hN => pass_s (radd_s x a c o.n hx ho.2.2.2.2.1 _ (h.sz hN)) hN ?_)))))))⟩
  all_goals simp at *
  all_goals simp [aCall, *]

end Go.Proofs.Ytlifpjllhibdpaa
set_option linter.unusedVariables false
set_option linter.unusedSimpArgs false
namespace Go.Proofs.Ytlifpjllhibdpaa
open Go.Vc Go.RowKit Go.ChangeShapes Go.WideShapes Go.ChangeAt
set_option maxRecDepth 100000

theorem cells_op : Try.prog.cellsOf 65 = 12 := by kernel_rfl

theorem cells_bool : Try.prog.cellsOf 4 = 1 := by kernel_rfl

theorem rd_op {m : M} {N d : Nat} {cs : List Value} (h : Rd Try.prog m N (d + 3) 65 cs) : ∃ o : OpA, cs = encO o ∧ o.wf := by
  simp only [Rd, Try.underlying65, Try.underlying23, Try.underlying26, Try.underlying3, Try.underlying4, fieldsD, cells_op, cells_lk, cells_sp, cells_int, cells_bool] at h
  obtain ⟨hl, ⟨k1, e1, w1⟩, ⟨k2, e2, w2⟩, ⟨k3, e3, w3⟩, ⟨k4, e4, w4⟩, ⟨k5, e5, w5⟩, ⟨-, ⟨k6, e6, w6⟩, ⟨k7, e7, w7⟩, -⟩, ⟨-, ⟨k8, e8, w8⟩, ⟨k9, e9, w9⟩, ⟨k10, e10, w10⟩, ⟨k11, e11, w11⟩, -⟩, ⟨k12, e12⟩, -⟩ := h
  obtain ⟨c1, c2, c3, c4, c5, c6, c7, c8, c9, c10, c11, c12, rfl⟩ : ∃ c1 c2 c3 c4 c5 c6 c7 c8 c9 c10 c11 c12, cs = [c1, c2, c3, c4, c5, c6, c7, c8, c9, c10, c11, c12] := by
    match cs, hl with
    | [c1, c2, c3, c4, c5, c6, c7, c8, c9, c10, c11, c12], _ => exact ⟨_, _, _, _, _, _, _, _, _, _, _, _, rfl⟩
  simp at e1 e2 e3 e4 e5 e6 e7 e8 e9 e10 e11 e12
  subst e1 e2 e3 e4 e5 e6 e7 e8 e9 e10 e11 e12
  exact ⟨⟨k1, k2, k3, k4, k5, k6, k7, ⟨k8, k9, k10, k11⟩, k12⟩, rfl, in64_of w1, in64_of w2, in64_of w3, in64_of w4, in64_of w5, in64_of w6, in64_of w7, in64_of w8, in64_of w9, in64_of w10, in64_of w11⟩

variable {H : Type} {enc : TypeId × Value → H} {W : World} {r : Reach} {b0 : Nat} {v : Value} {d : DataW H} {p : List MemPlace} {N : Nat} {Bd : DataW H → Prop}

theorem open_op (hv : Value.okWide Try.prog W r b0 65 v) (h : DataW.Trod enc Try.prog W 0 (fun _ => true) true 65 v d p) : ∃ o : OpA, v = opv o ∧ o.wf := by
  obtain ⟨cs, rfl, hl⟩ := open_agg Try.underlying65 cells_op hv
  obtain ⟨fuel, hf⟩ := h
  have hr := rd_of_trod (bound_any H) 3 fuel 65 _ _ hf trivial
  simp only [Value.cells] at hr
  obtain ⟨o, he, hw⟩ := rd_op (d := 0) hr
  exact ⟨o, by rw [show cs = encO o from he], hw⟩

theorem open_ops (B : Bound N Bd) (hv : Value.okWide Try.prog W r b0 68 v) (h : DataW.Trod enc Try.prog W 0 (fun _ => true) true 68 v d p) (hb : Bd d) :
    ∃ (a : Option Addr) (c : Nat) (z : List OpA), v = .slice a z.length c ∧ z.length ≤ N ∧ (∀ x ∈ z, x.wf) ∧ Row (M.all W) a (z.flatMap encO) := by
  obtain ⟨a, len, cap, rfl⟩ := okWide_slice Try.underlying68 hv
  obtain ⟨fuel, hf⟩ := h
  have hr := rd_of_trod B 4 fuel 68 _ _ hf hb
  rw [Rd] at hr
  simp only [Try.underlying68] at hr
  obtain ⟨a', cap', rows, hcs, h1, h2, h3, h4, h5⟩ := hr
  obtain ⟨z, hz, he, hi⟩ := rows_list (α := OpA) (e := encO) (p := OpA.wf) rows fun r hr => rd_op (d := 0) (h4 r hr).2
  simp [Value.cells] at hcs
  obtain ⟨rfl, rfl, rfl⟩ := hcs
  rw [he] at h5
  exact ⟨a, cap, z, by rw [hz], by omega, hi, h5⟩

end Go.Proofs.Ytlifpjllhibdpaa
set_option linter.unusedVariables false
set_option linter.unusedSimpArgs false
namespace Go.Proofs.Ytlifpjllhibdpaa
open Go.Vc Go.RowKit
set_option maxRecDepth 100000

/-- what an account has become: right, and of the same key -/
structure StayP (x y : Ac) : Prop where
  right : rightB y = true
  wf : y.wf
  key : y.key = x.key

theorem bounds_stay {x : Ac} {lo hi : Int} (hx : x.wf) (h1 : In64 lo) (h2 : In64 hi) (h : (aBounds x lo hi).2 = 0) : rightB x = true ∧ aBounds x lo hi = ({ x with lo := lo, hi := hi }, 0) ∧ StayP x { x with lo := lo, hi := hi } := by
  unfold aBounds at h ⊢
  split at h
  · rename_i hk; exact absurd h hk
  split at h
  · simp at h
  rename_i hk hh
  have hk : knownE x = 0 := Classical.byContradiction hk
  have hr := known_right hk
  have ht : totB x = true := by
    cases ht : totB x
    · simp [knownE, hr, ht] at hk
    · rfl
  simp only [totB, Bool.and_eq_true, decide_eq_true_eq, List.isEmpty_iff] at ht
  have hh : hasB lo hi x.base = true := by simpa using hh
  refine ⟨hr, by simp [hk, hh], ?_⟩
  have hp := (right_iff x).1 hr
  simp only [hasB, Bool.and_eq_true, decide_eq_true_eq] at hh
  refine ⟨(right_iff _).2 ⟨hp.key, hh, hp.round, hp.hold, ?_, ?_, ?_⟩, ⟨hx.key, h1, h2, hx.base, hx.round, hx.hs, hx.len, hx.lk⟩, rfl⟩
  · simp only [upsL, ht.2, List.map_nil, sumI_cons]; simp only [sumI, List.foldl_nil]; omega
  · simp only [dnsL, ht.2, List.map_nil, sumI_cons]; simp only [sumI, List.foldl_nil]; omega
  · have := hp.lock
    simp only [lockB, ht.1.2, if_true] at this ⊢
    exact this

theorem take_stay {x : Ac} {k : Lk} (hx : x.wf) (hk : k.wf) (h : (aTake x k).2 = 0) : rightB x = true ∧ aTake x k = ({ x with lk := k }, 0) ∧ StayP x { x with lk := k } := by
  obtain ⟨h1, h2, h3, h4, h5, h6⟩ := aTake_ok h
  obtain ⟨g1, g2, -⟩ := take_right hx hk h1 h2 h3 h4 h5
  exact ⟨h1, h6, g1, g2, rfl⟩

def freedA (x : Ac) (b : Bool) : Ac := { x with base := if b then x.base + x.lk.n else x.base, lk := lk0 }

theorem free_stay {x : Ac} {b : Bool} (hx : x.wf) (h : (aFree x b).2 = 0) : rightB x = true ∧ aFree x b = (freedA x b, 0) ∧ StayP x (freedA x b) ∧ x.lk.cl ≠ 0 := by
  unfold aFree at h ⊢
  split at h
  · simp at h
  split at h
  · simp at h
  rename_i h1 h2
  have h1 : rightB x = true := by simpa using h1
  obtain ⟨g1, g2⟩ := free_right (b := b) hx h1 h2
  exact ⟨h1, by simp only [h1, h2, if_false, freedA]; simp, ⟨g1, g2, rfl⟩, h2⟩

theorem add_stay {x : Ac} {n : Int} (hx : x.wf) (h : (aAdd x n).2 = 0) : rightB x = true ∧ aAdd x n = (x.by n, 0) ∧ StayP x (x.by n) := by
  obtain ⟨h1, h2, h3, h4, h5⟩ := aAdd_ok h
  obtain ⟨g1, g2, g3, g4⟩ := by_right hx h1 h3 h4
  exact ⟨h1, h5, g1, g2, rfl⟩

theorem freeze_stay {x : Ac} {r : Int} (hx : x.wf) (hr64 : In64 r) (h : (aFreeze x r).2 = 0) : rightB x = true ∧ aFreeze x r = ({ x with round := rndR x r }, 0) ∧ StayP x { x with round := rndR x r } := by
  obtain ⟨h1, h2, h3, h4⟩ := aFreeze_ok h
  have hp := (right_iff x).1 h1
  have hR1 : 0 ≤ rndR x r := by have := hp.round; unfold rndR; split <;> omega
  have hR2 : In64 (rndR x r) := by unfold rndR; split; exact hr64; exact hx.round
  obtain ⟨g1, g2⟩ := round_right hx h1 hR1 hR2
  exact ⟨h1, h4, g1, g2, rfl⟩

theorem thaw_stay {x : Ac} (hx : x.wf) (h : (aThaw x).2 = 0) : rightB x = true ∧ aThaw x = ({ x with round := 0 }, 0) ∧ StayP x { x with round := 0 } := by
  unfold aThaw at h ⊢
  split at h
  · simp at h
  rename_i h1
  have h1 : rightB x = true := by simpa using h1
  obtain ⟨g1, g2⟩ := round_right hx h1 (Int.le_refl 0) (by decide)
  exact ⟨h1, by simp [h1], g1, g2, rfl⟩

def cutA (x : Ac) (nd net : Int) : Ac := { x with base := x.base + net, hs := x.hs.filter fun h => decide (h.nd ≠ nd) }

theorem report_stay {x : Ac} {nd le ro net : Int} (hx : x.wf) (h : (aReport x nd le ro net).2 = 0) : rightB x = true ∧ aReport x nd le ro net = (cutA x nd net, 0) ∧ StayP x (cutA x nd net) := by
  obtain ⟨h1, h2, h3, h4, h5, h6, h7, h8⟩ := aReport_ok h
  obtain ⟨-, hm, hn⟩ := find_mem h2
  obtain ⟨g1, g2⟩ := cut_right hx h1 hm h6 h7
  rw [hn] at g1 g2
  exact ⟨h1, h8, g1, g2, rfl⟩

theorem grant_stay {x : Ac} {nd le ns : Int} (hx : x.wf) (hle : In64 le) (h : (aGrant x nd le ns).2 = 0) : rightB x = true ∧ aGrant x nd le ns = (grantA x nd le ns, 0) ∧ StayP x (grantA x nd le ns) := by
  obtain ⟨h1, h2, h3, h4, h5, h6, h7, h8, h9⟩ := aGrant_ok h
  have P := grant_p hx h1 h2 h3 h4 h5 h6 hle h7 h8
  exact ⟨h1, h9, P.right, P.wf, rfl⟩

theorem call_stay {x : Ac} {o : OpA} {ns : Int} (hx : x.wf) (ho : o.wf) (h : (aCall x o ns).2 = 0) : rightB x = true ∧ StayP x (aCall x o ns).1 := by
  obtain ⟨-, -, h3, h4, h5, h6, h7, h8⟩ := ho
  unfold aCall at h ⊢
  split
  · rename_i h1; rw [if_pos h1] at h; obtain ⟨a, b, c⟩ := grant_stay hx h3 h; rw [b]; exact ⟨a, c⟩
  rename_i h1; rw [if_neg h1] at h
  split
  · rename_i h1; rw [if_pos h1] at h; obtain ⟨a, b, c⟩ := freeze_stay hx h4 h; rw [b]; exact ⟨a, c⟩
  rename_i h1; rw [if_neg h1] at h
  split
  · rename_i h1; rw [if_pos h1] at h; obtain ⟨a, b, c⟩ := thaw_stay hx h; rw [b]; exact ⟨a, c⟩
  rename_i h1; rw [if_neg h1] at h
  split
  · rename_i h1; rw [if_pos h1] at h; obtain ⟨a, b, c⟩ := report_stay hx h; rw [b]; exact ⟨a, c⟩
  rename_i h1; rw [if_neg h1] at h
  split
  · rename_i h1; rw [if_pos h1] at h; obtain ⟨a, b, c⟩ := bounds_stay hx h6 h7 h; rw [b]; exact ⟨a, c⟩
  rename_i h1; rw [if_neg h1] at h
  split
  · rename_i h1; rw [if_pos h1] at h; obtain ⟨a, b, c⟩ := take_stay hx h8 h; rw [b]; exact ⟨a, c⟩
  rename_i h1; rw [if_neg h1] at h
  split
  · rename_i h1; rw [if_pos h1] at h; obtain ⟨a, b, c, -⟩ := free_stay hx h; rw [b]; exact ⟨a, c⟩
  rename_i h1; rw [if_neg h1] at h
  obtain ⟨a, b, c⟩ := add_stay hx h; rw [b]; exact ⟨a, c⟩

theorem thaw_err {x : Ac} (h : (aThaw x).2 ≠ 0) : (aThaw x).1 = ac0 := by
  unfold aThaw at h ⊢
  split <;> simp_all

theorem report_err {x : Ac} {nd le ro net : Int} (h : (aReport x nd le ro net).2 ≠ 0) : (aReport x nd le ro net).1 = ac0 := by
  unfold aReport at h ⊢
  split; rfl
  split; rfl
  split; rfl
  split; rfl
  rename_i h1 h2 h3 h4
  simp only [h1, h2, h3, h4, if_false] at h
  exact absurd rfl h

theorem bounds_err {x : Ac} {lo hi : Int} (h : (aBounds x lo hi).2 ≠ 0) : (aBounds x lo hi).1 = ac0 := by
  unfold aBounds at h ⊢
  split; rfl
  split; rfl
  rename_i h1 h2
  simp only [h1, h2, if_false] at h
  exact absurd rfl h

theorem free_err {x : Ac} {b : Bool} (h : (aFree x b).2 ≠ 0) : (aFree x b).1 = ac0 := by
  unfold aFree at h ⊢
  split; rfl
  split; rfl
  rename_i h1 h2
  simp only [h1, h2, if_false] at h
  exact absurd rfl h

theorem call_err {x : Ac} {o : OpA} {ns : Int} (h : (aCall x o ns).2 ≠ 0) : (aCall x o ns).1 = ac0 := by
  unfold aCall at h ⊢
  split
  · rename_i h1; rw [if_pos h1] at h; rw [aGrant_err h]
  rename_i h1; rw [if_neg h1] at h
  split
  · rename_i h1; rw [if_pos h1] at h; rw [aFreeze_err h]
  rename_i h1; rw [if_neg h1] at h
  split
  · rename_i h1; rw [if_pos h1] at h; exact thaw_err h
  rename_i h1; rw [if_neg h1] at h
  split
  · rename_i h1; rw [if_pos h1] at h; exact report_err h
  rename_i h1; rw [if_neg h1] at h
  split
  · rename_i h1; rw [if_pos h1] at h; exact bounds_err h
  rename_i h1; rw [if_neg h1] at h
  split
  · rename_i h1; rw [if_pos h1] at h; rw [aTake_err h]
  rename_i h1; rw [if_neg h1] at h
  split
  · rename_i h1; rw [if_pos h1] at h; exact free_err h
  rename_i h1; rw [if_neg h1] at h
  rw [aAdd_err h]

theorem call_wf {x : Ac} {o : OpA} {ns : Int} (hx : x.wf) (ho : o.wf) : (aCall x o ns).1.wf := by
  by_cases h : (aCall x o ns).2 = 0
  · exact (call_stay hx ho h).2.wf
  · rw [call_err h]; exact wf_key _ (by decide)

end Go.Proofs.Ytlifpjllhibdpaa
set_option linter.unusedVariables false
set_option linter.unusedSimpArgs false
namespace Go.Proofs.Ytlifpjllhibdpaa
open Go.Vc Go.RowKit
set_option maxRecDepth 100000

def mk71 : Hd := ⟨71, 0, 0, 0⟩

structure PlX where
  k : Nat
  b : Nat
  ax : Option Addr
  cx : Nat
  ay : Option Addr
  cy : Nat
  m : M
  cur : List Hd

structure PlI (X : Ac) (len : Nat) (m : M) (y : PlX) : Prop where
  k : y.k ≤ len
  own : OwnB m.sz (fun _ => False) y.m 4 (some ⟨y.b, 0, none⟩) len (len + 2) (hds y.cur)
  cl : y.cur.length = len
  rx : Row y.m y.ax (hds X.hs)
  ry : Row y.m y.ay (hds X.hs)
  nx : X.hs ≠ [] → ∀ b' o, y.ax = some ⟨b', o, none⟩ → b' ≠ y.b
  ny : X.hs ≠ [] → ∀ b' o, y.ay = some ⟨b', o, none⟩ → b' ≠ y.b

theorem row_set {m : M} {a : Option Addr} {l : List Hd} {b o : Nat} {ds : List Value} (h : Row m a (hds l)) (hne : l ≠ [] → ∀ b' o, a = some ⟨b', o, none⟩ → b' ≠ b) : Row (m.setCells b o ds) a (hds l) := by
  by_cases he : l = []
  · subst he; exact .nil _
  · exact h.of (Nat.le_refl _) fun b' o' e _ => setCells_other (hne he b' o' e)

def plAnn (x X : Ac) (m : M) : Ann := {
    A := PlX
    inv := PlI X x.hs.length m
    st := fun y => [(12, .val (I y.k)), (7, .own 4 0), (8, .own 19 0), (10, .own 29 0)]
    own := fun y => [(4, ⟨28, acc x (some ⟨y.b, 0, none⟩) (x.hs.length + 2)⟩), (19, ⟨28, acc X y.ax y.cx⟩), (29, ⟨28, acc X y.ay y.cy⟩)]
    m := fun y => y.m
    μ := fun y => x.hs.length - y.k }

theorem accountplays (x : Ac) (a : Option Addr) (c : Nat) (o : OpA) (ns : Int) (hx : x.wf) (ho : o.wf) (hlen : x.hs.length ≤ 4398046511000) (m : M) (h : Row m a (hds x.hs)) :
    QSpec Try.prog 8 [acv x a c, opv o, I ns] m (.bool true) := by
  refine QSpec.of_vc Try.func8 (ann := fun n _ => plAnn x (aCall x o ns).1 { m with sz := n }) fun N hN => ?_
  refine vc_by (X :=
      true = true ∧
      ∃ (S' : Nat → Prop),
      (∀ (b : Nat), S' b → m.uf b ∧ (N ≤ b ∨ False)) ∧
      ∀ (n : Nat),
      N ≤ n →
      SpecW Try.prog (11 : Nat)
      [Value.slice a x.hs.length c,
      Value.agg #[Value.int IntKind.i64 (71 : Int), Value.int IntKind.i64 (0 : Int), Value.int IntKind.i64 (0 : Int), Value.int IntKind.i64 (0 : Int)]]
      { π := m.π, sz := n, uf := m.uf : M } S' fun (v : Value) (m' : M) =>
      ∃ (a_2 : Option Addr),
      ∃ (n : Nat),
      ∃ (c_1 : Nat),
      v = Value.slice a_2 n c_1 ∧
      ∀ (n_1 : Nat),
      m'.sz ≤ n_1 →
      Vc.Spec Try.prog (37 : Nat)
      [Value.agg
      #[Value.string x.key, Value.int IntKind.i64 x.lo, Value.int IntKind.i64 x.hi, Value.int IntKind.i64 x.base, Value.int IntKind.i64 x.round,
      Value.slice a_2 n c_1, Value.int IntKind.i64 x.lk.cl, Value.int IntKind.i64 x.lk.sq, Value.int IntKind.i64 x.lk.hm, Value.int IntKind.i64 x.lk.n],
      Value.agg
      #[Value.int IntKind.i64 o.kind, Value.int IntKind.i64 o.nd, Value.int IntKind.i64 o.le, Value.int IntKind.i64 o.ro, Value.int IntKind.i64 o.n,
      Value.int IntKind.i64 o.lo, Value.int IntKind.i64 o.hi, Value.int IntKind.i64 o.lk.cl, Value.int IntKind.i64 o.lk.sq, Value.int IntKind.i64 o.lk.hm,
      Value.int IntKind.i64 o.lk.n, Value.bool o.cm],
      Value.int IntKind.i64 ns]
      { π := m'.π, sz := n_1, uf := m'.uf : M } fun (v : Value) (m' : M) =>
      ∃ (s : ByteArray),
      ∃ (n_2 : Int),
      ∃ (n_3 : Int),
      ∃ (n_4 : Int),
      ∃ (n_5 : Int),
      ∃ (a_4 : Option Addr),
      ∃ (n_6 : Nat),
      ∃ (c_2 : Nat),
      ∃ (n_7 : Int),
      ∃ (n_8 : Int),
      ∃ (n_9 : Int),
      ∃ (n_10 : Int),
      ∃ (n_11 : Int),
      v =
      Value.tuple
      #[Value.agg
      #[Value.string s, Value.int IntKind.i64 n_2, Value.int IntKind.i64 n_3, Value.int IntKind.i64 n_4,
      Value.int IntKind.i64 n_5, Value.slice a_4 n_6 c_2, Value.int IntKind.i64 n_7, Value.int IntKind.i64 n_8,
      Value.int IntKind.i64 n_9, Value.int IntKind.i64 n_10],
      Value.int IntKind.i64 n_11] ∧
      ∀ (n_12 : Nat),
      m'.sz ≤ n_12 →
      Vc.Spec Try.prog (38 : Nat)
      [Value.agg
      #[Value.string x.key, Value.int IntKind.i64 x.lo, Value.int IntKind.i64 x.hi, Value.int IntKind.i64 x.base,
      Value.int IntKind.i64 x.round, Value.slice a x.hs.length c, Value.int IntKind.i64 x.lk.cl,
      Value.int IntKind.i64 x.lk.sq, Value.int IntKind.i64 x.lk.hm, Value.int IntKind.i64 x.lk.n],
      Value.agg
      #[Value.int IntKind.i64 o.kind, Value.int IntKind.i64 o.nd, Value.int IntKind.i64 o.le, Value.int IntKind.i64 o.ro,
      Value.int IntKind.i64 o.n, Value.int IntKind.i64 o.lo, Value.int IntKind.i64 o.hi, Value.int IntKind.i64 o.lk.cl,
      Value.int IntKind.i64 o.lk.sq, Value.int IntKind.i64 o.lk.hm, Value.int IntKind.i64 o.lk.n, Value.bool o.cm],
      Value.int IntKind.i64 ns]
      { π := m'.π, sz := n_12, uf := m'.uf : M } fun (v : Value) (m' : M) =>
      ∃ (s_1 : ByteArray),
      ∃ (n_13 : Int),
      ∃ (n_14 : Int),
      ∃ (n_15 : Int),
      ∃ (n_16 : Int),
      ∃ (a_6 : Option Addr),
      ∃ (n_17 : Nat),
      ∃ (c_3 : Nat),
      ∃ (n_18 : Int),
      ∃ (n_19 : Int),
      ∃ (n_20 : Int),
      ∃ (n_21 : Int),
      ∃ (n_22 : Int),
      v =
      Value.tuple
      #[Value.agg
      #[Value.string s_1, Value.int IntKind.i64 n_13, Value.int IntKind.i64 n_14,
      Value.int IntKind.i64 n_15, Value.int IntKind.i64 n_16, Value.slice a_6 n_17 c_3,
      Value.int IntKind.i64 n_18, Value.int IntKind.i64 n_19,
      Value.int IntKind.i64 n_20, Value.int IntKind.i64 n_21],
      Value.int IntKind.i64 n_22] ∧
      ∃ (b : Bool),
      QSpec Try.prog (21 : Nat) [] m' (Value.bool b) ∧
      ifB (!b) (Done (Value.bool false = Value.bool true))
      (∃ (b : Bool),
      QSpec Try.prog (23 : Nat)
      [Value.agg
      #[Value.string s, Value.int IntKind.i64 n_2, Value.int IntKind.i64 n_3,
      Value.int IntKind.i64 n_4, Value.int IntKind.i64 n_5,
      Value.slice a_4 n_6 c_2, Value.int IntKind.i64 n_7,
      Value.int IntKind.i64 n_8, Value.int IntKind.i64 n_9,
      Value.int IntKind.i64 n_10],
      Value.agg
      #[Value.string s_1, Value.int IntKind.i64 n_13, Value.int IntKind.i64 n_14,
      Value.int IntKind.i64 n_15, Value.int IntKind.i64 n_16,
      Value.slice a_6 n_17 c_3, Value.int IntKind.i64 n_18,
      Value.int IntKind.i64 n_19, Value.int IntKind.i64 n_20,
      Value.int IntKind.i64 n_21]]
      m' (Value.bool b) ∧
      ifB (!b) (Done (Value.bool false = Value.bool true))
      (ifB (n_11 != n_22) (Done (Value.bool false = Value.bool true))
      (∃ (b : Bool),
      QSpec Try.prog (26 : Nat)
      [Value.slice a_2 n c_1, Value.slice a x.hs.length c,
      Value.agg
      #[Value.int IntKind.i64 (71 : Int), Value.int IntKind.i64 (0 : Int),
      Value.int IntKind.i64 (0 : Int), Value.int IntKind.i64 (0 : Int)]]
      m' (Value.bool b) ∧
      ifB (!b) (Done (Value.bool false = Value.bool true))
      ((∃ (a : PlX),
      PlI (aCall x o ns).fst x.hs.length
      { π := m.π, sz := N, uf := m.uf : M } a ∧
      m' = a.m ∧
      ((SV.val (Value.int IntKind.i64 (0 : Int)) =
      SV.val (Value.int IntKind.i64 (↑a.k : Int)) ∧
      true = true) ∧
      (SV.own ((0 : Nat) + (3 : Nat) + (1 : Nat)) (0 : Nat) =
      SV.own (4 : Nat) (0 : Nat) ∧
      true = true) ∧
      (SV.own
      ((0 : Nat) + (3 : Nat) + (3 : Nat) + (6 : Nat) +
      (7 : Nat))
      (0 : Nat) =
      SV.own (19 : Nat) (0 : Nat) ∧
      true = true) ∧
      (SV.own
      ((0 : Nat) + (3 : Nat) + (3 : Nat) + (6 : Nat) +
      (10 : Nat) +
      (7 : Nat))
      (0 : Nat) =
      SV.own (29 : Nat) (0 : Nat) ∧
      true = true) ∧
      True) ∧
      (some
      { ty := (28 : Nat), cs := [Value.string x.key, Value.int IntKind.i64 x.lo, Value.int IntKind.i64 x.hi, Value.int IntKind.i64 x.base, Value.int IntKind.i64 x.round, Value.slice a_2 n c_1, Value.int IntKind.i64 x.lk.cl, Value.int IntKind.i64 x.lk.sq, Value.int IntKind.i64 x.lk.hm, Value.int IntKind.i64 x.lk.n] : Bx } =
      some
      { ty := (28 : TypeId), cs := [Value.string x.key, Value.int IntKind.i64 x.lo, Value.int IntKind.i64 x.hi, Value.int IntKind.i64 x.base, Value.int IntKind.i64 x.round, Value.slice (some { block := a.b, off := (0 : Nat) : Addr }) x.hs.length (x.hs.length + (2 : Nat)), Value.int IntKind.i64 x.lk.cl, Value.int IntKind.i64 x.lk.sq, Value.int IntKind.i64 x.lk.hm, Value.int IntKind.i64 x.lk.n] : Bx } ∧
      true = true) ∧
      (some
      { ty := (28 : Nat), cs := [Value.string s, Value.int IntKind.i64 n_2, Value.int IntKind.i64 n_3, Value.int IntKind.i64 n_4, Value.int IntKind.i64 n_5, Value.slice a_4 n_6 c_2, Value.int IntKind.i64 n_7, Value.int IntKind.i64 n_8, Value.int IntKind.i64 n_9, Value.int IntKind.i64 n_10] : Bx } =
      some
      { ty := (28 : TypeId), cs := [Value.string (aCall x o ns).fst.key, Value.int IntKind.i64 (aCall x o ns).fst.lo, Value.int IntKind.i64 (aCall x o ns).fst.hi, Value.int IntKind.i64 (aCall x o ns).fst.base, Value.int IntKind.i64 (aCall x o ns).fst.round, Value.slice a.ax (aCall x o ns).fst.hs.length a.cx, Value.int IntKind.i64 (aCall x o ns).fst.lk.cl, Value.int IntKind.i64 (aCall x o ns).fst.lk.sq, Value.int IntKind.i64 (aCall x o ns).fst.lk.hm, Value.int IntKind.i64 (aCall x o ns).fst.lk.n] : Bx } ∧
      true = true) ∧
      (some
      { ty := (28 : Nat), cs := [Value.string s_1, Value.int IntKind.i64 n_13, Value.int IntKind.i64 n_14, Value.int IntKind.i64 n_15, Value.int IntKind.i64 n_16, Value.slice a_6 n_17 c_3, Value.int IntKind.i64 n_18, Value.int IntKind.i64 n_19, Value.int IntKind.i64 n_20, Value.int IntKind.i64 n_21] : Bx } =
      some
      { ty := (28 : TypeId), cs := [Value.string (aCall x o ns).fst.key, Value.int IntKind.i64 (aCall x o ns).fst.lo, Value.int IntKind.i64 (aCall x o ns).fst.hi, Value.int IntKind.i64 (aCall x o ns).fst.base, Value.int IntKind.i64 (aCall x o ns).fst.round, Value.slice a.ay (aCall x o ns).fst.hs.length a.cy, Value.int IntKind.i64 (aCall x o ns).fst.lk.cl, Value.int IntKind.i64 (aCall x o ns).fst.lk.sq, Value.int IntKind.i64 (aCall x o ns).fst.lk.hm, Value.int IntKind.i64 (aCall x o ns).fst.lk.n] : Bx } ∧
      true = true) ∧
      True) ∧
      ∀ (a : PlX),
      PlI (aCall x o ns).fst x.hs.length
      { π := m.π, sz := N, uf := m.uf : M } a →
      ifB (decide ((↑a.k : Int) < (↑x.hs.length : Int)))
      (∃ (b : Nat),
      ∃ (off : Nat),
      some { block := a.b, off := (0 : Nat) : Addr } =
      some { block := b, off := off : Addr } ∧
      ((0 : Int) ≤ (↑a.k : Int) ∧
      (↑a.k : Int) < (↑x.hs.length : Int)) ∧
      Wr N (fun (x : Nat) => False) a.m b
      (off + (↑a.k : Int).toNat * (4 : Nat) + (2 : Nat))
      (1 : Nat) ∧
      ∃ (a' : PlX),
      (PlI (aCall x o ns).fst x.hs.length
      { π := m.π, sz := N, uf := m.uf : M } a' ∧
      a.m.setCells b
      (off + (↑a.k : Int).toNat * (4 : Nat) +
      (2 : Nat))
      [Value.int IntKind.i64 (72 : Int)] =
      a'.m ∧
      ((SV.val
      (Value.int IntKind.i64
      (IntKind.i64.wrap
      ((↑a.k : Int) + (1 : Int)))) =
      SV.val
      (Value.int IntKind.i64
      (↑a'.k : Int)) ∧
      true = true) ∧
      (SV.own (4 : Nat) (0 : Nat) =
      SV.own (4 : Nat) (0 : Nat) ∧
      true = true) ∧
      (SV.own (19 : Nat) (0 : Nat) =
      SV.own (19 : Nat) (0 : Nat) ∧
      true = true) ∧
      (SV.own (29 : Nat) (0 : Nat) =
      SV.own (29 : Nat) (0 : Nat) ∧
      true = true) ∧
      True) ∧
      (some
      { ty := (28 : TypeId), cs := [Value.string x.key, Value.int IntKind.i64 x.lo, Value.int IntKind.i64 x.hi, Value.int IntKind.i64 x.base, Value.int IntKind.i64 x.round, Value.slice (some { block := a.b, off := (0 : Nat) : Addr }) x.hs.length (x.hs.length + (2 : Nat)), Value.int IntKind.i64 x.lk.cl, Value.int IntKind.i64 x.lk.sq, Value.int IntKind.i64 x.lk.hm, Value.int IntKind.i64 x.lk.n] : Bx } =
      some
      { ty := (28 : TypeId), cs := [Value.string x.key, Value.int IntKind.i64 x.lo, Value.int IntKind.i64 x.hi, Value.int IntKind.i64 x.base, Value.int IntKind.i64 x.round, Value.slice (some { block := a'.b, off := (0 : Nat) : Addr }) x.hs.length (x.hs.length + (2 : Nat)), Value.int IntKind.i64 x.lk.cl, Value.int IntKind.i64 x.lk.sq, Value.int IntKind.i64 x.lk.hm, Value.int IntKind.i64 x.lk.n] : Bx } ∧
      true = true) ∧
      (some
      { ty := (28 : TypeId), cs := [Value.string (aCall x o ns).fst.key, Value.int IntKind.i64 (aCall x o ns).fst.lo, Value.int IntKind.i64 (aCall x o ns).fst.hi, Value.int IntKind.i64 (aCall x o ns).fst.base, Value.int IntKind.i64 (aCall x o ns).fst.round, Value.slice a.ax (aCall x o ns).fst.hs.length a.cx, Value.int IntKind.i64 (aCall x o ns).fst.lk.cl, Value.int IntKind.i64 (aCall x o ns).fst.lk.sq, Value.int IntKind.i64 (aCall x o ns).fst.lk.hm, Value.int IntKind.i64 (aCall x o ns).fst.lk.n] : Bx } =
      some
      { ty := (28 : TypeId), cs := [Value.string (aCall x o ns).fst.key, Value.int IntKind.i64 (aCall x o ns).fst.lo, Value.int IntKind.i64 (aCall x o ns).fst.hi, Value.int IntKind.i64 (aCall x o ns).fst.base, Value.int IntKind.i64 (aCall x o ns).fst.round, Value.slice a'.ax (aCall x o ns).fst.hs.length a'.cx, Value.int IntKind.i64 (aCall x o ns).fst.lk.cl, Value.int IntKind.i64 (aCall x o ns).fst.lk.sq, Value.int IntKind.i64 (aCall x o ns).fst.lk.hm, Value.int IntKind.i64 (aCall x o ns).fst.lk.n] : Bx } ∧
      true = true) ∧
      (some
      { ty := (28 : TypeId), cs := [Value.string (aCall x o ns).fst.key, Value.int IntKind.i64 (aCall x o ns).fst.lo, Value.int IntKind.i64 (aCall x o ns).fst.hi, Value.int IntKind.i64 (aCall x o ns).fst.base, Value.int IntKind.i64 (aCall x o ns).fst.round, Value.slice a.ay (aCall x o ns).fst.hs.length a.cy, Value.int IntKind.i64 (aCall x o ns).fst.lk.cl, Value.int IntKind.i64 (aCall x o ns).fst.lk.sq, Value.int IntKind.i64 (aCall x o ns).fst.lk.hm, Value.int IntKind.i64 (aCall x o ns).fst.lk.n] : Bx } =
      some
      { ty := (28 : TypeId), cs := [Value.string (aCall x o ns).fst.key, Value.int IntKind.i64 (aCall x o ns).fst.lo, Value.int IntKind.i64 (aCall x o ns).fst.hi, Value.int IntKind.i64 (aCall x o ns).fst.base, Value.int IntKind.i64 (aCall x o ns).fst.round, Value.slice a'.ay (aCall x o ns).fst.hs.length a'.cy, Value.int IntKind.i64 (aCall x o ns).fst.lk.cl, Value.int IntKind.i64 (aCall x o ns).fst.lk.sq, Value.int IntKind.i64 (aCall x o ns).fst.lk.hm, Value.int IntKind.i64 (aCall x o ns).fst.lk.n] : Bx } ∧
      true = true) ∧
      True) ∧
      x.hs.length - a'.k < x.hs.length - a.k)
      (∃ (b : Bool),
      QSpec Try.prog (23 : Nat)
      [Value.agg
      #[Value.string (aCall x o ns).fst.key,
      Value.int IntKind.i64 (aCall x o ns).fst.lo,
      Value.int IntKind.i64 (aCall x o ns).fst.hi,
      Value.int IntKind.i64 (aCall x o ns).fst.base,
      Value.int IntKind.i64 (aCall x o ns).fst.round,
      Value.slice a.ax (aCall x o ns).fst.hs.length a.cx,
      Value.int IntKind.i64 (aCall x o ns).fst.lk.cl,
      Value.int IntKind.i64 (aCall x o ns).fst.lk.sq,
      Value.int IntKind.i64 (aCall x o ns).fst.lk.hm,
      Value.int IntKind.i64 (aCall x o ns).fst.lk.n],
      Value.agg
      #[Value.string (aCall x o ns).fst.key,
      Value.int IntKind.i64 (aCall x o ns).fst.lo,
      Value.int IntKind.i64 (aCall x o ns).fst.hi,
      Value.int IntKind.i64 (aCall x o ns).fst.base,
      Value.int IntKind.i64 (aCall x o ns).fst.round,
      Value.slice a.ay (aCall x o ns).fst.hs.length a.cy,
      Value.int IntKind.i64 (aCall x o ns).fst.lk.cl,
      Value.int IntKind.i64 (aCall x o ns).fst.lk.sq,
      Value.int IntKind.i64 (aCall x o ns).fst.lk.hm,
      Value.int IntKind.i64 (aCall x o ns).fst.lk.n]]
      a.m (Value.bool b) ∧
      Done (Value.bool b = Value.bool true))))))) (by kernel_rfl) ?_
  have hX := call_wf (ns := ns) hx ho
  refine ⟨rfl, _, noS, fun N1 hN1 => (hown_q a c x.hs mk71 hlen _ (h.sz (Nat.le_trans hN hN1))).monoW fun v m1 hag ⟨b, hv, hb1, hb2, huf, hc⟩ => ⟨_, _, _, hv, fun N2 hN2 => ?_⟩⟩
  have hm1 := hag.2.2
  simp only at hm1 hb1
  have rb1 : Row m1 (some ⟨b, 0, none⟩) (hds x.hs) := .at _ _ _ hb2 hc.take
  have ra1 : Row m1 a (hds x.hs) := (h.sz (Nat.le_trans hN hN1)).agree hag
  have ow1 : OwnB N (fun _ => False) m1 4 (some ⟨b, 0, none⟩) x.hs.length (x.hs.length + 2) (hds x.hs) := .at b 0 _ _ _ _ (.inl (by omega)) hb2 huf hc (hds_len _) (by simp [Nat.add_sub_cancel_left]) (by omega)
  refine (call_s x (some ⟨b, 0, none⟩) (x.hs.length + 2) o ns hx ho (fun e => by cases e) _ (rb1.sz hN2)).mono fun v2 m2 hag2 ⟨ax, cx, hv2, hr2⟩ => ⟨_, _, _, _, _, _, _, _, _, _, _, _, _, hv2, fun N3 hN3 => ?_⟩
  have hm2 := hag2.2.2
  simp only at hm2
  refine (told_s x a c o ns hx ho _ (((ra1.sz hN2).agree hag2).sz hN3)).mono fun v3 m3 hag3 ⟨ay, cy, hv3, hr3⟩ => ⟨_, _, _, _, _, _, _, _, _, _, _, _, _, hv3, _, awake_q _, ifB_false ?_⟩
  have hm3 := hag3.2.2
  simp only at hm3
  have rx3 := ((hr2.row.sz hN3).agree hag3)
  have ow3 := ((((ow1.sz hN2).agree hag2).sz hN3).agree hag3)
  have ra3 := (((((ra1.sz hN2).agree hag2).sz hN3).agree hag3))
  have hc3 : CellsAt m3 b 0 (hds x.hs ++ (encH mk71 ++ encH mk71)) := by
    refine hc.of ?_
    rw [hag3.1 b (by simp only; omega)]
    exact hag2.1 b (by simp only; omega)
  refine ⟨_, saccount_q _ _ ax ay cx cy hX hX _ rx3 hr3.row, ?_⟩
  rw [show (!decide ((aCall x o ns).1 = (aCall x o ns).1)) = false by simp, show ((aCall x o ns).2 != (aCall x o ns).2) = false by simp]
  have neq : ∀ (ax : Option Addr) (cx M0 : Nat) (m : M), b < M0 → NewR M0 (fun _ => False) m 4 ax (aCall x o ns).1.hs.length cx (hds (aCall x o ns).1.hs) → (aCall x o ns).1.hs ≠ [] → ∀ b' o', ax = some ⟨b', o', none⟩ → b' ≠ b := fun ax cx M0 m hb hr hne b' o' e => by
    rcases (hr.toOwn (fun e => hne (List.eq_nil_of_length_eq_zero e))).lo e with h | h
    · omega
    · exact h.elim
  refine ifB_false (ifB_false ⟨_, hkept_q b x.hs a c mk71 hlen m3 (by omega) hc3 ra3, ifB_false ⟨⟨⟨0, b, ax, cx, ay, cy, m3, x.hs⟩, ⟨Nat.zero_le _, ow3, rfl, rx3, hr3.row, neq _ _ _ _ (by simp only; omega) hr2, neq _ _ _ _ (by simp only; omega) hr3⟩, rfl, ⟨⟨rfl, rfl⟩, ⟨rfl, rfl⟩, ⟨rfl, rfl⟩, ⟨rfl, rfl⟩, trivial⟩, ⟨⟨rfl, rfl⟩, ⟨rfl, rfl⟩, ⟨rfl, rfl⟩, trivial⟩⟩, fun y hy => ifB_intro (fun hb => ?_) (fun hb => ?_)⟩⟩)
  · have hk2 : y.k < x.hs.length := by simpa using hb
    have hcl := hy.cl
    have hk3 : y.k < y.cur.length := by omega
    have w1 : IntKind.i64.wrap ((y.k : Int) + 1) = ((y.k + 1 : Nat) : Int) := by simp [IntKind.wrap_i64]; omega
    have es : y.cur = y.cur.take y.k ++ y.cur[y.k] :: y.cur.drop (y.k + 1) := by
      rw [← List.drop_eq_getElem_cons hk3, List.take_append_drop]
    have how := hy.own
    rw [es] at how
    obtain ⟨g1, g2⟩ := own_up how 72
    rw [List.length_take, Nat.min_eq_left (by omega)] at g1 g2
    refine ⟨y.b, 0, rfl, by omega, by simpa using g1, ⟨y.k + 1, y.b, y.ax, y.cx, y.ay, y.cy, y.m.setCells y.b (0 + y.k * 4 + 2) [I 72], _⟩, ⟨⟨hk2, g2, ?_, row_set hy.rx hy.nx, row_set hy.ry hy.ny, hy.nx, hy.ny⟩, by simp, ⟨⟨by rw [w1], rfl⟩, ⟨rfl, rfl⟩, ⟨rfl, rfl⟩, ⟨rfl, rfl⟩, trivial⟩, ⟨⟨rfl, rfl⟩, ⟨rfl, rfl⟩, ⟨rfl, rfl⟩, trivial⟩⟩, by simp only; omega⟩
    simp; omega
  · exact ⟨_, saccount_q _ _ y.ax y.ay y.cx y.cy hX hX _ hy.rx hy.ry, ⟨by simp⟩⟩

end Go.Proofs.Ytlifpjllhibdpaa
