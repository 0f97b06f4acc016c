/-
  Contracts of functions of this seat: what each hands back, and what it leaves of memory (acc15). Nothing here is trusted: Lean checks it.
-/
import Derived.Test.YtfkielfnceeedaaAcc13
import Derived.Test.YtfkielfnceeedaaInshd
import Derived.Test.YtfkielfnceeedaaBshd
set_option linter.unusedVariables false
set_option linter.unusedSimpArgs false
namespace Go.Proofs.Ytfkielfnceeedaa
open Go.Vc Go.RowKit
set_option maxRecDepth 100000

def moreI (v s : Int) : Int := v + min s (9223372036854775807 - v)

theorem more_q (v n : Int) (hv : 0 ≤ v ∧ v ≤ 9223372036854775807) (hn : 0 ≤ n ∧ n ≤ 9223372036854775807) (m : M) : QSpec Try.prog 105 [I v, I n] m (I (moreI v n)) := by
  refine QSpec.of_vc Try.func105 (ann := fun _ => noAnn) fun N hN => ?_
  refine vc_by (X :=
      true = true ∧
      Done
      (Value.int IntKind.i64 (IntKind.i64.wrap (v + if IntKind.i64.wrap ((9223372036854775807 : Int) - v) < n then IntKind.i64.wrap ((9223372036854775807 : Int) - v) else n)) =
      Value.int IntKind.i64 (moreI v n))) (by kernel_rfl) ?_
  refine ⟨rfl, ⟨?_⟩⟩
  simp [moreI, IntKind.wrap_i64]
  omega

theorem cmp_q (h : Hd) (nd : Int) (m : M) : QSpec Try.prog 103 [.agg (encH h).toArray, I nd] m (I (IntKind.i64.wrap (h.nd - nd))) := by
  refine QSpec.of_vc Try.func103 (ann := fun _ => noAnn) fun N hN => ?_
  refine vc_by (X :=
      true = true ∧ Done (Value.int IntKind.i64 (IntKind.i64.wrap (h.nd - nd)) = Value.int IntKind.i64 (IntKind.i64.wrap (h.nd - nd)))) (by kernel_rfl) ?_
  exact ⟨rfl, ⟨rfl⟩⟩

def putH (l : List Hd) (h : Hd) : List Hd := (l.filter fun z => decide (z.nd < h.nd)) ++ h :: l.filter fun z => decide (h.nd < z.nd)

def grantH (x : Ac) (nd le ns : Int) : Hd :=
  let h := if findB x nd then findH x nd else ⟨nd, le, 0, 0⟩
  { h with up := moreI h.up (shareV (roomUp x) (ns + 1) ns), dn := moreI h.dn (shareV (roomDn x) (ns + 1) ns) }

def aGrant (x : Ac) (nd le ns : Int) : Ac × Int :=
  if rightB x = false then (ac0, 21) else if ns < 1 ∨ 5 < ns ∨ nd < 1 ∨ ns < nd ∨ le < 1 ∨ 4611686018427387904 < le then (ac0, 1) else if x.round ≠ 0 ∨ x.lk.cl ≠ 0 then (ac0, 152) else
  ({ x with hs := putH x.hs (grantH x nd le ns) }, 0)

theorem share_in (n p i : Int) (hn : InU n) : 0 ≤ shareV n p i ∧ shareV n p i ≤ n := by
  unfold InU at hn
  unfold shareV
  split
  · omega
  · rename_i h
    have hd := div_facts n p hn.1 (by omega)
    split <;> omega

theorem more_fit (v s : Int) (hv : 0 ≤ v) : moreI v (fitV s) = moreI v s := by unfold moreI fitV; omega

theorem hold_split (nd : Int) : ∀ {l : List Hd} {last : Int}, holdB last l = true → l = (l.filter fun z => decide (z.nd < nd)) ++ ((fndH l nd).toList ++ l.filter fun z => decide (nd < z.nd))
  | [], _, _ => rfl
  | h :: r, last, hb => by
    have hb' := hb
    simp only [holdB, Bool.and_eq_true] at hb'
    have hm := hold_mem _ _ hb'.2
    rcases Int.lt_trichotomy h.nd nd with hlt | heq | hgt
    · have hne : (h.nd == nd) = false := by simp; omega
      rw [List.filter_cons_of_pos (by simpa using hlt), List.filter_cons_of_neg (by simp; omega)]
      have : fndH (h :: r) nd = fndH r nd := by simp [fndH, List.find?_cons, hne]
      rw [this, List.cons_append, ← hold_split nd hb'.2]
    · subst heq
      have e1 : (r.filter fun z => decide (z.nd < h.nd)) = [] := List.filter_eq_nil_iff.2 fun z hz => by have := hm z hz; simp; omega
      have e2 : (r.filter fun z => decide (h.nd < z.nd)) = r := List.filter_eq_self.2 fun z hz => by have := hm z hz; simp; omega
      rw [List.filter_cons_of_neg (by simp), List.filter_cons_of_neg (by simp), e1, e2]
      simp [fndH]
    · have hne : (h.nd == nd) = false := by simp; omega
      have e1 : (r.filter fun z => decide (z.nd < nd)) = [] := List.filter_eq_nil_iff.2 fun z hz => by have := hm z hz; simp; omega
      have e2 : (r.filter fun z => decide (nd < z.nd)) = r := List.filter_eq_self.2 fun z hz => by have := hm z hz; simp; omega
      have e3 : r.find? (fun h => h.nd == nd) = none := List.find?_eq_none.2 fun z hz => by have := hm z hz; simp; omega
      rw [List.filter_cons_of_neg (by simp; omega), List.filter_cons_of_pos (by simpa using hgt), e1, e2]
      simp [fndH, List.find?_cons, hne, e3]

/-- one holder's Up, and its Down, written -/
theorem own_up {B : Nat} {S : Nat → Prop} {m : M} {b o len cap : Nat} {F G : List Hd} {e : Hd} (h : Own B S m 4 (some ⟨b, o, none⟩) len cap (hds (F ++ e :: G))) (u : Int) :
    Wr B S m b (o + F.length * 4 + 2) 1 ∧ Own B S (m.setCells b (o + F.length * 4 + 2) [I u]) 4 (some ⟨b, o, none⟩) len cap (hds (F ++ { e with up := u } :: G)) := by
  have e1 : ∀ x : Hd, hds (F ++ x :: G) = (hds F ++ [I x.nd, I x.le]) ++ ([I x.up] ++ ([I x.dn] ++ hds G)) := fun x => by simp [hds]
  rw [e1] at h
  obtain ⟨g1, g2⟩ := h.set (new := [I u]) rfl
  have el : o + (hds F ++ [I e.nd, I e.le]).length = o + F.length * 4 + 2 := by rw [List.length_append, hds_len]; simp; omega
  rw [el] at g1 g2
  rw [e1]
  exact ⟨g1, g2⟩

theorem own_dn {B : Nat} {S : Nat → Prop} {m : M} {b o len cap : Nat} {F G : List Hd} {e : Hd} (h : Own B S m 4 (some ⟨b, o, none⟩) len cap (hds (F ++ e :: G))) (u : Int) :
    Wr B S m b (o + F.length * 4 + 3) 1 ∧ Own B S (m.setCells b (o + F.length * 4 + 3) [I u]) 4 (some ⟨b, o, none⟩) len cap (hds (F ++ { e with dn := u } :: G)) := by
  have e1 : ∀ x : Hd, hds (F ++ x :: G) = (hds F ++ [I x.nd, I x.le, I x.up]) ++ ([I x.dn] ++ hds G) := fun x => by simp [hds]
  rw [e1] at h
  obtain ⟨g1, g2⟩ := h.set (new := [I u]) rfl
  have el : o + (hds F ++ [I e.nd, I e.le, I e.up]).length = o + F.length * 4 + 3 := by rw [List.length_append, hds_len]; simp; omega
  rw [el] at g1 g2
  rw [e1]
  exact ⟨g1, g2⟩

theorem up_cell {m : M} {b o : Nat} {F G : List Hd} {e : Hd} (h : CellsAt m b o (hds (F ++ e :: G))) : CellsAt m b (o + F.length * 4 + 2) [I e.up] ∧ CellsAt m b (o + F.length * 4 + 3) [I e.dn] := by
  have e1 : hds (F ++ e :: G) = (hds F ++ [I e.nd, I e.le]) ++ ([I e.up] ++ ([I e.dn] ++ hds G)) := by simp [hds]
  rw [e1] at h
  have h2 := h.drop
  have el : o + (hds F ++ [I e.nd, I e.le]).length = o + F.length * 4 + 2 := by rw [List.length_append, hds_len]; simp; omega
  rw [el] at h2
  exact ⟨h2.take, h2.drop.take⟩

theorem agrant_s (x : Ac) (a : Option Addr) (c : Nat) (nd le ns : Int) (hx : x.wf) (h0 : a = none → x.hs = []) (m : M) (h : Row m a (hds x.hs)) : Vc.Spec Try.prog 93 [acv x a c, I nd, I le, I ns] m (AcR m (aGrant x nd le ns)) := by
  refine Vc.Spec.of_vc Try.func93 (ann := noAnn) ?_
  refine vc_by (X :=
      true = true ∧
      ∃ (b : Bool),
      QSpec Try.prog (72 : Nat)
      [Value.agg
      #[Value.string x.key, Value.int IntKind.i64 x.lo, Value.int IntKind.i64 x.hi, Value.int IntKind.i64 x.base, Value.int IntKind.i64 x.round, Value.slice a x.hs.length c,
      Value.int IntKind.i64 x.lk.cl, Value.int IntKind.i64 x.lk.sq, Value.int IntKind.i64 x.lk.hm, Value.int IntKind.i64 x.lk.n]]
      m (Value.bool b) ∧
      ifB (!b)
      (Done
      (AcR m (aGrant x nd le ns)
      (Value.tuple
      #[Value.agg
      #[Value.string { data := #[] : ByteArray }, Value.int IntKind.i64 (0 : Int), Value.int IntKind.i64 (0 : Int), Value.int IntKind.i64 (0 : Int),
      Value.int IntKind.i64 (0 : Int), Value.slice none (0 : Nat) (0 : Nat), Value.int IntKind.i64 (0 : Int), Value.int IntKind.i64 (0 : Int),
      Value.int IntKind.i64 (0 : Int), Value.int IntKind.i64 (0 : Int)],
      Value.int IntKind.i64 (21 : Int)])
      m))
      (ifB (decide (ns < (1 : Int)))
      (Done
      (AcR m (aGrant x nd le ns)
      (Value.tuple
      #[Value.agg
      #[Value.string { data := #[] : ByteArray }, Value.int IntKind.i64 (0 : Int), Value.int IntKind.i64 (0 : Int), Value.int IntKind.i64 (0 : Int),
      Value.int IntKind.i64 (0 : Int), Value.slice none (0 : Nat) (0 : Nat), Value.int IntKind.i64 (0 : Int), Value.int IntKind.i64 (0 : Int),
      Value.int IntKind.i64 (0 : Int), Value.int IntKind.i64 (0 : Int)],
      Value.int IntKind.i64 (1 : Int)])
      m))
      (ifB (decide (ns > (5 : Int)))
      (Done
      (AcR m (aGrant x nd le ns)
      (Value.tuple
      #[Value.agg
      #[Value.string { data := #[] : ByteArray }, Value.int IntKind.i64 (0 : Int), Value.int IntKind.i64 (0 : Int), Value.int IntKind.i64 (0 : Int),
      Value.int IntKind.i64 (0 : Int), Value.slice none (0 : Nat) (0 : Nat), Value.int IntKind.i64 (0 : Int), Value.int IntKind.i64 (0 : Int),
      Value.int IntKind.i64 (0 : Int), Value.int IntKind.i64 (0 : Int)],
      Value.int IntKind.i64 (1 : Int)])
      m))
      (ifB (decide (nd < (1 : Int)))
      (Done
      (AcR m (aGrant x nd le ns)
      (Value.tuple
      #[Value.agg
      #[Value.string { data := #[] : ByteArray }, Value.int IntKind.i64 (0 : Int), Value.int IntKind.i64 (0 : Int), Value.int IntKind.i64 (0 : Int),
      Value.int IntKind.i64 (0 : Int), Value.slice none (0 : Nat) (0 : Nat), Value.int IntKind.i64 (0 : Int), Value.int IntKind.i64 (0 : Int),
      Value.int IntKind.i64 (0 : Int), Value.int IntKind.i64 (0 : Int)],
      Value.int IntKind.i64 (1 : Int)])
      m))
      (ifB (decide (nd > ns))
      (Done
      (AcR m (aGrant x nd le ns)
      (Value.tuple
      #[Value.agg
      #[Value.string { data := #[] : ByteArray }, Value.int IntKind.i64 (0 : Int), Value.int IntKind.i64 (0 : Int), Value.int IntKind.i64 (0 : Int),
      Value.int IntKind.i64 (0 : Int), Value.slice none (0 : Nat) (0 : Nat), Value.int IntKind.i64 (0 : Int), Value.int IntKind.i64 (0 : Int),
      Value.int IntKind.i64 (0 : Int), Value.int IntKind.i64 (0 : Int)],
      Value.int IntKind.i64 (1 : Int)])
      m))
      (ifB (decide (le < (1 : Int)))
      (Done
      (AcR m (aGrant x nd le ns)
      (Value.tuple
      #[Value.agg
      #[Value.string { data := #[] : ByteArray }, Value.int IntKind.i64 (0 : Int), Value.int IntKind.i64 (0 : Int), Value.int IntKind.i64 (0 : Int),
      Value.int IntKind.i64 (0 : Int), Value.slice none (0 : Nat) (0 : Nat), Value.int IntKind.i64 (0 : Int), Value.int IntKind.i64 (0 : Int),
      Value.int IntKind.i64 (0 : Int), Value.int IntKind.i64 (0 : Int)],
      Value.int IntKind.i64 (1 : Int)])
      m))
      (ifB (decide (le > (4611686018427387904 : Int)))
      (Done
      (AcR m (aGrant x nd le ns)
      (Value.tuple
      #[Value.agg
      #[Value.string { data := #[] : ByteArray }, Value.int IntKind.i64 (0 : Int), Value.int IntKind.i64 (0 : Int), Value.int IntKind.i64 (0 : Int),
      Value.int IntKind.i64 (0 : Int), Value.slice none (0 : Nat) (0 : Nat), Value.int IntKind.i64 (0 : Int), Value.int IntKind.i64 (0 : Int),
      Value.int IntKind.i64 (0 : Int), Value.int IntKind.i64 (0 : Int)],
      Value.int IntKind.i64 (1 : Int)])
      m))
      (ifB (x.round != (0 : Int))
      (Done
      (AcR m (aGrant x nd le ns)
      (Value.tuple
      #[Value.agg
      #[Value.string { data := #[] : ByteArray }, Value.int IntKind.i64 (0 : Int), Value.int IntKind.i64 (0 : Int), Value.int IntKind.i64 (0 : Int),
      Value.int IntKind.i64 (0 : Int), Value.slice none (0 : Nat) (0 : Nat), Value.int IntKind.i64 (0 : Int), Value.int IntKind.i64 (0 : Int),
      Value.int IntKind.i64 (0 : Int), Value.int IntKind.i64 (0 : Int)],
      Value.int IntKind.i64 (152 : Int)])
      m))
      (∃ (b : Bool),
      QSpec Try.prog (100 : Nat)
      [Value.agg
      #[Value.string x.key, Value.int IntKind.i64 x.lo, Value.int IntKind.i64 x.hi, Value.int IntKind.i64 x.base, Value.int IntKind.i64 x.round,
      Value.slice a x.hs.length c, Value.int IntKind.i64 x.lk.cl, Value.int IntKind.i64 x.lk.sq, Value.int IntKind.i64 x.lk.hm,
      Value.int IntKind.i64 x.lk.n]]
      m (Value.bool b) ∧
      ifB b
      (Done
      (AcR m (aGrant x nd le ns)
      (Value.tuple
      #[Value.agg
      #[Value.string { data := #[] : ByteArray }, Value.int IntKind.i64 (0 : Int), Value.int IntKind.i64 (0 : Int), Value.int IntKind.i64 (0 : Int),
      Value.int IntKind.i64 (0 : Int), Value.slice none (0 : Nat) (0 : Nat), Value.int IntKind.i64 (0 : Int), Value.int IntKind.i64 (0 : Int),
      Value.int IntKind.i64 (0 : Int), Value.int IntKind.i64 (0 : Int)],
      Value.int IntKind.i64 (152 : Int)])
      m))
      (∃ (n : Int),
      ∃ (n_1 : Int),
      QSpec Try.prog (101 : Nat)
      [Value.agg
      #[Value.string x.key, Value.int IntKind.i64 x.lo, Value.int IntKind.i64 x.hi, Value.int IntKind.i64 x.base, Value.int IntKind.i64 x.round,
      Value.slice a x.hs.length c, Value.int IntKind.i64 x.lk.cl, Value.int IntKind.i64 x.lk.sq, Value.int IntKind.i64 x.lk.hm,
      Value.int IntKind.i64 x.lk.n]]
      m (Value.tuple #[Value.int IntKind.u64 n, Value.int IntKind.u64 n_1]) ∧
      ∀ (n_2 : Nat),
      m.sz ≤ n_2 →
      Vc.Spec Try.prog (73 : Nat)
      [Value.agg
      #[Value.string x.key, Value.int IntKind.i64 x.lo, Value.int IntKind.i64 x.hi, Value.int IntKind.i64 x.base,
      Value.int IntKind.i64 x.round, Value.slice a x.hs.length c, Value.int IntKind.i64 x.lk.cl, Value.int IntKind.i64 x.lk.sq,
      Value.int IntKind.i64 x.lk.hm, Value.int IntKind.i64 x.lk.n]]
      { π := m.π, sz := n_2, uf := m.uf : M } fun (v : Value) (m' : M) =>
      ∃ (s : ByteArray),
      ∃ (n_3 : Int),
      ∃ (n_4 : Int),
      ∃ (n_5 : Int),
      ∃ (n_6 : Int),
      ∃ (a : Option Addr),
      ∃ (n_7 : Nat),
      ∃ (c : Nat),
      ∃ (n_8 : Int),
      ∃ (n_9 : Int),
      ∃ (n_10 : Int),
      ∃ (n_11 : Int),
      v =
      Value.agg
      #[Value.string s, Value.int IntKind.i64 n_3, Value.int IntKind.i64 n_4, Value.int IntKind.i64 n_5,
      Value.int IntKind.i64 n_6, Value.slice a n_7 c, Value.int IntKind.i64 n_8, Value.int IntKind.i64 n_9,
      Value.int IntKind.i64 n_10, Value.int IntKind.i64 n_11] ∧
      ∃ (n_12 : Int),
      ∃ (b : Bool),
      QSpec Try.prog (102 : Nat)
      [Value.slice a n_7 c, Value.int IntKind.i64 nd, Value.func (Fn.func (103 : Nat)) #[] #[]] m'
      (Value.tuple #[Value.int IntKind.i64 n_12, Value.bool b]) ∧
      ifB (!b)
      (true = true ∧
      ∀ (b : Nat),
      m'.sz ≤ b →
      ∃ (S' : Nat → Prop),
      (∀ (b_1 : Nat),
      S' b_1 →
      (m'.newBlock b
      [Value.int IntKind.i64 nd, Value.int IntKind.i64 le,
      Value.int IntKind.i64 (0 : Int), Value.int IntKind.i64 (0 : Int)]).uf
      b_1 ∧
      (m.sz ≤ b_1 ∨ False)) ∧
      ∀ (n_13 : Nat),
      max m'.sz (b + (1 : Nat)) ≤ n_13 →
      SpecW Try.prog (104 : Nat)
      [Value.slice a n_7 c, Value.int IntKind.i64 n_12,
      Value.slice (some { block := b, off := (0 : Nat) : Addr }) (1 : Nat) (1 : Nat)]
      { π := (m'.newBlock b [Value.int IntKind.i64 nd, Value.int IntKind.i64 le, Value.int IntKind.i64 (0 : Int), Value.int IntKind.i64 (0 : Int)]).π, sz := n_13, uf := (m'.newBlock b [Value.int IntKind.i64 nd, Value.int IntKind.i64 le, Value.int IntKind.i64 (0 : Int), Value.int IntKind.i64 (0 : Int)]).uf : M }
      S' fun (v : Value) (m' : M) =>
      ∃ (a : Option Addr),
      ∃ (n_14 : Nat),
      ∃ (c : Nat),
      v = Value.slice a n_14 c ∧
      ∃ (b : Nat),
      ∃ (off : Nat),
      a = some { block := b, off := off : Addr } ∧
      ((0 : Int) ≤ n_12 ∧ n_12 < (↑n_14 : Int)) ∧
      true = true ∧
      ∃ (n_15 : Int),
      CellsAt m' b (off + n_12.toNat * (4 : Nat) + (2 : Nat))
      [Value.int IntKind.i64 n_15] ∧
      ∃ (n_16 : Int),
      QSpec Try.prog (107 : Nat)
      [Value.int IntKind.u64 n_1,
      Value.int IntKind.i64 (IntKind.i64.wrap (ns + (1 : Int))),
      Value.int IntKind.i64 ns]
      m' (Value.int IntKind.u64 n_16) ∧
      ∃ (n_17 : Int),
      QSpec Try.prog (106 : Nat) [Value.int IntKind.u64 n_16] m'
      (Value.int IntKind.i64 n_17) ∧
      ∃ (n_18 : Int),
      QSpec Try.prog (105 : Nat)
      [Value.int IntKind.i64 n_15,
      Value.int IntKind.i64 n_17]
      m' (Value.int IntKind.i64 n_18) ∧
      (Wr m.sz (fun (x : Nat) => False) m' b
      (off + n_12.toNat * (4 : Nat) + (2 : Nat))
      #[Value.int IntKind.i64 n_18].size ∧
      true = true ∧
      ∃ (n_19 : Int),
      CellsAt
      (m'.setCells b
      (off + n_12.toNat * (4 : Nat) + (2 : Nat))
      [Value.int IntKind.i64 n_18])
      b (off + n_12.toNat * (4 : Nat) + (3 : Nat))
      [Value.int IntKind.i64 n_19] ∧
      ∃ (n_20 : Int),
      QSpec Try.prog (107 : Nat)
      [Value.int IntKind.u64 n,
      Value.int IntKind.i64
      (IntKind.i64.wrap (ns + (1 : Int))),
      Value.int IntKind.i64 ns]
      (m'.setCells b
      (off + n_12.toNat * (4 : Nat) +
      (2 : Nat))
      [Value.int IntKind.i64 n_18])
      (Value.int IntKind.u64 n_20) ∧
      ∃ (n : Int),
      QSpec Try.prog (106 : Nat)
      [Value.int IntKind.u64 n_20]
      (m'.setCells b
      (off + n_12.toNat * (4 : Nat) +
      (2 : Nat))
      [Value.int IntKind.i64 n_18])
      (Value.int IntKind.i64 n) ∧
      ∃ (n_21 : Int),
      QSpec Try.prog (105 : Nat)
      [Value.int IntKind.i64 n_19,
      Value.int IntKind.i64 n]
      (m'.setCells b
      (off +
      n_12.toNat * (4 : Nat) +
      (2 : Nat))
      [Value.int IntKind.i64 n_18])
      (Value.int IntKind.i64 n_21) ∧
      (Wr m.sz (fun (x : Nat) => False)
      (m'.setCells b
      (off +
      n_12.toNat *
      (4 : Nat) +
      (2 : Nat))
      [Value.int IntKind.i64
      n_18])
      b
      (off +
      n_12.toNat * (4 : Nat) +
      (3 : Nat))
      #[Value.int IntKind.i64
      n_21].size ∧
      Done
      (AcR m (aGrant x nd le ns)
      (Value.tuple
      #[Value.agg
      #[Value.string s,
      Value.int
      IntKind.i64 n_3,
      Value.int
      IntKind.i64 n_4,
      Value.int
      IntKind.i64 n_5,
      Value.int
      IntKind.i64 n_6,
      Value.slice a n_14
      c,
      Value.int
      IntKind.i64 n_8,
      Value.int
      IntKind.i64 n_9,
      Value.int
      IntKind.i64
      n_10,
      Value.int
      IntKind.i64
      n_11],
      Value.int IntKind.i64
      (0 : Int)])
      ((m'.setCells b
      (off +
      n_12.toNat *
      (4 : Nat) +
      (2 : Nat))
      [Value.int
      IntKind.i64
      n_18]).setCells
      b
      (off +
      n_12.toNat *
      (4 : Nat) +
      (3 : Nat))
      [Value.int IntKind.i64
      n_21]))) ∧
      True) ∧
      True)
      (∃ (b : Nat),
      ∃ (off : Nat),
      a = some { block := b, off := off : Addr } ∧
      ((0 : Int) ≤ n_12 ∧ n_12 < (↑n_7 : Int)) ∧
      true = true ∧
      ∃ (n_13 : Int),
      CellsAt m' b (off + n_12.toNat * (4 : Nat) + (2 : Nat)) [Value.int IntKind.i64 n_13] ∧
      ∃ (n_14 : Int),
      QSpec Try.prog (107 : Nat)
      [Value.int IntKind.u64 n_1, Value.int IntKind.i64 (IntKind.i64.wrap (ns + (1 : Int))),
      Value.int IntKind.i64 ns]
      m' (Value.int IntKind.u64 n_14) ∧
      ∃ (n_15 : Int),
      QSpec Try.prog (106 : Nat) [Value.int IntKind.u64 n_14] m'
      (Value.int IntKind.i64 n_15) ∧
      ∃ (n_16 : Int),
      QSpec Try.prog (105 : Nat)
      [Value.int IntKind.i64 n_13, Value.int IntKind.i64 n_15] m'
      (Value.int IntKind.i64 n_16) ∧
      (Wr m.sz (fun (x : Nat) => False) m' b
      (off + n_12.toNat * (4 : Nat) + (2 : Nat))
      #[Value.int IntKind.i64 n_16].size ∧
      true = true ∧
      ∃ (n_17 : Int),
      CellsAt
      (m'.setCells b (off + n_12.toNat * (4 : Nat) + (2 : Nat))
      [Value.int IntKind.i64 n_16])
      b (off + n_12.toNat * (4 : Nat) + (3 : Nat))
      [Value.int IntKind.i64 n_17] ∧
      ∃ (n_18 : Int),
      QSpec Try.prog (107 : Nat)
      [Value.int IntKind.u64 n,
      Value.int IntKind.i64 (IntKind.i64.wrap (ns + (1 : Int))),
      Value.int IntKind.i64 ns]
      (m'.setCells b (off + n_12.toNat * (4 : Nat) + (2 : Nat))
      [Value.int IntKind.i64 n_16])
      (Value.int IntKind.u64 n_18) ∧
      ∃ (n : Int),
      QSpec Try.prog (106 : Nat) [Value.int IntKind.u64 n_18]
      (m'.setCells b (off + n_12.toNat * (4 : Nat) + (2 : Nat))
      [Value.int IntKind.i64 n_16])
      (Value.int IntKind.i64 n) ∧
      ∃ (n_19 : Int),
      QSpec Try.prog (105 : Nat)
      [Value.int IntKind.i64 n_17, Value.int IntKind.i64 n]
      (m'.setCells b
      (off + n_12.toNat * (4 : Nat) + (2 : Nat))
      [Value.int IntKind.i64 n_16])
      (Value.int IntKind.i64 n_19) ∧
      (Wr m.sz (fun (x : Nat) => False)
      (m'.setCells b
      (off + n_12.toNat * (4 : Nat) + (2 : Nat))
      [Value.int IntKind.i64 n_16])
      b (off + n_12.toNat * (4 : Nat) + (3 : Nat))
      #[Value.int IntKind.i64 n_19].size ∧
      Done
      (AcR m (aGrant x nd le ns)
      (Value.tuple
      #[Value.agg
      #[Value.string s, Value.int IntKind.i64 n_3,
      Value.int IntKind.i64 n_4,
      Value.int IntKind.i64 n_5,
      Value.int IntKind.i64 n_6,
      Value.slice a n_7 c,
      Value.int IntKind.i64 n_8,
      Value.int IntKind.i64 n_9,
      Value.int IntKind.i64 n_10,
      Value.int IntKind.i64 n_11],
      Value.int IntKind.i64 (0 : Int)])
      ((m'.setCells b
      (off + n_12.toNat * (4 : Nat) + (2 : Nat))
      [Value.int IntKind.i64 n_16]).setCells
      b (off + n_12.toNat * (4 : Nat) + (3 : Nat))
      [Value.int IntKind.i64 n_19]))) ∧
      True) ∧
      True))))))))))) (by kernel_rfl) ?_
  refine ⟨rfl, _, right_q x a c hx _ h, ?_⟩
  cases hr : rightB x
  · exact ifB_true (fail_d (by simp [aGrant, hr]))
  refine ifB_false ?_
  refine ifB_intro (fun h1 => fail_d ?_) (fun h1 => ifB_intro (fun h2 => fail_d ?_) (fun h2 => ifB_intro (fun h3 => fail_d ?_) (fun h3 => ifB_intro (fun h4 => fail_d ?_) (fun h4 => ifB_intro (fun h5 => fail_d ?_) (fun h5 => ifB_intro (fun h6 => fail_d ?_) (fun h6 => ifB_intro (fun h7 => fail_d ?_) (fun h7 => ⟨_, locked_q x a c _, ifB_intro (fun h8 => fail_d ?_) (fun h8 => ⟨_, _, room_q x a c hx _ h, fun N hN => ?_⟩)⟩)))))))
  · simp at h1; simp [aGrant, hr, h1]
  · simp at h2; simp [aGrant, hr, h2]
  · simp at h3; simp [aGrant, hr, h3]
  · simp at h4; simp [aGrant, hr, h4]
  · simp at h5; simp [aGrant, hr, h5]
  · simp at h6; simp [aGrant, hr, h6]
  all_goals
    have harg : ¬ (ns < 1 ∨ 5 < ns ∨ nd < 1 ∨ ns < nd ∨ le < 1 ∨ 4611686018427387904 < le) := by simp at h1 h2 h3 h4 h5 h6; omega
  · simp at h7; simp [aGrant, hr, harg, h7]
  · simp at h8; simp [aGrant, hr, harg, h8]
  have h7 : x.round = 0 := by simpa using h7
  have h8 : x.lk.cl = 0 := by simpa using h8
  have hres : aGrant x nd le ns = ({ x with hs := putH x.hs (grantH x nd le ns) }, 0) := by simp [aGrant, hr, harg, h7, h8]
  have hp := (right_iff x).1 hr
  have hm := hold_mem _ _ hp.hold
  have hb := room_bounds hx hr h8
  have hl5 := right_len hr
  have hlo := hx.lo
  have hhi := hx.hi
  have hsp := hold_split nd hp.hold
  have uU : InU (roomUp x) := by have := hx.base; unfold InU; unfold In64 at *; omega
  have uD : InU (roomDn x) := by have := hx.base; unfold InU; unfold In64 at *; omega
  have w1 : IntKind.i64.wrap (ns + 1) = ns + 1 := by simp [IntKind.wrap_i64]; omega
  have s1 := share_in (roomUp x) (ns + 1) ns uU
  have s2 := share_in (roomDn x) (ns + 1) ns uD
  have i1 : In64 (ns + 1) := by unfold In64; omega
  have i2 : In64 ns := by unfold In64; omega
  have iU1 : InU (shareV (roomUp x) (ns + 1) ns) := by unfold InU at *; omega
  have iU2 : InU (shareV (roomDn x) (ns + 1) ns) := by unfold InU at *; omega
  rw [w1]
  generalize hF : (x.hs.filter fun z => decide (z.nd < nd)) = F at hsp
  generalize hG : (x.hs.filter fun z => decide (nd < z.nd)) = G at hsp
  have hFm : ∀ z ∈ F, z.nd < nd := fun z hz => by rw [← hF] at hz; simpa using (List.mem_filter.1 hz).2
  have hGm : ∀ z ∈ G, nd < z.nd := fun z hz => by rw [← hG] at hz; simpa using (List.mem_filter.1 hz).2
  have hput : ∀ e : Hd, e.nd = nd → putH x.hs e = F ++ e :: G := fun e he => by simp only [putH, he, hF, hG]
  have hEm : ∀ z ∈ (fndH x.hs nd).toList, z.nd = nd := fun z hz => by
    rw [Option.mem_toList] at hz
    have := List.find?_some hz
    simpa using this
  have hFl : F.length ≤ x.hs.length := by rw [← hF]; exact List.length_filter_le _ _
  refine (copied_q x a c (by omega) h0 _ (h.sz hN)).mono fun v m' hag ⟨a', c', hv, hr'⟩ => ⟨_, _, _, _, _, _, _, _, _, _, _, _, hv, ?_⟩
  have hmag := hag.2.2
  simp only at hmag
  have hpos : ∀ k (hk : k < x.hs.length), (k < F.length → x.hs[k].nd < nd) ∧ (F.length ≤ k → nd ≤ x.hs[k].nd) := fun k hk => by
    have hk' : k < (F ++ ((fndH x.hs nd).toList ++ G)).length := by rw [← hsp]; exact hk
    have he : x.hs[k] = (F ++ ((fndH x.hs nd).toList ++ G))[k] := by congr 1
    rw [he]
    refine ⟨fun hkF => ?_, fun hkF => ?_⟩
    · rw [List.getElem_append_left hkF]; exact hFm _ (List.getElem_mem _)
    · rw [List.getElem_append_right hkF]
      have hm2 := List.getElem_mem (l := (fndH x.hs nd).toList ++ G) (n := k - F.length) (by simp at hk' ⊢; omega)
      rcases List.mem_append.1 hm2 with h | h
      · have := hEm _ h; omega
      · have := hGm _ h; omega
  have hndb : ∀ k (hk : k < x.hs.length), 0 < x.hs[k].nd ∧ x.hs[k].nd ≤ 5 := fun k hk => by have := hm _ (List.getElem_mem hk); omega
  have hwr : ∀ z : Hd, 0 < z.nd ∧ z.nd ≤ 5 → IntKind.i64.wrap (z.nd - nd) = z.nd - nd := fun z hz => by simp [IntKind.wrap_i64]; omega
  have hbs := hd_bsearch a' c' x.hs nd (fun z => IntKind.i64.wrap (z.nd - nd)) F.length (by omega) m' hr'.row (fun z _ m2 => cmp_q z nd m2) hFl
    (fun k hk hkF => by rw [hwr _ (hndb k hk)]; have := (hpos k hk).1 hkF; omega) (fun k hk hkF => by rw [hwr _ (hndb k hk)]; have := (hpos k hk).2 hkF; omega)
  refine ⟨_, _, hbs, ?_⟩
  -- what is left, where the list holds e at F's end
  have hF0 : x.hs[F.length]? = ((fndH x.hs nd).toList ++ G)[0]? := by
    conv => lhs; rw [hsp]
    rw [List.getElem?_append_right (Nat.le_refl _), Nat.sub_self]
  cases hfnd : fndH x.hs nd with
  | some e =>
    rw [hfnd] at hsp hF0
    simp only [Option.toList_some, List.singleton_append] at hsp hF0
    have hend : e.nd = nd := hEm e (by rw [hfnd]; simp)
    have hany : (x.hs[F.length]?.any fun z => decide (IntKind.i64.wrap (z.nd - nd) = 0)) = true := by
      rw [hF0]; simp [hend, IntKind.wrap_i64]
    rw [hany]
    have hfe : findB x nd = true ∧ findH x nd = e := by simp [findB, findH, hr, hfnd]
    have hin : e ∈ x.hs := by rw [hsp]; simp
    have hwf := hx.hs e hin
    have hme := hm e hin
    have hup : 0 ≤ e.up ∧ e.up ≤ 9223372036854775807 := by have := hwf.2.2.1; unfold In64 at this; omega
    have hdn : 0 ≤ e.dn ∧ e.dn ≤ 9223372036854775807 := by have := hwf.2.2.2; unfold In64 at this; omega
    have hge : grantH x nd le ns = { nd := e.nd, le := e.le, up := moreI e.up (shareV (roomUp x) (ns + 1) ns), dn := moreI e.dn (shareV (roomDn x) (ns + 1) ns) } := by simp [grantH, hfe]
    have ho3 : Own m.sz (fun _ => False) m' 4 a' x.hs.length c' (hds (F ++ e :: G)) := by
      rw [← hsp]
      exact (hr'.toOwn (by rw [hsp]; simp)).lower hN
    have hlen3 : x.hs.length = F.length + 1 + G.length := by rw [hsp]; simp; omega
    refine ifB_false ?_
    simp only [Int.toNat_natCast]
    obtain ⟨b, o, rfl, hcl⟩ := ho3.row.cells (by rw [hds_len]; simp)
    obtain ⟨g1, q1⟩ := own_up ho3 (moreI e.up (fitV (shareV (roomUp x) (ns + 1) ns)))
    obtain ⟨g2, q2⟩ := own_dn q1 (moreI e.dn (fitV (shareV (roomDn x) (ns + 1) ns)))
    obtain ⟨b2, o2, e2, hcl2⟩ := q1.row.cells (by rw [hds_len]; simp)
    cases e2
    have c1 := (up_cell hcl).1
    have c2 := (up_cell hcl2).2
    refine ⟨b, o, rfl, ⟨by omega, by simp only [hlen3]; omega⟩, trivial, e.up, c1, _, share_q _ _ _ uU i1 i2 _, _, fit_q _ iU1 _, _, more_q _ _ (by omega) (by unfold fitV; unfold InU at iU1; omega) _, ⟨g1, trivial, e.dn, c2, _, share_q _ _ _ uD i1 i2 _, _, fit_q _ iU2 _, _, more_q _ _ (by omega) (by unfold fitV; unfold InU at iU2; omega) _, ⟨g2, ?_⟩, trivial⟩, trivial⟩
    rw [hres]
    have ege : putH x.hs (grantH x nd le ns) = F ++ { nd := e.nd, le := e.le, up := moreI e.up (fitV (shareV (roomUp x) (ns + 1) ns)), dn := moreI e.dn (fitV (shareV (roomDn x) (ns + 1) ns)) : Hd } :: G := by
      rw [more_fit _ _ hup.1, more_fit _ _ hdn.1, ← hge]
      exact hput _ (by rw [hge]; exact hend)
    have elen : x.hs.length = (putH x.hs (grantH x nd le ns)).length := by rw [ege, hlen3]; simp; omega
    rw [elen] at q2 ⊢
    refine ok_d (n := m.sz) (z := { x with hs := putH x.hs (grantH x nd le ns) }) rfl (.own ?_) (Nat.le_refl _)
    show Own _ _ _ _ _ _ _ (hds (putH x.hs (grantH x nd le ns)))
    rw [ege] at q2 ⊢
    exact q2
  | none =>
    rw [hfnd] at hsp hF0
    simp only [Option.toList_none, List.nil_append] at hsp hF0
    have hany : (x.hs[F.length]?.any fun z => decide (IntKind.i64.wrap (z.nd - nd) = 0)) = false := by
      rw [hF0]
      cases hG0 : G[0]? with
      | none => rfl
      | some g =>
        have hg := hGm g (List.mem_of_getElem? hG0)
        have hgm : g ∈ x.hs := by rw [hsp]; exact List.mem_append_right _ (List.mem_of_getElem? hG0)
        have := hm g hgm
        simp only [Option.any_some, decide_eq_false_iff_not]
        rw [hwr g (by omega)]; omega
    rw [hany]
    have hfe : findB x nd = false := by simp [findB, hfnd]
    have hge : grantH x nd le ns = { nd := nd, le := le, up := moreI 0 (shareV (roomUp x) (ns + 1) ns), dn := moreI 0 (shareV (roomDn x) (ns + 1) ns) } := by simp [grantH, hfe]
    refine ifB_true ⟨rfl, fun b hb => ?_⟩
    have hrN := hr'.newBlock (ds := [I nd, I le, I 0, I 0]) hb
    have hs := hd_insert a' c' x.hs F.length b 0 1 ⟨nd, le, 0, 0⟩ (fun b' => ∃ o, a' = some ⟨b', o, none⟩ ∧ (m'.newBlock b [I nd, I le, I 0, I 0]).uf b' ∧ m.sz ≤ b') (by omega) hFl
    refine ⟨fun b' => ∃ o, a' = some ⟨b', o, none⟩ ∧ (m'.newBlock b [I nd, I le, I 0, I 0]).uf b' ∧ m.sz ≤ b', fun b' ⟨o, e, hu, hlo⟩ => ⟨hu, .inl hlo⟩, fun n hn => ?_⟩
    refine (hs { m'.newBlock b [I nd, I le, I 0, I 0] with sz := n } ((hrN.sz hn).re fun b' o e hu hlo => .inr ⟨o, e, hu, by rcases hlo with h | h; simp only at h; omega; exact h.elim⟩)
      (fun hne b' o e => ?_) (by simp only; omega) (.inl rfl) ⟨(cellsAt_new (m := m') (b := b) (cs := [I nd, I le, I 0, I 0])).out⟩).mono fun v3 m3 hag3 ⟨a3, c3, hv3, hr3⟩ => ⟨a3, _, c3, hv3, ?_⟩
    · have := (hr'.toOwn (fun e => hne (List.eq_nil_of_length_eq_zero e))).lt e
      omega
    have etd : x.hs.take F.length ++ (⟨nd, le, 0, 0⟩ : Hd) :: x.hs.drop F.length = F ++ (⟨nd, le, 0, 0⟩ : Hd) :: G := by
      rw [hsp]; simp
    rw [etd] at hr3
    have ho3 : Own m.sz (fun _ => False) m3 4 a3 (x.hs.length + 1) c3 (hds (F ++ (⟨nd, le, 0, 0⟩ : Hd) :: G)) := by
      refine (hr3.toOwn (by omega)).re fun b' o e => .inl ?_
      rcases (hr3.toOwn (by omega)).lo e with h | ⟨o', -, -, h⟩
      · simp only at h; omega
      · exact h
    simp only [Int.toNat_natCast]
    obtain ⟨b, o, rfl, hcl⟩ := ho3.row.cells (by rw [hds_len]; simp)
    obtain ⟨g1, q1⟩ := own_up ho3 (moreI (0 : Int) (fitV (shareV (roomUp x) (ns + 1) ns)))
    obtain ⟨g2, q2⟩ := own_dn q1 (moreI (0 : Int) (fitV (shareV (roomDn x) (ns + 1) ns)))
    obtain ⟨b2, o2, e2, hcl2⟩ := q1.row.cells (by rw [hds_len]; simp)
    cases e2
    have c1 := (up_cell hcl).1
    have c2 := (up_cell hcl2).2
    refine ⟨b, o, rfl, ⟨by omega, by have := congrArg List.length hsp; simp at this; omega⟩, trivial, (0 : Int), c1, _, share_q _ _ _ uU i1 i2 _, _, fit_q _ iU1 _, _, more_q _ _ (by omega) (by unfold fitV; unfold InU at iU1; omega) _, ⟨g1, trivial, (0 : Int), c2, _, share_q _ _ _ uD i1 i2 _, _, fit_q _ iU2 _, _, more_q _ _ (by omega) (by unfold fitV; unfold InU at iU2; omega) _, ⟨g2, ?_⟩, trivial⟩, trivial⟩
    rw [hres]
    have ege : putH x.hs (grantH x nd le ns) = F ++ { nd := nd, le := le, up := moreI (0 : Int) (fitV (shareV (roomUp x) (ns + 1) ns)), dn := moreI (0 : Int) (fitV (shareV (roomDn x) (ns + 1) ns)) : Hd } :: G := by
      rw [more_fit _ _ (Int.le_refl 0), more_fit _ _ (Int.le_refl 0), ← hge]
      exact hput _ (by rw [hge])
    have elen : x.hs.length + 1 = (putH x.hs (grantH x nd le ns)).length := by rw [ege, hsp]; simp; omega
    rw [elen] at q2 ⊢
    refine ok_d (n := m.sz) (z := { x with hs := putH x.hs (grantH x nd le ns) }) rfl (.own ?_) (Nat.le_refl _)
    show Own _ _ _ _ _ _ _ (hds (putH x.hs (grantH x nd le ns)))
    rw [ege] at q2 ⊢
    exact q2

end Go.Proofs.Ytfkielfnceeedaa
