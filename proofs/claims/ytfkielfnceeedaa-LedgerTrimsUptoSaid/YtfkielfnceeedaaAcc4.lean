/-
  Contracts of functions of this seat: what each hands back, and what it leaves of memory (acc4). Nothing here is trusted: Lean checks it.
-/
import Derived.Test.YtfkielfnceeedaaAcc3
set_option linter.unusedVariables false
set_option linter.unusedSimpArgs false
namespace Go.Proofs.Ytfkielfnceeedaa
open Go.Vc Go.RowKit

theorem check_q (x : Ac) (a : Option Addr) (c : Nat) (hx : x.wf) (m : M) (h : Row m a (hds x.hs)) : QSpec Try.prog 47 [acv x a c] m (I (if rightB x then 0 else 21)) := by
  refine QSpec.of_vc Try.func47 (ann := fun _ => noAnn) fun n hn => ?_
  refine vc_by (X :=
      true = true ∧
      ∃ (b : Bool),
      QSpec Try.prog (72 : Nat)
      [Value.agg
      #[Value.string x.key, Value.int IntKind.i64 x.lo, Value.int IntKind.i64 x.hi, Value.int IntKind.i64 x.base, Value.int IntKind.i64 x.round, Value.slice a x.hs.length c,
      Value.int IntKind.i64 x.lk.cl, Value.int IntKind.i64 x.lk.sq, Value.int IntKind.i64 x.lk.hm, Value.int IntKind.i64 x.lk.n]]
      { π := m.π, sz := n, uf := m.uf : M } (Value.bool b) ∧
      ifB (!b) (Done (Value.int IntKind.i64 (21 : Int) = Value.int IntKind.i64 (if rightB x = true then (0 : Int) else (21 : Int))))
      (Done (Value.int IntKind.i64 (0 : Int) = Value.int IntKind.i64 (if rightB x = true then (0 : Int) else (21 : Int))))) (by kernel_rfl) ?_
  refine ⟨rfl, _, right_q x a c hx _ (h.sz hn), ?_⟩
  cases rightB x <;> exact ⟨rfl⟩

theorem one_hds (l : List Hd) : oneCells (hds l) = true := by
  induction l with
  | nil => rfl
  | cons x r ih => exact Bool.and_eq_true_iff.2 ⟨rfl, Bool.and_eq_true_iff.2 ⟨rfl, Bool.and_eq_true_iff.2 ⟨rfl, Bool.and_eq_true_iff.2 ⟨rfl, ih⟩⟩⟩⟩

theorem zr_hd (k : Nat) : (zeroRow Try.prog 67 k).length = k * 4 := zrLen (by kernel_rfl) k

theorem clone_q (l : List Hd) (a : Option Addr) (c : Nat) (hn : l.length ≤ 1048576) (h0 : a = none → l = []) (m : M) (h : Row m a (hds l)) : Vc.Spec Try.prog 91 [.slice a l.length c] m (fun v m' => ∃ a' c', v = .slice a' l.length c' ∧ NewR m.sz (fun _ => False) m' 4 a' l.length c' (hds l)) := by
  refine Vc.Spec.of_vc Try.func91 (ann := noAnn) ?_
  refine vc_by (X :=
      true = true ∧
      ifB a.isNone
      (Done
      (∃ (a' : Option Addr),
      ∃ (c' : Nat), Value.slice none (0 : Nat) (0 : Nat) = Value.slice a' l.length c' ∧ NewR m.sz (fun (x : Nat) => False) m (4 : Nat) a' l.length c' (hds l)))
      (true = true ∧
      ∀ (b : Nat),
      m.sz ≤ b →
      ∃ (old : List Value),
      ∃ (src : List Value),
      AppPre m.sz (fun (x : Nat) => False) (m.newBlock b []) (4 : Nat) (32 : Nat) (some { block := b, off := (0 : Nat) : Addr }) (0 : Nat) (0 : Nat) a l.length old src ∧
      ∀ (a' : Option Addr) (c' : Nat) (m' : M),
      AppPost Try.prog (67 : Nat) (m.newBlock b []) (4 : Nat) (some { block := b, off := (0 : Nat) : Addr }) (0 : Nat) (0 : Nat) l.length old src a' c' m' →
      Done
      (∃ (a'_1 : Option Addr),
      ∃ (c'_1 : Nat),
      Value.slice a' ((0 : Nat) + l.length) c' = Value.slice a'_1 l.length c'_1 ∧ NewR m.sz (fun (x : Nat) => False) m' (4 : Nat) a'_1 l.length c'_1 (hds l)))) (by kernel_rfl) ?_
  refine ⟨rfl, ifB_intro (fun h1 => ⟨?_⟩) (fun h1 => ⟨rfl, fun b hb => ?_⟩)⟩
  · have : l = [] := h0 (by simpa using h1)
    subst this
    exact ⟨_, _, rfl, .nil _⟩
  · have ho : OwnB m.sz (fun _ => False) (m.newBlock b []) 4 (some ⟨b, 0, none⟩) 0 0 [] := OwnB.fresh hb rfl
    have hr : Row (m.newBlock b []) a (hds l) := h.newBlock hb
    refine ⟨_, _, ho.appPre hr (hds_len l) (one_hds l) (by omega), fun a' c' m' hp => ⟨a', c', by simp, .own ?_⟩⟩
    have := ho.append hp (hds_len l) zr_hd (by simp only [M.newBlock]; omega)
    simpa using this

theorem copied_q (x : Ac) (a : Option Addr) (c : Nat) (hn : x.hs.length ≤ 1048576) (h0 : a = none → x.hs = []) (m : M) (h : Row m a (hds x.hs)) : Vc.Spec Try.prog 73 [acv x a c] m (fun v m' => ∃ a' c', v = acv x a' c' ∧ NewR m.sz (fun _ => False) m' 4 a' x.hs.length c' (hds x.hs)) := by
  refine Vc.Spec.of_vc Try.func73 (ann := noAnn) ?_
  refine vc_by (X :=
      true = true ∧
      ∃ (S' : Nat → Prop),
      (∀ (b : Nat), S' b → m.uf b ∧ (m.sz ≤ b ∨ False)) ∧
      ∀ (n : Nat),
      m.sz ≤ n →
      SpecW Try.prog (91 : Nat) [Value.slice a x.hs.length c] { π := m.π, sz := n, uf := m.uf : M } S' fun (v : Value) (m' : M) =>
      ∃ (a : Option Addr),
      ∃ (n : Nat),
      ∃ (c : Nat),
      v = Value.slice a n c ∧
      Done
      (∃ (a' : Option Addr),
      ∃ (c' : Nat),
      Value.agg
      #[Value.string x.key, Value.int IntKind.i64 x.lo, Value.int IntKind.i64 x.hi, Value.int IntKind.i64 x.base, Value.int IntKind.i64 x.round,
      Value.slice a n c, Value.int IntKind.i64 x.lk.cl, Value.int IntKind.i64 x.lk.sq, Value.int IntKind.i64 x.lk.hm, Value.int IntKind.i64 x.lk.n] =
      Value.agg
      #[Value.string x.key, Value.int IntKind.i64 x.lo, Value.int IntKind.i64 x.hi, Value.int IntKind.i64 x.base, Value.int IntKind.i64 x.round,
      Value.slice a' x.hs.length c', Value.int IntKind.i64 x.lk.cl, Value.int IntKind.i64 x.lk.sq, Value.int IntKind.i64 x.lk.hm,
      Value.int IntKind.i64 x.lk.n] ∧
      NewR m.sz (fun (x : Nat) => False) m' (4 : Nat) a' x.hs.length c' (hds x.hs))) (by kernel_rfl) ?_
  refine ⟨rfl, _, noS, fun n hn' => (clone_q x.hs a c hn h0 _ (h.sz hn')).monoW fun v m' hag ⟨a', c', hv, hr⟩ => ⟨a', _, c', hv, ⟨a', c', rfl, ?_⟩⟩⟩
  exact hr.lower hn'

def ac0 : Ac := ⟨.empty, 0, 0, 0, 0, [], ⟨0, 0, 0, 0⟩⟩

theorem locked_q (x : Ac) (a : Option Addr) (c : Nat) (m : M) : QSpec Try.prog 100 [acv x a c] m (.bool (decide (x.lk.cl ≠ 0))) := by
  refine QSpec.of_vc Try.func100 (ann := fun _ => noAnn) fun n hn => ?_
  refine vc_by (X :=
      true = true ∧ Done (Value.bool (x.lk.cl != (0 : Int)) = Value.bool (decide (x.lk.cl ≠ (0 : Int))))) (by kernel_rfl) ?_
  exact ⟨rfl, ⟨by simp [bne, Bool.beq_eq_decide_eq]⟩⟩

def roomDn (x : Ac) : Int := if rightB x && decide (x.lk.cl = 0) then sumI (dnsL x) - x.lo else 0

def roomUp (x : Ac) : Int := if rightB x && decide (x.lk.cl = 0) then x.hi - sumI (upsL x) else 0

structure RightP (x : Ac) : Prop where
  key : keyB x.key = true
  has : x.lo ≤ x.base ∧ x.base ≤ x.hi
  round : 0 ≤ x.round
  hold : holdB 0 x.hs = true
  up : sumI (upsL x) ≤ x.hi
  dn : x.lo ≤ sumI (dnsL x)
  lock : lockB x = true

theorem right_iff (x : Ac) : rightB x = true ↔ RightP x := by
  simp only [rightB, hasB, Bool.and_eq_true, decide_eq_true_eq]
  constructor
  · rintro ⟨⟨⟨⟨⟨⟨h1, h2⟩, h3⟩, h4⟩, h5⟩, h6⟩, h7⟩; exact ⟨h1, h2, h3, h4, h5, h6, h7⟩
  · rintro ⟨h1, h2, h3, h4, h5, h6, h7⟩; exact ⟨⟨⟨⟨⟨⟨h1, h2⟩, h3⟩, h4⟩, h5⟩, h6⟩, h7⟩

theorem RightP.bounds {x : Ac} (h : RightP x) (hx : x.wf) : In64 (sumI (upsL x)) ∧ In64 (sumI (dnsL x)) ∧ x.base ≤ sumI (upsL x) ∧ sumI (dnsL x) ≤ x.base := by
  have h1 := up_ge h.hold
  have h2 := h.up
  have h3 := h.dn
  have h4 := h.has
  have h5 := hx.lo
  have h6 := hx.hi
  unfold In64 at *
  omega

theorem room_q (x : Ac) (a : Option Addr) (c : Nat) (hx : x.wf) (m : M) (h : Row m a (hds x.hs)) : QSpec Try.prog 101 [acv x a c] m (.tuple #[U (roomDn x), U (roomUp x)]) := by
  refine QSpec.of_vc Try.func101 (ann := fun _ => noAnn) fun n hn => ?_
  refine vc_by (X :=
      true = true ∧
      ∃ (b : Bool),
      QSpec Try.prog (72 : Nat)
      [Value.agg
      #[Value.string x.key, Value.int IntKind.i64 x.lo, Value.int IntKind.i64 x.hi, Value.int IntKind.i64 x.base, Value.int IntKind.i64 x.round, Value.slice a x.hs.length c,
      Value.int IntKind.i64 x.lk.cl, Value.int IntKind.i64 x.lk.sq, Value.int IntKind.i64 x.lk.hm, Value.int IntKind.i64 x.lk.n]]
      { π := m.π, sz := n, uf := m.uf : M } (Value.bool b) ∧
      ifB (!b)
      (Done (Value.tuple #[Value.int IntKind.u64 (0 : Int), Value.int IntKind.u64 (0 : Int)] = Value.tuple #[Value.int IntKind.u64 (roomDn x), Value.int IntKind.u64 (roomUp x)]))
      (∃ (b : Bool),
      QSpec Try.prog (100 : Nat)
      [Value.agg
      #[Value.string x.key, Value.int IntKind.i64 x.lo, Value.int IntKind.i64 x.hi, Value.int IntKind.i64 x.base, Value.int IntKind.i64 x.round,
      Value.slice a x.hs.length c, Value.int IntKind.i64 x.lk.cl, Value.int IntKind.i64 x.lk.sq, Value.int IntKind.i64 x.lk.hm, Value.int IntKind.i64 x.lk.n]]
      { π := m.π, sz := n, uf := m.uf : M } (Value.bool b) ∧
      ifB b
      (Done
      (Value.tuple #[Value.int IntKind.u64 (0 : Int), Value.int IntKind.u64 (0 : Int)] =
      Value.tuple #[Value.int IntKind.u64 (roomDn x), Value.int IntKind.u64 (roomUp x)]))
      (∃ (n_1 : Int),
      ∃ (n_2 : Int),
      ∃ (b : Bool),
      QSpec Try.prog (88 : Nat)
      [Value.agg
      #[Value.string x.key, Value.int IntKind.i64 x.lo, Value.int IntKind.i64 x.hi, Value.int IntKind.i64 x.base, Value.int IntKind.i64 x.round,
      Value.slice a x.hs.length c, Value.int IntKind.i64 x.lk.cl, Value.int IntKind.i64 x.lk.sq, Value.int IntKind.i64 x.lk.hm,
      Value.int IntKind.i64 x.lk.n]]
      { π := m.π, sz := n, uf := m.uf : M } (Value.tuple #[Value.int IntKind.i64 n_1, Value.int IntKind.i64 n_2, Value.bool b]) ∧
      true = true ∧
      Done
      (Value.tuple
      #[Value.int IntKind.u64 (IntKind.u64.wrap (IntKind.u64.wrap n_2 - IntKind.u64.wrap x.lo)),
      Value.int IntKind.u64 (IntKind.u64.wrap (IntKind.u64.wrap x.hi - IntKind.u64.wrap n_1))] =
      Value.tuple #[Value.int IntKind.u64 (roomDn x), Value.int IntKind.u64 (roomUp x)])))) (by kernel_rfl) ?_
  refine ⟨rfl, _, right_q x a c hx _ (h.sz hn), ?_⟩
  cases hr : rightB x
  · exact ifB_true ⟨by simp [roomDn, roomUp, hr]⟩
  · refine ifB_false ⟨_, locked_q x a c _, ?_⟩
    by_cases hl : x.lk.cl = 0
    · have hp := (right_iff x).1 hr
      have hm := hold_mem _ _ hp.hold
      have hb := hp.bounds hx
      have hl' : decide (x.lk.cl ≠ 0) = false := by simp [hl]
      rw [hl']
      refine ifB_false ?_
      refine ⟨_, _, _, lent_q x a c hx (hold_len hp.hold) (fun y hy => (hm y hy).2.2.2) _ (h.sz hn), rfl, ⟨?_⟩⟩
      have h4 := hp.up
      have h5 := hp.dn
      have h6 := hx.lo
      have h7 := hx.hi
      simp only [clip, hb.1, hb.2.1, if_true, roomDn, roomUp, hr, hl, decide_true, Bool.and_self]
      have h8 := hb.1
      have h9 := hb.2.1
      unfold In64 at *
      simp [IntKind.wrap_u64]
      omega
    · have hl' : decide (x.lk.cl ≠ 0) = true := by simp [hl]
      rw [hl']
      exact ifB_true ⟨by simp [roomDn, roomUp, hl]⟩

def totB (x : Ac) : Bool := rightB x && decide (x.lk.cl = 0) && x.hs.isEmpty

theorem total_q (x : Ac) (a : Option Addr) (c : Nat) (hx : x.wf) (m : M) (h : Row m a (hds x.hs)) : QSpec Try.prog 113 [acv x a c] m (.tuple #[I (if totB x then x.base else 0), .bool (totB x)]) := by
  refine QSpec.of_vc Try.func113 (ann := fun _ => noAnn) fun n hn => ?_
  refine vc_by (X :=
      true = true ∧
      ∃ (b : Bool),
      QSpec Try.prog (72 : Nat)
      [Value.agg
      #[Value.string x.key, Value.int IntKind.i64 x.lo, Value.int IntKind.i64 x.hi, Value.int IntKind.i64 x.base, Value.int IntKind.i64 x.round, Value.slice a x.hs.length c,
      Value.int IntKind.i64 x.lk.cl, Value.int IntKind.i64 x.lk.sq, Value.int IntKind.i64 x.lk.hm, Value.int IntKind.i64 x.lk.n]]
      { π := m.π, sz := n, uf := m.uf : M } (Value.bool b) ∧
      ifB (!b)
      (Done
      (Value.tuple #[Value.int IntKind.i64 (0 : Int), Value.bool false] =
      Value.tuple #[Value.int IntKind.i64 (if totB x = true then x.base else (0 : Int)), Value.bool (totB x)]))
      (∃ (b : Bool),
      QSpec Try.prog (100 : Nat)
      [Value.agg
      #[Value.string x.key, Value.int IntKind.i64 x.lo, Value.int IntKind.i64 x.hi, Value.int IntKind.i64 x.base, Value.int IntKind.i64 x.round,
      Value.slice a x.hs.length c, Value.int IntKind.i64 x.lk.cl, Value.int IntKind.i64 x.lk.sq, Value.int IntKind.i64 x.lk.hm, Value.int IntKind.i64 x.lk.n]]
      { π := m.π, sz := n, uf := m.uf : M } (Value.bool b) ∧
      ifB b
      (Done
      (Value.tuple #[Value.int IntKind.i64 (0 : Int), Value.bool false] =
      Value.tuple #[Value.int IntKind.i64 (if totB x = true then x.base else (0 : Int)), Value.bool (totB x)]))
      (ifB (decide ((↑x.hs.length : Int) > (0 : Int)))
      (Done
      (Value.tuple #[Value.int IntKind.i64 (0 : Int), Value.bool false] =
      Value.tuple #[Value.int IntKind.i64 (if totB x = true then x.base else (0 : Int)), Value.bool (totB x)]))
      (Done
      (Value.tuple #[Value.int IntKind.i64 x.base, Value.bool true] =
      Value.tuple #[Value.int IntKind.i64 (if totB x = true then x.base else (0 : Int)), Value.bool (totB x)]))))) (by kernel_rfl) ?_
  refine ⟨rfl, _, right_q x a c hx _ (h.sz hn), ?_⟩
  cases hr : rightB x
  · exact ifB_true ⟨by simp [totB, hr]⟩
  · refine ifB_false ⟨_, locked_q x a c _, ifB_intro (fun h1 => ⟨?_⟩) (fun h1 => ifB_intro (fun h2 => ⟨?_⟩) (fun h2 => ⟨?_⟩))⟩
    · simp at h1; simp [totB, h1]
    · have : x.hs ≠ [] := fun e => by simp [e] at h2
      simp [totB, this]
    · have : x.hs = [] := by simpa using h2
      simp at h1; simp [totB, hr, h1, this]

def hd0 : Hd := ⟨0, 0, 0, 0⟩

abbrev hdv (h : Hd) : Value := .agg #[I h.nd, I h.le, I h.up, I h.dn]

def fndH (l : List Hd) (nd : Int) : Option Hd := l.find? (fun h => h.nd == nd)

def findH (x : Ac) (nd : Int) : Hd := if rightB x then (fndH x.hs nd).getD hd0 else hd0

def findB (x : Ac) (nd : Int) : Bool := rightB x && (fndH x.hs nd).isSome

theorem fndH_drop {l : List Hd} {k : Nat} (hk : k < l.length) (nd : Int) : fndH (l.drop k) nd = if l[k].nd = nd then some l[k] else fndH (l.drop (k + 1)) nd := by
  rw [List.drop_eq_getElem_cons hk]
  unfold fndH
  rw [List.find?_cons]
  by_cases h : l[k].nd = nd
  · simp [h]
  · have : (l[k].nd == nd) = false := by simpa using h
    simp [h, this]

theorem find_q (x : Ac) (a : Option Addr) (c : Nat) (nd : Int) (hx : x.wf) (m : M) (h : Row m a (hds x.hs)) : QSpec Try.prog 33 [acv x a c, I nd] m (.tuple #[hdv (findH x nd), .bool (findB x nd)]) := by
  refine QSpec.of_vc Try.func33 (ann := fun n _ => { A := Nat, inv := fun k => k ≤ x.hs.length ∧ fndH x.hs nd = fndH (x.hs.drop k) nd, st := fun k => [(15, .val (I k)), (14, .val (I x.hs.length)), (13, .val (.slice a x.hs.length c)), (1, .val (I nd)), (4, .own 1 0)], own := fun _ => [(1, ⟨67, [I 0, I 0, I 0, I 0]⟩)], m := fun _ => { m with sz := n }, μ := fun k => x.hs.length - k }) fun n hn => ?_
  refine vc_by (X :=
      true = true ∧
      ∃ (b : Bool),
      QSpec Try.prog (72 : Nat)
      [Value.agg
      #[Value.string x.key, Value.int IntKind.i64 x.lo, Value.int IntKind.i64 x.hi, Value.int IntKind.i64 x.base, Value.int IntKind.i64 x.round, Value.slice a x.hs.length c,
      Value.int IntKind.i64 x.lk.cl, Value.int IntKind.i64 x.lk.sq, Value.int IntKind.i64 x.lk.hm, Value.int IntKind.i64 x.lk.n]]
      { π := m.π, sz := n, uf := m.uf : M } (Value.bool b) ∧
      ifB (!b)
      (Done
      (Value.tuple
      #[Value.agg #[Value.int IntKind.i64 (0 : Int), Value.int IntKind.i64 (0 : Int), Value.int IntKind.i64 (0 : Int), Value.int IntKind.i64 (0 : Int)], Value.bool false] =
      Value.tuple
      #[Value.agg
      #[Value.int IntKind.i64 (findH x nd).nd, Value.int IntKind.i64 (findH x nd).le, Value.int IntKind.i64 (findH x nd).up, Value.int IntKind.i64 (findH x nd).dn],
      Value.bool (findB x nd)]))
      ((∃ (a_1 : Nat),
      (a_1 ≤ x.hs.length ∧ fndH x.hs nd = fndH (List.drop a_1 x.hs) nd) ∧
      { π := m.π, sz := n, uf := m.uf : M } = { π := m.π, sz := n, uf := m.uf : M } ∧
      ((SV.val (Value.int IntKind.i64 (0 : Int)) = SV.val (Value.int IntKind.i64 (↑a_1 : Int)) ∧ true = true) ∧
      (SV.val (Value.int IntKind.i64 (↑x.hs.length : Int)) = SV.val (Value.int IntKind.i64 (↑x.hs.length : Int)) ∧ true = true) ∧
      (SV.val (Value.slice a x.hs.length c) = SV.val (Value.slice a x.hs.length c) ∧ true = true) ∧
      (SV.val (Value.int IntKind.i64 nd) = SV.val (Value.int IntKind.i64 nd) ∧ true = true) ∧
      (SV.own ((0 : Nat) + (1 : Nat)) (0 : Nat) = SV.own (1 : Nat) (0 : Nat) ∧ true = true) ∧ True) ∧
      (some
      { ty := (67 : Nat), cs := [Value.int IntKind.i64 (0 : Int), Value.int IntKind.i64 (0 : Int), Value.int IntKind.i64 (0 : Int), Value.int IntKind.i64 (0 : Int)] : Bx } =
      some
      { ty := (67 : TypeId), cs := [Value.int IntKind.i64 (0 : Int), Value.int IntKind.i64 (0 : Int), Value.int IntKind.i64 (0 : Int), Value.int IntKind.i64 (0 : Int)] : Bx } ∧
      true = true) ∧
      True) ∧
      ∀ (a_1 : Nat),
      a_1 ≤ x.hs.length ∧ fndH x.hs nd = fndH (List.drop a_1 x.hs) nd →
      ifB (decide ((↑a_1 : Int) < (↑x.hs.length : Int)))
      (∃ (b : Nat),
      ∃ (off : Nat),
      a = some { block := b, off := off : Addr } ∧
      ((0 : Int) ≤ (↑a_1 : Int) ∧ (↑a_1 : Int) < (↑x.hs.length : Int)) ∧
      ∃ (n_1 : Int),
      ∃ (n_2 : Int),
      ∃ (n_3 : Int),
      ∃ (n_4 : Int),
      CellsAt { π := m.π, sz := n, uf := m.uf : M } b (off + (↑a_1 : Int).toNat * (4 : Nat))
      [Value.int IntKind.i64 n_1, Value.int IntKind.i64 n_2, Value.int IntKind.i64 n_3, Value.int IntKind.i64 n_4] ∧
      ifB (n_1 == nd)
      (Done
      (Value.tuple
      #[Value.agg #[Value.int IntKind.i64 n_1, Value.int IntKind.i64 n_2, Value.int IntKind.i64 n_3, Value.int IntKind.i64 n_4],
      Value.bool true] =
      Value.tuple
      #[Value.agg
      #[Value.int IntKind.i64 (findH x nd).nd, Value.int IntKind.i64 (findH x nd).le, Value.int IntKind.i64 (findH x nd).up,
      Value.int IntKind.i64 (findH x nd).dn],
      Value.bool (findB x nd)]))
      (∃ (a' : Nat),
      ((a' ≤ x.hs.length ∧ fndH x.hs nd = fndH (List.drop a' x.hs) nd) ∧
      { π := m.π, sz := n, uf := m.uf : M } = { π := m.π, sz := n, uf := m.uf : M } ∧
      ((SV.val (Value.int IntKind.i64 (IntKind.i64.wrap ((↑a_1 : Int) + (1 : Int)))) = SV.val (Value.int IntKind.i64 (↑a' : Int)) ∧
      true = true) ∧
      (SV.val (Value.int IntKind.i64 (↑x.hs.length : Int)) = SV.val (Value.int IntKind.i64 (↑x.hs.length : Int)) ∧ true = true) ∧
      (SV.val (Value.slice a x.hs.length c) = SV.val (Value.slice a x.hs.length c) ∧ true = true) ∧
      (SV.val (Value.int IntKind.i64 nd) = SV.val (Value.int IntKind.i64 nd) ∧ true = true) ∧
      (SV.own (1 : Nat) (0 : Nat) = SV.own (1 : Nat) (0 : Nat) ∧ true = true) ∧ True) ∧
      (some
      { ty := (67 : TypeId), cs := [Value.int IntKind.i64 (0 : Int), Value.int IntKind.i64 (0 : Int), Value.int IntKind.i64 (0 : Int), Value.int IntKind.i64 (0 : Int)] : Bx } =
      some
      { ty := (67 : TypeId), cs := [Value.int IntKind.i64 (0 : Int), Value.int IntKind.i64 (0 : Int), Value.int IntKind.i64 (0 : Int), Value.int IntKind.i64 (0 : Int)] : Bx } ∧
      true = true) ∧
      True) ∧
      x.hs.length - a' < x.hs.length - a_1))
      (Done
      (Value.tuple
      #[Value.agg #[Value.int IntKind.i64 (0 : Int), Value.int IntKind.i64 (0 : Int), Value.int IntKind.i64 (0 : Int), Value.int IntKind.i64 (0 : Int)],
      Value.bool false] =
      Value.tuple
      #[Value.agg
      #[Value.int IntKind.i64 (findH x nd).nd, Value.int IntKind.i64 (findH x nd).le, Value.int IntKind.i64 (findH x nd).up,
      Value.int IntKind.i64 (findH x nd).dn],
      Value.bool (findB x nd)])))) (by kernel_rfl) ?_
  have h' := h.sz hn
  refine ⟨rfl, _, right_q x a c hx _ h', ?_⟩
  cases hr : rightB x
  · exact ifB_true ⟨by simp [findH, findB, hr, hd0]⟩
  · refine ifB_false ⟨⟨0, by simp⟩, fun k ⟨hk, hq⟩ => ifB_intro (fun hb => ?_) (fun hb => ⟨?_⟩)⟩
    · have hk2 : k < x.hs.length := by simpa using hb
      obtain ⟨b, o, rfl, hc⟩ := h'.cells (by rw [hds_len]; omega)
      have hlen := hx.len
      have w1 : IntKind.i64.wrap ((k : Int) + 1) = ((k + 1 : Nat) : Int) := by simp [IntKind.wrap_i64]; omega
      rw [fndH_drop hk2] at hq
      refine ⟨b, o, rfl, by omega, _, _, _, _, by simpa using hd_at hc hk2, ifB_intro (fun h1 => ⟨?_⟩) (fun h1 => ⟨k + 1, ⟨⟨hk2, ?_⟩, by simp [w1]⟩, by omega⟩)⟩
      · simp at h1; simp [findH, findB, hr, hq, h1]
      · simp at h1; simp [hq, h1]
    · have : k = x.hs.length := by simp at hb; omega
      subst this
      simp [fndH] at hq
      simp [findH, findB, hr, fndH, hd0]
      have : List.find? (fun h => h.nd == nd) x.hs = none := by simpa using hq
      simp [this]
      exact hq

def plainB (x : Ac) : Bool := rightB x && decide (x.lo = 0) && decide (x.hi = 0) && decide (x.base = 0) && x.hs.isEmpty && decide (x.round = 0) && decide (x.lk.cl = 0)

end Go.Proofs.Ytfkielfnceeedaa
