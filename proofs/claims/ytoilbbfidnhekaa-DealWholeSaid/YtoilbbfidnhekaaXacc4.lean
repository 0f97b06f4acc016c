/-
  Contracts of functions of this seat: what each hands back, and what it leaves of memory (xacc4). Nothing here is trusted: Lean checks it.
-/
import Derived.Test.YtoilbbfidnhekaaXacc3
set_option linter.unusedVariables false
set_option linter.unusedSimpArgs false
namespace Go.Proofs.Ytoilbbfidnhekaa.Acc
open Go.Vc Go.RowKit

theorem check_q (x : Ac) (a : Option Addr) (c : Nat) (hx : x.wf) (m : M) (h : Row m a (hds x.hs)) : QSpec Try.prog 39 [acv x a c] m (I (if rightB x then 0 else 21)) := by
  refine QSpec.of_vc Try.func39 (ann := fun _ => noAnn) fun n hn => ?_
  refine vc_by (X :=
      true = true ∧
      ∃ (b : Bool),
      QSpec Try.prog (67 : Nat)
      [Value.agg
      #[Value.string x.key, Value.int IntKind.i64 x.lo, Value.int IntKind.i64 x.hi, Value.int IntKind.i64 x.base, Value.int IntKind.i64 x.round, Value.slice a x.hs.length c,
      Value.int IntKind.i64 x.lk.cl, Value.int IntKind.i64 x.lk.sq, Value.int IntKind.i64 x.lk.hm, Value.int IntKind.i64 x.lk.n]]
      { π := m.π, sz := n, uf := m.uf : M } (Value.bool b) ∧
      ifB (!b) (Done (Value.int IntKind.i64 (21 : Int) = Value.int IntKind.i64 (if rightB x = true then (0 : Int) else (21 : Int))))
      (Done (Value.int IntKind.i64 (0 : Int) = Value.int IntKind.i64 (if rightB x = true then (0 : Int) else (21 : Int))))) (by kernel_rfl) ?_
  refine ⟨rfl, _, right_q x a c hx _ (h.sz hn), ?_⟩
  cases rightB x <;> exact ⟨rfl⟩

theorem one_hds (l : List Hd) : oneCells (hds l) = true := by
  induction l with
  | nil => rfl
  | cons x r ih => exact Bool.and_eq_true_iff.2 ⟨rfl, Bool.and_eq_true_iff.2 ⟨rfl, Bool.and_eq_true_iff.2 ⟨rfl, Bool.and_eq_true_iff.2 ⟨rfl, ih⟩⟩⟩⟩

theorem zr_hd (k : Nat) : (zeroRow Try.prog 98 k).length = k * 4 := zrLen (by kernel_rfl) k

theorem clone_q (l : List Hd) (a : Option Addr) (c : Nat) (hn : l.length ≤ 1048576) (h0 : a = none → l = []) (m : M) (h : Row m a (hds l)) : Vc.Spec Try.prog 84 [.slice a l.length c] m (fun v m' => ∃ a' c', v = .slice a' l.length c' ∧ NewR m.sz (fun _ => False) m' 4 a' l.length c' (hds l)) := by
  refine Vc.Spec.of_vc Try.func84 (ann := noAnn) ?_
  refine vc_by (X :=
      true = true ∧
      ifB a.isNone
      (Done
      (∃ (a' : Option Addr),
      ∃ (c' : Nat), Value.slice none (0 : Nat) (0 : Nat) = Value.slice a' l.length c' ∧ NewR m.sz (fun (x : Nat) => False) m (4 : Nat) a' l.length c' (hds l)))
      (true = true ∧
      ∀ (b : Nat),
      m.sz ≤ b →
      ∃ (old : List Value),
      ∃ (src : List Value),
      AppPre m.sz (fun (x : Nat) => False) (m.newBlock b []) (4 : Nat) (32 : Nat) (some { block := b, off := (0 : Nat) : Addr }) (0 : Nat) (0 : Nat) a l.length old src ∧
      ∀ (a' : Option Addr) (c' : Nat) (m' : M),
      AppPost Try.prog (98 : Nat) (m.newBlock b []) (4 : Nat) (some { block := b, off := (0 : Nat) : Addr }) (0 : Nat) (0 : Nat) l.length old src a' c' m' →
      Done
      (∃ (a'_1 : Option Addr),
      ∃ (c'_1 : Nat),
      Value.slice a' ((0 : Nat) + l.length) c' = Value.slice a'_1 l.length c'_1 ∧ NewR m.sz (fun (x : Nat) => False) m' (4 : Nat) a'_1 l.length c'_1 (hds l)))) (by kernel_rfl) ?_
  refine ⟨rfl, ifB_intro (fun h1 => ⟨?_⟩) (fun h1 => ⟨rfl, fun b hb => ?_⟩)⟩
  · have : l = [] := h0 (by simpa using h1)
    subst this
    exact ⟨_, _, rfl, .nil _⟩
  · have ho : OwnB m.sz (fun _ => False) (m.newBlock b []) 4 (some ⟨b, 0, none⟩) 0 0 [] := OwnB.fresh hb rfl
    have hr : Row (m.newBlock b []) a (hds l) := h.newBlock hb
    refine ⟨_, _, ho.appPre hr (hds_len l) (one_hds l) (by omega), fun a' c' m' hp => ⟨a', c', by simp, .own ?_⟩⟩
    have := ho.append hp (hds_len l) zr_hd (by simp only [M.newBlock]; omega)
    simpa using this

theorem copied_q (x : Ac) (a : Option Addr) (c : Nat) (hn : x.hs.length ≤ 1048576) (h0 : a = none → x.hs = []) (m : M) (h : Row m a (hds x.hs)) : Vc.Spec Try.prog 71 [acv x a c] m (fun v m' => ∃ a' c', v = acv x a' c' ∧ NewR m.sz (fun _ => False) m' 4 a' x.hs.length c' (hds x.hs)) := by
  refine Vc.Spec.of_vc Try.func71 (ann := noAnn) ?_
  refine vc_by (X :=
      true = true ∧
      ∃ (S' : Nat → Prop),
      (∀ (b : Nat), S' b → m.uf b ∧ (m.sz ≤ b ∨ False)) ∧
      ∀ (n : Nat),
      m.sz ≤ n →
      SpecW Try.prog (84 : Nat) [Value.slice a x.hs.length c] { π := m.π, sz := n, uf := m.uf : M } S' fun (v : Value) (m' : M) =>
      ∃ (a : Option Addr),
      ∃ (n : Nat),
      ∃ (c : Nat),
      v = Value.slice a n c ∧
      Done
      (∃ (a' : Option Addr),
      ∃ (c' : Nat),
      Value.agg
      #[Value.string x.key, Value.int IntKind.i64 x.lo, Value.int IntKind.i64 x.hi, Value.int IntKind.i64 x.base, Value.int IntKind.i64 x.round,
      Value.slice a n c, Value.int IntKind.i64 x.lk.cl, Value.int IntKind.i64 x.lk.sq, Value.int IntKind.i64 x.lk.hm, Value.int IntKind.i64 x.lk.n] =
      Value.agg
      #[Value.string x.key, Value.int IntKind.i64 x.lo, Value.int IntKind.i64 x.hi, Value.int IntKind.i64 x.base, Value.int IntKind.i64 x.round,
      Value.slice a' x.hs.length c', Value.int IntKind.i64 x.lk.cl, Value.int IntKind.i64 x.lk.sq, Value.int IntKind.i64 x.lk.hm,
      Value.int IntKind.i64 x.lk.n] ∧
      NewR m.sz (fun (x : Nat) => False) m' (4 : Nat) a' x.hs.length c' (hds x.hs))) (by kernel_rfl) ?_
  refine ⟨rfl, _, noS, fun n hn' => (clone_q x.hs a c hn h0 _ (h.sz hn')).monoW fun v m' hag ⟨a', c', hv, hr⟩ => ⟨a', _, c', hv, ⟨a', c', rfl, ?_⟩⟩⟩
  exact hr.lower hn'

def ac0 : Ac := ⟨.empty, 0, 0, 0, 0, [], ⟨0, 0, 0, 0⟩⟩

theorem locked_q (x : Ac) (a : Option Addr) (c : Nat) (m : M) : QSpec Try.prog 72 [acv x a c] m (.bool (decide (x.lk.cl ≠ 0))) := by
  refine QSpec.of_vc Try.func72 (ann := fun _ => noAnn) fun n hn => ?_
  refine vc_by (X :=
      true = true ∧ Done (Value.bool (x.lk.cl != (0 : Int)) = Value.bool (decide (x.lk.cl ≠ (0 : Int))))) (by kernel_rfl) ?_
  exact ⟨rfl, ⟨by simp [bne, Bool.beq_eq_decide_eq]⟩⟩

def roomDn (x : Ac) : Int := if rightB x && decide (x.lk.cl = 0) then sumI (dnsL x) - x.lo else 0

def roomUp (x : Ac) : Int := if rightB x && decide (x.lk.cl = 0) then x.hi - sumI (upsL x) else 0

structure RightP (x : Ac) : Prop where
  key : keyB x.key = true
  has : x.lo ≤ x.base ∧ x.base ≤ x.hi
  round : 0 ≤ x.round
  hold : holdB 0 x.hs = true
  up : sumI (upsL x) ≤ x.hi
  dn : x.lo ≤ sumI (dnsL x)
  lock : lockB x = true

theorem right_iff (x : Ac) : rightB x = true ↔ RightP x := by
  simp only [rightB, hasB, Bool.and_eq_true, decide_eq_true_eq]
  constructor
  · rintro ⟨⟨⟨⟨⟨⟨h1, h2⟩, h3⟩, h4⟩, h5⟩, h6⟩, h7⟩; exact ⟨h1, h2, h3, h4, h5, h6, h7⟩
  · rintro ⟨h1, h2, h3, h4, h5, h6, h7⟩; exact ⟨⟨⟨⟨⟨⟨h1, h2⟩, h3⟩, h4⟩, h5⟩, h6⟩, h7⟩

theorem RightP.bounds {x : Ac} (h : RightP x) (hx : x.wf) : In64 (sumI (upsL x)) ∧ In64 (sumI (dnsL x)) ∧ x.base ≤ sumI (upsL x) ∧ sumI (dnsL x) ≤ x.base := by
  have h1 := up_ge h.hold
  have h2 := h.up
  have h3 := h.dn
  have h4 := h.has
  have h5 := hx.lo
  have h6 := hx.hi
  unfold In64 at *
  omega

def totB (x : Ac) : Bool := rightB x && decide (x.lk.cl = 0) && x.hs.isEmpty

theorem total_q (x : Ac) (a : Option Addr) (c : Nat) (hx : x.wf) (m : M) (h : Row m a (hds x.hs)) : QSpec Try.prog 82 [acv x a c] m (.tuple #[I (if totB x then x.base else 0), .bool (totB x)]) := by
  refine QSpec.of_vc Try.func82 (ann := fun _ => noAnn) fun n hn => ?_
  refine vc_by (X :=
      true = true ∧
      ∃ (b : Bool),
      QSpec Try.prog (67 : Nat)
      [Value.agg
      #[Value.string x.key, Value.int IntKind.i64 x.lo, Value.int IntKind.i64 x.hi, Value.int IntKind.i64 x.base, Value.int IntKind.i64 x.round, Value.slice a x.hs.length c,
      Value.int IntKind.i64 x.lk.cl, Value.int IntKind.i64 x.lk.sq, Value.int IntKind.i64 x.lk.hm, Value.int IntKind.i64 x.lk.n]]
      { π := m.π, sz := n, uf := m.uf : M } (Value.bool b) ∧
      ifB (!b)
      (Done
      (Value.tuple #[Value.int IntKind.i64 (0 : Int), Value.bool false] =
      Value.tuple #[Value.int IntKind.i64 (if totB x = true then x.base else (0 : Int)), Value.bool (totB x)]))
      (∃ (b : Bool),
      QSpec Try.prog (72 : Nat)
      [Value.agg
      #[Value.string x.key, Value.int IntKind.i64 x.lo, Value.int IntKind.i64 x.hi, Value.int IntKind.i64 x.base, Value.int IntKind.i64 x.round,
      Value.slice a x.hs.length c, Value.int IntKind.i64 x.lk.cl, Value.int IntKind.i64 x.lk.sq, Value.int IntKind.i64 x.lk.hm, Value.int IntKind.i64 x.lk.n]]
      { π := m.π, sz := n, uf := m.uf : M } (Value.bool b) ∧
      ifB b
      (Done
      (Value.tuple #[Value.int IntKind.i64 (0 : Int), Value.bool false] =
      Value.tuple #[Value.int IntKind.i64 (if totB x = true then x.base else (0 : Int)), Value.bool (totB x)]))
      (ifB (decide ((↑x.hs.length : Int) > (0 : Int)))
      (Done
      (Value.tuple #[Value.int IntKind.i64 (0 : Int), Value.bool false] =
      Value.tuple #[Value.int IntKind.i64 (if totB x = true then x.base else (0 : Int)), Value.bool (totB x)]))
      (Done
      (Value.tuple #[Value.int IntKind.i64 x.base, Value.bool true] =
      Value.tuple #[Value.int IntKind.i64 (if totB x = true then x.base else (0 : Int)), Value.bool (totB x)]))))) (by kernel_rfl) ?_
  refine ⟨rfl, _, right_q x a c hx _ (h.sz hn), ?_⟩
  cases hr : rightB x
  · exact ifB_true ⟨by simp [totB, hr]⟩
  · refine ifB_false ⟨_, locked_q x a c _, ifB_intro (fun h1 => ⟨?_⟩) (fun h1 => ifB_intro (fun h2 => ⟨?_⟩) (fun h2 => ⟨?_⟩))⟩
    · simp at h1; simp [totB, h1]
    · have : x.hs ≠ [] := fun e => by simp [e] at h2
      simp [totB, this]
    · have : x.hs = [] := by simpa using h2
      simp at h1; simp [totB, hr, h1, this]

def hd0 : Hd := ⟨0, 0, 0, 0⟩

abbrev hdv (h : Hd) : Value := .agg #[I h.nd, I h.le, I h.up, I h.dn]

def fndH (l : List Hd) (nd : Int) : Option Hd := l.find? (fun h => h.nd == nd)

def findH (x : Ac) (nd : Int) : Hd := if rightB x then (fndH x.hs nd).getD hd0 else hd0

def findB (x : Ac) (nd : Int) : Bool := rightB x && (fndH x.hs nd).isSome

theorem fndH_drop {l : List Hd} {k : Nat} (hk : k < l.length) (nd : Int) : fndH (l.drop k) nd = if l[k].nd = nd then some l[k] else fndH (l.drop (k + 1)) nd := by
  rw [List.drop_eq_getElem_cons hk]
  unfold fndH
  rw [List.find?_cons]
  by_cases h : l[k].nd = nd
  · simp [h]
  · have : (l[k].nd == nd) = false := by simpa using h
    simp [h, this]

def plainB (x : Ac) : Bool := rightB x && decide (x.lo = 0) && decide (x.hi = 0) && decide (x.base = 0) && x.hs.isEmpty && decide (x.round = 0) && decide (x.lk.cl = 0)

end Go.Proofs.Ytoilbbfidnhekaa.Acc
