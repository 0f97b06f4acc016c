/-
  Contracts of functions of this seat: what each hands back, and what it leaves of memory (acc9, acc10, acc11, acc12, acc13, acc14, ins_hd, bs_hd). Nothing here is trusted: Lean checks it.
-/
import Derived.Test.YtlifpjllhibdpaaPart1
import Derived.Test.YtlifpjllhibdpaaVcList
import Derived.Test.YtlifpjllhibdpaaVcOver
set_option linter.unusedVariables false
set_option linter.unusedSimpArgs false
namespace Go.Proofs.Ytlifpjllhibdpaa
open Go.Vc Go.RowKit

/-- an account and an Errno, handed back: the holders in a block of their own, or none -/
structure AcR (m : M) (y : Ac × Int) (v : Value) (m' : M) : Prop where
  out : ∃ a' c', v = .tuple #[acv y.1 a' c', I y.2] ∧ NewR m.sz (fun _ => False) m' 4 a' y.1.hs.length c' (hds y.1.hs)

def aAdd (x : Ac) (n : Int) : Ac × Int :=
  if rightB x = false then (ac0, 21) else if n = 0 then (ac0, 1) else if x.lk.cl ≠ 0 then (ac0, 152) else
  if (0 < n ∧ roomUp x < n) ∨ (n < 0 ∧ roomDn x < -n) then (ac0, 150) else ({ x with base := x.base + n }, 0)

def aFreeze (x : Ac) (r : Int) : Ac × Int :=
  if rightB x = false then (ac0, 21) else if r < 1 ∨ 4611686018427387904 < r then (ac0, 1) else ({ x with round := if x.round = 0 then r else x.round }, 0)

def aThaw (x : Ac) : Ac × Int := if rightB x = false then (ac0, 21) else ({ x with round := 0 }, 0)

def knownE (x : Ac) : Int := if rightB x = false then 21 else if totB x then 0 else 152

def aBounds (x : Ac) (lo hi : Int) : Ac × Int :=
  if knownE x ≠ 0 then (ac0, knownE x) else if hasB lo hi x.base = false then (ac0, 150) else ({ x with lo := lo, hi := hi }, 0)

def aTake (x : Ac) (k : Lk) : Ac × Int :=
  if rightB x = false then (ac0, 21) else if keeperB k = false then (ac0, 1) else if knownE x ≠ 0 then (ac0, knownE x) else
  if fitsB x k = false then (ac0, 150) else ({ x with lk := k }, 0)

def lk0 : Lk := ⟨0, 0, 0, 0⟩

def aFree (x : Ac) (b : Bool) : Ac × Int :=
  if rightB x = false then (ac0, 21) else if x.lk.cl = 0 then (ac0, 60) else ({ x with base := if b then x.base + x.lk.n else x.base, lk := lk0 }, 0)

theorem fail_d {m m' : M} {y : Ac × Int} {e : Int} (h : y = (ac0, e)) : Done (AcR m y (.tuple #[acv ac0 none 0, I e]) m') := ⟨by subst h; exact ⟨none, 0, rfl, .nil _⟩⟩

theorem ok_d {m m' : M} {y : Ac × Int} {z : Ac} {a' : Option Addr} {c' n : Nat} (h : y = (z, 0)) (hr : NewR n (fun _ => False) m' 4 a' z.hs.length c' (hds z.hs)) (hn : m.sz ≤ n) : Done (AcR m y (.tuple #[acv z a' c', I 0]) m') := ⟨by subst h; exact ⟨a', c', rfl, hr.lower hn⟩⟩

theorem room_bounds {x : Ac} (hx : x.wf) (hr : rightB x = true) (hl : x.lk.cl = 0) : 0 ≤ roomUp x ∧ roomUp x ≤ x.hi - x.base ∧ 0 ≤ roomDn x ∧ roomDn x ≤ x.base - x.lo ∧ roomUp x = x.hi - sumI (upsL x) ∧ roomDn x = sumI (dnsL x) - x.lo := by
  have hp := (right_iff x).1 hr
  have hb := hp.bounds hx
  have h1 := hp.up
  have h2 := hp.dn
  simp [roomUp, roomDn, hr, hl] at *
  omega

theorem right_len {x : Ac} (h : rightB x = true) : x.hs.length ≤ 5 := hold_len ((right_iff x).1 h).hold

theorem aadd_s (x : Ac) (a : Option Addr) (c : Nat) (n : Int) (hx : x.wf) (hn : In64 n) (h0 : a = none → x.hs = []) (m : M) (h : Row m a (hds x.hs)) : Vc.Spec Try.prog 27 [acv x a c, I n] m (AcR m (aAdd x n)) := by
  refine Vc.Spec.of_vc Try.func27 (ann := noAnn) ?_
  refine vc_by (X :=
      true = true ∧
      ∃ (b : Bool),
      QSpec Try.prog (45 : Nat)
      [Value.agg
      #[Value.string x.key, Value.int IntKind.i64 x.lo, Value.int IntKind.i64 x.hi, Value.int IntKind.i64 x.base, Value.int IntKind.i64 x.round, Value.slice a x.hs.length c,
      Value.int IntKind.i64 x.lk.cl, Value.int IntKind.i64 x.lk.sq, Value.int IntKind.i64 x.lk.hm, Value.int IntKind.i64 x.lk.n]]
      m (Value.bool b) ∧
      ifB (!b)
      (Done
      (AcR m (aAdd x n)
      (Value.tuple
      #[Value.agg
      #[Value.string { data := #[] : ByteArray }, Value.int IntKind.i64 (0 : Int), Value.int IntKind.i64 (0 : Int), Value.int IntKind.i64 (0 : Int),
      Value.int IntKind.i64 (0 : Int), Value.slice none (0 : Nat) (0 : Nat), Value.int IntKind.i64 (0 : Int), Value.int IntKind.i64 (0 : Int),
      Value.int IntKind.i64 (0 : Int), Value.int IntKind.i64 (0 : Int)],
      Value.int IntKind.i64 (21 : Int)])
      m))
      (ifB (n == (0 : Int))
      (Done
      (AcR m (aAdd x n)
      (Value.tuple
      #[Value.agg
      #[Value.string { data := #[] : ByteArray }, Value.int IntKind.i64 (0 : Int), Value.int IntKind.i64 (0 : Int), Value.int IntKind.i64 (0 : Int),
      Value.int IntKind.i64 (0 : Int), Value.slice none (0 : Nat) (0 : Nat), Value.int IntKind.i64 (0 : Int), Value.int IntKind.i64 (0 : Int),
      Value.int IntKind.i64 (0 : Int), Value.int IntKind.i64 (0 : Int)],
      Value.int IntKind.i64 (1 : Int)])
      m))
      (∃ (b : Bool),
      QSpec Try.prog (46 : Nat)
      [Value.agg
      #[Value.string x.key, Value.int IntKind.i64 x.lo, Value.int IntKind.i64 x.hi, Value.int IntKind.i64 x.base, Value.int IntKind.i64 x.round,
      Value.slice a x.hs.length c, Value.int IntKind.i64 x.lk.cl, Value.int IntKind.i64 x.lk.sq, Value.int IntKind.i64 x.lk.hm, Value.int IntKind.i64 x.lk.n]]
      m (Value.bool b) ∧
      ifB b
      (Done
      (AcR m (aAdd x n)
      (Value.tuple
      #[Value.agg
      #[Value.string { data := #[] : ByteArray }, Value.int IntKind.i64 (0 : Int), Value.int IntKind.i64 (0 : Int), Value.int IntKind.i64 (0 : Int),
      Value.int IntKind.i64 (0 : Int), Value.slice none (0 : Nat) (0 : Nat), Value.int IntKind.i64 (0 : Int), Value.int IntKind.i64 (0 : Int),
      Value.int IntKind.i64 (0 : Int), Value.int IntKind.i64 (0 : Int)],
      Value.int IntKind.i64 (152 : Int)])
      m))
      (∃ (n_1 : Int),
      ∃ (n_2 : Int),
      QSpec Try.prog (15 : Nat)
      [Value.agg
      #[Value.string x.key, Value.int IntKind.i64 x.lo, Value.int IntKind.i64 x.hi, Value.int IntKind.i64 x.base, Value.int IntKind.i64 x.round,
      Value.slice a x.hs.length c, Value.int IntKind.i64 x.lk.cl, Value.int IntKind.i64 x.lk.sq, Value.int IntKind.i64 x.lk.hm,
      Value.int IntKind.i64 x.lk.n]]
      m (Value.tuple #[Value.int IntKind.u64 n_1, Value.int IntKind.u64 n_2]) ∧
      ifB (decide (n > (0 : Int)))
      (ifB (decide (IntKind.u64.wrap n > n_2))
      (Done
      (AcR m (aAdd x n)
      (Value.tuple
      #[Value.agg
      #[Value.string { data := #[] : ByteArray }, Value.int IntKind.i64 (0 : Int), Value.int IntKind.i64 (0 : Int), Value.int IntKind.i64 (0 : Int),
      Value.int IntKind.i64 (0 : Int), Value.slice none (0 : Nat) (0 : Nat), Value.int IntKind.i64 (0 : Int), Value.int IntKind.i64 (0 : Int),
      Value.int IntKind.i64 (0 : Int), Value.int IntKind.i64 (0 : Int)],
      Value.int IntKind.i64 (150 : Int)])
      m))
      (ifB (decide (n < (0 : Int)))
      (ifB (decide (IntKind.u64.wrap ((0 : Int) - IntKind.u64.wrap n) > n_1))
      (Done
      (AcR m (aAdd x n)
      (Value.tuple
      #[Value.agg
      #[Value.string { data := #[] : ByteArray }, Value.int IntKind.i64 (0 : Int), Value.int IntKind.i64 (0 : Int),
      Value.int IntKind.i64 (0 : Int), Value.int IntKind.i64 (0 : Int), Value.slice none (0 : Nat) (0 : Nat), Value.int IntKind.i64 (0 : Int),
      Value.int IntKind.i64 (0 : Int), Value.int IntKind.i64 (0 : Int), Value.int IntKind.i64 (0 : Int)],
      Value.int IntKind.i64 (150 : Int)])
      m))
      (∀ (n_3 : Nat),
      m.sz ≤ n_3 →
      Vc.Spec Try.prog (49 : Nat)
      [Value.agg
      #[Value.string x.key, Value.int IntKind.i64 x.lo, Value.int IntKind.i64 x.hi, Value.int IntKind.i64 x.base, Value.int IntKind.i64 x.round,
      Value.slice a x.hs.length c, Value.int IntKind.i64 x.lk.cl, Value.int IntKind.i64 x.lk.sq, Value.int IntKind.i64 x.lk.hm,
      Value.int IntKind.i64 x.lk.n]]
      { π := m.π, sz := n_3, uf := m.uf : M } fun (v : Value) (m' : M) =>
      ∃ (s : ByteArray),
      ∃ (n_4 : Int),
      ∃ (n_5 : Int),
      ∃ (n_6 : Int),
      ∃ (n_7 : Int),
      ∃ (a : Option Addr),
      ∃ (n_8 : Nat),
      ∃ (c : Nat),
      ∃ (n_9 : Int),
      ∃ (n_10 : Int),
      ∃ (n_11 : Int),
      ∃ (n_12 : Int),
      v =
      Value.agg
      #[Value.string s, Value.int IntKind.i64 n_4, Value.int IntKind.i64 n_5, Value.int IntKind.i64 n_6,
      Value.int IntKind.i64 n_7, Value.slice a n_8 c, Value.int IntKind.i64 n_9, Value.int IntKind.i64 n_10,
      Value.int IntKind.i64 n_11, Value.int IntKind.i64 n_12] ∧
      Done
      (AcR m (aAdd x n)
      (Value.tuple
      #[Value.agg
      #[Value.string s, Value.int IntKind.i64 n_4, Value.int IntKind.i64 n_5,
      Value.int IntKind.i64 (IntKind.i64.wrap (n_6 + n)), Value.int IntKind.i64 n_7, Value.slice a n_8 c,
      Value.int IntKind.i64 n_9, Value.int IntKind.i64 n_10, Value.int IntKind.i64 n_11,
      Value.int IntKind.i64 n_12],
      Value.int IntKind.i64 (0 : Int)])
      m')))
      (∀ (n_3 : Nat),
      m.sz ≤ n_3 →
      Vc.Spec Try.prog (49 : Nat)
      [Value.agg
      #[Value.string x.key, Value.int IntKind.i64 x.lo, Value.int IntKind.i64 x.hi, Value.int IntKind.i64 x.base, Value.int IntKind.i64 x.round,
      Value.slice a x.hs.length c, Value.int IntKind.i64 x.lk.cl, Value.int IntKind.i64 x.lk.sq, Value.int IntKind.i64 x.lk.hm,
      Value.int IntKind.i64 x.lk.n]]
      { π := m.π, sz := n_3, uf := m.uf : M } fun (v : Value) (m' : M) =>
      ∃ (s : ByteArray),
      ∃ (n_4 : Int),
      ∃ (n_5 : Int),
      ∃ (n_6 : Int),
      ∃ (n_7 : Int),
      ∃ (a : Option Addr),
      ∃ (n_8 : Nat),
      ∃ (c : Nat),
      ∃ (n_9 : Int),
      ∃ (n_10 : Int),
      ∃ (n_11 : Int),
      ∃ (n_12 : Int),
      v =
      Value.agg
      #[Value.string s, Value.int IntKind.i64 n_4, Value.int IntKind.i64 n_5, Value.int IntKind.i64 n_6,
      Value.int IntKind.i64 n_7, Value.slice a n_8 c, Value.int IntKind.i64 n_9, Value.int IntKind.i64 n_10,
      Value.int IntKind.i64 n_11, Value.int IntKind.i64 n_12] ∧
      Done
      (AcR m (aAdd x n)
      (Value.tuple
      #[Value.agg
      #[Value.string s, Value.int IntKind.i64 n_4, Value.int IntKind.i64 n_5,
      Value.int IntKind.i64 (IntKind.i64.wrap (n_6 + n)), Value.int IntKind.i64 n_7, Value.slice a n_8 c,
      Value.int IntKind.i64 n_9, Value.int IntKind.i64 n_10, Value.int IntKind.i64 n_11,
      Value.int IntKind.i64 n_12],
      Value.int IntKind.i64 (0 : Int)])
      m'))))
      (ifB (decide (n < (0 : Int)))
      (ifB (decide (IntKind.u64.wrap ((0 : Int) - IntKind.u64.wrap n) > n_1))
      (Done
      (AcR m (aAdd x n)
      (Value.tuple
      #[Value.agg
      #[Value.string { data := #[] : ByteArray }, Value.int IntKind.i64 (0 : Int), Value.int IntKind.i64 (0 : Int), Value.int IntKind.i64 (0 : Int),
      Value.int IntKind.i64 (0 : Int), Value.slice none (0 : Nat) (0 : Nat), Value.int IntKind.i64 (0 : Int), Value.int IntKind.i64 (0 : Int),
      Value.int IntKind.i64 (0 : Int), Value.int IntKind.i64 (0 : Int)],
      Value.int IntKind.i64 (150 : Int)])
      m))
      (∀ (n_3 : Nat),
      m.sz ≤ n_3 →
      Vc.Spec Try.prog (49 : Nat)
      [Value.agg
      #[Value.string x.key, Value.int IntKind.i64 x.lo, Value.int IntKind.i64 x.hi, Value.int IntKind.i64 x.base, Value.int IntKind.i64 x.round,
      Value.slice a x.hs.length c, Value.int IntKind.i64 x.lk.cl, Value.int IntKind.i64 x.lk.sq, Value.int IntKind.i64 x.lk.hm,
      Value.int IntKind.i64 x.lk.n]]
      { π := m.π, sz := n_3, uf := m.uf : M } fun (v : Value) (m' : M) =>
      ∃ (s : ByteArray),
      ∃ (n_4 : Int),
      ∃ (n_5 : Int),
      ∃ (n_6 : Int),
      ∃ (n_7 : Int),
      ∃ (a : Option Addr),
      ∃ (n_8 : Nat),
      ∃ (c : Nat),
      ∃ (n_9 : Int),
      ∃ (n_10 : Int),
      ∃ (n_11 : Int),
      ∃ (n_12 : Int),
      v =
      Value.agg
      #[Value.string s, Value.int IntKind.i64 n_4, Value.int IntKind.i64 n_5, Value.int IntKind.i64 n_6,
      Value.int IntKind.i64 n_7, Value.slice a n_8 c, Value.int IntKind.i64 n_9, Value.int IntKind.i64 n_10,
      Value.int IntKind.i64 n_11, Value.int IntKind.i64 n_12] ∧
      Done
      (AcR m (aAdd x n)
      (Value.tuple
      #[Value.agg
      #[Value.string s, Value.int IntKind.i64 n_4, Value.int IntKind.i64 n_5,
      Value.int IntKind.i64 (IntKind.i64.wrap (n_6 + n)), Value.int IntKind.i64 n_7, Value.slice a n_8 c,
      Value.int IntKind.i64 n_9, Value.int IntKind.i64 n_10, Value.int IntKind.i64 n_11,
      Value.int IntKind.i64 n_12],
      Value.int IntKind.i64 (0 : Int)])
      m')))
      (∀ (n_3 : Nat),
      m.sz ≤ n_3 →
      Vc.Spec Try.prog (49 : Nat)
      [Value.agg
      #[Value.string x.key, Value.int IntKind.i64 x.lo, Value.int IntKind.i64 x.hi, Value.int IntKind.i64 x.base, Value.int IntKind.i64 x.round,
      Value.slice a x.hs.length c, Value.int IntKind.i64 x.lk.cl, Value.int IntKind.i64 x.lk.sq, Value.int IntKind.i64 x.lk.hm,
      Value.int IntKind.i64 x.lk.n]]
      { π := m.π, sz := n_3, uf := m.uf : M } fun (v : Value) (m' : M) =>
      ∃ (s : ByteArray),
      ∃ (n_4 : Int),
      ∃ (n_5 : Int),
      ∃ (n_6 : Int),
      ∃ (n_7 : Int),
      ∃ (a : Option Addr),
      ∃ (n_8 : Nat),
      ∃ (c : Nat),
      ∃ (n_9 : Int),
      ∃ (n_10 : Int),
      ∃ (n_11 : Int),
      ∃ (n_12 : Int),
      v =
      Value.agg
      #[Value.string s, Value.int IntKind.i64 n_4, Value.int IntKind.i64 n_5, Value.int IntKind.i64 n_6,
      Value.int IntKind.i64 n_7, Value.slice a n_8 c, Value.int IntKind.i64 n_9, Value.int IntKind.i64 n_10,
      Value.int IntKind.i64 n_11, Value.int IntKind.i64 n_12] ∧
      Done
      (AcR m (aAdd x n)
      (Value.tuple
      #[Value.agg
      #[Value.string s, Value.int IntKind.i64 n_4, Value.int IntKind.i64 n_5,
      Value.int IntKind.i64 (IntKind.i64.wrap (n_6 + n)), Value.int IntKind.i64 n_7, Value.slice a n_8 c,
      Value.int IntKind.i64 n_9, Value.int IntKind.i64 n_10, Value.int IntKind.i64 n_11,
      Value.int IntKind.i64 n_12],
      Value.int IntKind.i64 (0 : Int)])
      m'))))))) (by kernel_rfl) ?_
  refine ⟨rfl, _, right_q x a c hx _ h, ?_⟩
  cases hr : rightB x
  · exact ifB_true (fail_d (by simp [aAdd, hr]))
  refine ifB_false (ifB_intro (fun h1 => fail_d ?_) (fun h1 => ⟨_, locked_q x a c _, ifB_intro (fun h2 => fail_d ?_) (fun h2 => ⟨_, _, room_q x a c hx _ h, ?_⟩)⟩))
  · simp at h1; simp [aAdd, hr, h1]
  · simp at h1 h2; simp [aAdd, hr, h1, h2]
  have h1 : n ≠ 0 := by simpa using h1
  have h2 : x.lk.cl = 0 := by simpa using h2
  have hb := room_bounds hx hr h2
  have hlo := hx.lo
  have hhi := hx.hi
  have hw1 : 0 < n → IntKind.u64.wrap n = n := fun h => by unfold In64 at hn; simp [IntKind.wrap_u64]; omega
  have hw2 : n < 0 → IntKind.u64.wrap (0 - IntKind.u64.wrap n) = -n := fun h => by unfold In64 at hn; simp [IntKind.wrap_u64]; omega
  refine ifB_intro (fun h3 => ifB_intro (fun h4 => fail_d ?_) (fun h4 => ifB_intro (fun h5 => ?_) (fun h5 N hN => ?_))) (fun h3 => ifB_intro (fun h4 => ifB_intro (fun h5 => fail_d ?_) (fun h5 N hN => ?_)) (fun h4 N hN => ?_))
  · simp at h3; rw [hw1 h3] at h4; simp at h4; simp [aAdd, hr, h1, h2]; omega
  · simp at h3 h5; omega
  rotate_left
  · simp at h4; rw [hw2 h4] at h5; simp at h5; simp [aAdd, hr, h1, h2]; omega
  all_goals
    refine (copied_q x a c (by have := right_len hr; omega) h0 _ (h.sz hN)).mono fun v m' hag ⟨a', c', hv, hr'⟩ => ⟨_, _, _, _, _, _, _, _, _, _, _, _, hv, ?_⟩
    have hnb : ¬ ((0 < n ∧ roomUp x < n) ∨ (n < 0 ∧ roomDn x < -n)) := by
      first
      | (simp at h3; rw [hw1 h3] at h4; simp at h4; omega)
      | (simp at h3 h4; rw [hw2 h4] at h5; simp at h5; omega)
      | (simp at h3 h4; omega)
    have e : IntKind.i64.wrap (x.base + n) = x.base + n := by unfold In64 at *; simp [IntKind.wrap_i64]; omega
    rw [e]
    exact ok_d (z := { x with base := x.base + n }) (by simp [aAdd, hr, h1, h2, hnb]) hr' hN

theorem afreeze_s (x : Ac) (a : Option Addr) (c : Nat) (n : Int) (hx : x.wf) (h0 : a = none → x.hs = []) (m : M) (h : Row m a (hds x.hs)) : Vc.Spec Try.prog 28 [acv x a c, I n] m (AcR m (aFreeze x n)) := by
  refine Vc.Spec.of_vc Try.func28 (ann := noAnn) ?_
  refine vc_by (X :=
      true = true ∧
      ∃ (b : Bool),
      QSpec Try.prog (45 : Nat)
      [Value.agg
      #[Value.string x.key, Value.int IntKind.i64 x.lo, Value.int IntKind.i64 x.hi, Value.int IntKind.i64 x.base, Value.int IntKind.i64 x.round, Value.slice a x.hs.length c,
      Value.int IntKind.i64 x.lk.cl, Value.int IntKind.i64 x.lk.sq, Value.int IntKind.i64 x.lk.hm, Value.int IntKind.i64 x.lk.n]]
      m (Value.bool b) ∧
      ifB (!b)
      (Done
      (AcR m (aFreeze x n)
      (Value.tuple
      #[Value.agg
      #[Value.string { data := #[] : ByteArray }, Value.int IntKind.i64 (0 : Int), Value.int IntKind.i64 (0 : Int), Value.int IntKind.i64 (0 : Int),
      Value.int IntKind.i64 (0 : Int), Value.slice none (0 : Nat) (0 : Nat), Value.int IntKind.i64 (0 : Int), Value.int IntKind.i64 (0 : Int),
      Value.int IntKind.i64 (0 : Int), Value.int IntKind.i64 (0 : Int)],
      Value.int IntKind.i64 (21 : Int)])
      m))
      (ifB (decide (n < (1 : Int)))
      (Done
      (AcR m (aFreeze x n)
      (Value.tuple
      #[Value.agg
      #[Value.string { data := #[] : ByteArray }, Value.int IntKind.i64 (0 : Int), Value.int IntKind.i64 (0 : Int), Value.int IntKind.i64 (0 : Int),
      Value.int IntKind.i64 (0 : Int), Value.slice none (0 : Nat) (0 : Nat), Value.int IntKind.i64 (0 : Int), Value.int IntKind.i64 (0 : Int),
      Value.int IntKind.i64 (0 : Int), Value.int IntKind.i64 (0 : Int)],
      Value.int IntKind.i64 (1 : Int)])
      m))
      (ifB (decide (n > (4611686018427387904 : Int)))
      (Done
      (AcR m (aFreeze x n)
      (Value.tuple
      #[Value.agg
      #[Value.string { data := #[] : ByteArray }, Value.int IntKind.i64 (0 : Int), Value.int IntKind.i64 (0 : Int), Value.int IntKind.i64 (0 : Int),
      Value.int IntKind.i64 (0 : Int), Value.slice none (0 : Nat) (0 : Nat), Value.int IntKind.i64 (0 : Int), Value.int IntKind.i64 (0 : Int),
      Value.int IntKind.i64 (0 : Int), Value.int IntKind.i64 (0 : Int)],
      Value.int IntKind.i64 (1 : Int)])
      m))
      (∀ (n_1 : Nat),
      m.sz ≤ n_1 →
      Vc.Spec Try.prog (49 : Nat)
      [Value.agg
      #[Value.string x.key, Value.int IntKind.i64 x.lo, Value.int IntKind.i64 x.hi, Value.int IntKind.i64 x.base, Value.int IntKind.i64 x.round,
      Value.slice a x.hs.length c, Value.int IntKind.i64 x.lk.cl, Value.int IntKind.i64 x.lk.sq, Value.int IntKind.i64 x.lk.hm, Value.int IntKind.i64 x.lk.n]]
      { π := m.π, sz := n_1, uf := m.uf : M } fun (v : Value) (m' : M) =>
      ∃ (s : ByteArray),
      ∃ (n_2 : Int),
      ∃ (n_3 : Int),
      ∃ (n_4 : Int),
      ∃ (n_5 : Int),
      ∃ (a : Option Addr),
      ∃ (n_6 : Nat),
      ∃ (c : Nat),
      ∃ (n_7 : Int),
      ∃ (n_8 : Int),
      ∃ (n_9 : Int),
      ∃ (n_10 : Int),
      v =
      Value.agg
      #[Value.string s, Value.int IntKind.i64 n_2, Value.int IntKind.i64 n_3, Value.int IntKind.i64 n_4, Value.int IntKind.i64 n_5,
      Value.slice a n_6 c, Value.int IntKind.i64 n_7, Value.int IntKind.i64 n_8, Value.int IntKind.i64 n_9,
      Value.int IntKind.i64 n_10] ∧
      ifB (n_5 == (0 : Int))
      (Done
      (AcR m (aFreeze x n)
      (Value.tuple
      #[Value.agg
      #[Value.string s, Value.int IntKind.i64 n_2, Value.int IntKind.i64 n_3, Value.int IntKind.i64 n_4, Value.int IntKind.i64 n,
      Value.slice a n_6 c, Value.int IntKind.i64 n_7, Value.int IntKind.i64 n_8, Value.int IntKind.i64 n_9,
      Value.int IntKind.i64 n_10],
      Value.int IntKind.i64 (0 : Int)])
      m'))
      (Done
      (AcR m (aFreeze x n)
      (Value.tuple
      #[Value.agg
      #[Value.string s, Value.int IntKind.i64 n_2, Value.int IntKind.i64 n_3, Value.int IntKind.i64 n_4,
      Value.int IntKind.i64 n_5, Value.slice a n_6 c, Value.int IntKind.i64 n_7, Value.int IntKind.i64 n_8,
      Value.int IntKind.i64 n_9, Value.int IntKind.i64 n_10],
      Value.int IntKind.i64 (0 : Int)])
      m')))))) (by kernel_rfl) ?_
  refine ⟨rfl, _, right_q x a c hx _ h, ?_⟩
  cases hr : rightB x
  · exact ifB_true (fail_d (by simp [aFreeze, hr]))
  refine ifB_false (ifB_intro (fun h1 => fail_d ?_) (fun h1 => ifB_intro (fun h2 => fail_d ?_) (fun h2 N hN => ?_)))
  · simp at h1; simp [aFreeze, hr]; omega
  · simp at h2; simp [aFreeze, hr]; omega
  · refine (copied_q x a c (by have := right_len hr; omega) h0 _ (h.sz hN)).mono fun v m' hag ⟨a', c', hv, hr'⟩ => ⟨_, _, _, _, _, _, _, _, _, _, _, _, hv, ?_⟩
    have hnb : ¬ (n < 1 ∨ 4611686018427387904 < n) := by simp at h1 h2; omega
    refine ifB_intro (fun h3 => ok_d (z := { x with round := n }) ?_ hr' hN) (fun h3 => ok_d (z := x) ?_ hr' hN)
    · simp at h3; simp [aFreeze, hr, hnb, h3]
    · simp at h3; simp [aFreeze, hr, hnb, h3]

theorem athaw_s (x : Ac) (a : Option Addr) (c : Nat) (hx : x.wf) (h0 : a = none → x.hs = []) (m : M) (h : Row m a (hds x.hs)) : Vc.Spec Try.prog 63 [acv x a c] m (AcR m (aThaw x)) := by
  refine Vc.Spec.of_vc Try.func63 (ann := noAnn) ?_
  refine vc_by (X :=
      true = true ∧
      ∃ (b : Bool),
      QSpec Try.prog (45 : Nat)
      [Value.agg
      #[Value.string x.key, Value.int IntKind.i64 x.lo, Value.int IntKind.i64 x.hi, Value.int IntKind.i64 x.base, Value.int IntKind.i64 x.round, Value.slice a x.hs.length c,
      Value.int IntKind.i64 x.lk.cl, Value.int IntKind.i64 x.lk.sq, Value.int IntKind.i64 x.lk.hm, Value.int IntKind.i64 x.lk.n]]
      m (Value.bool b) ∧
      ifB (!b)
      (Done
      (AcR m (aThaw x)
      (Value.tuple
      #[Value.agg
      #[Value.string { data := #[] : ByteArray }, Value.int IntKind.i64 (0 : Int), Value.int IntKind.i64 (0 : Int), Value.int IntKind.i64 (0 : Int),
      Value.int IntKind.i64 (0 : Int), Value.slice none (0 : Nat) (0 : Nat), Value.int IntKind.i64 (0 : Int), Value.int IntKind.i64 (0 : Int),
      Value.int IntKind.i64 (0 : Int), Value.int IntKind.i64 (0 : Int)],
      Value.int IntKind.i64 (21 : Int)])
      m))
      (∀ (n : Nat),
      m.sz ≤ n →
      Vc.Spec Try.prog (49 : Nat)
      [Value.agg
      #[Value.string x.key, Value.int IntKind.i64 x.lo, Value.int IntKind.i64 x.hi, Value.int IntKind.i64 x.base, Value.int IntKind.i64 x.round,
      Value.slice a x.hs.length c, Value.int IntKind.i64 x.lk.cl, Value.int IntKind.i64 x.lk.sq, Value.int IntKind.i64 x.lk.hm, Value.int IntKind.i64 x.lk.n]]
      { π := m.π, sz := n, uf := m.uf : M } fun (v : Value) (m' : M) =>
      ∃ (s : ByteArray),
      ∃ (n : Int),
      ∃ (n_1 : Int),
      ∃ (n_2 : Int),
      ∃ (n_3 : Int),
      ∃ (a : Option Addr),
      ∃ (n_4 : Nat),
      ∃ (c : Nat),
      ∃ (n_5 : Int),
      ∃ (n_6 : Int),
      ∃ (n_7 : Int),
      ∃ (n_8 : Int),
      v =
      Value.agg
      #[Value.string s, Value.int IntKind.i64 n, Value.int IntKind.i64 n_1, Value.int IntKind.i64 n_2, Value.int IntKind.i64 n_3,
      Value.slice a n_4 c, Value.int IntKind.i64 n_5, Value.int IntKind.i64 n_6, Value.int IntKind.i64 n_7, Value.int IntKind.i64 n_8] ∧
      Done
      (AcR m (aThaw x)
      (Value.tuple
      #[Value.agg
      #[Value.string s, Value.int IntKind.i64 n, Value.int IntKind.i64 n_1, Value.int IntKind.i64 n_2, Value.int IntKind.i64 (0 : Int),
      Value.slice a n_4 c, Value.int IntKind.i64 n_5, Value.int IntKind.i64 n_6, Value.int IntKind.i64 n_7,
      Value.int IntKind.i64 n_8],
      Value.int IntKind.i64 (0 : Int)])
      m'))) (by kernel_rfl) ?_
  refine ⟨rfl, _, right_q x a c hx _ h, ?_⟩
  cases hr : rightB x
  · exact ifB_true (fail_d (by simp [aThaw, hr]))
  refine ifB_false (fun N hN => ?_)
  refine (copied_q x a c (by have := right_len hr; omega) h0 _ (h.sz hN)).mono fun v m' hag ⟨a', c', hv, hr'⟩ => ⟨_, _, _, _, _, _, _, _, _, _, _, _, hv, ?_⟩
  exact ok_d (z := { x with round := 0 }) (by simp [aThaw, hr]) hr' hN

theorem known_right {x : Ac} (h : knownE x = 0) : rightB x = true := by
  cases hr : rightB x
  · simp [knownE, hr] at h
  · rfl

theorem lock_in {x : Ac} (hx : x.wf) (hr : rightB x = true) (h : x.lk.cl ≠ 0) : In64 (x.base + x.lk.n) := by
  have hl := ((right_iff x).1 hr).lock
  simp [lockB, h, fitsB, hasB] at hl
  have h1 := hx.lo
  have h2 := hx.hi
  unfold In64 at *
  omega

theorem known_q (x : Ac) (a : Option Addr) (c : Nat) (hx : x.wf) (m : M) (h : Row m a (hds x.hs)) : QSpec Try.prog 60 [acv x a c] m (I (knownE x)) := by
  refine QSpec.of_vc Try.func60 (ann := fun _ => noAnn) fun n hn => ?_
  refine vc_by (X :=
      true = true ∧
      ∃ (b : Bool),
      QSpec Try.prog (45 : Nat)
      [Value.agg
      #[Value.string x.key, Value.int IntKind.i64 x.lo, Value.int IntKind.i64 x.hi, Value.int IntKind.i64 x.base, Value.int IntKind.i64 x.round, Value.slice a x.hs.length c,
      Value.int IntKind.i64 x.lk.cl, Value.int IntKind.i64 x.lk.sq, Value.int IntKind.i64 x.lk.hm, Value.int IntKind.i64 x.lk.n]]
      { π := m.π, sz := n, uf := m.uf : M } (Value.bool b) ∧
      ifB (!b) (Done (Value.int IntKind.i64 (21 : Int) = Value.int IntKind.i64 (knownE x)))
      (∃ (n_1 : Int),
      ∃ (b : Bool),
      QSpec Try.prog (17 : Nat)
      [Value.agg
      #[Value.string x.key, Value.int IntKind.i64 x.lo, Value.int IntKind.i64 x.hi, Value.int IntKind.i64 x.base, Value.int IntKind.i64 x.round,
      Value.slice a x.hs.length c, Value.int IntKind.i64 x.lk.cl, Value.int IntKind.i64 x.lk.sq, Value.int IntKind.i64 x.lk.hm, Value.int IntKind.i64 x.lk.n]]
      { π := m.π, sz := n, uf := m.uf : M } (Value.tuple #[Value.int IntKind.i64 n_1, Value.bool b]) ∧
      ifB (!b) (Done (Value.int IntKind.i64 (152 : Int) = Value.int IntKind.i64 (knownE x))) (Done (Value.int IntKind.i64 (0 : Int) = Value.int IntKind.i64 (knownE x))))) (by kernel_rfl) ?_
  refine ⟨rfl, _, right_q x a c hx _ (h.sz hn), ?_⟩
  cases hr : rightB x
  · exact ifB_true ⟨by simp [knownE, hr]⟩
  refine ifB_false ⟨_, _, total_q x a c hx _ (h.sz hn), ifB_intro (fun h1 => ⟨?_⟩) (fun h1 => ⟨?_⟩)⟩
  · simp at h1; simp [knownE, hr, h1]
  · simp at h1; simp [knownE, hr, h1]

theorem abounds_s (x : Ac) (a : Option Addr) (c : Nat) (lo hi : Int) (hx : x.wf) (h0 : a = none → x.hs = []) (m : M) (h : Row m a (hds x.hs)) : Vc.Spec Try.prog 35 [acv x a c, sp lo hi] m (AcR m (aBounds x lo hi)) := by
  refine Vc.Spec.of_vc Try.func35 (ann := noAnn) ?_
  refine vc_by (X :=
      true = true ∧
      ∃ (n : Int),
      QSpec Try.prog (60 : Nat)
      [Value.agg
      #[Value.string x.key, Value.int IntKind.i64 x.lo, Value.int IntKind.i64 x.hi, Value.int IntKind.i64 x.base, Value.int IntKind.i64 x.round, Value.slice a x.hs.length c,
      Value.int IntKind.i64 x.lk.cl, Value.int IntKind.i64 x.lk.sq, Value.int IntKind.i64 x.lk.hm, Value.int IntKind.i64 x.lk.n]]
      m (Value.int IntKind.i64 n) ∧
      ifB (n != (0 : Int))
      (Done
      (AcR m (aBounds x lo hi)
      (Value.tuple
      #[Value.agg
      #[Value.string { data := #[] : ByteArray }, Value.int IntKind.i64 (0 : Int), Value.int IntKind.i64 (0 : Int), Value.int IntKind.i64 (0 : Int),
      Value.int IntKind.i64 (0 : Int), Value.slice none (0 : Nat) (0 : Nat), Value.int IntKind.i64 (0 : Int), Value.int IntKind.i64 (0 : Int),
      Value.int IntKind.i64 (0 : Int), Value.int IntKind.i64 (0 : Int)],
      Value.int IntKind.i64 n])
      m))
      (∃ (b : Bool),
      QSpec Try.prog (62 : Nat) [Value.agg #[Value.int IntKind.i64 lo, Value.int IntKind.i64 hi], Value.int IntKind.i64 x.base] m (Value.bool b) ∧
      ifB (!b)
      (Done
      (AcR m (aBounds x lo hi)
      (Value.tuple
      #[Value.agg
      #[Value.string { data := #[] : ByteArray }, Value.int IntKind.i64 (0 : Int), Value.int IntKind.i64 (0 : Int), Value.int IntKind.i64 (0 : Int),
      Value.int IntKind.i64 (0 : Int), Value.slice none (0 : Nat) (0 : Nat), Value.int IntKind.i64 (0 : Int), Value.int IntKind.i64 (0 : Int),
      Value.int IntKind.i64 (0 : Int), Value.int IntKind.i64 (0 : Int)],
      Value.int IntKind.i64 (150 : Int)])
      m))
      (∀ (n : Nat),
      m.sz ≤ n →
      Vc.Spec Try.prog (49 : Nat)
      [Value.agg
      #[Value.string x.key, Value.int IntKind.i64 x.lo, Value.int IntKind.i64 x.hi, Value.int IntKind.i64 x.base, Value.int IntKind.i64 x.round,
      Value.slice a x.hs.length c, Value.int IntKind.i64 x.lk.cl, Value.int IntKind.i64 x.lk.sq, Value.int IntKind.i64 x.lk.hm, Value.int IntKind.i64 x.lk.n]]
      { π := m.π, sz := n, uf := m.uf : M } fun (v : Value) (m' : M) =>
      ∃ (s : ByteArray),
      ∃ (n : Int),
      ∃ (n_1 : Int),
      ∃ (n_2 : Int),
      ∃ (n_3 : Int),
      ∃ (a : Option Addr),
      ∃ (n_4 : Nat),
      ∃ (c : Nat),
      ∃ (n_5 : Int),
      ∃ (n_6 : Int),
      ∃ (n_7 : Int),
      ∃ (n_8 : Int),
      v =
      Value.agg
      #[Value.string s, Value.int IntKind.i64 n, Value.int IntKind.i64 n_1, Value.int IntKind.i64 n_2, Value.int IntKind.i64 n_3,
      Value.slice a n_4 c, Value.int IntKind.i64 n_5, Value.int IntKind.i64 n_6, Value.int IntKind.i64 n_7,
      Value.int IntKind.i64 n_8] ∧
      Done
      (AcR m (aBounds x lo hi)
      (Value.tuple
      #[Value.agg
      #[Value.string s, Value.int IntKind.i64 lo, Value.int IntKind.i64 hi, Value.int IntKind.i64 n_2, Value.int IntKind.i64 n_3,
      Value.slice a n_4 c, Value.int IntKind.i64 n_5, Value.int IntKind.i64 n_6, Value.int IntKind.i64 n_7,
      Value.int IntKind.i64 n_8],
      Value.int IntKind.i64 (0 : Int)])
      m')))) (by kernel_rfl) ?_
  refine ⟨rfl, _, known_q x a c hx _ h, ifB_intro (fun h1 => fail_d ?_) (fun h1 => ⟨_, has_q _ _ _ _, ifB_intro (fun h2 => fail_d ?_) (fun h2 N hN => ?_)⟩)⟩
  · simp at h1; simp [aBounds, h1]
  · simp at h1 h2; simp [aBounds, h1, h2]
  · have h1 : knownE x = 0 := by simpa using h1
    have h2 : hasB lo hi x.base = true := by simpa using h2
    have hr := known_right h1
    refine (copied_q x a c (by have := right_len hr; omega) h0 _ (h.sz hN)).mono fun v m' hag ⟨a', c', hv, hr'⟩ => ⟨_, _, _, _, _, _, _, _, _, _, _, _, hv, ?_⟩
    exact ok_d (z := { x with lo := lo, hi := hi }) (by simp [aBounds, h1, h2]) hr' hN

theorem atake_s (x : Ac) (a : Option Addr) (c : Nat) (k : Lk) (hx : x.wf) (hk : k.wf) (h0 : a = none → x.hs = []) (m : M) (h : Row m a (hds x.hs)) : Vc.Spec Try.prog 34 [acv x a c, .agg #[I k.cl, I k.sq, I k.hm, I k.n]] m (AcR m (aTake x k)) := by
  refine Vc.Spec.of_vc Try.func34 (ann := noAnn) ?_
  refine vc_by (X :=
      true = true ∧
      ∃ (b : Bool),
      QSpec Try.prog (45 : Nat)
      [Value.agg
      #[Value.string x.key, Value.int IntKind.i64 x.lo, Value.int IntKind.i64 x.hi, Value.int IntKind.i64 x.base, Value.int IntKind.i64 x.round, Value.slice a x.hs.length c,
      Value.int IntKind.i64 x.lk.cl, Value.int IntKind.i64 x.lk.sq, Value.int IntKind.i64 x.lk.hm, Value.int IntKind.i64 x.lk.n]]
      m (Value.bool b) ∧
      ifB (!b)
      (Done
      (AcR m (aTake x k)
      (Value.tuple
      #[Value.agg
      #[Value.string { data := #[] : ByteArray }, Value.int IntKind.i64 (0 : Int), Value.int IntKind.i64 (0 : Int), Value.int IntKind.i64 (0 : Int),
      Value.int IntKind.i64 (0 : Int), Value.slice none (0 : Nat) (0 : Nat), Value.int IntKind.i64 (0 : Int), Value.int IntKind.i64 (0 : Int),
      Value.int IntKind.i64 (0 : Int), Value.int IntKind.i64 (0 : Int)],
      Value.int IntKind.i64 (21 : Int)])
      m))
      (∃ (b : Bool),
      QSpec Try.prog (59 : Nat) [Value.agg #[Value.int IntKind.i64 k.cl, Value.int IntKind.i64 k.sq, Value.int IntKind.i64 k.hm, Value.int IntKind.i64 k.n]] m (Value.bool b) ∧
      ifB (!b)
      (Done
      (AcR m (aTake x k)
      (Value.tuple
      #[Value.agg
      #[Value.string { data := #[] : ByteArray }, Value.int IntKind.i64 (0 : Int), Value.int IntKind.i64 (0 : Int), Value.int IntKind.i64 (0 : Int),
      Value.int IntKind.i64 (0 : Int), Value.slice none (0 : Nat) (0 : Nat), Value.int IntKind.i64 (0 : Int), Value.int IntKind.i64 (0 : Int),
      Value.int IntKind.i64 (0 : Int), Value.int IntKind.i64 (0 : Int)],
      Value.int IntKind.i64 (1 : Int)])
      m))
      (∃ (n : Int),
      QSpec Try.prog (60 : Nat)
      [Value.agg
      #[Value.string x.key, Value.int IntKind.i64 x.lo, Value.int IntKind.i64 x.hi, Value.int IntKind.i64 x.base, Value.int IntKind.i64 x.round,
      Value.slice a x.hs.length c, Value.int IntKind.i64 x.lk.cl, Value.int IntKind.i64 x.lk.sq, Value.int IntKind.i64 x.lk.hm, Value.int IntKind.i64 x.lk.n]]
      m (Value.int IntKind.i64 n) ∧
      ifB (n != (0 : Int))
      (Done
      (AcR m (aTake x k)
      (Value.tuple
      #[Value.agg
      #[Value.string { data := #[] : ByteArray }, Value.int IntKind.i64 (0 : Int), Value.int IntKind.i64 (0 : Int), Value.int IntKind.i64 (0 : Int),
      Value.int IntKind.i64 (0 : Int), Value.slice none (0 : Nat) (0 : Nat), Value.int IntKind.i64 (0 : Int), Value.int IntKind.i64 (0 : Int),
      Value.int IntKind.i64 (0 : Int), Value.int IntKind.i64 (0 : Int)],
      Value.int IntKind.i64 n])
      m))
      (∃ (b : Bool),
      QSpec Try.prog (61 : Nat)
      [Value.agg
      #[Value.string x.key, Value.int IntKind.i64 x.lo, Value.int IntKind.i64 x.hi, Value.int IntKind.i64 x.base, Value.int IntKind.i64 x.round,
      Value.slice a x.hs.length c, Value.int IntKind.i64 x.lk.cl, Value.int IntKind.i64 x.lk.sq, Value.int IntKind.i64 x.lk.hm,
      Value.int IntKind.i64 x.lk.n],
      Value.agg #[Value.int IntKind.i64 k.cl, Value.int IntKind.i64 k.sq, Value.int IntKind.i64 k.hm, Value.int IntKind.i64 k.n]]
      m (Value.bool b) ∧
      ifB (!b)
      (Done
      (AcR m (aTake x k)
      (Value.tuple
      #[Value.agg
      #[Value.string { data := #[] : ByteArray }, Value.int IntKind.i64 (0 : Int), Value.int IntKind.i64 (0 : Int), Value.int IntKind.i64 (0 : Int),
      Value.int IntKind.i64 (0 : Int), Value.slice none (0 : Nat) (0 : Nat), Value.int IntKind.i64 (0 : Int), Value.int IntKind.i64 (0 : Int),
      Value.int IntKind.i64 (0 : Int), Value.int IntKind.i64 (0 : Int)],
      Value.int IntKind.i64 (150 : Int)])
      m))
      (∀ (n : Nat),
      m.sz ≤ n →
      Vc.Spec Try.prog (49 : Nat)
      [Value.agg
      #[Value.string x.key, Value.int IntKind.i64 x.lo, Value.int IntKind.i64 x.hi, Value.int IntKind.i64 x.base, Value.int IntKind.i64 x.round,
      Value.slice a x.hs.length c, Value.int IntKind.i64 x.lk.cl, Value.int IntKind.i64 x.lk.sq, Value.int IntKind.i64 x.lk.hm,
      Value.int IntKind.i64 x.lk.n]]
      { π := m.π, sz := n, uf := m.uf : M } fun (v : Value) (m' : M) =>
      ∃ (s : ByteArray),
      ∃ (n : Int),
      ∃ (n_1 : Int),
      ∃ (n_2 : Int),
      ∃ (n_3 : Int),
      ∃ (a : Option Addr),
      ∃ (n_4 : Nat),
      ∃ (c : Nat),
      ∃ (n_5 : Int),
      ∃ (n_6 : Int),
      ∃ (n_7 : Int),
      ∃ (n_8 : Int),
      v =
      Value.agg
      #[Value.string s, Value.int IntKind.i64 n, Value.int IntKind.i64 n_1, Value.int IntKind.i64 n_2,
      Value.int IntKind.i64 n_3, Value.slice a n_4 c, Value.int IntKind.i64 n_5, Value.int IntKind.i64 n_6,
      Value.int IntKind.i64 n_7, Value.int IntKind.i64 n_8] ∧
      Done
      (AcR m (aTake x k)
      (Value.tuple
      #[Value.agg
      #[Value.string s, Value.int IntKind.i64 n, Value.int IntKind.i64 n_1, Value.int IntKind.i64 n_2,
      Value.int IntKind.i64 n_3, Value.slice a n_4 c, Value.int IntKind.i64 k.cl, Value.int IntKind.i64 k.sq,
      Value.int IntKind.i64 k.hm, Value.int IntKind.i64 k.n],
      Value.int IntKind.i64 (0 : Int)])
      m')))))) (by kernel_rfl) ?_
  refine ⟨rfl, _, right_q x a c hx _ h, ?_⟩
  cases hr : rightB x
  · exact ifB_true (fail_d (by simp [aTake, hr]))
  refine ifB_false ⟨_, keeper_q k _, ifB_intro (fun h1 => fail_d ?_) (fun h1 => ⟨_, known_q x a c hx _ h, ifB_intro (fun h2 => fail_d ?_) (fun h2 => ⟨_, fits_q x a c k hx hk _, ifB_intro (fun h3 => fail_d ?_) (fun h3 N hN => ?_)⟩)⟩)⟩
  · simp at h1; simp [aTake, hr, h1]
  · simp at h1 h2; simp [aTake, hr, h1, h2]
  · simp at h1 h2 h3; simp [aTake, hr, h1, h2, h3]
  · simp at h1 h2 h3
    refine (copied_q x a c (by have := right_len hr; omega) h0 _ (h.sz hN)).mono fun v m' hag ⟨a', c', hv, hr'⟩ => ⟨_, _, _, _, _, _, _, _, _, _, _, _, hv, ?_⟩
    exact ok_d (z := { x with lk := k }) (by simp [aTake, hr, h1, h2, h3]) hr' hN

theorem afree_s (x : Ac) (a : Option Addr) (c : Nat) (b : Bool) (hx : x.wf) (h0 : a = none → x.hs = []) (m : M) (h : Row m a (hds x.hs)) : Vc.Spec Try.prog 36 [acv x a c, .bool b] m (AcR m (aFree x b)) := by
  refine Vc.Spec.of_vc Try.func36 (ann := noAnn) ?_
  refine vc_by (X :=
      true = true ∧
      ∃ (b_1 : Bool),
      QSpec Try.prog (45 : Nat)
      [Value.agg
      #[Value.string x.key, Value.int IntKind.i64 x.lo, Value.int IntKind.i64 x.hi, Value.int IntKind.i64 x.base, Value.int IntKind.i64 x.round, Value.slice a x.hs.length c,
      Value.int IntKind.i64 x.lk.cl, Value.int IntKind.i64 x.lk.sq, Value.int IntKind.i64 x.lk.hm, Value.int IntKind.i64 x.lk.n]]
      m (Value.bool b_1) ∧
      ifB (!b_1)
      (Done
      (AcR m (aFree x b)
      (Value.tuple
      #[Value.agg
      #[Value.string { data := #[] : ByteArray }, Value.int IntKind.i64 (0 : Int), Value.int IntKind.i64 (0 : Int), Value.int IntKind.i64 (0 : Int),
      Value.int IntKind.i64 (0 : Int), Value.slice none (0 : Nat) (0 : Nat), Value.int IntKind.i64 (0 : Int), Value.int IntKind.i64 (0 : Int),
      Value.int IntKind.i64 (0 : Int), Value.int IntKind.i64 (0 : Int)],
      Value.int IntKind.i64 (21 : Int)])
      m))
      (∃ (b_2 : Bool),
      QSpec Try.prog (46 : Nat)
      [Value.agg
      #[Value.string x.key, Value.int IntKind.i64 x.lo, Value.int IntKind.i64 x.hi, Value.int IntKind.i64 x.base, Value.int IntKind.i64 x.round,
      Value.slice a x.hs.length c, Value.int IntKind.i64 x.lk.cl, Value.int IntKind.i64 x.lk.sq, Value.int IntKind.i64 x.lk.hm, Value.int IntKind.i64 x.lk.n]]
      m (Value.bool b_2) ∧
      ifB (!b_2)
      (Done
      (AcR m (aFree x b)
      (Value.tuple
      #[Value.agg
      #[Value.string { data := #[] : ByteArray }, Value.int IntKind.i64 (0 : Int), Value.int IntKind.i64 (0 : Int), Value.int IntKind.i64 (0 : Int),
      Value.int IntKind.i64 (0 : Int), Value.slice none (0 : Nat) (0 : Nat), Value.int IntKind.i64 (0 : Int), Value.int IntKind.i64 (0 : Int),
      Value.int IntKind.i64 (0 : Int), Value.int IntKind.i64 (0 : Int)],
      Value.int IntKind.i64 (60 : Int)])
      m))
      (∀ (n : Nat),
      m.sz ≤ n →
      Vc.Spec Try.prog (49 : Nat)
      [Value.agg
      #[Value.string x.key, Value.int IntKind.i64 x.lo, Value.int IntKind.i64 x.hi, Value.int IntKind.i64 x.base, Value.int IntKind.i64 x.round,
      Value.slice a x.hs.length c, Value.int IntKind.i64 x.lk.cl, Value.int IntKind.i64 x.lk.sq, Value.int IntKind.i64 x.lk.hm, Value.int IntKind.i64 x.lk.n]]
      { π := m.π, sz := n, uf := m.uf : M } fun (v : Value) (m' : M) =>
      ∃ (s : ByteArray),
      ∃ (n : Int),
      ∃ (n_1 : Int),
      ∃ (n_2 : Int),
      ∃ (n_3 : Int),
      ∃ (a : Option Addr),
      ∃ (n_4 : Nat),
      ∃ (c : Nat),
      ∃ (n_5 : Int),
      ∃ (n_6 : Int),
      ∃ (n_7 : Int),
      ∃ (n_8 : Int),
      v =
      Value.agg
      #[Value.string s, Value.int IntKind.i64 n, Value.int IntKind.i64 n_1, Value.int IntKind.i64 n_2, Value.int IntKind.i64 n_3,
      Value.slice a n_4 c, Value.int IntKind.i64 n_5, Value.int IntKind.i64 n_6, Value.int IntKind.i64 n_7,
      Value.int IntKind.i64 n_8] ∧
      ifB b
      (Done
      (AcR m (aFree x b)
      (Value.tuple
      #[Value.agg
      #[Value.string s, Value.int IntKind.i64 n, Value.int IntKind.i64 n_1,
      Value.int IntKind.i64 (IntKind.i64.wrap (n_2 + n_8)), Value.int IntKind.i64 n_3, Value.slice a n_4 c,
      Value.int IntKind.i64 (0 : Int), Value.int IntKind.i64 (0 : Int), Value.int IntKind.i64 (0 : Int),
      Value.int IntKind.i64 (0 : Int)],
      Value.int IntKind.i64 (0 : Int)])
      m'))
      (Done
      (AcR m (aFree x b)
      (Value.tuple
      #[Value.agg
      #[Value.string s, Value.int IntKind.i64 n, Value.int IntKind.i64 n_1, Value.int IntKind.i64 n_2,
      Value.int IntKind.i64 n_3, Value.slice a n_4 c, Value.int IntKind.i64 (0 : Int), Value.int IntKind.i64 (0 : Int),
      Value.int IntKind.i64 (0 : Int), Value.int IntKind.i64 (0 : Int)],
      Value.int IntKind.i64 (0 : Int)])
      m'))))) (by kernel_rfl) ?_
  refine ⟨rfl, _, right_q x a c hx _ h, ?_⟩
  cases hr : rightB x
  · exact ifB_true (fail_d (by simp [aFree, hr]))
  refine ifB_false ⟨_, locked_q x a c _, ifB_intro (fun h1 => fail_d ?_) (fun h1 N hN => ?_)⟩
  · simp at h1; simp [aFree, hr, h1]
  · have h1 : x.lk.cl ≠ 0 := by simpa using h1
    refine (copied_q x a c (by have := right_len hr; omega) h0 _ (h.sz hN)).mono fun v m' hag ⟨a', c', hv, hr'⟩ => ⟨_, _, _, _, _, _, _, _, _, _, _, _, hv, ?_⟩
    refine ifB_intro (fun h2 => ?_) (fun h2 => ok_d (z := { x with lk := lk0 }) ?_ hr' hN)
    · subst h2
      have e : IntKind.i64.wrap (x.base + x.lk.n) = x.base + x.lk.n := by have := lock_in hx hr h1; unfold In64 at this; simp [IntKind.wrap_i64]; omega
      rw [e]
      exact ok_d (z := { x with base := x.base + x.lk.n, lk := lk0 }) (by simp [aFree, hr, h1]) hr' hN
    · subst h2; simp [aFree, hr, h1]

theorem ccopy_q (x : Ac) (a : Option Addr) (c : Nat) (hn : x.hs.length ≤ 4398046511000) (m : M) (h : Row m a (hds x.hs)) : Vc.Spec Try.prog 83 [acv x a c] m (fun v m' => ∃ a' c', v = acv x a' c' ∧ NewR m.sz (fun _ => False) m' 4 a' x.hs.length c' (hds x.hs)) := by
  refine Vc.Spec.of_vc Try.func83 (ann := noAnn) ?_
  refine vc_by (X :=
      true = true ∧
      ∃ (old : List Value),
      ∃ (src : List Value),
      AppPre m.sz (fun (x : Nat) => False) m (4 : Nat) (32 : Nat) none (0 : Nat) (0 : Nat) a x.hs.length old src ∧
      ∀ (a' : Option Addr) (c' : Nat) (m' : M),
      AppPost Try.prog (31 : Nat) m (4 : Nat) none (0 : Nat) (0 : Nat) x.hs.length old src a' c' m' →
      Done
      (∃ (a'_1 : Option Addr),
      ∃ (c'_1 : Nat),
      Value.agg
      #[Value.string x.key, Value.int IntKind.i64 x.lo, Value.int IntKind.i64 x.hi, Value.int IntKind.i64 x.base, Value.int IntKind.i64 x.round,
      Value.slice a' ((0 : Nat) + x.hs.length) c', Value.int IntKind.i64 x.lk.cl, Value.int IntKind.i64 x.lk.sq, Value.int IntKind.i64 x.lk.hm,
      Value.int IntKind.i64 x.lk.n] =
      Value.agg
      #[Value.string x.key, Value.int IntKind.i64 x.lo, Value.int IntKind.i64 x.hi, Value.int IntKind.i64 x.base, Value.int IntKind.i64 x.round,
      Value.slice a'_1 x.hs.length c'_1, Value.int IntKind.i64 x.lk.cl, Value.int IntKind.i64 x.lk.sq, Value.int IntKind.i64 x.lk.hm,
      Value.int IntKind.i64 x.lk.n] ∧
      NewR m.sz (fun (x : Nat) => False) m' (4 : Nat) a'_1 x.hs.length c'_1 (hds x.hs))) (by kernel_rfl) ?_
  have ho : NewR m.sz (fun _ => False) m 4 none 0 0 [] := .nil _
  refine ⟨rfl, _, _, ho.appPre h (hds_len _) (one_hds _) (by omega), fun a' c' m' hp => ⟨a', c', by simp, ?_⟩⟩
  have := ho.append hp (hds_len _) zr_hd (Nat.le_refl _)
  simpa using this

theorem rbounds_s (x : Ac) (a : Option Addr) (c : Nat) (lo hi : Int) (hx : x.wf) (m : M) (h : Row m a (hds x.hs)) : Vc.Spec Try.prog 68 [acv x a c, sp lo hi] m (AcR m (aBounds x lo hi)) := by
  refine Vc.Spec.of_vc Try.func68 (ann := noAnn) ?_
  refine vc_by (X :=
      true = true ∧
      ∃ (b : Bool),
      QSpec Try.prog (12 : Nat)
      [Value.agg
      #[Value.string x.key, Value.int IntKind.i64 x.lo, Value.int IntKind.i64 x.hi, Value.int IntKind.i64 x.base, Value.int IntKind.i64 x.round, Value.slice a x.hs.length c,
      Value.int IntKind.i64 x.lk.cl, Value.int IntKind.i64 x.lk.sq, Value.int IntKind.i64 x.lk.hm, Value.int IntKind.i64 x.lk.n]]
      m (Value.bool b) ∧
      ifB (!b)
      (Done
      (AcR m (aBounds x lo hi)
      (Value.tuple
      #[Value.agg
      #[Value.string { data := #[] : ByteArray }, Value.int IntKind.i64 (0 : Int), Value.int IntKind.i64 (0 : Int), Value.int IntKind.i64 (0 : Int),
      Value.int IntKind.i64 (0 : Int), Value.slice none (0 : Nat) (0 : Nat), Value.int IntKind.i64 (0 : Int), Value.int IntKind.i64 (0 : Int),
      Value.int IntKind.i64 (0 : Int), Value.int IntKind.i64 (0 : Int)],
      Value.int IntKind.i64 (21 : Int)])
      m))
      (∃ (n : Int),
      ∃ (b : Bool),
      QSpec Try.prog (18 : Nat)
      [Value.agg
      #[Value.string x.key, Value.int IntKind.i64 x.lo, Value.int IntKind.i64 x.hi, Value.int IntKind.i64 x.base, Value.int IntKind.i64 x.round,
      Value.slice a x.hs.length c, Value.int IntKind.i64 x.lk.cl, Value.int IntKind.i64 x.lk.sq, Value.int IntKind.i64 x.lk.hm, Value.int IntKind.i64 x.lk.n]]
      m (Value.tuple #[Value.int IntKind.i64 n, Value.bool b]) ∧
      ifB (!b)
      (Done
      (AcR m (aBounds x lo hi)
      (Value.tuple
      #[Value.agg
      #[Value.string { data := #[] : ByteArray }, Value.int IntKind.i64 (0 : Int), Value.int IntKind.i64 (0 : Int), Value.int IntKind.i64 (0 : Int),
      Value.int IntKind.i64 (0 : Int), Value.slice none (0 : Nat) (0 : Nat), Value.int IntKind.i64 (0 : Int), Value.int IntKind.i64 (0 : Int),
      Value.int IntKind.i64 (0 : Int), Value.int IntKind.i64 (0 : Int)],
      Value.int IntKind.i64 (152 : Int)])
      m))
      (∃ (b : Bool),
      QSpec Try.prog (40 : Nat) [Value.agg #[Value.int IntKind.i64 lo, Value.int IntKind.i64 hi], Value.int IntKind.i64 n] m (Value.bool b) ∧
      ifB (!b)
      (Done
      (AcR m (aBounds x lo hi)
      (Value.tuple
      #[Value.agg
      #[Value.string { data := #[] : ByteArray }, Value.int IntKind.i64 (0 : Int), Value.int IntKind.i64 (0 : Int), Value.int IntKind.i64 (0 : Int),
      Value.int IntKind.i64 (0 : Int), Value.slice none (0 : Nat) (0 : Nat), Value.int IntKind.i64 (0 : Int), Value.int IntKind.i64 (0 : Int),
      Value.int IntKind.i64 (0 : Int), Value.int IntKind.i64 (0 : Int)],
      Value.int IntKind.i64 (150 : Int)])
      m))
      (∀ (n : Nat),
      m.sz ≤ n →
      Vc.Spec Try.prog (83 : Nat)
      [Value.agg
      #[Value.string x.key, Value.int IntKind.i64 x.lo, Value.int IntKind.i64 x.hi, Value.int IntKind.i64 x.base, Value.int IntKind.i64 x.round,
      Value.slice a x.hs.length c, Value.int IntKind.i64 x.lk.cl, Value.int IntKind.i64 x.lk.sq, Value.int IntKind.i64 x.lk.hm,
      Value.int IntKind.i64 x.lk.n]]
      { π := m.π, sz := n, uf := m.uf : M } fun (v : Value) (m' : M) =>
      ∃ (s : ByteArray),
      ∃ (n : Int),
      ∃ (n_1 : Int),
      ∃ (n_2 : Int),
      ∃ (n_3 : Int),
      ∃ (a : Option Addr),
      ∃ (n_4 : Nat),
      ∃ (c : Nat),
      ∃ (n_5 : Int),
      ∃ (n_6 : Int),
      ∃ (n_7 : Int),
      ∃ (n_8 : Int),
      v =
      Value.agg
      #[Value.string s, Value.int IntKind.i64 n, Value.int IntKind.i64 n_1, Value.int IntKind.i64 n_2,
      Value.int IntKind.i64 n_3, Value.slice a n_4 c, Value.int IntKind.i64 n_5, Value.int IntKind.i64 n_6,
      Value.int IntKind.i64 n_7, Value.int IntKind.i64 n_8] ∧
      Done
      (AcR m (aBounds x lo hi)
      (Value.tuple
      #[Value.agg
      #[Value.string s, Value.int IntKind.i64 lo, Value.int IntKind.i64 hi, Value.int IntKind.i64 n_2,
      Value.int IntKind.i64 n_3, Value.slice a n_4 c, Value.int IntKind.i64 n_5, Value.int IntKind.i64 n_6,
      Value.int IntKind.i64 n_7, Value.int IntKind.i64 n_8],
      Value.int IntKind.i64 (0 : Int)])
      m'))))) (by kernel_rfl) ?_
  refine ⟨rfl, _, rright_q x a c hx _ h, ?_⟩
  cases hr : rightB x
  · exact ifB_true (fail_d (by simp [aBounds, knownE, hr]))
  refine ifB_false ⟨_, _, rtotal_q x a c hx _ h, ifB_intro (fun h1 => fail_d ?_) (fun h1 => ⟨_, rhas_q _ _ _ _, ifB_intro (fun h2 => fail_d ?_) (fun h2 N hN => ?_)⟩)⟩
  · simp at h1; simp [aBounds, knownE, hr, h1]
  · simp at h1; simp [h1] at h2; simp [aBounds, knownE, hr, h1, h2]
  · have h1 : totB x = true := by simpa using h1
    simp [h1] at h2
    refine (ccopy_q x a c (by have := right_len hr; omega) _ (h.sz hN)).mono fun v m' hag ⟨a', c', hv, hr'⟩ => ⟨_, _, _, _, _, _, _, _, _, _, _, _, hv, ?_⟩
    exact ok_d (z := { x with lo := lo, hi := hi }) (by simp [aBounds, knownE, hr, h1, h2]) hr' hN

theorem rnumber_q (n' : Int) (m : M) : QSpec Try.prog 79 [I n'] m (.bool (decide (1 ≤ n') && decide (n' ≤ 4611686018427387904))) := by
  refine QSpec.of_vc Try.func79 (ann := fun _ => noAnn) fun n hn => ?_
  refine vc_by (X :=
      true = true ∧
      ifB (decide (n' ≥ (1 : Int))) (Done (Value.bool (decide (n' ≤ (4611686018427387904 : Int))) = Value.bool (decide ((1 : Int) ≤ n') && decide (n' ≤ (4611686018427387904 : Int)))))
      (Done (Value.bool false = Value.bool (decide ((1 : Int) ≤ n') && decide (n' ≤ (4611686018427387904 : Int)))))) (by kernel_rfl) ?_
  refine ⟨rfl, ifB_intro (fun h => ⟨?_⟩) (fun h => ⟨?_⟩)⟩
  · have h : 1 ≤ n' := by simpa using h
    simp [h]
  · simp at h
    have h : ¬ 1 ≤ n' := by omega
    simp [h]

theorem rtake_s (x : Ac) (a : Option Addr) (c : Nat) (k : Lk) (hx : x.wf) (hk : k.wf) (m : M) (h : Row m a (hds x.hs)) : Vc.Spec Try.prog 69 [acv x a c, .agg #[I k.cl, I k.sq, I k.hm, I k.n]] m (AcR m (aTake x k)) := by
  refine Vc.Spec.of_vc Try.func69 (ann := noAnn) ?_
  refine vc_by (X :=
      true = true ∧
      ∃ (b : Bool),
      QSpec Try.prog (12 : Nat)
      [Value.agg
      #[Value.string x.key, Value.int IntKind.i64 x.lo, Value.int IntKind.i64 x.hi, Value.int IntKind.i64 x.base, Value.int IntKind.i64 x.round, Value.slice a x.hs.length c,
      Value.int IntKind.i64 x.lk.cl, Value.int IntKind.i64 x.lk.sq, Value.int IntKind.i64 x.lk.hm, Value.int IntKind.i64 x.lk.n]]
      m (Value.bool b) ∧
      ifB (!b)
      (Done
      (AcR m (aTake x k)
      (Value.tuple
      #[Value.agg
      #[Value.string { data := #[] : ByteArray }, Value.int IntKind.i64 (0 : Int), Value.int IntKind.i64 (0 : Int), Value.int IntKind.i64 (0 : Int),
      Value.int IntKind.i64 (0 : Int), Value.slice none (0 : Nat) (0 : Nat), Value.int IntKind.i64 (0 : Int), Value.int IntKind.i64 (0 : Int),
      Value.int IntKind.i64 (0 : Int), Value.int IntKind.i64 (0 : Int)],
      Value.int IntKind.i64 (21 : Int)])
      m))
      (∃ (b : Bool),
      QSpec Try.prog (44 : Nat) [Value.agg #[Value.int IntKind.i64 k.cl, Value.int IntKind.i64 k.sq, Value.int IntKind.i64 k.hm, Value.int IntKind.i64 k.n]] m (Value.bool b) ∧
      ifB (!b)
      (Done
      (AcR m (aTake x k)
      (Value.tuple
      #[Value.agg
      #[Value.string { data := #[] : ByteArray }, Value.int IntKind.i64 (0 : Int), Value.int IntKind.i64 (0 : Int), Value.int IntKind.i64 (0 : Int),
      Value.int IntKind.i64 (0 : Int), Value.slice none (0 : Nat) (0 : Nat), Value.int IntKind.i64 (0 : Int), Value.int IntKind.i64 (0 : Int),
      Value.int IntKind.i64 (0 : Int), Value.int IntKind.i64 (0 : Int)],
      Value.int IntKind.i64 (1 : Int)])
      m))
      (∃ (n : Int),
      ∃ (b : Bool),
      QSpec Try.prog (18 : Nat)
      [Value.agg
      #[Value.string x.key, Value.int IntKind.i64 x.lo, Value.int IntKind.i64 x.hi, Value.int IntKind.i64 x.base, Value.int IntKind.i64 x.round,
      Value.slice a x.hs.length c, Value.int IntKind.i64 x.lk.cl, Value.int IntKind.i64 x.lk.sq, Value.int IntKind.i64 x.lk.hm, Value.int IntKind.i64 x.lk.n]]
      m (Value.tuple #[Value.int IntKind.i64 n, Value.bool b]) ∧
      ifB (!b)
      (Done
      (AcR m (aTake x k)
      (Value.tuple
      #[Value.agg
      #[Value.string { data := #[] : ByteArray }, Value.int IntKind.i64 (0 : Int), Value.int IntKind.i64 (0 : Int), Value.int IntKind.i64 (0 : Int),
      Value.int IntKind.i64 (0 : Int), Value.slice none (0 : Nat) (0 : Nat), Value.int IntKind.i64 (0 : Int), Value.int IntKind.i64 (0 : Int),
      Value.int IntKind.i64 (0 : Int), Value.int IntKind.i64 (0 : Int)],
      Value.int IntKind.i64 (152 : Int)])
      m))
      (true = true ∧
      ∀ (b : Nat),
      m.sz ≤ b →
      ∃ (n_1 : Int),
      ∃ (n_2 : Int),
      QSpec Try.prog (29 : Nat) [Value.slice (some { block := b, off := (0 : Nat) : Addr }) (2 : Nat) (2 : Nat)]
      (m.newBlock b [Value.int IntKind.i64 n, Value.int IntKind.i64 k.n]) (Value.agg #[Value.int IntKind.i64 n_1, Value.int IntKind.u64 n_2]) ∧
      ∃ (n_3 : Int),
      ∃ (b_1 : Bool),
      QSpec Try.prog (32 : Nat) [Value.agg #[Value.int IntKind.i64 n_1, Value.int IntKind.u64 n_2]]
      (m.newBlock b [Value.int IntKind.i64 n, Value.int IntKind.i64 k.n]) (Value.tuple #[Value.int IntKind.i64 n_3, Value.bool b_1]) ∧
      ifB (!b_1)
      (Done
      (AcR m (aTake x k)
      (Value.tuple
      #[Value.agg
      #[Value.string { data := #[] : ByteArray }, Value.int IntKind.i64 (0 : Int), Value.int IntKind.i64 (0 : Int),
      Value.int IntKind.i64 (0 : Int), Value.int IntKind.i64 (0 : Int), Value.slice none (0 : Nat) (0 : Nat),
      Value.int IntKind.i64 (0 : Int), Value.int IntKind.i64 (0 : Int), Value.int IntKind.i64 (0 : Int),
      Value.int IntKind.i64 (0 : Int)],
      Value.int IntKind.i64 (150 : Int)])
      (m.newBlock b [Value.int IntKind.i64 n, Value.int IntKind.i64 k.n])))
      (∃ (b_2 : Bool),
      QSpec Try.prog (40 : Nat) [Value.agg #[Value.int IntKind.i64 x.lo, Value.int IntKind.i64 x.hi], Value.int IntKind.i64 n_3]
      (m.newBlock b [Value.int IntKind.i64 n, Value.int IntKind.i64 k.n]) (Value.bool b_2) ∧
      ifB (!b_2)
      (Done
      (AcR m (aTake x k)
      (Value.tuple
      #[Value.agg
      #[Value.string { data := #[] : ByteArray }, Value.int IntKind.i64 (0 : Int), Value.int IntKind.i64 (0 : Int),
      Value.int IntKind.i64 (0 : Int), Value.int IntKind.i64 (0 : Int), Value.slice none (0 : Nat) (0 : Nat),
      Value.int IntKind.i64 (0 : Int), Value.int IntKind.i64 (0 : Int), Value.int IntKind.i64 (0 : Int),
      Value.int IntKind.i64 (0 : Int)],
      Value.int IntKind.i64 (150 : Int)])
      (m.newBlock b [Value.int IntKind.i64 n, Value.int IntKind.i64 k.n])))
      (∀ (n_4 : Nat),
      max m.sz (b + (1 : Nat)) ≤ n_4 →
      Vc.Spec Try.prog (83 : Nat)
      [Value.agg
      #[Value.string x.key, Value.int IntKind.i64 x.lo, Value.int IntKind.i64 x.hi, Value.int IntKind.i64 x.base,
      Value.int IntKind.i64 x.round, Value.slice a x.hs.length c, Value.int IntKind.i64 x.lk.cl,
      Value.int IntKind.i64 x.lk.sq, Value.int IntKind.i64 x.lk.hm, Value.int IntKind.i64 x.lk.n]]
      { π := (m.newBlock b [Value.int IntKind.i64 n, Value.int IntKind.i64 k.n]).π, sz := n_4, uf := (m.newBlock b [Value.int IntKind.i64 n, Value.int IntKind.i64 k.n]).uf : M }
      fun (v : Value) (m' : M) =>
      ∃ (s : ByteArray),
      ∃ (n : Int),
      ∃ (n_5 : Int),
      ∃ (n_6 : Int),
      ∃ (n_7 : Int),
      ∃ (a : Option Addr),
      ∃ (n_8 : Nat),
      ∃ (c : Nat),
      ∃ (n_9 : Int),
      ∃ (n_10 : Int),
      ∃ (n_11 : Int),
      ∃ (n_12 : Int),
      v =
      Value.agg
      #[Value.string s, Value.int IntKind.i64 n, Value.int IntKind.i64 n_5, Value.int IntKind.i64 n_6,
      Value.int IntKind.i64 n_7, Value.slice a n_8 c, Value.int IntKind.i64 n_9,
      Value.int IntKind.i64 n_10, Value.int IntKind.i64 n_11, Value.int IntKind.i64 n_12] ∧
      Done
      (AcR m (aTake x k)
      (Value.tuple
      #[Value.agg
      #[Value.string s, Value.int IntKind.i64 n, Value.int IntKind.i64 n_5,
      Value.int IntKind.i64 n_6, Value.int IntKind.i64 n_7, Value.slice a n_8 c,
      Value.int IntKind.i64 k.cl, Value.int IntKind.i64 k.sq, Value.int IntKind.i64 k.hm,
      Value.int IntKind.i64 k.n],
      Value.int IntKind.i64 (0 : Int)])
      m'))))))) (by kernel_rfl) ?_
  refine ⟨rfl, _, rright_q x a c hx _ h, ?_⟩
  cases hr : rightB x
  · exact ifB_true (fail_d (by simp [aTake, hr]))
  refine ifB_false ⟨_, rlocked_q k _, ifB_intro (fun h1 => fail_d ?_) (fun h1 => ⟨_, _, rtotal_q x a c hx _ h, ifB_intro (fun h2 => fail_d ?_) (fun h2 => ⟨rfl, fun b hb => ?_⟩)⟩)⟩
  · simp at h1; simp [aTake, hr, h1]
  · simp at h1 h2; simp [aTake, knownE, hr, h1, h2]
  have h1 : keeperB k = true := by simpa using h1
  have h2 : totB x = true := by simpa using h2
  simp only [h2, if_true]
  have s2 : sumI [x.base, k.n] = x.base + k.n := by simp [sumI]
  have hba := hx.base
  have hln := hk.2.2.2
  have q1 := of_q (some ⟨b, 0, none⟩) 2 [x.base, k.n] (by intro y hy; simp at hy; rcases hy with rfl | rfl; exact hba; exact hln) (by simp) (m.newBlock b [I x.base, I k.n]) (.at _ _ _ (by simp only [M.newBlock]; omega) cellsAt_new)
  rw [s2] at q1
  unfold In64 at hba hln
  have hlo := hx.lo
  have hhi := hx.hi
  refine ⟨_, _, q1, _, _, int_q _ (by omega) (by omega) _, ifB_intro (fun h3 => fail_d ?_) (fun h3 => ⟨_, rhas_q _ _ _ _, ifB_intro (fun h4 => fail_d ?_) (fun h4 N hN => ?_)⟩)⟩
  · have h3 : ¬ In64 (x.base + k.n) := by simpa using h3
    have : fitsB x k = false := by unfold In64 at *; simp [fitsB, hasB]; omega
    simp [aTake, knownE, hr, h1, h2, this]
  all_goals
    have h3 : In64 (x.base + k.n) := by simpa using h3
    have hw : IntKind.i64.wrap (x.base + k.n) = x.base + k.n := by unfold In64 at h3; simp [IntKind.wrap_i64]; omega
    rw [hw] at h4
  · have h4 : fitsB x k = false := by simpa [fitsB] using h4
    simp [aTake, knownE, hr, h1, h2, h4]
  · have h4 : fitsB x k = true := by simpa [fitsB] using h4
    have hN' : m.sz ≤ N := by omega
    refine (ccopy_q x a c (by have := right_len hr; omega) _ ((h.newBlock hb).sz hN)).mono fun v m' hag ⟨a', c', hv, hr'⟩ => ⟨_, _, _, _, _, _, _, _, _, _, _, _, hv, ?_⟩
    exact ok_d (z := { x with lk := k }) (by simp [aTake, knownE, hr, h1, h2, h4]) hr' hN'

theorem rfreeze_s (x : Ac) (a : Option Addr) (c : Nat) (n : Int) (hx : x.wf) (m : M) (h : Row m a (hds x.hs)) : Vc.Spec Try.prog 65 [acv x a c, I n] m (AcR m (aFreeze x n)) := by
  refine Vc.Spec.of_vc Try.func65 (ann := noAnn) ?_
  refine vc_by (X :=
      true = true ∧
      ∃ (b : Bool),
      QSpec Try.prog (12 : Nat)
      [Value.agg
      #[Value.string x.key, Value.int IntKind.i64 x.lo, Value.int IntKind.i64 x.hi, Value.int IntKind.i64 x.base, Value.int IntKind.i64 x.round, Value.slice a x.hs.length c,
      Value.int IntKind.i64 x.lk.cl, Value.int IntKind.i64 x.lk.sq, Value.int IntKind.i64 x.lk.hm, Value.int IntKind.i64 x.lk.n]]
      m (Value.bool b) ∧
      ifB (!b)
      (Done
      (AcR m (aFreeze x n)
      (Value.tuple
      #[Value.agg
      #[Value.string { data := #[] : ByteArray }, Value.int IntKind.i64 (0 : Int), Value.int IntKind.i64 (0 : Int), Value.int IntKind.i64 (0 : Int),
      Value.int IntKind.i64 (0 : Int), Value.slice none (0 : Nat) (0 : Nat), Value.int IntKind.i64 (0 : Int), Value.int IntKind.i64 (0 : Int),
      Value.int IntKind.i64 (0 : Int), Value.int IntKind.i64 (0 : Int)],
      Value.int IntKind.i64 (21 : Int)])
      m))
      (∃ (b : Bool),
      QSpec Try.prog (79 : Nat) [Value.int IntKind.i64 n] m (Value.bool b) ∧
      ifB (!b)
      (Done
      (AcR m (aFreeze x n)
      (Value.tuple
      #[Value.agg
      #[Value.string { data := #[] : ByteArray }, Value.int IntKind.i64 (0 : Int), Value.int IntKind.i64 (0 : Int), Value.int IntKind.i64 (0 : Int),
      Value.int IntKind.i64 (0 : Int), Value.slice none (0 : Nat) (0 : Nat), Value.int IntKind.i64 (0 : Int), Value.int IntKind.i64 (0 : Int),
      Value.int IntKind.i64 (0 : Int), Value.int IntKind.i64 (0 : Int)],
      Value.int IntKind.i64 (1 : Int)])
      m))
      (∀ (n_1 : Nat),
      m.sz ≤ n_1 →
      Vc.Spec Try.prog (83 : Nat)
      [Value.agg
      #[Value.string x.key, Value.int IntKind.i64 x.lo, Value.int IntKind.i64 x.hi, Value.int IntKind.i64 x.base, Value.int IntKind.i64 x.round,
      Value.slice a x.hs.length c, Value.int IntKind.i64 x.lk.cl, Value.int IntKind.i64 x.lk.sq, Value.int IntKind.i64 x.lk.hm, Value.int IntKind.i64 x.lk.n]]
      { π := m.π, sz := n_1, uf := m.uf : M } fun (v : Value) (m' : M) =>
      ∃ (s : ByteArray),
      ∃ (n_2 : Int),
      ∃ (n_3 : Int),
      ∃ (n_4 : Int),
      ∃ (n_5 : Int),
      ∃ (a : Option Addr),
      ∃ (n_6 : Nat),
      ∃ (c : Nat),
      ∃ (n_7 : Int),
      ∃ (n_8 : Int),
      ∃ (n_9 : Int),
      ∃ (n_10 : Int),
      v =
      Value.agg
      #[Value.string s, Value.int IntKind.i64 n_2, Value.int IntKind.i64 n_3, Value.int IntKind.i64 n_4, Value.int IntKind.i64 n_5,
      Value.slice a n_6 c, Value.int IntKind.i64 n_7, Value.int IntKind.i64 n_8, Value.int IntKind.i64 n_9,
      Value.int IntKind.i64 n_10] ∧
      ifB (n_5 == (0 : Int))
      (Done
      (AcR m (aFreeze x n)
      (Value.tuple
      #[Value.agg
      #[Value.string s, Value.int IntKind.i64 n_2, Value.int IntKind.i64 n_3, Value.int IntKind.i64 n_4,
      Value.int IntKind.i64 n, Value.slice a n_6 c, Value.int IntKind.i64 n_7, Value.int IntKind.i64 n_8,
      Value.int IntKind.i64 n_9, Value.int IntKind.i64 n_10],
      Value.int IntKind.i64 (0 : Int)])
      m'))
      (Done
      (AcR m (aFreeze x n)
      (Value.tuple
      #[Value.agg
      #[Value.string s, Value.int IntKind.i64 n_2, Value.int IntKind.i64 n_3, Value.int IntKind.i64 n_4,
      Value.int IntKind.i64 n_5, Value.slice a n_6 c, Value.int IntKind.i64 n_7, Value.int IntKind.i64 n_8,
      Value.int IntKind.i64 n_9, Value.int IntKind.i64 n_10],
      Value.int IntKind.i64 (0 : Int)])
      m'))))) (by kernel_rfl) ?_
  refine ⟨rfl, _, rright_q x a c hx _ h, ?_⟩
  cases hr : rightB x
  · exact ifB_true (fail_d (by simp [aFreeze, hr]))
  refine ifB_false ⟨_, rnumber_q _ _, ifB_intro (fun h1 => fail_d ?_) (fun h1 N hN => ?_)⟩
  · simp at h1; simp [aFreeze, hr]; omega
  · refine (ccopy_q x a c (by have := right_len hr; omega) _ (h.sz hN)).mono fun v m' hag ⟨a', c', hv, hr'⟩ => ⟨_, _, _, _, _, _, _, _, _, _, _, _, hv, ?_⟩
    have hnb : ¬ (n < 1 ∨ 4611686018427387904 < n) := by simp at h1; omega
    refine ifB_intro (fun h3 => ok_d (z := { x with round := n }) ?_ hr' hN) (fun h3 => ok_d (z := x) ?_ hr' hN)
    · simp at h3; simp [aFreeze, hr, hnb, h3]
    · simp at h3; simp [aFreeze, hr, hnb, h3]

theorem rthaw_s (x : Ac) (a : Option Addr) (c : Nat) (hx : x.wf) (m : M) (h : Row m a (hds x.hs)) : Vc.Spec Try.prog 66 [acv x a c] m (AcR m (aThaw x)) := by
  refine Vc.Spec.of_vc Try.func66 (ann := noAnn) ?_
  refine vc_by (X :=
      true = true ∧
      ∃ (b : Bool),
      QSpec Try.prog (12 : Nat)
      [Value.agg
      #[Value.string x.key, Value.int IntKind.i64 x.lo, Value.int IntKind.i64 x.hi, Value.int IntKind.i64 x.base, Value.int IntKind.i64 x.round, Value.slice a x.hs.length c,
      Value.int IntKind.i64 x.lk.cl, Value.int IntKind.i64 x.lk.sq, Value.int IntKind.i64 x.lk.hm, Value.int IntKind.i64 x.lk.n]]
      m (Value.bool b) ∧
      ifB (!b)
      (Done
      (AcR m (aThaw x)
      (Value.tuple
      #[Value.agg
      #[Value.string { data := #[] : ByteArray }, Value.int IntKind.i64 (0 : Int), Value.int IntKind.i64 (0 : Int), Value.int IntKind.i64 (0 : Int),
      Value.int IntKind.i64 (0 : Int), Value.slice none (0 : Nat) (0 : Nat), Value.int IntKind.i64 (0 : Int), Value.int IntKind.i64 (0 : Int),
      Value.int IntKind.i64 (0 : Int), Value.int IntKind.i64 (0 : Int)],
      Value.int IntKind.i64 (21 : Int)])
      m))
      (∀ (n : Nat),
      m.sz ≤ n →
      Vc.Spec Try.prog (83 : Nat)
      [Value.agg
      #[Value.string x.key, Value.int IntKind.i64 x.lo, Value.int IntKind.i64 x.hi, Value.int IntKind.i64 x.base, Value.int IntKind.i64 x.round,
      Value.slice a x.hs.length c, Value.int IntKind.i64 x.lk.cl, Value.int IntKind.i64 x.lk.sq, Value.int IntKind.i64 x.lk.hm, Value.int IntKind.i64 x.lk.n]]
      { π := m.π, sz := n, uf := m.uf : M } fun (v : Value) (m' : M) =>
      ∃ (s : ByteArray),
      ∃ (n : Int),
      ∃ (n_1 : Int),
      ∃ (n_2 : Int),
      ∃ (n_3 : Int),
      ∃ (a : Option Addr),
      ∃ (n_4 : Nat),
      ∃ (c : Nat),
      ∃ (n_5 : Int),
      ∃ (n_6 : Int),
      ∃ (n_7 : Int),
      ∃ (n_8 : Int),
      v =
      Value.agg
      #[Value.string s, Value.int IntKind.i64 n, Value.int IntKind.i64 n_1, Value.int IntKind.i64 n_2, Value.int IntKind.i64 n_3,
      Value.slice a n_4 c, Value.int IntKind.i64 n_5, Value.int IntKind.i64 n_6, Value.int IntKind.i64 n_7, Value.int IntKind.i64 n_8] ∧
      Done
      (AcR m (aThaw x)
      (Value.tuple
      #[Value.agg
      #[Value.string s, Value.int IntKind.i64 n, Value.int IntKind.i64 n_1, Value.int IntKind.i64 n_2, Value.int IntKind.i64 (0 : Int),
      Value.slice a n_4 c, Value.int IntKind.i64 n_5, Value.int IntKind.i64 n_6, Value.int IntKind.i64 n_7,
      Value.int IntKind.i64 n_8],
      Value.int IntKind.i64 (0 : Int)])
      m'))) (by kernel_rfl) ?_
  refine ⟨rfl, _, rright_q x a c hx _ h, ?_⟩
  cases hr : rightB x
  · exact ifB_true (fail_d (by simp [aThaw, hr]))
  refine ifB_false (fun N hN => ?_)
  refine (ccopy_q x a c (by have := right_len hr; omega) _ (h.sz hN)).mono fun v m' hag ⟨a', c', hv, hr'⟩ => ⟨_, _, _, _, _, _, _, _, _, _, _, _, hv, ?_⟩
  exact ok_d (z := { x with round := 0 }) (by simp [aThaw, hr]) hr' hN

theorem rfree_s (x : Ac) (a : Option Addr) (c : Nat) (b : Bool) (hx : x.wf) (m : M) (h : Row m a (hds x.hs)) : Vc.Spec Try.prog 70 [acv x a c, .bool b] m (AcR m (aFree x b)) := by
  refine Vc.Spec.of_vc Try.func70 (ann := noAnn) ?_
  refine vc_by (X :=
      true = true ∧
      ∃ (b_1 : Bool),
      QSpec Try.prog (12 : Nat)
      [Value.agg
      #[Value.string x.key, Value.int IntKind.i64 x.lo, Value.int IntKind.i64 x.hi, Value.int IntKind.i64 x.base, Value.int IntKind.i64 x.round, Value.slice a x.hs.length c,
      Value.int IntKind.i64 x.lk.cl, Value.int IntKind.i64 x.lk.sq, Value.int IntKind.i64 x.lk.hm, Value.int IntKind.i64 x.lk.n]]
      m (Value.bool b_1) ∧
      ifB (!b_1)
      (Done
      (AcR m (aFree x b)
      (Value.tuple
      #[Value.agg
      #[Value.string { data := #[] : ByteArray }, Value.int IntKind.i64 (0 : Int), Value.int IntKind.i64 (0 : Int), Value.int IntKind.i64 (0 : Int),
      Value.int IntKind.i64 (0 : Int), Value.slice none (0 : Nat) (0 : Nat), Value.int IntKind.i64 (0 : Int), Value.int IntKind.i64 (0 : Int),
      Value.int IntKind.i64 (0 : Int), Value.int IntKind.i64 (0 : Int)],
      Value.int IntKind.i64 (21 : Int)])
      m))
      (ifB (x.lk.cl == (0 : Int))
      (Done
      (AcR m (aFree x b)
      (Value.tuple
      #[Value.agg
      #[Value.string { data := #[] : ByteArray }, Value.int IntKind.i64 (0 : Int), Value.int IntKind.i64 (0 : Int), Value.int IntKind.i64 (0 : Int),
      Value.int IntKind.i64 (0 : Int), Value.slice none (0 : Nat) (0 : Nat), Value.int IntKind.i64 (0 : Int), Value.int IntKind.i64 (0 : Int),
      Value.int IntKind.i64 (0 : Int), Value.int IntKind.i64 (0 : Int)],
      Value.int IntKind.i64 (60 : Int)])
      m))
      (∀ (n : Nat),
      m.sz ≤ n →
      Vc.Spec Try.prog (83 : Nat)
      [Value.agg
      #[Value.string x.key, Value.int IntKind.i64 x.lo, Value.int IntKind.i64 x.hi, Value.int IntKind.i64 x.base, Value.int IntKind.i64 x.round,
      Value.slice a x.hs.length c, Value.int IntKind.i64 x.lk.cl, Value.int IntKind.i64 x.lk.sq, Value.int IntKind.i64 x.lk.hm, Value.int IntKind.i64 x.lk.n]]
      { π := m.π, sz := n, uf := m.uf : M } fun (v : Value) (m' : M) =>
      ∃ (s : ByteArray),
      ∃ (n : Int),
      ∃ (n_1 : Int),
      ∃ (n_2 : Int),
      ∃ (n_3 : Int),
      ∃ (a : Option Addr),
      ∃ (n_4 : Nat),
      ∃ (c : Nat),
      ∃ (n_5 : Int),
      ∃ (n_6 : Int),
      ∃ (n_7 : Int),
      ∃ (n_8 : Int),
      v =
      Value.agg
      #[Value.string s, Value.int IntKind.i64 n, Value.int IntKind.i64 n_1, Value.int IntKind.i64 n_2, Value.int IntKind.i64 n_3,
      Value.slice a n_4 c, Value.int IntKind.i64 n_5, Value.int IntKind.i64 n_6, Value.int IntKind.i64 n_7, Value.int IntKind.i64 n_8] ∧
      ifB b
      (Done
      (AcR m (aFree x b)
      (Value.tuple
      #[Value.agg
      #[Value.string s, Value.int IntKind.i64 n, Value.int IntKind.i64 n_1, Value.int IntKind.i64 (IntKind.i64.wrap (n_2 + n_8)),
      Value.int IntKind.i64 n_3, Value.slice a n_4 c, Value.int IntKind.i64 (0 : Int), Value.int IntKind.i64 (0 : Int),
      Value.int IntKind.i64 (0 : Int), Value.int IntKind.i64 (0 : Int)],
      Value.int IntKind.i64 (0 : Int)])
      m'))
      (Done
      (AcR m (aFree x b)
      (Value.tuple
      #[Value.agg
      #[Value.string s, Value.int IntKind.i64 n, Value.int IntKind.i64 n_1, Value.int IntKind.i64 n_2, Value.int IntKind.i64 n_3,
      Value.slice a n_4 c, Value.int IntKind.i64 (0 : Int), Value.int IntKind.i64 (0 : Int), Value.int IntKind.i64 (0 : Int),
      Value.int IntKind.i64 (0 : Int)],
      Value.int IntKind.i64 (0 : Int)])
      m'))))) (by kernel_rfl) ?_
  refine ⟨rfl, _, rright_q x a c hx _ h, ?_⟩
  cases hr : rightB x
  · exact ifB_true (fail_d (by simp [aFree, hr]))
  refine ifB_false (ifB_intro (fun h1 => fail_d ?_) (fun h1 N hN => ?_))
  · simp at h1; simp [aFree, hr, h1]
  · have h1 : x.lk.cl ≠ 0 := by simpa using h1
    refine (ccopy_q x a c (by have := right_len hr; omega) _ (h.sz hN)).mono fun v m' hag ⟨a', c', hv, hr'⟩ => ⟨_, _, _, _, _, _, _, _, _, _, _, _, hv, ?_⟩
    refine ifB_intro (fun h2 => ?_) (fun h2 => ok_d (z := { x with lk := lk0 }) ?_ hr' hN)
    · subst h2
      have e : IntKind.i64.wrap (x.base + x.lk.n) = x.base + x.lk.n := by have := lock_in hx hr h1; unfold In64 at this; simp [IntKind.wrap_i64]; omega
      rw [e]
      exact ok_d (z := { x with base := x.base + x.lk.n, lk := lk0 }) (by simp [aFree, hr, h1]) hr' hN
    · subst h2; simp [aFree, hr, h1]

theorem radd_s (x : Ac) (a : Option Addr) (c : Nat) (n : Int) (hx : x.wf) (hn : In64 n) (m : M) (h : Row m a (hds x.hs)) : Vc.Spec Try.prog 71 [acv x a c, I n] m (AcR m (aAdd x n)) := by
  refine Vc.Spec.of_vc Try.func71 (ann := noAnn) ?_
  refine vc_by (X :=
      true = true ∧
      ∃ (b : Bool),
      QSpec Try.prog (12 : Nat)
      [Value.agg
      #[Value.string x.key, Value.int IntKind.i64 x.lo, Value.int IntKind.i64 x.hi, Value.int IntKind.i64 x.base, Value.int IntKind.i64 x.round, Value.slice a x.hs.length c,
      Value.int IntKind.i64 x.lk.cl, Value.int IntKind.i64 x.lk.sq, Value.int IntKind.i64 x.lk.hm, Value.int IntKind.i64 x.lk.n]]
      m (Value.bool b) ∧
      ifB (!b)
      (Done
      (AcR m (aAdd x n)
      (Value.tuple
      #[Value.agg
      #[Value.string { data := #[] : ByteArray }, Value.int IntKind.i64 (0 : Int), Value.int IntKind.i64 (0 : Int), Value.int IntKind.i64 (0 : Int),
      Value.int IntKind.i64 (0 : Int), Value.slice none (0 : Nat) (0 : Nat), Value.int IntKind.i64 (0 : Int), Value.int IntKind.i64 (0 : Int),
      Value.int IntKind.i64 (0 : Int), Value.int IntKind.i64 (0 : Int)],
      Value.int IntKind.i64 (21 : Int)])
      m))
      (ifB (n == (0 : Int))
      (Done
      (AcR m (aAdd x n)
      (Value.tuple
      #[Value.agg
      #[Value.string { data := #[] : ByteArray }, Value.int IntKind.i64 (0 : Int), Value.int IntKind.i64 (0 : Int), Value.int IntKind.i64 (0 : Int),
      Value.int IntKind.i64 (0 : Int), Value.slice none (0 : Nat) (0 : Nat), Value.int IntKind.i64 (0 : Int), Value.int IntKind.i64 (0 : Int),
      Value.int IntKind.i64 (0 : Int), Value.int IntKind.i64 (0 : Int)],
      Value.int IntKind.i64 (1 : Int)])
      m))
      (ifB (x.lk.cl != (0 : Int))
      (Done
      (AcR m (aAdd x n)
      (Value.tuple
      #[Value.agg
      #[Value.string { data := #[] : ByteArray }, Value.int IntKind.i64 (0 : Int), Value.int IntKind.i64 (0 : Int), Value.int IntKind.i64 (0 : Int),
      Value.int IntKind.i64 (0 : Int), Value.slice none (0 : Nat) (0 : Nat), Value.int IntKind.i64 (0 : Int), Value.int IntKind.i64 (0 : Int),
      Value.int IntKind.i64 (0 : Int), Value.int IntKind.i64 (0 : Int)],
      Value.int IntKind.i64 (152 : Int)])
      m))
      (∃ (n_1 : Int),
      ∃ (n_2 : Int),
      ∃ (n_3 : Int),
      ∃ (n_4 : Int),
      QSpec Try.prog (41 : Nat)
      [Value.agg
      #[Value.string x.key, Value.int IntKind.i64 x.lo, Value.int IntKind.i64 x.hi, Value.int IntKind.i64 x.base, Value.int IntKind.i64 x.round,
      Value.slice a x.hs.length c, Value.int IntKind.i64 x.lk.cl, Value.int IntKind.i64 x.lk.sq, Value.int IntKind.i64 x.lk.hm,
      Value.int IntKind.i64 x.lk.n]]
      m (Value.tuple #[Value.agg #[Value.int IntKind.i64 n_1, Value.int IntKind.u64 n_2], Value.agg #[Value.int IntKind.i64 n_3, Value.int IntKind.u64 n_4]]) ∧
      true = true ∧
      ifB (decide (n > (0 : Int)))
      (∃ (n_5 : Int),
      ∃ (n_6 : Int),
      QSpec Try.prog (31 : Nat) [Value.agg #[Value.int IntKind.i64 n_3, Value.int IntKind.u64 n_4], Value.int IntKind.i64 n] m
      (Value.agg #[Value.int IntKind.i64 n_5, Value.int IntKind.u64 n_6]) ∧
      ∃ (b : Bool),
      QSpec Try.prog (42 : Nat) [Value.agg #[Value.int IntKind.i64 n_5, Value.int IntKind.u64 n_6], Value.int IntKind.i64 x.hi] m (Value.bool b) ∧
      ifB b
      (Done
      (AcR m (aAdd x n)
      (Value.tuple
      #[Value.agg
      #[Value.string { data := #[] : ByteArray }, Value.int IntKind.i64 (0 : Int), Value.int IntKind.i64 (0 : Int),
      Value.int IntKind.i64 (0 : Int), Value.int IntKind.i64 (0 : Int), Value.slice none (0 : Nat) (0 : Nat),
      Value.int IntKind.i64 (0 : Int), Value.int IntKind.i64 (0 : Int), Value.int IntKind.i64 (0 : Int),
      Value.int IntKind.i64 (0 : Int)],
      Value.int IntKind.i64 (150 : Int)])
      m))
      (ifB (decide (n < (0 : Int)))
      (∃ (n_7 : Int),
      ∃ (n_8 : Int),
      QSpec Try.prog (31 : Nat) [Value.agg #[Value.int IntKind.i64 n_1, Value.int IntKind.u64 n_2], Value.int IntKind.i64 n] m
      (Value.agg #[Value.int IntKind.i64 n_7, Value.int IntKind.u64 n_8]) ∧
      ∃ (n_9 : Int),
      ∃ (n_10 : Int),
      QSpec Try.prog (43 : Nat) [Value.agg #[Value.int IntKind.i64 n_7, Value.int IntKind.u64 n_8], Value.int IntKind.i64 x.lo] m
      (Value.agg #[Value.int IntKind.i64 n_9, Value.int IntKind.u64 n_10]) ∧
      ifB (decide (n_9 < (0 : Int)))
      (Done
      (AcR m (aAdd x n)
      (Value.tuple
      #[Value.agg
      #[Value.string { data := #[] : ByteArray }, Value.int IntKind.i64 (0 : Int), Value.int IntKind.i64 (0 : Int),
      Value.int IntKind.i64 (0 : Int), Value.int IntKind.i64 (0 : Int), Value.slice none (0 : Nat) (0 : Nat),
      Value.int IntKind.i64 (0 : Int), Value.int IntKind.i64 (0 : Int), Value.int IntKind.i64 (0 : Int),
      Value.int IntKind.i64 (0 : Int)],
      Value.int IntKind.i64 (150 : Int)])
      m))
      (∀ (n_11 : Nat),
      m.sz ≤ n_11 →
      Vc.Spec Try.prog (83 : Nat)
      [Value.agg
      #[Value.string x.key, Value.int IntKind.i64 x.lo, Value.int IntKind.i64 x.hi, Value.int IntKind.i64 x.base,
      Value.int IntKind.i64 x.round, Value.slice a x.hs.length c, Value.int IntKind.i64 x.lk.cl,
      Value.int IntKind.i64 x.lk.sq, Value.int IntKind.i64 x.lk.hm, Value.int IntKind.i64 x.lk.n]]
      { π := m.π, sz := n_11, uf := m.uf : M } fun (v : Value) (m' : M) =>
      ∃ (s : ByteArray),
      ∃ (n_12 : Int),
      ∃ (n_13 : Int),
      ∃ (n_14 : Int),
      ∃ (n_15 : Int),
      ∃ (a : Option Addr),
      ∃ (n_16 : Nat),
      ∃ (c : Nat),
      ∃ (n_17 : Int),
      ∃ (n_18 : Int),
      ∃ (n_19 : Int),
      ∃ (n_20 : Int),
      v =
      Value.agg
      #[Value.string s, Value.int IntKind.i64 n_12, Value.int IntKind.i64 n_13,
      Value.int IntKind.i64 n_14, Value.int IntKind.i64 n_15, Value.slice a n_16 c,
      Value.int IntKind.i64 n_17, Value.int IntKind.i64 n_18, Value.int IntKind.i64 n_19,
      Value.int IntKind.i64 n_20] ∧
      Done
      (AcR m (aAdd x n)
      (Value.tuple
      #[Value.agg
      #[Value.string s, Value.int IntKind.i64 n_12, Value.int IntKind.i64 n_13,
      Value.int IntKind.i64 (IntKind.i64.wrap (n_14 + n)), Value.int IntKind.i64 n_15,
      Value.slice a n_16 c, Value.int IntKind.i64 n_17, Value.int IntKind.i64 n_18,
      Value.int IntKind.i64 n_19, Value.int IntKind.i64 n_20],
      Value.int IntKind.i64 (0 : Int)])
      m')))
      (∀ (n_7 : Nat),
      m.sz ≤ n_7 →
      Vc.Spec Try.prog (83 : Nat)
      [Value.agg
      #[Value.string x.key, Value.int IntKind.i64 x.lo, Value.int IntKind.i64 x.hi, Value.int IntKind.i64 x.base,
      Value.int IntKind.i64 x.round, Value.slice a x.hs.length c, Value.int IntKind.i64 x.lk.cl, Value.int IntKind.i64 x.lk.sq,
      Value.int IntKind.i64 x.lk.hm, Value.int IntKind.i64 x.lk.n]]
      { π := m.π, sz := n_7, uf := m.uf : M } fun (v : Value) (m' : M) =>
      ∃ (s : ByteArray),
      ∃ (n_8 : Int),
      ∃ (n_9 : Int),
      ∃ (n_10 : Int),
      ∃ (n_11 : Int),
      ∃ (a : Option Addr),
      ∃ (n_12 : Nat),
      ∃ (c : Nat),
      ∃ (n_13 : Int),
      ∃ (n_14 : Int),
      ∃ (n_15 : Int),
      ∃ (n_16 : Int),
      v =
      Value.agg
      #[Value.string s, Value.int IntKind.i64 n_8, Value.int IntKind.i64 n_9, Value.int IntKind.i64 n_10,
      Value.int IntKind.i64 n_11, Value.slice a n_12 c, Value.int IntKind.i64 n_13,
      Value.int IntKind.i64 n_14, Value.int IntKind.i64 n_15, Value.int IntKind.i64 n_16] ∧
      Done
      (AcR m (aAdd x n)
      (Value.tuple
      #[Value.agg
      #[Value.string s, Value.int IntKind.i64 n_8, Value.int IntKind.i64 n_9,
      Value.int IntKind.i64 (IntKind.i64.wrap (n_10 + n)), Value.int IntKind.i64 n_11,
      Value.slice a n_12 c, Value.int IntKind.i64 n_13, Value.int IntKind.i64 n_14,
      Value.int IntKind.i64 n_15, Value.int IntKind.i64 n_16],
      Value.int IntKind.i64 (0 : Int)])
      m'))))
      (ifB (decide (n < (0 : Int)))
      (∃ (n_5 : Int),
      ∃ (n_6 : Int),
      QSpec Try.prog (31 : Nat) [Value.agg #[Value.int IntKind.i64 n_1, Value.int IntKind.u64 n_2], Value.int IntKind.i64 n] m
      (Value.agg #[Value.int IntKind.i64 n_5, Value.int IntKind.u64 n_6]) ∧
      ∃ (n_7 : Int),
      ∃ (n_8 : Int),
      QSpec Try.prog (43 : Nat) [Value.agg #[Value.int IntKind.i64 n_5, Value.int IntKind.u64 n_6], Value.int IntKind.i64 x.lo] m
      (Value.agg #[Value.int IntKind.i64 n_7, Value.int IntKind.u64 n_8]) ∧
      ifB (decide (n_7 < (0 : Int)))
      (Done
      (AcR m (aAdd x n)
      (Value.tuple
      #[Value.agg
      #[Value.string { data := #[] : ByteArray }, Value.int IntKind.i64 (0 : Int), Value.int IntKind.i64 (0 : Int),
      Value.int IntKind.i64 (0 : Int), Value.int IntKind.i64 (0 : Int), Value.slice none (0 : Nat) (0 : Nat),
      Value.int IntKind.i64 (0 : Int), Value.int IntKind.i64 (0 : Int), Value.int IntKind.i64 (0 : Int),
      Value.int IntKind.i64 (0 : Int)],
      Value.int IntKind.i64 (150 : Int)])
      m))
      (∀ (n_9 : Nat),
      m.sz ≤ n_9 →
      Vc.Spec Try.prog (83 : Nat)
      [Value.agg
      #[Value.string x.key, Value.int IntKind.i64 x.lo, Value.int IntKind.i64 x.hi, Value.int IntKind.i64 x.base,
      Value.int IntKind.i64 x.round, Value.slice a x.hs.length c, Value.int IntKind.i64 x.lk.cl, Value.int IntKind.i64 x.lk.sq,
      Value.int IntKind.i64 x.lk.hm, Value.int IntKind.i64 x.lk.n]]
      { π := m.π, sz := n_9, uf := m.uf : M } fun (v : Value) (m' : M) =>
      ∃ (s : ByteArray),
      ∃ (n_10 : Int),
      ∃ (n_11 : Int),
      ∃ (n_12 : Int),
      ∃ (n_13 : Int),
      ∃ (a : Option Addr),
      ∃ (n_14 : Nat),
      ∃ (c : Nat),
      ∃ (n_15 : Int),
      ∃ (n_16 : Int),
      ∃ (n_17 : Int),
      ∃ (n_18 : Int),
      v =
      Value.agg
      #[Value.string s, Value.int IntKind.i64 n_10, Value.int IntKind.i64 n_11, Value.int IntKind.i64 n_12,
      Value.int IntKind.i64 n_13, Value.slice a n_14 c, Value.int IntKind.i64 n_15,
      Value.int IntKind.i64 n_16, Value.int IntKind.i64 n_17, Value.int IntKind.i64 n_18] ∧
      Done
      (AcR m (aAdd x n)
      (Value.tuple
      #[Value.agg
      #[Value.string s, Value.int IntKind.i64 n_10, Value.int IntKind.i64 n_11,
      Value.int IntKind.i64 (IntKind.i64.wrap (n_12 + n)), Value.int IntKind.i64 n_13,
      Value.slice a n_14 c, Value.int IntKind.i64 n_15, Value.int IntKind.i64 n_16,
      Value.int IntKind.i64 n_17, Value.int IntKind.i64 n_18],
      Value.int IntKind.i64 (0 : Int)])
      m')))
      (∀ (n_5 : Nat),
      m.sz ≤ n_5 →
      Vc.Spec Try.prog (83 : Nat)
      [Value.agg
      #[Value.string x.key, Value.int IntKind.i64 x.lo, Value.int IntKind.i64 x.hi, Value.int IntKind.i64 x.base, Value.int IntKind.i64 x.round,
      Value.slice a x.hs.length c, Value.int IntKind.i64 x.lk.cl, Value.int IntKind.i64 x.lk.sq, Value.int IntKind.i64 x.lk.hm,
      Value.int IntKind.i64 x.lk.n]]
      { π := m.π, sz := n_5, uf := m.uf : M } fun (v : Value) (m' : M) =>
      ∃ (s : ByteArray),
      ∃ (n_6 : Int),
      ∃ (n_7 : Int),
      ∃ (n_8 : Int),
      ∃ (n_9 : Int),
      ∃ (a : Option Addr),
      ∃ (n_10 : Nat),
      ∃ (c : Nat),
      ∃ (n_11 : Int),
      ∃ (n_12 : Int),
      ∃ (n_13 : Int),
      ∃ (n_14 : Int),
      v =
      Value.agg
      #[Value.string s, Value.int IntKind.i64 n_6, Value.int IntKind.i64 n_7, Value.int IntKind.i64 n_8,
      Value.int IntKind.i64 n_9, Value.slice a n_10 c, Value.int IntKind.i64 n_11, Value.int IntKind.i64 n_12,
      Value.int IntKind.i64 n_13, Value.int IntKind.i64 n_14] ∧
      Done
      (AcR m (aAdd x n)
      (Value.tuple
      #[Value.agg
      #[Value.string s, Value.int IntKind.i64 n_6, Value.int IntKind.i64 n_7,
      Value.int IntKind.i64 (IntKind.i64.wrap (n_8 + n)), Value.int IntKind.i64 n_9, Value.slice a n_10 c,
      Value.int IntKind.i64 n_11, Value.int IntKind.i64 n_12, Value.int IntKind.i64 n_13,
      Value.int IntKind.i64 n_14],
      Value.int IntKind.i64 (0 : Int)])
      m'))))))) (by kernel_rfl) ?_
  refine ⟨rfl, _, rright_q x a c hx _ h, ?_⟩
  cases hr : rightB x
  · exact ifB_true (fail_d (by simp [aAdd, hr]))
  refine ifB_false (ifB_intro (fun h1 => fail_d ?_) (fun h1 => ifB_intro (fun h2 => fail_d ?_) (fun h2 => ⟨_, _, _, _, ends_q x a c hx _ h, rfl, ?_⟩)))
  · simp at h1; simp [aAdd, hr, h1]
  · simp at h1 h2; simp [aAdd, hr, h1, h2]
  have h1 : n ≠ 0 := by simpa using h1
  have h2 : x.lk.cl = 0 := by simpa using h2
  have hb := room_bounds hx hr h2
  have hbd := ((right_iff x).1 hr).bounds hx
  have hlo := hx.lo
  have hhi := hx.hi
  have hb1 := hbd.1
  have hb2 := hbd.2.1
  have e1 : wideHi (sumI (dnsL x) + n - x.lo) < 0 ↔ sumI (dnsL x) + n < x.lo := by
    unfold In64 at *; simp [wideHi, IntKind.wrap_i64]; omega
  refine ifB_intro (fun h3 => ⟨_, _, plus_q _ _ hn _, _, above_q _ _ (by unfold In64 at *; omega) hx.hi _, ifB_intro (fun h4 => fail_d ?_) (fun h4 => ifB_intro (fun h5 => ?_) (fun h5 N hN => ?_))⟩) (fun h3 => ifB_intro (fun h4 => ⟨_, _, plus_q _ _ hn _, _, _, less_q _ _ hx.lo _, ifB_intro (fun h5 => fail_d ?_) (fun h5 N hN => ?_)⟩) (fun h4 N hN => ?_))
  · simp at h3 h4; simp [aAdd, hr, h1, h2]; omega
  · simp at h3 h5; omega
  rotate_left
  · have h5 := e1.1 (by simpa using h5)
    simp at h4; simp [aAdd, hr, h1, h2]; omega
  all_goals
    refine (ccopy_q x a c (by have := right_len hr; omega) _ (h.sz hN)).mono fun v m' hag ⟨a', c', hv, hr'⟩ => ⟨_, _, _, _, _, _, _, _, _, _, _, _, hv, ?_⟩
    have hnb : ¬ ((0 < n ∧ roomUp x < n) ∨ (n < 0 ∧ roomDn x < -n)) := by
      first
      | (simp at h3 h4; omega)
      | (have h5 : ¬ (sumI (dnsL x) + n < x.lo) := fun hh => by simp at h5; have := e1.2 hh; omega
         simp at h3 h4; omega)
    have e : IntKind.i64.wrap (x.base + n) = x.base + n := by unfold In64 at *; simp [IntKind.wrap_i64]; omega
    rw [e]
    exact ok_d (z := { x with base := x.base + n }) (by simp [aAdd, hr, h1, h2, hnb]) hr' hN

end Go.Proofs.Ytlifpjllhibdpaa
set_option linter.unusedVariables false
set_option linter.unusedSimpArgs false
namespace Go.Proofs.Ytlifpjllhibdpaa
open Go.Vc Go.RowKit

theorem sum_shift (l : List Int) (b n : Int) : sumI ((b + n) :: l) = sumI (b :: l) + n := by
  rw [sumI_cons, sumI_cons]; omega

/-- the total changed by n -/
def Ac.by (x : Ac) (n : Int) : Ac := { x with base := x.base + n }

theorem aAdd_ok {x : Ac} {n : Int} (h : (aAdd x n).2 = 0) : rightB x = true ∧ n ≠ 0 ∧ x.lk.cl = 0 ∧ ¬ ((0 < n ∧ roomUp x < n) ∨ (n < 0 ∧ roomDn x < -n)) ∧ aAdd x n = (x.by n, 0) := by
  unfold aAdd at h ⊢
  split at h
  · simp at h
  split at h
  · simp at h
  split at h
  · simp at h
  split at h
  · simp at h
  rename_i h1 h2 h3 h4
  simp at h1 h3
  exact ⟨h1, h2, h3, h4, by simp only [h1, h2, h3, h4, if_false, Ac.by]; simp⟩

theorem aAdd_err {x : Ac} {n : Int} (h : (aAdd x n).2 ≠ 0) : aAdd x n = (ac0, (aAdd x n).2) := by
  unfold aAdd at h ⊢
  repeat' split
  all_goals simp_all

theorem by_right {x : Ac} {n : Int} (hx : x.wf) (hr : rightB x = true) (hl : x.lk.cl = 0) (h : ¬ ((0 < n ∧ roomUp x < n) ∨ (n < 0 ∧ roomDn x < -n))) : rightB (x.by n) = true ∧ (x.by n).wf ∧ roomUp (x.by n) = roomUp x - n ∧ roomDn (x.by n) = roomDn x + n := by
  have hb := room_bounds hx hr hl
  have hp := (right_iff x).1 hr
  have hbd := hp.bounds hx
  have hlo := hx.lo
  have hhi := hx.hi
  have e1 : sumI (upsL (x.by n)) = sumI (upsL x) + n := sum_shift _ _ _
  have e2 : sumI (dnsL (x.by n)) = sumI (dnsL x) + n := sum_shift _ _ _
  have hR : RightP (x.by n) := by
    refine ⟨hp.key, ?_, hp.round, hp.hold, ?_, ?_, ?_⟩
    · show x.lo ≤ x.base + n ∧ x.base + n ≤ x.hi; omega
    · rw [e1]; show _ ≤ x.hi; omega
    · rw [e2]; show x.lo ≤ _; omega
    · have := hp.lock
      simp only [lockB, hl, if_true, Ac.by] at this ⊢
      exact this
  have hR' := (right_iff _).2 hR
  have hl' : (x.by n).lk.cl = 0 := hl
  have hw : (x.by n).wf := ⟨hx.key, hx.lo, hx.hi, by show In64 (x.base + n); unfold In64 at *; omega, hx.round, hx.hs, hx.len, hx.lk⟩
  have hb' := room_bounds hw hR' hl'
  rw [e1, e2] at hb'
  exact ⟨hR', hw, by have h1 : (x.by n).hi = x.hi := rfl; omega, by have h1 : (x.by n).lo = x.lo := rfl; omega⟩

theorem by_back (x : Ac) (n : Int) : (x.by n).by (-n) = x := by
  obtain ⟨_, _, _, b, _, _, _⟩ := x
  simp only [Ac.by, Ac.mk.injEq, true_and, and_true]; omega

theorem newr_none {B c n : Nat} {S : Nat → Prop} {m : M} {l : List Hd} (h : NewR B S m 4 none n c (hds l)) : l = [] := by
  have : hds l = [] := by
    generalize hds l = cs at h
    generalize ha : (none : Option Addr) = a at h
    cases h with
    | nil => rfl
    | own h => cases h with
      | nil => rfl
      | «at» => cases ha
  have := congrArg List.length this
  rw [hds_len] at this
  exact List.eq_nil_of_length_eq_zero (by simp at this; omega)

theorem wrap_in (n : Int) : In64 (IntKind.i64.wrap n) := by
  unfold In64; simp [IntKind.wrap_i64]; omega

theorem accountadds (x : Ac) (a : Option Addr) (c : Nat) (n : Int) (hx : x.wf) (hn : In64 n) (h0 : a = none → x.hs = []) (m : M) (h : Row m a (hds x.hs)) : QSpec Try.prog 4 [acv x a c, I n] m (.bool true) := by
  refine QSpec.of_vc Try.func4 (ann := fun _ => noAnn) fun N hN => ?_
  refine vc_by (X :=
      true = true ∧
      ∃ (b : Bool),
      QSpec Try.prog (21 : Nat) [] { π := m.π, sz := N, uf := m.uf : M } (Value.bool b) ∧
      ifB (!b) (Done (Value.bool false = Value.bool true))
      (∃ (n_1 : Int),
      ∃ (n_2 : Int),
      QSpec Try.prog (15 : Nat)
      [Value.agg
      #[Value.string x.key, Value.int IntKind.i64 x.lo, Value.int IntKind.i64 x.hi, Value.int IntKind.i64 x.base, Value.int IntKind.i64 x.round,
      Value.slice a x.hs.length c, Value.int IntKind.i64 x.lk.cl, Value.int IntKind.i64 x.lk.sq, Value.int IntKind.i64 x.lk.hm, Value.int IntKind.i64 x.lk.n]]
      { π := m.π, sz := N, uf := m.uf : M } (Value.tuple #[Value.int IntKind.u64 n_1, Value.int IntKind.u64 n_2]) ∧
      ∀ (n_3 : Nat),
      N ≤ n_3 →
      Vc.Spec Try.prog (27 : Nat)
      [Value.agg
      #[Value.string x.key, Value.int IntKind.i64 x.lo, Value.int IntKind.i64 x.hi, Value.int IntKind.i64 x.base, Value.int IntKind.i64 x.round,
      Value.slice a x.hs.length c, Value.int IntKind.i64 x.lk.cl, Value.int IntKind.i64 x.lk.sq, Value.int IntKind.i64 x.lk.hm, Value.int IntKind.i64 x.lk.n],
      Value.int IntKind.i64 n]
      { π := m.π, sz := n_3, uf := m.uf : M } fun (v : Value) (m' : M) =>
      ∃ (s : ByteArray),
      ∃ (n_4 : Int),
      ∃ (n_5 : Int),
      ∃ (n_6 : Int),
      ∃ (n_7 : Int),
      ∃ (a_2 : Option Addr),
      ∃ (n_8 : Nat),
      ∃ (c_1 : Nat),
      ∃ (n_9 : Int),
      ∃ (n_10 : Int),
      ∃ (n_11 : Int),
      ∃ (n_12 : Int),
      ∃ (n_13 : Int),
      v =
      Value.tuple
      #[Value.agg
      #[Value.string s, Value.int IntKind.i64 n_4, Value.int IntKind.i64 n_5, Value.int IntKind.i64 n_6,
      Value.int IntKind.i64 n_7, Value.slice a_2 n_8 c_1, Value.int IntKind.i64 n_9, Value.int IntKind.i64 n_10,
      Value.int IntKind.i64 n_11, Value.int IntKind.i64 n_12],
      Value.int IntKind.i64 n_13] ∧
      ifB (n_13 == (0 : Int))
      (∀ (n_14 : Nat),
      m'.sz ≤ n_14 →
      Vc.Spec Try.prog (27 : Nat)
      [Value.agg
      #[Value.string s, Value.int IntKind.i64 n_4, Value.int IntKind.i64 n_5, Value.int IntKind.i64 n_6,
      Value.int IntKind.i64 n_7, Value.slice a_2 n_8 c_1, Value.int IntKind.i64 n_9, Value.int IntKind.i64 n_10,
      Value.int IntKind.i64 n_11, Value.int IntKind.i64 n_12],
      Value.int IntKind.i64 (IntKind.i64.wrap ((0 : Int) - n))]
      { π := m'.π, sz := n_14, uf := m'.uf : M } fun (v : Value) (m' : M) =>
      ∃ (s : ByteArray),
      ∃ (n_15 : Int),
      ∃ (n_16 : Int),
      ∃ (n_17 : Int),
      ∃ (n_18 : Int),
      ∃ (a_4 : Option Addr),
      ∃ (n_19 : Nat),
      ∃ (c_2 : Nat),
      ∃ (n_20 : Int),
      ∃ (n_21 : Int),
      ∃ (n_22 : Int),
      ∃ (n_23 : Int),
      ∃ (n_24 : Int),
      v =
      Value.tuple
      #[Value.agg
      #[Value.string s, Value.int IntKind.i64 n_15, Value.int IntKind.i64 n_16,
      Value.int IntKind.i64 n_17, Value.int IntKind.i64 n_18, Value.slice a_4 n_19 c_2,
      Value.int IntKind.i64 n_20, Value.int IntKind.i64 n_21, Value.int IntKind.i64 n_22,
      Value.int IntKind.i64 n_23],
      Value.int IntKind.i64 n_24] ∧
      ifB (n != IntKind.i64.wrap ((0 : Int) - n))
      (ifB (n_24 == (0 : Int))
      (∃ (b : Bool),
      QSpec Try.prog (23 : Nat)
      [Value.agg
      #[Value.string s, Value.int IntKind.i64 n_15, Value.int IntKind.i64 n_16,
      Value.int IntKind.i64 n_17, Value.int IntKind.i64 n_18,
      Value.slice a_4 n_19 c_2, Value.int IntKind.i64 n_20,
      Value.int IntKind.i64 n_21, Value.int IntKind.i64 n_22,
      Value.int IntKind.i64 n_23],
      Value.agg
      #[Value.string x.key, Value.int IntKind.i64 x.lo, Value.int IntKind.i64 x.hi,
      Value.int IntKind.i64 x.base, Value.int IntKind.i64 x.round,
      Value.slice a x.hs.length c, Value.int IntKind.i64 x.lk.cl,
      Value.int IntKind.i64 x.lk.sq, Value.int IntKind.i64 x.lk.hm,
      Value.int IntKind.i64 x.lk.n]]
      m' (Value.bool b) ∧
      ifB b (Done (Value.bool (IntKind.i64.wrap (n_6 - n) == x.base) = Value.bool true))
      (Done (Value.bool false = Value.bool true)))
      (Done (Value.bool false = Value.bool true)))
      (ifB (n != (0 : Int))
      (Done (Value.bool (IntKind.i64.wrap (n_6 - n) == x.base) = Value.bool true))
      (Done (Value.bool false = Value.bool true))))
      (∃ (n_14 : Int),
      QSpec Try.prog (22 : Nat)
      [Value.agg
      #[Value.string x.key, Value.int IntKind.i64 x.lo, Value.int IntKind.i64 x.hi, Value.int IntKind.i64 x.base,
      Value.int IntKind.i64 x.round, Value.slice a x.hs.length c, Value.int IntKind.i64 x.lk.cl,
      Value.int IntKind.i64 x.lk.sq, Value.int IntKind.i64 x.lk.hm, Value.int IntKind.i64 x.lk.n]]
      m' (Value.int IntKind.i64 n_14) ∧
      ifB (n_14 != (0 : Int))
      (ifB (n_13 == (21 : Int)) (Done (Value.bool true = Value.bool true))
      (ifB (n_13 == (1 : Int)) (Done (Value.bool true = Value.bool true))
      (Done (Value.bool (n_13 == (152 : Int)) = Value.bool true))))
      (ifB (n == (0 : Int))
      (ifB (n_13 == (21 : Int)) (Done (Value.bool true = Value.bool true))
      (ifB (n_13 == (1 : Int)) (Done (Value.bool true = Value.bool true))
      (Done (Value.bool (n_13 == (152 : Int)) = Value.bool true))))
      (ifB (x.lk.cl != (0 : Int))
      (ifB (n_13 == (21 : Int)) (Done (Value.bool true = Value.bool true))
      (ifB (n_13 == (1 : Int)) (Done (Value.bool true = Value.bool true))
      (Done (Value.bool (n_13 == (152 : Int)) = Value.bool true))))
      (ifB (n_13 == (150 : Int))
      (ifB (decide (n > (0 : Int)))
      (ifB (decide (IntKind.u64.wrap n > n_2)) (Done (Value.bool true = Value.bool true))
      (ifB (decide (n < (0 : Int)))
      (Done (Value.bool (decide (IntKind.u64.wrap (IntKind.i64.wrap ((0 : Int) - n)) > n_1)) = Value.bool true))
      (Done (Value.bool false = Value.bool true))))
      (ifB (decide (n < (0 : Int)))
      (Done (Value.bool (decide (IntKind.u64.wrap (IntKind.i64.wrap ((0 : Int) - n)) > n_1)) = Value.bool true))
      (Done (Value.bool false = Value.bool true))))
      (Done (Value.bool false = Value.bool true)))))))) (by kernel_rfl) ?_
  refine ⟨rfl, _, awake_q _, ifB_false ⟨_, _, room_q x a c hx _ (h.sz hN), fun N1 hN1 => (aadd_s x a c n hx hn h0 _ (h.sz (Nat.le_trans hN hN1))).mono fun v m' hag ⟨a', c', hv, hr⟩ => ⟨_, _, _, _, _, _, _, _, _, _, _, _, _, hv, ?_⟩⟩⟩
  by_cases he : (aAdd x n).2 = 0
  · obtain ⟨h1, h2, h3, h4, h5⟩ := aAdd_ok he
    obtain ⟨g1, g2, g3, g4⟩ := by_right hx h1 h3 h4
    rw [h5] at hr ⊢
    refine ifB_true fun N2 hN2 => (aadd_s (x.by n) a' c' (IntKind.i64.wrap (0 - n)) g2 (wrap_in _) (fun e => by subst e; exact newr_none hr) _ (hr.row.sz hN2)).mono fun v2 m2 hag2 ⟨a2, c2, hv2, hr2⟩ => ⟨_, _, _, _, _, _, _, _, _, _, _, _, _, hv2, ?_⟩
    have hrow : Row m2 a (hds x.hs) := ((((h.sz (Nat.le_trans hN hN1)).agree hag).sz hN2).agree hag2)
    have eb : IntKind.i64.wrap ((x.by n).base - n) = x.base := by
      have := hx.base; unfold In64 at this; simp [Ac.by, IntKind.wrap_i64]; omega
    refine ifB_intro (fun h6 => ?_) (fun h6 => ifB_intro (fun h7 => ⟨?_⟩) (fun h7 => ?_))
    · have h6 : n ≠ IntKind.i64.wrap (0 - n) := by simpa using h6
      have e : IntKind.i64.wrap (0 - n) = -n := by
        unfold In64 at hn; simp [IntKind.wrap_i64] at h6 ⊢; omega
      have hb := room_bounds hx h1 h3
      have e2 : aAdd (x.by n) (-n) = (x, 0) := by
        have hnb : ¬ ((0 < -n ∧ roomUp (x.by n) < -n) ∨ (-n < 0 ∧ roomDn (x.by n) < -(-n))) := by omega
        have hb2 := by_back x n
        unfold Ac.by at hb2
        simp only [aAdd, g1, hnb, if_false]
        have hl : (x.by n).lk.cl = 0 := h3
        have hn0 : -n ≠ 0 := by omega
        simp only [hl, hn0, if_false]
        simp [Ac.by]
        obtain ⟨_, _, _, b, _, _, _⟩ := x
        simp; omega
      rw [e, e2] at hr2 ⊢
      refine ifB_true ⟨_, saccount_q x x a2 a c2 c hx hx m2 hr2.row hrow, ?_⟩
      simp only [decide_true]
      exact ifB_true ⟨by simp only [eb]; simp⟩
    · simp only [eb]; simp
    · simp at h7; exact absurd h7 h2
  · have hb : ((aAdd x n).2 == 0) = false := by simpa using he
    rw [hb]
    have hrow : Row m' a (hds x.hs) := (h.sz (Nat.le_trans hN hN1)).agree hag
    refine ifB_false ⟨_, check_q x a c hx _ hrow, ?_⟩
    cases h1 : rightB x
    · have e : (aAdd x n).2 = 21 := by simp [aAdd, h1]
      rw [e]
      exact ifB_true (ifB_true ⟨rfl⟩)
    refine ifB_false (ifB_intro (fun h2 => ?_) (fun h2 => ifB_intro (fun h3 => ?_) (fun h3 => ?_)))
    · have e : (aAdd x n).2 = 1 := by simp at h2; simp [aAdd, h1, h2]
      rw [e]
      exact ifB_false (ifB_true ⟨rfl⟩)
    · have e : (aAdd x n).2 = 152 := by simp at h2 h3; simp [aAdd, h1, h2, h3]
      rw [e]
      exact ifB_false (ifB_false ⟨rfl⟩)
    · simp at h2 h3
      have hnb : (0 < n ∧ roomUp x < n) ∨ (n < 0 ∧ roomDn x < -n) := by
        rcases Classical.em ((0 < n ∧ roomUp x < n) ∨ (n < 0 ∧ roomDn x < -n)) with hh | hh
        · exact hh
        · simp [aAdd, h1, h2, h3, hh] at he
      have e : (aAdd x n).2 = 150 := by simp [aAdd, h1, h2, h3, hnb]
      rw [e]
      refine ifB_true (ifB_intro (fun h4 => ifB_intro (fun h5 => ⟨rfl⟩) (fun h5 => ?_)) (fun h4 => ifB_intro (fun h5 => ⟨?_⟩) (fun h5 => ?_)))
      all_goals
        simp at h4
        unfold In64 at hn
      · simp [IntKind.wrap_u64] at h5; omega
      · have : n < 0 := by omega
        simp [IntKind.wrap_u64, IntKind.wrap_i64]; omega
      · simp at h5; omega

end Go.Proofs.Ytlifpjllhibdpaa
set_option linter.unusedVariables false
set_option linter.unusedSimpArgs false
namespace Go.Proofs.Ytlifpjllhibdpaa
open Go.Vc Go.RowKit
set_option maxRecDepth 100000

def idxF (p : Hd → Bool) (l : List Hd) : Int := match l.findIdx? p with | some i => i | none => -1

theorem idxF_found {p : Hd → Bool} {l : List Hd} {k : Nat} (hk : k < l.length) (h1 : ∀ h ∈ l.take k, p h = false) (h2 : p l[k] = true) : idxF p l = k := by
  have : l.findIdx? p = some k := by
    rw [List.findIdx?_eq_some_iff_getElem]
    refine ⟨hk, h2, fun j hj => ?_⟩
    have := h1 l[j] (by rw [List.mem_take_iff_getElem]; exact ⟨j, by omega, rfl⟩)
    simp [this]
  simp [idxF, this]

theorem idxF_none {p : Hd → Bool} {l : List Hd} (h1 : ∀ h ∈ l, p h = false) : idxF p l = -1 := by
  have : l.findIdx? p = none := by rw [List.findIdx?_eq_none_iff]; exact h1
  simp [idxF, this]

theorem idxF_cases (p : Hd → Bool) (l : List Hd) : (idxF p l = -1 ∧ ∀ h ∈ l, p h = false) ∨ ∃ k, ∃ hk : k < l.length, idxF p l = k ∧ p l[k] = true ∧ ∀ h ∈ l.take k, p h = false := by
  cases hf : l.findIdx? p with
  | none => left; refine ⟨by simp [idxF, hf], ?_⟩; rw [List.findIdx?_eq_none_iff] at hf; exact hf
  | some k =>
    right
    rw [List.findIdx?_eq_some_iff_getElem] at hf
    obtain ⟨hk, h2, h3⟩ := hf
    refine ⟨k, hk, by simp [idxF, List.findIdx?_eq_some_iff_getElem.2 ⟨hk, h2, h3⟩], h2, fun h hm => ?_⟩
    rw [List.mem_take_iff_getElem] at hm
    obtain ⟨j, hj, rfl⟩ := hm
    have := h3 j (by omega)
    simpa using this

theorem del_q (h : Hd) (b o : Nat) (nd : Int) (m : M) (hc : CellsAt m b o [I nd]) : QSpec Try.prog 51 [hdv h, .pointer (some ⟨b, o, none⟩)] m (.bool (decide (h.nd = nd))) := by
  refine QSpec.of_vc Try.func51 (ann := fun _ => noAnn) fun n hn => ?_
  refine vc_by (X :=
      true = true ∧ ∃ (n_1 : Int), CellsAt { π := m.π, sz := n, uf := m.uf : M } b o [Value.int IntKind.i64 n_1] ∧ Done (Value.bool (h.nd == n_1) = Value.bool (decide (h.nd = nd)))) (by kernel_rfl) ?_
  exact ⟨rfl, nd, ⟨hc.out⟩, ⟨rfl⟩⟩

abbrev delF (b o : Nat) : Value := .func (.func 51) #[] #[.pointer (some ⟨b, o, none⟩)]

theorem idx_q (a : Option Addr) (c : Nat) (l : List Hd) (b o : Nat) (nd : Int) (hn : l.length ≤ 9223372036854775807) (m : M) (h : Row m a (hds l)) (hc : CellsAt m b o [I nd]) :
    QSpec Try.prog 75 [.slice a l.length c, delF b o] m (I (idxF (fun h => decide (h.nd = nd)) l)) := by
  refine QSpec.of_vc Try.func75 (ann := fun n _ => { A := Nat, inv := fun k => k ≤ l.length ∧ ∀ h ∈ l.take k, h.nd ≠ nd, st := fun k => [(8, .val (I k)), (7, .val (I l.length)), (0, .val (.slice a l.length c)), (1, .val (delF b o))], own := fun _ => [], m := fun _ => { m with sz := n }, μ := fun k => l.length - k }) fun n hn => ?_
  refine vc_by (X :=
      true = true ∧
      (∃ (a_1 : Nat),
      (a_1 ≤ l.length ∧ ∀ (h : Hd), h ∈ List.take a_1 l → h.nd ≠ nd) ∧
      { π := m.π, sz := n, uf := m.uf : M } = { π := m.π, sz := n, uf := m.uf : M } ∧
      ((SV.val (Value.int IntKind.i64 (0 : Int)) = SV.val (Value.int IntKind.i64 (↑a_1 : Int)) ∧ true = true) ∧
      (SV.val (Value.int IntKind.i64 (↑l.length : Int)) = SV.val (Value.int IntKind.i64 (↑l.length : Int)) ∧ true = true) ∧
      (SV.val (Value.slice a l.length c) = SV.val (Value.slice a l.length c) ∧ true = true) ∧
      (SV.val (Value.func (Fn.func (51 : FuncId)) #[] #[Value.pointer (some { block := b, off := o : Addr })]) =
      SV.val (Value.func (Fn.func (51 : FuncId)) #[] #[Value.pointer (some { block := b, off := o : Addr })]) ∧
      true = true) ∧
      True) ∧
      True) ∧
      ∀ (a_1 : Nat),
      (a_1 ≤ l.length ∧ ∀ (h : Hd), h ∈ List.take a_1 l → h.nd ≠ nd) →
      ifB (decide ((↑a_1 : Int) < (↑l.length : Int)))
      (∃ (b_1 : Nat),
      ∃ (off : Nat),
      a = some { block := b_1, off := off : Addr } ∧
      ((0 : Int) ≤ (↑a_1 : Int) ∧ (↑a_1 : Int) < (↑l.length : Int)) ∧
      ∃ (n_1 : Int),
      ∃ (n_2 : Int),
      ∃ (n_3 : Int),
      ∃ (n_4 : Int),
      CellsAt { π := m.π, sz := n, uf := m.uf : M } b_1 (off + (↑a_1 : Int).toNat * (4 : Nat))
      [Value.int IntKind.i64 n_1, Value.int IntKind.i64 n_2, Value.int IntKind.i64 n_3, Value.int IntKind.i64 n_4] ∧
      ∃ (b_2 : Bool),
      QSpec Try.prog (51 : FuncId)
      [Value.agg #[Value.int IntKind.i64 n_1, Value.int IntKind.i64 n_2, Value.int IntKind.i64 n_3, Value.int IntKind.i64 n_4],
      Value.pointer (some { block := b, off := o : Addr })]
      { π := m.π, sz := n, uf := m.uf : M } (Value.bool b_2) ∧
      ifB b_2 (Done (Value.int IntKind.i64 (↑a_1 : Int) = Value.int IntKind.i64 (idxF (fun (h : Hd) => decide (h.nd = nd)) l)))
      (∃ (a' : Nat),
      ((a' ≤ l.length ∧ ∀ (h : Hd), h ∈ List.take a' l → h.nd ≠ nd) ∧
      { π := m.π, sz := n, uf := m.uf : M } = { π := m.π, sz := n, uf := m.uf : M } ∧
      ((SV.val (Value.int IntKind.i64 (IntKind.i64.wrap ((↑a_1 : Int) + (1 : Int)))) = SV.val (Value.int IntKind.i64 (↑a' : Int)) ∧
      true = true) ∧
      (SV.val (Value.int IntKind.i64 (↑l.length : Int)) = SV.val (Value.int IntKind.i64 (↑l.length : Int)) ∧ true = true) ∧
      (SV.val (Value.slice a l.length c) = SV.val (Value.slice a l.length c) ∧ true = true) ∧
      (SV.val (Value.func (Fn.func (51 : FuncId)) #[] #[Value.pointer (some { block := b, off := o : Addr })]) =
      SV.val (Value.func (Fn.func (51 : FuncId)) #[] #[Value.pointer (some { block := b, off := o : Addr })]) ∧
      true = true) ∧
      True) ∧
      True) ∧
      l.length - a' < l.length - a_1))
      (Done (Value.int IntKind.i64 (-1 : Int) = Value.int IntKind.i64 (idxF (fun (h : Hd) => decide (h.nd = nd)) l)))) (by kernel_rfl) ?_
  have h' := h.sz hn
  refine ⟨rfl, ⟨0, by simp⟩, fun k ⟨hk, hq⟩ => ifB_intro (fun hb => ?_) (fun hb => ⟨?_⟩)⟩
  · have hk2 : k < l.length := by simpa using hb
    obtain ⟨b1, o1, rfl, hcell⟩ := h'.cells (by rw [hds_len]; omega)
    have w1 : IntKind.i64.wrap ((k : Int) + 1) = ((k + 1 : Nat) : Int) := by simp [IntKind.wrap_i64]; omega
    refine ⟨b1, o1, rfl, by omega, _, _, _, _, by simpa using hd_at hcell hk2, _, del_q _ b o nd _ ⟨hc.out⟩, ifB_intro (fun h1 => ⟨?_⟩) (fun h1 => ⟨k + 1, ⟨⟨hk2, ?_⟩, by simp [w1]⟩, by omega⟩)⟩
    · rw [idxF_found hk2 (fun h hm => by simpa using hq h hm) (by simpa using h1)]
    · intro h hm
      rw [List.take_succ_eq_append_getElem hk2, List.mem_append] at hm
      rcases hm with hm | hm
      · exact hq h hm
      · have hm : h = l[k] := by simpa using hm
        subst hm
        simpa using h1
  · have : k = l.length := by simp at hb; omega
    subst this
    rw [idxF_none fun h hm => by simpa using hq h (by simpa using hm)]

structure DelX where
  i : Nat
  j : Nat
  cur : List Hd
  m : M

structure DelI (l : List Hd) (p : Hd → Bool) (a : Option Addr) (c : Nat) (S : Nat → Prop) (bn on : Nat) (nd : Int) (m : M) (y : DelX) : Prop where
  ij : y.i < y.j
  jl : y.j ≤ l.length
  len : y.cur.length = l.length
  done : y.cur.take y.i = (l.take y.j).filter p
  left : y.cur.drop y.j = l.drop y.j
  own : OwnB m.sz S y.m 4 a l.length c (hds y.cur)
  cap : CellsAt y.m bn on [I nd]
  sz : m.sz ≤ y.m.sz

theorem delfunc_s (a : Option Addr) (c : Nat) (l : List Hd) (bn on : Nat) (nd : Int) (S : Nat → Prop) (hn : l.length ≤ 4398046511000) (m : M) (hS : ∀ b o, a = some ⟨b, o, none⟩ → S b ∧ b ≠ bn) (h : OwnB m.sz S m 4 a l.length c (hds l)) (hc : CellsAt m bn on [I nd]) :
    SpecW Try.prog 50 [.slice a l.length c, delF bn on] m S fun v m' => v = .slice a (l.filter fun h => decide (h.nd ≠ nd)).length c ∧ OwnB m.sz S m' 4 a (l.filter fun h => decide (h.nd ≠ nd)).length c (hds (l.filter fun h => decide (h.nd ≠ nd))) := by
  refine SpecW.of_vc Try.func50 (ann := fun _ => { A := DelX, inv := DelI l (fun h => decide (h.nd ≠ nd)) a c S bn on nd m, st := fun y => [(5, .val (I y.i)), (6, .val (I y.j)), (0, .val (.slice a l.length c)), (1, .val (delF bn on))], own := fun _ => [], m := fun y => y.m, μ := fun y => l.length - y.j }) ?_
  refine vc_by (X :=
      true = true ∧
      ∃ (n : Int),
      QSpec Try.prog (75 : Nat) [Value.slice a l.length c, Value.func (Fn.func (51 : FuncId)) #[] #[Value.pointer (some { block := bn, off := on : Addr })]] m
      (Value.int IntKind.i64 n) ∧
      ifB (n == (-1 : Int))
      (Done
      (Value.slice a l.length c = Value.slice a (List.filter (fun (h : Hd) => decide (h.nd ≠ nd)) l).length c ∧
      OwnB m.sz S m (4 : Nat) a (List.filter (fun (h : Hd) => decide (h.nd ≠ nd)) l).length c (hds (List.filter (fun (h : Hd) => decide (h.nd ≠ nd)) l))))
      ((∃ (a_1 : DelX),
      DelI l (fun (h : Hd) => decide (h.nd ≠ nd)) a c S bn on nd m a_1 ∧
      m = a_1.m ∧
      ((SV.val (Value.int IntKind.i64 n) = SV.val (Value.int IntKind.i64 (↑a_1.i : Int)) ∧ true = true) ∧
      (SV.val (Value.int IntKind.i64 (IntKind.i64.wrap (n + (1 : Int)))) = SV.val (Value.int IntKind.i64 (↑a_1.j : Int)) ∧ true = true) ∧
      (SV.val (Value.slice a l.length c) = SV.val (Value.slice a l.length c) ∧ true = true) ∧
      (SV.val (Value.func (Fn.func (51 : FuncId)) #[] #[Value.pointer (some { block := bn, off := on : Addr })]) =
      SV.val (Value.func (Fn.func (51 : FuncId)) #[] #[Value.pointer (some { block := bn, off := on : Addr })]) ∧
      true = true) ∧
      True) ∧
      True) ∧
      ∀ (a_1 : DelX),
      DelI l (fun (h : Hd) => decide (h.nd ≠ nd)) a c S bn on nd m a_1 →
      ifB (decide ((↑a_1.j : Int) < (↑l.length : Int)))
      (∃ (b : Nat),
      ∃ (off : Nat),
      a = some { block := b, off := off : Addr } ∧
      ((0 : Int) ≤ (↑a_1.j : Int) ∧ (↑a_1.j : Int) < (↑l.length : Int)) ∧
      ∃ (n : Int),
      ∃ (n_1 : Int),
      ∃ (n_2 : Int),
      ∃ (n_3 : Int),
      CellsAt a_1.m b (off + (↑a_1.j : Int).toNat * (4 : Nat))
      [Value.int IntKind.i64 n, Value.int IntKind.i64 n_1, Value.int IntKind.i64 n_2, Value.int IntKind.i64 n_3] ∧
      ∃ (b : Bool),
      QSpec Try.prog (51 : FuncId)
      [Value.agg #[Value.int IntKind.i64 n, Value.int IntKind.i64 n_1, Value.int IntKind.i64 n_2, Value.int IntKind.i64 n_3],
      Value.pointer (some { block := bn, off := on : Addr })]
      a_1.m (Value.bool b) ∧
      ifB (!b)
      (∃ (b : Nat),
      ∃ (off : Nat),
      a = some { block := b, off := off : Addr } ∧
      ((0 : Int) ≤ (↑a_1.i : Int) ∧ (↑a_1.i : Int) < (↑l.length : Int)) ∧
      Wr m.sz S a_1.m b (off + (↑a_1.i : Int).toNat * (4 : Nat))
      #[Value.int IntKind.i64 n, Value.int IntKind.i64 n_1, Value.int IntKind.i64 n_2, Value.int IntKind.i64 n_3].size ∧
      ∃ (a' : DelX),
      (DelI l (fun (h : Hd) => decide (h.nd ≠ nd)) a c S bn on nd m a' ∧
      a_1.m.setCells b (off + (↑a_1.i : Int).toNat * (4 : Nat))
      [Value.int IntKind.i64 n, Value.int IntKind.i64 n_1, Value.int IntKind.i64 n_2, Value.int IntKind.i64 n_3] =
      a'.m ∧
      ((SV.val (Value.int IntKind.i64 (IntKind.i64.wrap ((↑a_1.i : Int) + (1 : Int)))) =
      SV.val (Value.int IntKind.i64 (↑a'.i : Int)) ∧
      true = true) ∧
      (SV.val (Value.int IntKind.i64 (IntKind.i64.wrap ((↑a_1.j : Int) + (1 : Int)))) =
      SV.val (Value.int IntKind.i64 (↑a'.j : Int)) ∧
      true = true) ∧
      (SV.val (Value.slice a l.length c) = SV.val (Value.slice a l.length c) ∧ true = true) ∧
      (SV.val (Value.func (Fn.func (51 : FuncId)) #[] #[Value.pointer (some { block := bn, off := on : Addr })]) =
      SV.val (Value.func (Fn.func (51 : FuncId)) #[] #[Value.pointer (some { block := bn, off := on : Addr })]) ∧
      true = true) ∧
      True) ∧
      True) ∧
      l.length - a'.j < l.length - a_1.j)
      (∃ (a' : DelX),
      (DelI l (fun (h : Hd) => decide (h.nd ≠ nd)) a c S bn on nd m a' ∧
      a_1.m = a'.m ∧
      ((SV.val (Value.int IntKind.i64 (↑a_1.i : Int)) = SV.val (Value.int IntKind.i64 (↑a'.i : Int)) ∧ true = true) ∧
      (SV.val (Value.int IntKind.i64 (IntKind.i64.wrap ((↑a_1.j : Int) + (1 : Int)))) = SV.val (Value.int IntKind.i64 (↑a'.j : Int)) ∧
      true = true) ∧
      (SV.val (Value.slice a l.length c) = SV.val (Value.slice a l.length c) ∧ true = true) ∧
      (SV.val (Value.func (Fn.func (51 : FuncId)) #[] #[Value.pointer (some { block := bn, off := on : Addr })]) =
      SV.val (Value.func (Fn.func (51 : FuncId)) #[] #[Value.pointer (some { block := bn, off := on : Addr })]) ∧
      true = true) ∧
      True) ∧
      True) ∧
      l.length - a'.j < l.length - a_1.j))
      ((true = true ∧ (0 : Int) ≤ (↑a_1.i : Int) ∧ (↑a_1.i : Int) ≤ (↑l.length : Int) ∧ True ∧ True) ∧
      true = true ∧
      ((↑l.length : Int).toNat - (↑a_1.i : Int).toNat ≠ (0 : Nat) →
      ∃ (b : Nat),
      ∃ (o : Nat),
      (if (↑c : Int).toNat = (↑a_1.i : Int).toNat then a
      else Option.map (fun (x : Addr) => x.add ((↑a_1.i : Int).toNat * Try.prog.types[(31 : Nat)].size)) a) =
      some { block := b, off := o : Addr } ∧
      Wr m.sz S a_1.m b o (((↑l.length : Int).toNat - (↑a_1.i : Int).toNat) * (4 : Nat))) ∧
      ∀ (m' : M),
      CopyPost a_1.m
      (if (↑c : Int).toNat = (↑a_1.i : Int).toNat then a else Option.map (fun (x : Addr) => x.add ((↑a_1.i : Int).toNat * Try.prog.types[(31 : Nat)].size)) a)
      (zeroRow Try.prog (31 : Nat) ((↑l.length : Int).toNat - (↑a_1.i : Int).toNat)) m' →
      (true = true ∧ (0 : Int) ≤ (0 : Int) ∧ (0 : Int) ≤ (↑a_1.i : Int) ∧ (↑a_1.i : Int) ≤ (↑c : Int) ∧ True) ∧
      Done
      (Value.slice (if (↑c : Int).toNat = (0 : Nat) then a else Option.map (fun (x : Addr) => x) a) ((↑a_1.i : Int).toNat - (0 : Nat))
      ((↑c : Int).toNat - (0 : Nat)) =
      Value.slice a (List.filter (fun (h : Hd) => decide (h.nd ≠ nd)) l).length c ∧
      OwnB m.sz S m' (4 : Nat) a (List.filter (fun (h : Hd) => decide (h.nd ≠ nd)) l).length c
      (hds (List.filter (fun (h : Hd) => decide (h.nd ≠ nd)) l)))))) (by kernel_rfl) ?_
  have zl : ∀ k, (zeroRow Try.prog 31 k).length = k * 4 := zr_hd
  refine ⟨rfl, _, idx_q a c l bn on nd (by omega) m h.row hc, ?_⟩
  rcases idxF_cases (fun h => decide (h.nd = nd)) l with ⟨e, hall⟩ | ⟨k, hk, e, hp, hq⟩
  · rw [e]
    have ef : (l.filter fun h => decide (h.nd ≠ nd)) = l := List.filter_eq_self.2 fun h hm => by have := hall h hm; simpa using this
    rw [ef]
    exact ifB_true ⟨rfl, h⟩
  rw [e]
  have hkn : ((k : Int) == -1) = false := by simp
  have w1 : IntKind.i64.wrap ((k : Int) + 1) = ((k + 1 : Nat) : Int) := by simp [IntKind.wrap_i64]; omega
  rw [hkn, w1]
  have ft : (l.take (k + 1)).filter (fun h => decide (h.nd ≠ nd)) = l.take k := by
    rw [List.take_succ_eq_append_getElem hk, List.filter_append]
    have e1 : (l.take k).filter (fun h => decide (h.nd ≠ nd)) = l.take k := List.filter_eq_self.2 fun h hm => by have := hq h hm; simpa using this
    have hp' : l[k].nd = nd := by simpa using hp
    rw [e1]; simp [hp']
  refine ifB_false ⟨⟨⟨k, k + 1, l, m⟩, ⟨by simp, by simp only; omega, rfl, ft.symm, rfl, h, hc, Nat.le_refl _⟩, by simp⟩, fun y hy => ?_⟩
  have hij := hy.ij
  have hjl := hy.jl
  have hlen := hy.len
  have ho := hy.own
  have hne : y.cur.length ≠ 0 := by omega
  obtain ⟨b, o, rfl, hcell⟩ := ho.row.cells (by rw [hds_len]; omega)
  obtain ⟨hSb, hbn⟩ := hS b o rfl
  refine ifB_intro (fun hb => ?_) (fun hb => ?_)
  · have hj2 : y.j < l.length := by simpa using hb
    have ecur : y.cur[y.j]'(by omega) = l[y.j] := by
      have h1 : (y.cur.drop y.j)[0]'(by simp; omega) = (l.drop y.j)[0]'(by simp; omega) := by simp only [hy.left]
      simpa using h1
    have wi : IntKind.i64.wrap ((y.i : Int) + 1) = ((y.i + 1 : Nat) : Int) := by simp [IntKind.wrap_i64]; omega
    have wj : IntKind.i64.wrap ((y.j : Int) + 1) = ((y.j + 1 : Nat) : Int) := by simp [IntKind.wrap_i64]; omega
    have hcj := hd_at hcell (by omega : y.j < y.cur.length)
    rw [ecur] at hcj
    have ts : l.take (y.j + 1) = l.take y.j ++ [l[y.j]] := List.take_succ_eq_append_getElem hj2
    have ld : y.cur.drop (y.j + 1) = l.drop (y.j + 1) := by
      have := congrArg (List.drop 1) hy.left
      simpa [List.drop_drop, Nat.add_comm] using this
    refine ⟨b, o, rfl, by omega, _, _, _, _, by simpa using hcj, _, del_q l[y.j] bn on nd _ hy.cap, ifB_intro (fun h1 => ?_) (fun h1 => ?_)⟩
    · have h1 : l[y.j].nd ≠ nd := by simpa using h1
      obtain ⟨g1, g2⟩ := OwnB.setAt (enc := encH) (fun _ => rfl) ho (by omega : y.i < y.cur.length) l[y.j]
      refine ⟨b, o, rfl, by omega, by simpa using g1, ⟨y.i + 1, y.j + 1, y.cur.set y.i l[y.j], y.m.setCells b (o + y.i * 4) (encH l[y.j])⟩, ⟨⟨by simp only; omega, hj2, by simp [hlen], ?_, ?_, g2, ?_, hy.sz⟩, by simp [wi, wj]⟩, by simp only; omega⟩
      · simp only [ts, List.filter_append]
        rw [List.take_succ_eq_append_getElem (by simp; omega), List.take_set_of_le (Nat.le_refl _), hy.done]
        simp [h1]
      · simp only
        rw [List.drop_set_of_lt (by omega), ld]
      · exact hy.cap.of (setCells_other (Ne.symm hbn))
    · have h1 : l[y.j].nd = nd := by simpa using h1
      refine ⟨⟨y.i, y.j + 1, y.cur, y.m⟩, ⟨⟨by simp only; omega, hj2, hlen, ?_, ld, ho, hy.cap, hy.sz⟩, by simp [wj]⟩, by simp only; omega⟩
      simp only [ts, List.filter_append]
      rw [hy.done]
      simp [h1]
  · have hjl2 : y.j = l.length := by simp at hb; omega
    have hd := hy.done
    rw [hjl2, List.take_length] at hd
    have hfl : (l.filter fun h => decide (h.nd ≠ nd)).length = y.i := by rw [← hd, List.length_take]; omega
    have hlc : l.length ≤ c := by cases ho with | «at» b o len cap cs rest lo lt uf h h1 h2 hc => exact hc
    have hci : ¬ c = y.i := by omega
    have ec : hds y.cur = hds (y.cur.take y.i) ++ hds (y.cur.drop y.i) := flat_cut _ _
    rw [ec] at ho
    obtain ⟨g1, g2⟩ := ho.overTail (i := y.i) (new := zeroRow Try.prog 31 (l.length - y.i)) (by rw [hds_len, List.length_take]; congr 1; omega) (by omega) (by rw [zl, hds_len, List.length_drop, hlen])
    rw [zl] at g1
    have es : Try.prog.types[31].size = 4 := by kernel_rfl
    have ea : (if (c : Int).toNat = (y.i : Int).toNat then some (⟨b, o, none⟩ : Addr) else Option.map (fun x : Addr => x.add ((y.i : Int).toNat * Try.prog.types[31].size)) (some (⟨b, o, none⟩ : Addr))) = some ⟨b, o + y.i * 4, none⟩ := by
      rw [if_neg (by simpa using hci)]
      show some (Addr.add _ (y.i * Try.prog.types[31].size)) = _
      rw [es, add_none]
    refine ⟨⟨rfl, by omega, by omega, trivial, trivial⟩, rfl, fun _ => ⟨b, o + y.i * 4, ea, by simpa using g1⟩, fun m' hp => ⟨⟨rfl, by omega, by omega, by omega, trivial⟩, ⟨?_, ?_⟩⟩⟩
    · rw [hfl]; simp
    · have hp' : m' = y.m.setCells b (o + y.i * 4) (zeroRow Try.prog 31 (l.length - y.i)) := by
        rcases hp with ⟨hz, -⟩ | ⟨b', o', he, rfl⟩
        · exfalso
          have := congrArg List.length hz
          rw [zl] at this
          simp at this; omega
        · rw [ea] at he
          cases he
          simp
      rw [hfl, ← hd, hp']
      exact g2

def aReport (x : Ac) (nd le ro net : Int) : Ac × Int :=
  if rightB x = false then (ac0, 21) else if findB x nd = false ∨ (findH x nd).le ≠ le then (ac0, 151) else if x.round = 0 ∨ x.round ≠ ro then (ac0, 152) else
  if (findH x nd).up < net ∨ net < -(findH x nd).dn then (ac0, 150) else ({ x with base := x.base + net, hs := x.hs.filter fun h => decide (h.nd ≠ nd) }, 0)

theorem sumI_mem : ∀ (l : List Int) (y : Int), y ∈ l → (∀ z ∈ l, 0 ≤ z) → y ≤ sumI l
  | x :: r, y, hm, h => by
    rw [sumI_cons]
    have h1 := sumI_nonneg r fun z hz => h z (by simp [hz])
    have h2 := h x (by simp)
    rcases List.mem_cons.1 hm with rfl | hm
    · omega
    · have := sumI_mem r y hm fun z hz => h z (by simp [hz])
      omega

theorem sumI_neg (l : List Hd) (f : Hd → Int) : sumI (l.map fun h => - f h) = - sumI (l.map f) := by
  induction l with
  | nil => rfl
  | cons x r ih => simp only [List.map_cons, sumI_cons, ih]; omega

/-- what one holder has lies in the room of all -/
theorem hold_room {x : Ac} (hr : rightB x = true) {h : Hd} (hm : h ∈ x.hs) : 0 ≤ h.up ∧ 0 ≤ h.dn ∧ x.base + h.up ≤ x.hi ∧ x.lo ≤ x.base - h.dn := by
  have hp := (right_iff x).1 hr
  have hmm := hold_mem _ _ hp.hold
  have h0 := hmm h hm
  have h1 := sumI_mem (x.hs.map (·.up)) h.up (List.mem_map.2 ⟨h, hm, rfl⟩) fun z hz => by obtain ⟨w, hw, rfl⟩ := List.mem_map.1 hz; exact (hmm w hw).2.2.2.1
  have h2 := sumI_mem (x.hs.map (·.dn)) h.dn (List.mem_map.2 ⟨h, hm, rfl⟩) fun z hz => by obtain ⟨w, hw, rfl⟩ := List.mem_map.1 hz; exact (hmm w hw).2.2.2.2
  have h3 := hp.up
  have h4 := hp.dn
  have h5 := sumI_neg x.hs (·.dn)
  simp only [upsL, dnsL, sumI_cons] at h3 h4
  omega

theorem find_mem {x : Ac} {nd : Int} (h : findB x nd = true) : rightB x = true ∧ findH x nd ∈ x.hs ∧ (findH x nd).nd = nd := by
  simp only [findB, Bool.and_eq_true] at h
  obtain ⟨h1, h2⟩ := h
  obtain ⟨z, hz⟩ := Option.isSome_iff_exists.1 h2
  simp only [findH, h1, hz, if_true, Option.getD_some]
  unfold fndH at hz
  exact ⟨trivial, List.mem_of_find?_eq_some hz, by simpa using List.find?_some hz⟩

theorem areport_s (x : Ac) (a : Option Addr) (c : Nat) (nd le ro net : Int) (hx : x.wf) (hn : In64 net) (h0 : a = none → x.hs = []) (m : M) (h : Row m a (hds x.hs)) : Vc.Spec Try.prog 30 [acv x a c, I nd, I le, I ro, I net] m (AcR m (aReport x nd le ro net)) := by
  refine Vc.Spec.of_vc Try.func30 (ann := noAnn) ?_
  refine vc_by (X :=
      true = true ∧
      ∃ (b : Bool),
      QSpec Try.prog (45 : Nat)
      [Value.agg
      #[Value.string x.key, Value.int IntKind.i64 x.lo, Value.int IntKind.i64 x.hi, Value.int IntKind.i64 x.base, Value.int IntKind.i64 x.round, Value.slice a x.hs.length c,
      Value.int IntKind.i64 x.lk.cl, Value.int IntKind.i64 x.lk.sq, Value.int IntKind.i64 x.lk.hm, Value.int IntKind.i64 x.lk.n]]
      m (Value.bool b) ∧
      ifB (!b)
      (Done
      (AcR m (aReport x nd le ro net)
      (Value.tuple
      #[Value.agg
      #[Value.string { data := #[] : ByteArray }, Value.int IntKind.i64 (0 : Int), Value.int IntKind.i64 (0 : Int), Value.int IntKind.i64 (0 : Int),
      Value.int IntKind.i64 (0 : Int), Value.slice none (0 : Nat) (0 : Nat), Value.int IntKind.i64 (0 : Int), Value.int IntKind.i64 (0 : Int),
      Value.int IntKind.i64 (0 : Int), Value.int IntKind.i64 (0 : Int)],
      Value.int IntKind.i64 (21 : Int)])
      m))
      (∃ (n : Int),
      ∃ (n_1 : Int),
      ∃ (n_2 : Int),
      ∃ (n_3 : Int),
      ∃ (b : Bool),
      QSpec Try.prog (19 : Nat)
      [Value.agg
      #[Value.string x.key, Value.int IntKind.i64 x.lo, Value.int IntKind.i64 x.hi, Value.int IntKind.i64 x.base, Value.int IntKind.i64 x.round,
      Value.slice a x.hs.length c, Value.int IntKind.i64 x.lk.cl, Value.int IntKind.i64 x.lk.sq, Value.int IntKind.i64 x.lk.hm, Value.int IntKind.i64 x.lk.n],
      Value.int IntKind.i64 nd]
      m (Value.tuple #[Value.agg #[Value.int IntKind.i64 n, Value.int IntKind.i64 n_1, Value.int IntKind.i64 n_2, Value.int IntKind.i64 n_3], Value.bool b]) ∧
      ifB (!b)
      (Done
      (AcR m (aReport x nd le ro net)
      (Value.tuple
      #[Value.agg
      #[Value.string { data := #[] : ByteArray }, Value.int IntKind.i64 (0 : Int), Value.int IntKind.i64 (0 : Int), Value.int IntKind.i64 (0 : Int),
      Value.int IntKind.i64 (0 : Int), Value.slice none (0 : Nat) (0 : Nat), Value.int IntKind.i64 (0 : Int), Value.int IntKind.i64 (0 : Int),
      Value.int IntKind.i64 (0 : Int), Value.int IntKind.i64 (0 : Int)],
      Value.int IntKind.i64 (151 : Int)])
      m))
      (ifB (n_1 != le)
      (Done
      (AcR m (aReport x nd le ro net)
      (Value.tuple
      #[Value.agg
      #[Value.string { data := #[] : ByteArray }, Value.int IntKind.i64 (0 : Int), Value.int IntKind.i64 (0 : Int), Value.int IntKind.i64 (0 : Int),
      Value.int IntKind.i64 (0 : Int), Value.slice none (0 : Nat) (0 : Nat), Value.int IntKind.i64 (0 : Int), Value.int IntKind.i64 (0 : Int),
      Value.int IntKind.i64 (0 : Int), Value.int IntKind.i64 (0 : Int)],
      Value.int IntKind.i64 (151 : Int)])
      m))
      (ifB (x.round == (0 : Int))
      (Done
      (AcR m (aReport x nd le ro net)
      (Value.tuple
      #[Value.agg
      #[Value.string { data := #[] : ByteArray }, Value.int IntKind.i64 (0 : Int), Value.int IntKind.i64 (0 : Int), Value.int IntKind.i64 (0 : Int),
      Value.int IntKind.i64 (0 : Int), Value.slice none (0 : Nat) (0 : Nat), Value.int IntKind.i64 (0 : Int), Value.int IntKind.i64 (0 : Int),
      Value.int IntKind.i64 (0 : Int), Value.int IntKind.i64 (0 : Int)],
      Value.int IntKind.i64 (152 : Int)])
      m))
      (ifB (x.round != ro)
      (Done
      (AcR m (aReport x nd le ro net)
      (Value.tuple
      #[Value.agg
      #[Value.string { data := #[] : ByteArray }, Value.int IntKind.i64 (0 : Int), Value.int IntKind.i64 (0 : Int), Value.int IntKind.i64 (0 : Int),
      Value.int IntKind.i64 (0 : Int), Value.slice none (0 : Nat) (0 : Nat), Value.int IntKind.i64 (0 : Int), Value.int IntKind.i64 (0 : Int),
      Value.int IntKind.i64 (0 : Int), Value.int IntKind.i64 (0 : Int)],
      Value.int IntKind.i64 (152 : Int)])
      m))
      (ifB (decide (net > n_2))
      (Done
      (AcR m (aReport x nd le ro net)
      (Value.tuple
      #[Value.agg
      #[Value.string { data := #[] : ByteArray }, Value.int IntKind.i64 (0 : Int), Value.int IntKind.i64 (0 : Int),
      Value.int IntKind.i64 (0 : Int), Value.int IntKind.i64 (0 : Int), Value.slice none (0 : Nat) (0 : Nat), Value.int IntKind.i64 (0 : Int),
      Value.int IntKind.i64 (0 : Int), Value.int IntKind.i64 (0 : Int), Value.int IntKind.i64 (0 : Int)],
      Value.int IntKind.i64 (150 : Int)])
      m))
      (ifB (decide (net < IntKind.i64.wrap ((0 : Int) - n_3)))
      (Done
      (AcR m (aReport x nd le ro net)
      (Value.tuple
      #[Value.agg
      #[Value.string { data := #[] : ByteArray }, Value.int IntKind.i64 (0 : Int), Value.int IntKind.i64 (0 : Int),
      Value.int IntKind.i64 (0 : Int), Value.int IntKind.i64 (0 : Int), Value.slice none (0 : Nat) (0 : Nat), Value.int IntKind.i64 (0 : Int),
      Value.int IntKind.i64 (0 : Int), Value.int IntKind.i64 (0 : Int), Value.int IntKind.i64 (0 : Int)],
      Value.int IntKind.i64 (150 : Int)])
      m))
      (∀ (n : Nat),
      m.sz ≤ n →
      Vc.Spec Try.prog (49 : Nat)
      [Value.agg
      #[Value.string x.key, Value.int IntKind.i64 x.lo, Value.int IntKind.i64 x.hi, Value.int IntKind.i64 x.base, Value.int IntKind.i64 x.round,
      Value.slice a x.hs.length c, Value.int IntKind.i64 x.lk.cl, Value.int IntKind.i64 x.lk.sq, Value.int IntKind.i64 x.lk.hm,
      Value.int IntKind.i64 x.lk.n]]
      { π := m.π, sz := n, uf := m.uf : M } fun (v : Value) (m' : M) =>
      ∃ (s : ByteArray),
      ∃ (n : Int),
      ∃ (n_4 : Int),
      ∃ (n_5 : Int),
      ∃ (n_6 : Int),
      ∃ (a : Option Addr),
      ∃ (n_7 : Nat),
      ∃ (c : Nat),
      ∃ (n_8 : Int),
      ∃ (n_9 : Int),
      ∃ (n_10 : Int),
      ∃ (n_11 : Int),
      v =
      Value.agg
      #[Value.string s, Value.int IntKind.i64 n, Value.int IntKind.i64 n_4, Value.int IntKind.i64 n_5,
      Value.int IntKind.i64 n_6, Value.slice a n_7 c, Value.int IntKind.i64 n_8, Value.int IntKind.i64 n_9,
      Value.int IntKind.i64 n_10, Value.int IntKind.i64 n_11] ∧
      ∀ (b : Nat),
      Fresh m.sz m' b →
      ∃ (S' : Nat → Prop),
      (∀ (b_1 : Nat), S' b_1 → (m'.newBlock b [Value.int IntKind.i64 nd]).uf b_1 ∧ (m.sz ≤ b_1 ∨ False)) ∧
      ∀ (n_12 : Nat),
      max m'.sz (b + (1 : Nat)) ≤ n_12 →
      SpecW Try.prog (50 : Nat)
      [Value.slice a n_7 c,
      Value.func (Fn.func (51 : Nat)) #[] #[Value.pointer (some { block := b, off := (0 : Nat) : Addr })]]
      { π := (m'.newBlock b [Value.int IntKind.i64 nd]).π, sz := n_12, uf := (m'.newBlock b [Value.int IntKind.i64 nd]).uf : M }
      S' fun (v : Value) (m' : M) =>
      ∃ (a : Option Addr),
      ∃ (n_13 : Nat),
      ∃ (c : Nat),
      v = Value.slice a n_13 c ∧
      Done
      (AcR m (aReport x nd le ro net)
      (Value.tuple
      #[Value.agg
      #[Value.string s, Value.int IntKind.i64 n, Value.int IntKind.i64 n_4,
      Value.int IntKind.i64 (IntKind.i64.wrap (n_5 + net)), Value.int IntKind.i64 n_6,
      Value.slice a n_13 c, Value.int IntKind.i64 n_8, Value.int IntKind.i64 n_9,
      Value.int IntKind.i64 n_10, Value.int IntKind.i64 n_11],
      Value.int IntKind.i64 (0 : Int)])
      m'))))))))) (by kernel_rfl) ?_
  refine ⟨rfl, _, right_q x a c hx _ h, ?_⟩
  cases hr : rightB x
  · exact ifB_true (fail_d (by simp [aReport, hr]))
  refine ifB_false ⟨_, _, _, _, _, find_q x a c nd hx _ h, ifB_intro (fun h1 => fail_d ?_) (fun h1 => ifB_intro (fun h2 => fail_d ?_) (fun h2 => ifB_intro (fun h3 => fail_d ?_) (fun h3 => ifB_intro (fun h4 => fail_d ?_) (fun h4 => ?_))))⟩
  · simp at h1; simp [aReport, hr, h1]
  · simp at h1 h2; simp [aReport, hr, h2]
  · simp at h1 h2 h3; simp [aReport, hr, h1, h2, h3]
  · simp at h1 h2 h3 h4; simp [aReport, hr, h1, h2, h4]
  have h1 : findB x nd = true := by simpa using h1
  obtain ⟨-, hmem, hnd⟩ := find_mem h1
  have hroom := hold_room hr hmem
  have hlo := hx.lo
  have hhi := hx.hi
  have hdn := (hx.hs _ hmem).2.2.2
  have wd : IntKind.i64.wrap (0 - (findH x nd).dn) = -(findH x nd).dn := by unfold In64 at *; simp [IntKind.wrap_i64]; omega
  simp at h2 h3 h4
  refine ifB_intro (fun h5 => fail_d ?_) (fun h5 => ifB_intro (fun h6 => fail_d ?_) (fun h6 N hN => ?_))
  · simp at h5; simp [aReport, hr, h1, h2, ← h4, h3, h5]
  · rw [wd] at h6; simp at h6; simp [aReport, hr, h1, h2, ← h4, h3, h6]
  rw [wd] at h6
  simp at h5 h6
  have hne : x.hs.length ≠ 0 := fun e => by rw [List.eq_nil_of_length_eq_zero e] at hmem; simp at hmem
  have w1 : IntKind.i64.wrap (x.base + net) = x.base + net := by unfold In64 at *; simp [IntKind.wrap_i64]; omega
  refine (copied_q x a c (by have := right_len hr; omega) h0 _ (h.sz hN)).mono fun v m' hag ⟨a', c', hv, hr'⟩ => ⟨_, _, _, _, _, _, _, _, _, _, _, _, hv, ?_⟩
  intro b hf
  have ho := (hr'.toOwn hne).newFresh (ds := [I nd]) hf
  refine ⟨fun b' => ∃ o, a' = some ⟨b', o, none⟩, fun b' ⟨o, e⟩ => ⟨ho.uf e, by rcases ho.lo e with h | h; left; simp only at h; omega; exact h.elim⟩, fun n hn => ?_⟩
  have hs := delfunc_s a' c' x.hs b 0 nd (fun b' => ∃ o, a' = some ⟨b', o, none⟩) (by have := right_len hr; omega) { m'.newBlock b [I nd] with sz := n }
    (fun b' o e => ⟨⟨o, e⟩, fresh_other hf ((hr'.toOwn hne).uf e)⟩) ((ho.sz hn).re fun b' o e => .inr ⟨o, e⟩) ⟨(cellsAt_new (m := m') (b := b) (cs := [I nd])).out⟩
  refine hs.mono fun v2 m2 hag2 ⟨hv2, ho2⟩ => ⟨_, _, _, hv2, ?_⟩
  rw [w1]
  refine ok_d (z := { x with base := x.base + net, hs := x.hs.filter fun h => decide (h.nd ≠ nd) }) ?_ (.own (ho2.re fun b' o e => ?_)) (Nat.le_refl _)
  · have hnb : ¬ ((findH x nd).up < net ∨ net < -(findH x nd).dn) := by omega
    simp [aReport, hr, h1, h2, ← h4, h3, hnb]
  · rcases ho2.lo e with h | ⟨o', h⟩
    · left; have h3 := hf.lo; simp only at h; omega
    · rcases (hr'.toOwn hne).lo h with h | h
      · left; simp only at h; omega
      · exact h.elim

end Go.Proofs.Ytlifpjllhibdpaa
set_option linter.unusedVariables false
set_option linter.unusedSimpArgs false
namespace Go.Proofs.Ytlifpjllhibdpaa
open Go.Vc Go.RowKit
set_option maxRecDepth 100000

structure WoX where
  k : Nat
  a : Option Addr
  c : Nat
  m : M

structure WoI (l : List Hd) (p : Hd → Bool) (m : M) (y : WoX) : Prop where
  k : y.k ≤ l.length
  own : NewR m.sz (fun _ => False) y.m 4 y.a ((l.take y.k).filter p).length y.c (hds ((l.take y.k).filter p))
  ag : Agree m.sz m y.m

theorem without_s (x : Ac) (a : Option Addr) (c : Nat) (nd : Int) (hn : x.hs.length ≤ 4398046511000) (m : M) (h : Row m a (hds x.hs)) :
    Vc.Spec Try.prog 84 [acv x a c, I nd] m fun v m' => ∃ a' c', v = acv { x with hs := x.hs.filter fun h => decide (h.nd ≠ nd) } a' c' ∧ NewR m.sz (fun _ => False) m' 4 a' (x.hs.filter fun h => decide (h.nd ≠ nd)).length c' (hds (x.hs.filter fun h => decide (h.nd ≠ nd))) := by
  refine Vc.Spec.of_vc Try.func84 (ann := fun _ => { A := WoX, inv := WoI x.hs (fun h => decide (h.nd ≠ nd)) m, st := fun y => [(6, .val (I y.k)), (1, .val (I nd)), (2, .own 0 0), (4, .own 1 0), (5, .val (.slice y.a ((x.hs.take y.k).filter fun h => decide (h.nd ≠ nd)).length y.c))], own := fun _ => [(0, ⟨28, acc x a c⟩), (1, ⟨28, acc ac0 none 0⟩)], m := fun y => y.m, μ := fun y => x.hs.length - y.k }) ?_
  refine vc_by (X :=
      true = true ∧
      (∃ (a_1 : WoX),
      WoI x.hs (fun (h : Hd) => decide (h.nd ≠ nd)) m a_1 ∧
      m = a_1.m ∧
      ((SV.val (Value.int IntKind.i64 (0 : Int)) = SV.val (Value.int IntKind.i64 (↑a_1.k : Int)) ∧ true = true) ∧
      (SV.val (Value.int IntKind.i64 nd) = SV.val (Value.int IntKind.i64 nd) ∧ true = true) ∧
      (SV.own ((0 : Nat) + (0 : Nat)) (0 : Nat) = SV.own (0 : Nat) (0 : Nat) ∧ true = true) ∧
      (SV.own ((0 : Nat) + (1 : Nat)) (0 : Nat) = SV.own (1 : Nat) (0 : Nat) ∧ true = true) ∧
      (SV.val (Value.slice none (0 : Nat) (0 : Nat)) =
      SV.val (Value.slice a_1.a (List.filter (fun (h : Hd) => decide (h.nd ≠ nd)) (List.take a_1.k x.hs)).length a_1.c) ∧
      true = true) ∧
      True) ∧
      (some
      { ty := (28 : Nat), cs := [Value.string x.key, Value.int IntKind.i64 x.lo, Value.int IntKind.i64 x.hi, Value.int IntKind.i64 x.base, Value.int IntKind.i64 x.round, Value.slice a x.hs.length c, Value.int IntKind.i64 x.lk.cl, Value.int IntKind.i64 x.lk.sq, Value.int IntKind.i64 x.lk.hm, Value.int IntKind.i64 x.lk.n] : Bx } =
      some
      { ty := (28 : TypeId), cs := [Value.string x.key, Value.int IntKind.i64 x.lo, Value.int IntKind.i64 x.hi, Value.int IntKind.i64 x.base, Value.int IntKind.i64 x.round, Value.slice a x.hs.length c, Value.int IntKind.i64 x.lk.cl, Value.int IntKind.i64 x.lk.sq, Value.int IntKind.i64 x.lk.hm, Value.int IntKind.i64 x.lk.n] : Bx } ∧
      true = true) ∧
      (some
      { ty := (28 : Nat), cs := [Value.string { data := #[] : ByteArray }, Value.int IntKind.i64 (0 : Int), Value.int IntKind.i64 (0 : Int), Value.int IntKind.i64 (0 : Int), Value.int IntKind.i64 (0 : Int), Value.slice none (0 : Nat) (0 : Nat), Value.int IntKind.i64 (0 : Int), Value.int IntKind.i64 (0 : Int), Value.int IntKind.i64 (0 : Int), Value.int IntKind.i64 (0 : Int)] : Bx } =
      some
      { ty := (28 : TypeId), cs := [Value.string ByteArray.empty, Value.int IntKind.i64 (0 : Int), Value.int IntKind.i64 (0 : Int), Value.int IntKind.i64 (0 : Int), Value.int IntKind.i64 (0 : Int), Value.slice none (0 : Nat) (0 : Nat), Value.int IntKind.i64 (0 : Int), Value.int IntKind.i64 (0 : Int), Value.int IntKind.i64 (0 : Int), Value.int IntKind.i64 (0 : Int)] : Bx } ∧
      true = true) ∧
      True) ∧
      ∀ (a_1 : WoX),
      WoI x.hs (fun (h : Hd) => decide (h.nd ≠ nd)) m a_1 →
      ifB (decide ((↑a_1.k : Int) < (↑x.hs.length : Int)))
      (∃ (b : Nat),
      ∃ (off : Nat),
      a = some { block := b, off := off : Addr } ∧
      ((0 : Int) ≤ (↑a_1.k : Int) ∧ (↑a_1.k : Int) < (↑x.hs.length : Int)) ∧
      ∃ (n : Int),
      CellsAt a_1.m b (off + (↑a_1.k : Int).toNat * (4 : Nat) + (0 : Nat)) [Value.int IntKind.i64 n] ∧
      ifB (n != nd)
      (∃ (b : Nat),
      ∃ (off : Nat),
      a = some { block := b, off := off : Addr } ∧
      ((0 : Int) ≤ (↑a_1.k : Int) ∧ (↑a_1.k : Int) < (↑x.hs.length : Int)) ∧
      ∃ (n : Int),
      ∃ (n_1 : Int),
      ∃ (n_2 : Int),
      ∃ (n_3 : Int),
      CellsAt a_1.m b (off + (↑a_1.k : Int).toNat * (4 : Nat))
      [Value.int IntKind.i64 n, Value.int IntKind.i64 n_1, Value.int IntKind.i64 n_2, Value.int IntKind.i64 n_3] ∧
      true = true ∧
      ∀ (b : Nat),
      a_1.m.sz ≤ b →
      ∃ (old : List Value),
      ∃ (src : List Value),
      AppPre m.sz (fun (x : Nat) => False)
      (a_1.m.newBlock b
      [Value.int IntKind.i64 n, Value.int IntKind.i64 n_1, Value.int IntKind.i64 n_2, Value.int IntKind.i64 n_3])
      (4 : Nat) (32 : Nat) a_1.a (List.filter (fun (h : Hd) => decide (h.nd ≠ nd)) (List.take a_1.k x.hs)).length a_1.c
      (some { block := b, off := (0 : Nat) : Addr }) (1 : Nat) old src ∧
      ∀ (a' : Option Addr) (c' : Nat) (m' : M),
      AppPost Try.prog (31 : Nat)
      (a_1.m.newBlock b
      [Value.int IntKind.i64 n, Value.int IntKind.i64 n_1, Value.int IntKind.i64 n_2, Value.int IntKind.i64 n_3])
      (4 : Nat) a_1.a (List.filter (fun (h : Hd) => decide (h.nd ≠ nd)) (List.take a_1.k x.hs)).length a_1.c (1 : Nat) old src
      a' c' m' →
      ∃ (a'_1 : WoX),
      (WoI x.hs (fun (h : Hd) => decide (h.nd ≠ nd)) m a'_1 ∧
      m' = a'_1.m ∧
      ((SV.val (Value.int IntKind.i64 (IntKind.i64.wrap ((↑a_1.k : Int) + (1 : Int)))) =
      SV.val (Value.int IntKind.i64 (↑a'_1.k : Int)) ∧
      true = true) ∧
      (SV.val (Value.int IntKind.i64 nd) = SV.val (Value.int IntKind.i64 nd) ∧ true = true) ∧
      (SV.own (0 : Nat) (0 : Nat) = SV.own (0 : Nat) (0 : Nat) ∧ true = true) ∧
      (SV.own (1 : Nat) (0 : Nat) = SV.own (1 : Nat) (0 : Nat) ∧ true = true) ∧
      (SV.val
      (Value.slice a'
      ((List.filter (fun (h : Hd) => decide (h.nd ≠ nd)) (List.take a_1.k x.hs)).length + (1 : Nat))
      c') =
      SV.val
      (Value.slice a'_1.a
      (List.filter (fun (h : Hd) => decide (h.nd ≠ nd)) (List.take a'_1.k x.hs)).length a'_1.c) ∧
      true = true) ∧
      True) ∧
      (some
      { ty := (28 : TypeId), cs := [Value.string x.key, Value.int IntKind.i64 x.lo, Value.int IntKind.i64 x.hi, Value.int IntKind.i64 x.base, Value.int IntKind.i64 x.round, Value.slice a x.hs.length c, Value.int IntKind.i64 x.lk.cl, Value.int IntKind.i64 x.lk.sq, Value.int IntKind.i64 x.lk.hm, Value.int IntKind.i64 x.lk.n] : Bx } =
      some
      { ty := (28 : TypeId), cs := [Value.string x.key, Value.int IntKind.i64 x.lo, Value.int IntKind.i64 x.hi, Value.int IntKind.i64 x.base, Value.int IntKind.i64 x.round, Value.slice a x.hs.length c, Value.int IntKind.i64 x.lk.cl, Value.int IntKind.i64 x.lk.sq, Value.int IntKind.i64 x.lk.hm, Value.int IntKind.i64 x.lk.n] : Bx } ∧
      true = true) ∧
      (some
      { ty := (28 : TypeId), cs := [Value.string ByteArray.empty, Value.int IntKind.i64 (0 : Int), Value.int IntKind.i64 (0 : Int), Value.int IntKind.i64 (0 : Int), Value.int IntKind.i64 (0 : Int), Value.slice none (0 : Nat) (0 : Nat), Value.int IntKind.i64 (0 : Int), Value.int IntKind.i64 (0 : Int), Value.int IntKind.i64 (0 : Int), Value.int IntKind.i64 (0 : Int)] : Bx } =
      some
      { ty := (28 : TypeId), cs := [Value.string ByteArray.empty, Value.int IntKind.i64 (0 : Int), Value.int IntKind.i64 (0 : Int), Value.int IntKind.i64 (0 : Int), Value.int IntKind.i64 (0 : Int), Value.slice none (0 : Nat) (0 : Nat), Value.int IntKind.i64 (0 : Int), Value.int IntKind.i64 (0 : Int), Value.int IntKind.i64 (0 : Int), Value.int IntKind.i64 (0 : Int)] : Bx } ∧
      true = true) ∧
      True) ∧
      x.hs.length - a'_1.k < x.hs.length - a_1.k)
      (∃ (a' : WoX),
      (WoI x.hs (fun (h : Hd) => decide (h.nd ≠ nd)) m a' ∧
      a_1.m = a'.m ∧
      ((SV.val (Value.int IntKind.i64 (IntKind.i64.wrap ((↑a_1.k : Int) + (1 : Int)))) = SV.val (Value.int IntKind.i64 (↑a'.k : Int)) ∧ true = true) ∧
      (SV.val (Value.int IntKind.i64 nd) = SV.val (Value.int IntKind.i64 nd) ∧ true = true) ∧
      (SV.own (0 : Nat) (0 : Nat) = SV.own (0 : Nat) (0 : Nat) ∧ true = true) ∧
      (SV.own (1 : Nat) (0 : Nat) = SV.own (1 : Nat) (0 : Nat) ∧ true = true) ∧
      (SV.val (Value.slice a_1.a (List.filter (fun (h : Hd) => decide (h.nd ≠ nd)) (List.take a_1.k x.hs)).length a_1.c) =
      SV.val (Value.slice a'.a (List.filter (fun (h : Hd) => decide (h.nd ≠ nd)) (List.take a'.k x.hs)).length a'.c) ∧
      true = true) ∧
      True) ∧
      (some
      { ty := (28 : TypeId), cs := [Value.string x.key, Value.int IntKind.i64 x.lo, Value.int IntKind.i64 x.hi, Value.int IntKind.i64 x.base, Value.int IntKind.i64 x.round, Value.slice a x.hs.length c, Value.int IntKind.i64 x.lk.cl, Value.int IntKind.i64 x.lk.sq, Value.int IntKind.i64 x.lk.hm, Value.int IntKind.i64 x.lk.n] : Bx } =
      some
      { ty := (28 : TypeId), cs := [Value.string x.key, Value.int IntKind.i64 x.lo, Value.int IntKind.i64 x.hi, Value.int IntKind.i64 x.base, Value.int IntKind.i64 x.round, Value.slice a x.hs.length c, Value.int IntKind.i64 x.lk.cl, Value.int IntKind.i64 x.lk.sq, Value.int IntKind.i64 x.lk.hm, Value.int IntKind.i64 x.lk.n] : Bx } ∧
      true = true) ∧
      (some
      { ty := (28 : TypeId), cs := [Value.string ByteArray.empty, Value.int IntKind.i64 (0 : Int), Value.int IntKind.i64 (0 : Int), Value.int IntKind.i64 (0 : Int), Value.int IntKind.i64 (0 : Int), Value.slice none (0 : Nat) (0 : Nat), Value.int IntKind.i64 (0 : Int), Value.int IntKind.i64 (0 : Int), Value.int IntKind.i64 (0 : Int), Value.int IntKind.i64 (0 : Int)] : Bx } =
      some
      { ty := (28 : TypeId), cs := [Value.string ByteArray.empty, Value.int IntKind.i64 (0 : Int), Value.int IntKind.i64 (0 : Int), Value.int IntKind.i64 (0 : Int), Value.int IntKind.i64 (0 : Int), Value.slice none (0 : Nat) (0 : Nat), Value.int IntKind.i64 (0 : Int), Value.int IntKind.i64 (0 : Int), Value.int IntKind.i64 (0 : Int), Value.int IntKind.i64 (0 : Int)] : Bx } ∧
      true = true) ∧
      True) ∧
      x.hs.length - a'.k < x.hs.length - a_1.k))
      (Done
      (∃ (a' : Option Addr),
      ∃ (c' : Nat),
      Value.agg
      #[Value.string x.key, Value.int IntKind.i64 x.lo, Value.int IntKind.i64 x.hi, Value.int IntKind.i64 x.base, Value.int IntKind.i64 x.round,
      Value.slice a_1.a (List.filter (fun (h : Hd) => decide (h.nd ≠ nd)) (List.take a_1.k x.hs)).length a_1.c, Value.int IntKind.i64 x.lk.cl,
      Value.int IntKind.i64 x.lk.sq, Value.int IntKind.i64 x.lk.hm, Value.int IntKind.i64 x.lk.n] =
      Value.agg
      #[Value.string x.key, Value.int IntKind.i64 x.lo, Value.int IntKind.i64 x.hi, Value.int IntKind.i64 x.base, Value.int IntKind.i64 x.round,
      Value.slice a' (List.filter (fun (h : Hd) => decide (h.nd ≠ nd)) x.hs).length c', Value.int IntKind.i64 x.lk.cl, Value.int IntKind.i64 x.lk.sq,
      Value.int IntKind.i64 x.lk.hm, Value.int IntKind.i64 x.lk.n] ∧
      NewR m.sz (fun (x : Nat) => False) a_1.m (4 : Nat) a' (List.filter (fun (h : Hd) => decide (h.nd ≠ nd)) x.hs).length c'
      (hds (List.filter (fun (h : Hd) => decide (h.nd ≠ nd)) x.hs))))) (by kernel_rfl) ?_
  refine ⟨rfl, ⟨⟨0, none, 0, m⟩, ⟨Nat.zero_le _, .nil _, Agree.refl _ _⟩, rfl, by simp, ⟨⟨rfl, rfl⟩, ⟨rfl, rfl⟩, trivial⟩⟩, fun y hy => ifB_intro (fun hb => ?_) (fun hb => ?_)⟩
  · have hk2 : y.k < x.hs.length := by simpa using hb
    obtain ⟨b, o, rfl, hc⟩ := (h.agree hy.ag).cells (by rw [hds_len]; omega)
    have w1 : IntKind.i64.wrap ((y.k : Int) + 1) = ((y.k + 1 : Nat) : Int) := by simp [IntKind.wrap_i64]; omega
    have hcell := hd_at hc hk2
    have hc0 : CellsAt y.m b (o + y.k * 4) [I x.hs[y.k].nd] := hcell.take (ds := [I x.hs[y.k].le, I x.hs[y.k].up, I x.hs[y.k].dn])
    have ts : x.hs.take (y.k + 1) = x.hs.take y.k ++ [x.hs[y.k]] := List.take_succ_eq_append_getElem hk2
    refine ⟨b, o, rfl, by omega, _, by simpa using hc0, ifB_intro (fun h1 => ⟨b, o, rfl, by omega, _, _, _, _, by simpa using hcell, rfl, fun b2 hb2 => ?_⟩) (fun h1 => ?_)⟩
    · have h1 : x.hs[y.k].nd ≠ nd := by simpa using h1
      have hfl : ((x.hs.take y.k).filter fun h => decide (h.nd ≠ nd)).length ≤ x.hs.length := Nat.le_trans (List.length_filter_le _ _) (by simp; omega)
      obtain ⟨g1, g2⟩ := hy.own.push (P := Try.prog) (e := 31) (bytes := 32) (src := encH x.hs[y.k]) hb2 hy.ag.2.2 rfl rfl (by omega) zr_hd
      refine ⟨_, _, g1, fun a' c' m' hp => ?_⟩
      obtain ⟨g3, g4⟩ := g2 a' c' m' hp
      have ef : (x.hs.take (y.k + 1)).filter (fun h => decide (h.nd ≠ nd)) = (x.hs.take y.k).filter (fun h => decide (h.nd ≠ nd)) ++ [x.hs[y.k]] := by
        rw [ts, List.filter_append]; simp [h1]
      have eh : hds ((x.hs.take (y.k + 1)).filter fun h => decide (h.nd ≠ nd)) = hds ((x.hs.take y.k).filter fun h => decide (h.nd ≠ nd)) ++ encH x.hs[y.k] := by
        rw [ef]; simp [hds]
      refine ⟨⟨y.k + 1, a', c', m'⟩, ⟨⟨hk2, ?_, hy.ag.trans g4⟩, rfl, ?_, ⟨⟨rfl, rfl⟩, ⟨rfl, rfl⟩, trivial⟩⟩, by simp only; omega⟩
      · simp only [eh]
        rw [show ((x.hs.take (y.k + 1)).filter fun h => decide (h.nd ≠ nd)).length = ((x.hs.take y.k).filter fun h => decide (h.nd ≠ nd)).length + 1 by rw [ef]; simp]
        exact g3
      · simp only [ef, w1]
        simp
    · have h1 : x.hs[y.k].nd = nd := by simpa using h1
      have ef : (x.hs.take (y.k + 1)).filter (fun h => decide (h.nd ≠ nd)) = (x.hs.take y.k).filter (fun h => decide (h.nd ≠ nd)) := by
        rw [ts, List.filter_append]; simp [h1]
      refine ⟨⟨y.k + 1, y.a, y.c, y.m⟩, ⟨⟨hk2, ?_, hy.ag⟩, rfl, ?_, ⟨⟨rfl, rfl⟩, ⟨rfl, rfl⟩, trivial⟩⟩, by simp only; omega⟩
      · simp only [ef]; exact hy.own
      · simp only [ef, w1]
        simp
  · have hk : y.k = x.hs.length := by have := hy.k; simp at hb; omega
    have ho := hy.own
    rw [hk, List.take_length] at ho ⊢
    exact ⟨_, _, rfl, ho⟩

theorem rreport_s (x : Ac) (a : Option Addr) (c : Nat) (nd le ro net : Int) (hx : x.wf) (hn : In64 net) (m : M) (h : Row m a (hds x.hs)) : Vc.Spec Try.prog 67 [acv x a c, I nd, I le, I ro, I net] m (AcR m (aReport x nd le ro net)) := by
  refine Vc.Spec.of_vc Try.func67 (ann := noAnn) ?_
  refine vc_by (X :=
      true = true ∧
      ∃ (b : Bool),
      QSpec Try.prog (12 : Nat)
      [Value.agg
      #[Value.string x.key, Value.int IntKind.i64 x.lo, Value.int IntKind.i64 x.hi, Value.int IntKind.i64 x.base, Value.int IntKind.i64 x.round, Value.slice a x.hs.length c,
      Value.int IntKind.i64 x.lk.cl, Value.int IntKind.i64 x.lk.sq, Value.int IntKind.i64 x.lk.hm, Value.int IntKind.i64 x.lk.n]]
      m (Value.bool b) ∧
      ifB (!b)
      (Done
      (AcR m (aReport x nd le ro net)
      (Value.tuple
      #[Value.agg
      #[Value.string { data := #[] : ByteArray }, Value.int IntKind.i64 (0 : Int), Value.int IntKind.i64 (0 : Int), Value.int IntKind.i64 (0 : Int),
      Value.int IntKind.i64 (0 : Int), Value.slice none (0 : Nat) (0 : Nat), Value.int IntKind.i64 (0 : Int), Value.int IntKind.i64 (0 : Int),
      Value.int IntKind.i64 (0 : Int), Value.int IntKind.i64 (0 : Int)],
      Value.int IntKind.i64 (21 : Int)])
      m))
      (∃ (n : Int),
      ∃ (n_1 : Int),
      ∃ (n_2 : Int),
      ∃ (n_3 : Int),
      ∃ (b : Bool),
      QSpec Try.prog (20 : Nat)
      [Value.agg
      #[Value.string x.key, Value.int IntKind.i64 x.lo, Value.int IntKind.i64 x.hi, Value.int IntKind.i64 x.base, Value.int IntKind.i64 x.round,
      Value.slice a x.hs.length c, Value.int IntKind.i64 x.lk.cl, Value.int IntKind.i64 x.lk.sq, Value.int IntKind.i64 x.lk.hm, Value.int IntKind.i64 x.lk.n],
      Value.int IntKind.i64 nd]
      m (Value.tuple #[Value.agg #[Value.int IntKind.i64 n, Value.int IntKind.i64 n_1, Value.int IntKind.i64 n_2, Value.int IntKind.i64 n_3], Value.bool b]) ∧
      ifB (!b)
      (Done
      (AcR m (aReport x nd le ro net)
      (Value.tuple
      #[Value.agg
      #[Value.string { data := #[] : ByteArray }, Value.int IntKind.i64 (0 : Int), Value.int IntKind.i64 (0 : Int), Value.int IntKind.i64 (0 : Int),
      Value.int IntKind.i64 (0 : Int), Value.slice none (0 : Nat) (0 : Nat), Value.int IntKind.i64 (0 : Int), Value.int IntKind.i64 (0 : Int),
      Value.int IntKind.i64 (0 : Int), Value.int IntKind.i64 (0 : Int)],
      Value.int IntKind.i64 (151 : Int)])
      m))
      (ifB (n_1 != le)
      (Done
      (AcR m (aReport x nd le ro net)
      (Value.tuple
      #[Value.agg
      #[Value.string { data := #[] : ByteArray }, Value.int IntKind.i64 (0 : Int), Value.int IntKind.i64 (0 : Int), Value.int IntKind.i64 (0 : Int),
      Value.int IntKind.i64 (0 : Int), Value.slice none (0 : Nat) (0 : Nat), Value.int IntKind.i64 (0 : Int), Value.int IntKind.i64 (0 : Int),
      Value.int IntKind.i64 (0 : Int), Value.int IntKind.i64 (0 : Int)],
      Value.int IntKind.i64 (151 : Int)])
      m))
      (ifB (x.round == (0 : Int))
      (Done
      (AcR m (aReport x nd le ro net)
      (Value.tuple
      #[Value.agg
      #[Value.string { data := #[] : ByteArray }, Value.int IntKind.i64 (0 : Int), Value.int IntKind.i64 (0 : Int), Value.int IntKind.i64 (0 : Int),
      Value.int IntKind.i64 (0 : Int), Value.slice none (0 : Nat) (0 : Nat), Value.int IntKind.i64 (0 : Int), Value.int IntKind.i64 (0 : Int),
      Value.int IntKind.i64 (0 : Int), Value.int IntKind.i64 (0 : Int)],
      Value.int IntKind.i64 (152 : Int)])
      m))
      (ifB (x.round != ro)
      (Done
      (AcR m (aReport x nd le ro net)
      (Value.tuple
      #[Value.agg
      #[Value.string { data := #[] : ByteArray }, Value.int IntKind.i64 (0 : Int), Value.int IntKind.i64 (0 : Int), Value.int IntKind.i64 (0 : Int),
      Value.int IntKind.i64 (0 : Int), Value.slice none (0 : Nat) (0 : Nat), Value.int IntKind.i64 (0 : Int), Value.int IntKind.i64 (0 : Int),
      Value.int IntKind.i64 (0 : Int), Value.int IntKind.i64 (0 : Int)],
      Value.int IntKind.i64 (152 : Int)])
      m))
      (ifB (decide (net > n_2))
      (Done
      (AcR m (aReport x nd le ro net)
      (Value.tuple
      #[Value.agg
      #[Value.string { data := #[] : ByteArray }, Value.int IntKind.i64 (0 : Int), Value.int IntKind.i64 (0 : Int),
      Value.int IntKind.i64 (0 : Int), Value.int IntKind.i64 (0 : Int), Value.slice none (0 : Nat) (0 : Nat), Value.int IntKind.i64 (0 : Int),
      Value.int IntKind.i64 (0 : Int), Value.int IntKind.i64 (0 : Int), Value.int IntKind.i64 (0 : Int)],
      Value.int IntKind.i64 (150 : Int)])
      m))
      (true = true ∧
      ∀ (b : Nat),
      m.sz ≤ b →
      ∃ (n : Int),
      ∃ (n_4 : Int),
      QSpec Try.prog (29 : Nat) [Value.slice (some { block := b, off := (0 : Nat) : Addr }) (2 : Nat) (2 : Nat)]
      (m.newBlock b [Value.int IntKind.i64 n_3, Value.int IntKind.i64 net])
      (Value.agg #[Value.int IntKind.i64 n, Value.int IntKind.u64 n_4]) ∧
      ifB (decide (n < (0 : Int)))
      (Done
      (AcR m (aReport x nd le ro net)
      (Value.tuple
      #[Value.agg
      #[Value.string { data := #[] : ByteArray }, Value.int IntKind.i64 (0 : Int), Value.int IntKind.i64 (0 : Int),
      Value.int IntKind.i64 (0 : Int), Value.int IntKind.i64 (0 : Int), Value.slice none (0 : Nat) (0 : Nat),
      Value.int IntKind.i64 (0 : Int), Value.int IntKind.i64 (0 : Int), Value.int IntKind.i64 (0 : Int),
      Value.int IntKind.i64 (0 : Int)],
      Value.int IntKind.i64 (150 : Int)])
      (m.newBlock b [Value.int IntKind.i64 n_3, Value.int IntKind.i64 net])))
      (∀ (n : Nat),
      max m.sz (b + (1 : Nat)) ≤ n →
      Vc.Spec Try.prog (84 : Nat)
      [Value.agg
      #[Value.string x.key, Value.int IntKind.i64 x.lo, Value.int IntKind.i64 x.hi, Value.int IntKind.i64 x.base,
      Value.int IntKind.i64 x.round, Value.slice a x.hs.length c, Value.int IntKind.i64 x.lk.cl, Value.int IntKind.i64 x.lk.sq,
      Value.int IntKind.i64 x.lk.hm, Value.int IntKind.i64 x.lk.n],
      Value.int IntKind.i64 nd]
      { π := (m.newBlock b [Value.int IntKind.i64 n_3, Value.int IntKind.i64 net]).π, sz := n, uf := (m.newBlock b [Value.int IntKind.i64 n_3, Value.int IntKind.i64 net]).uf : M }
      fun (v : Value) (m' : M) =>
      ∃ (s : ByteArray),
      ∃ (n : Int),
      ∃ (n_5 : Int),
      ∃ (n_6 : Int),
      ∃ (n_7 : Int),
      ∃ (a : Option Addr),
      ∃ (n_8 : Nat),
      ∃ (c : Nat),
      ∃ (n_9 : Int),
      ∃ (n_10 : Int),
      ∃ (n_11 : Int),
      ∃ (n_12 : Int),
      v =
      Value.agg
      #[Value.string s, Value.int IntKind.i64 n, Value.int IntKind.i64 n_5, Value.int IntKind.i64 n_6,
      Value.int IntKind.i64 n_7, Value.slice a n_8 c, Value.int IntKind.i64 n_9,
      Value.int IntKind.i64 n_10, Value.int IntKind.i64 n_11, Value.int IntKind.i64 n_12] ∧
      Done
      (AcR m (aReport x nd le ro net)
      (Value.tuple
      #[Value.agg
      #[Value.string s, Value.int IntKind.i64 n, Value.int IntKind.i64 n_5,
      Value.int IntKind.i64 (IntKind.i64.wrap (n_6 + net)), Value.int IntKind.i64 n_7,
      Value.slice a n_8 c, Value.int IntKind.i64 n_9, Value.int IntKind.i64 n_10,
      Value.int IntKind.i64 n_11, Value.int IntKind.i64 n_12],
      Value.int IntKind.i64 (0 : Int)])
      m'))))))))) (by kernel_rfl) ?_
  refine ⟨rfl, _, rright_q x a c hx _ h, ?_⟩
  cases hr : rightB x
  · exact ifB_true (fail_d (by simp [aReport, hr]))
  refine ifB_false ⟨_, _, _, _, _, rfind_q x a c nd hx _ h, ifB_intro (fun h1 => fail_d ?_) (fun h1 => ifB_intro (fun h2 => fail_d ?_) (fun h2 => ifB_intro (fun h3 => fail_d ?_) (fun h3 => ifB_intro (fun h4 => fail_d ?_) (fun h4 => ?_))))⟩
  · simp at h1; simp [aReport, hr, h1]
  · simp at h1 h2; simp [aReport, hr, h2]
  · simp at h1 h2 h3; simp [aReport, hr, h1, h2, h3]
  · simp at h1 h2 h3 h4; simp [aReport, hr, h1, h2, h4]
  have h1 : findB x nd = true := by simpa using h1
  obtain ⟨-, hmem, hnd⟩ := find_mem h1
  have hroom := hold_room hr hmem
  have hlo := hx.lo
  have hhi := hx.hi
  have hdn := (hx.hs _ hmem).2.2.2
  simp at h2 h3 h4
  refine ifB_intro (fun h5 => fail_d ?_) (fun h5 => ⟨rfl, fun b hb => ?_⟩)
  · simp at h5; simp [aReport, hr, h1, h2, ← h4, h3, h5]
  simp at h5
  have s2 : sumI [(findH x nd).dn, net] = (findH x nd).dn + net := by simp [sumI]
  have q1 := of_q (some ⟨b, 0, none⟩) 2 [(findH x nd).dn, net] (by intro y hy; simp at hy; rcases hy with rfl | rfl; exact hdn; exact hn) (by simp) (m.newBlock b [I (findH x nd).dn, I net]) (.at _ _ _ (by simp only [M.newBlock]; omega) cellsAt_new)
  rw [s2] at q1
  have e1 : wideHi ((findH x nd).dn + net) < 0 ↔ (findH x nd).dn + net < 0 := by unfold In64 at *; simp [wideHi, IntKind.wrap_i64]; omega
  refine ⟨_, _, q1, ifB_intro (fun h6 => fail_d ?_) (fun h6 N hN => ?_)⟩
  · have h6 := e1.1 (by simpa using h6)
    have : net < -(findH x nd).dn := by omega
    simp [aReport, hr, h1, h2, ← h4, h3, this]
  have h6 : ¬ (findH x nd).dn + net < 0 := fun hh => by simp at h6; have := e1.2 hh; omega
  have w1 : IntKind.i64.wrap (x.base + net) = x.base + net := by unfold In64 at *; simp [IntKind.wrap_i64]; omega
  refine (without_s x a c nd (by have := right_len hr; omega) _ ((h.newBlock hb).sz hN)).mono fun v m' hag ⟨a', c', hv, hr'⟩ => ⟨_, _, _, _, _, _, _, _, _, _, _, _, hv, ?_⟩
  rw [w1]
  refine ok_d (z := { x with base := x.base + net, hs := x.hs.filter fun h => decide (h.nd ≠ nd) }) ?_ hr' (by simp only; omega)
  have hnb : ¬ ((findH x nd).up < net ∨ net < -(findH x nd).dn) := by omega
  simp [aReport, hr, h1, h2, ← h4, h3, hnb]

end Go.Proofs.Ytlifpjllhibdpaa
set_option linter.unusedVariables false
set_option linter.unusedSimpArgs false
namespace Go.Proofs.Ytlifpjllhibdpaa
open Go.Vc Go.RowKit

theorem hold_mono : ∀ {l : List Hd} {last last' : Int}, last' ≤ last → holdB last l = true → holdB last' l = true
  | [], _, _, _, _ => rfl
  | h :: r, last, last', hl, hb => by
    simp only [holdB, hdB, Bool.and_eq_true, decide_eq_true_eq] at hb ⊢
    exact ⟨by omega, hb.2⟩

theorem hold_filter {p : Hd → Bool} : ∀ {l : List Hd} {last : Int}, holdB last l = true → holdB last (l.filter p) = true
  | [], _, _ => rfl
  | h :: r, last, hb => by
    simp only [holdB, Bool.and_eq_true] at hb
    have hd := hb.1
    simp only [hdB, Bool.and_eq_true, decide_eq_true_eq] at hd
    by_cases hp : p h = true
    · rw [List.filter_cons_of_pos hp]
      simp only [holdB, Bool.and_eq_true]
      exact ⟨hb.1, hold_filter hb.2⟩
    · rw [List.filter_cons_of_neg hp]
      exact hold_mono (by omega) (hold_filter hb.2)

theorem hold_keep {l : List Hd} {last nd : Int} (h : holdB last l = true) (hn : nd ≤ last) : l.filter (fun h => decide (h.nd ≠ nd)) = l :=
  List.filter_eq_self.2 fun z hz => by have := hold_mem _ _ h z hz; simp; omega

theorem hold_cut {h : Hd} {r : List Hd} {last : Int} (hb : holdB last (h :: r) = true) : (h :: r).filter (fun z => decide (z.nd ≠ h.nd)) = r := by
  simp only [holdB, Bool.and_eq_true] at hb
  rw [List.filter_cons_of_neg (by simp)]
  exact hold_keep hb.2 (Int.le_refl _)

theorem sum_cut (f : Hd → Int) : ∀ {l : List Hd} {last : Int} {h : Hd}, holdB last l = true → h ∈ l → sumI ((l.filter fun z => decide (z.nd ≠ h.nd)).map f) = sumI (l.map f) - f h
  | x :: r, last, h, hb, hm => by
    have hb' := hb
    simp only [holdB, Bool.and_eq_true] at hb'
    rcases List.mem_cons.1 hm with rfl | hm
    · rw [hold_cut hb, List.map_cons, sumI_cons]; omega
    · have hgt := hold_mem _ _ hb'.2 h hm
      rw [List.filter_cons_of_pos (by simp; omega), List.map_cons, List.map_cons, sumI_cons, sumI_cons, sum_cut f hb'.2 hm]
      omega

theorem aReport_ok {x : Ac} {nd le ro net : Int} (h : (aReport x nd le ro net).2 = 0) : rightB x = true ∧ findB x nd = true ∧ (findH x nd).le = le ∧ x.round = ro ∧ x.round ≠ 0 ∧ net ≤ (findH x nd).up ∧ -(findH x nd).dn ≤ net ∧
    aReport x nd le ro net = ({ x with base := x.base + net, hs := x.hs.filter fun h => decide (h.nd ≠ nd) }, 0) := by
  unfold aReport at h ⊢
  split at h
  · simp at h
  split at h
  · simp at h
  split at h
  · simp at h
  split at h
  · simp at h
  rename_i h1 h2 h3 h4
  refine ⟨by simpa using h1, ?_, ?_, ?_, ?_, by omega, by omega, by simp only [h1, h2, h3, h4, if_false]; simp⟩
  · cases hf : findB x nd
    · simp [hf] at h2
    · rfl
  · exact Classical.byContradiction fun e => h2 (.inr e)
  · exact Classical.byContradiction fun e => h3 (.inr e)
  · exact fun e => h3 (.inl e)

/-- behind a report the account is right -/
theorem cut_right {x : Ac} {h : Hd} {net : Int} (hx : x.wf) (hr : rightB x = true) (hm : h ∈ x.hs) (h1 : net ≤ h.up) (h2 : -h.dn ≤ net) :
    rightB { x with base := x.base + net, hs := x.hs.filter fun z => decide (z.nd ≠ h.nd) } = true ∧ ({ x with base := x.base + net, hs := x.hs.filter fun z => decide (z.nd ≠ h.nd) } : Ac).wf := by
  have hp := (right_iff x).1 hr
  have hroom := hold_room hr hm
  have e1 := sum_cut (·.up) hp.hold hm
  have e2 := sum_cut (·.dn) hp.hold hm
  have hlo := hx.lo
  have hhi := hx.hi
  refine ⟨(right_iff _).2 ⟨hp.key, by simp only; omega, hp.round, hold_filter hp.hold, ?_, ?_, ?_⟩, ⟨hx.key, hx.lo, hx.hi, by simp only; unfold In64 at *; omega, hx.round, fun z hz => hx.hs z (List.mem_filter.1 hz).1, Nat.le_trans (List.length_filter_le _ _) hx.len, hx.lk⟩⟩
  · have := hp.up
    simp only [upsL, sumI_cons, e1] at this ⊢
    omega
  · have := hp.dn
    have n1 := sumI_neg x.hs (·.dn)
    have n2 := sumI_neg (x.hs.filter fun z => decide (z.nd ≠ h.nd)) (·.dn)
    simp only [dnsL, sumI_cons] at this ⊢
    rw [n1] at this
    rw [n2, e2]
    omega
  · have := hp.lock
    simp only [lockB] at this ⊢
    split
    · rename_i hl; simpa [hl] using this
    · rename_i hl
      simp [hl] at this
      rw [this.1.2] at hm
      simp at hm

end Go.Proofs.Ytlifpjllhibdpaa
set_option linter.unusedVariables false
set_option linter.unusedSimpArgs false
namespace Go.Proofs.Ytlifpjllhibdpaa
open Go.Vc Go.RowKit
set_option maxRecDepth 100000

def netOf (h : Hd) (ns : List Int) (i : Nat) : Int := match ns[i]? with | some v => max (-h.dn) (min v h.up) | none => 0

def netsSum (hs : List Hd) (ns : List Int) : Nat → Int
  | 0 => 0
  | k + 1 => netsSum hs ns k + (match hs[k]? with | some h => netOf h ns k | none => 0)

def rndA (x : Ac) (R : Int) (ns : List Int) (k : Nat) : Ac := { x with round := R, base := x.base + netsSum x.hs ns k, hs := x.hs.drop k }

structure RndX where
  k : Nat
  a : Option Addr
  c : Nat
  m : M

structure RndI (x : Ac) (R : Int) (ns : List Int) (m : M) (y : RndX) : Prop where
  k : y.k ≤ x.hs.length
  right : rightB (rndA x R ns y.k) = true
  wf : (rndA x R ns y.k).wf
  own : NewR m.sz (fun _ => False) y.m 4 y.a (x.hs.drop y.k).length y.c (hds (x.hs.drop y.k))
  ag : Agree m.sz m y.m

def rndR (x : Ac) (r : Int) : Int := if x.round = 0 then r else x.round

def hAt (x : Ac) (k : Nat) : Hd := (x.hs[k]?).getD hd0

def rndAnn (x : Ac) (a : Option Addr) (c : Nat) (an : Option Addr) (cn : Nat) (ns : List Int) (R : Int) (m : M) : Ann := {
    A := RndX
    inv := RndI x R ns m
    st := fun y => [(10, .val (I y.k)), (3, .own 0 0), (2, .val (.slice an ns.length cn)), (7, .own 10 0), (9, .own 19 0)]
    own := fun y => [(0, ⟨28, acc x a c⟩), (10, ⟨28, acc (rndA x R ns y.k) y.a y.c⟩), (19, ⟨52, [I (wideHi (rndA x R ns y.k).base), U (wideLo (rndA x R ns y.k).base)]⟩)]
    m := fun y => y.m
    μ := fun y => x.hs.length - y.k }

theorem aFreeze_ok {x : Ac} {r : Int} (h : (aFreeze x r).2 = 0) : rightB x = true ∧ 1 ≤ r ∧ r ≤ 4611686018427387904 ∧ aFreeze x r = ({ x with round := rndR x r }, 0) := by
  unfold aFreeze at h ⊢
  split at h
  · simp at h
  split at h
  · simp at h
  rename_i h1 h2
  refine ⟨by simpa using h1, by omega, by omega, by simp only [h1, h2, if_false, rndR]; simp⟩

theorem aFreeze_err {x : Ac} {r : Int} (h : (aFreeze x r).2 ≠ 0) : aFreeze x r = (ac0, (aFreeze x r).2) := by
  unfold aFreeze at h ⊢
  repeat' split
  all_goals simp_all

theorem round_right {x : Ac} {r : Int} (hx : x.wf) (hr : rightB x = true) (h : 0 ≤ r) (h2 : In64 r) : rightB { x with round := r } = true ∧ ({ x with round := r } : Ac).wf := by
  have hp := (right_iff x).1 hr
  refine ⟨(right_iff _).2 ⟨hp.key, hp.has, h, hp.hold, hp.up, hp.dn, ?_⟩, ⟨hx.key, hx.lo, hx.hi, hx.base, h2, hx.hs, hx.len, hx.lk⟩⟩
  have := hp.lock
  simp only [lockB, fitsB] at this ⊢
  exact this

theorem rnd_zero (x : Ac) (R : Int) (ns : List Int) : rndA x R ns 0 = { x with round := R } := by simp [rndA, netsSum]

theorem find_head {x : Ac} {h : Hd} {r : List Hd} (hr : rightB x = true) (he : x.hs = h :: r) : findB x h.nd = true ∧ findH x h.nd = h := by
  simp [findB, findH, hr, he, fndH]

theorem find_gone {x : Ac} {nd : Int} (hr : holdB nd x.hs = true) : findB x nd = false := by
  have : fndH x.hs nd = none := by
    unfold fndH
    rw [List.find?_eq_none]
    intro z hz
    have := hold_mem _ _ hr z hz
    simp; omega
  simp [findB, this]

theorem rnd_step {x : Ac} {R : Int} {ns : List Int} {k : Nat} (hk : k < x.hs.length) (hr : rightB (rndA x R ns k) = true) (hw : (rndA x R ns k).wf) (hR : R ≠ 0) :
    (∀ q, q ≠ R → aReport (rndA x R ns k) (hAt x k).nd (hAt x k).le q (netOf (hAt x k) ns k) = (ac0, 152)) ∧
    aReport (rndA x R ns k) (hAt x k).nd (hAt x k).le R (netOf (hAt x k) ns k) = (rndA x R ns (k + 1), 0) ∧
    aReport (rndA x R ns (k + 1)) (hAt x k).nd (hAt x k).le R (netOf (hAt x k) ns k) = (ac0, 151) ∧
    rightB (rndA x R ns (k + 1)) = true ∧ (rndA x R ns (k + 1)).wf ∧ In64 (netOf (hAt x k) ns k) := by
  have eh : hAt x k = x.hs[k] := by simp [hAt, List.getElem?_eq_getElem hk]
  have ehs : (rndA x R ns k).hs = hAt x k :: x.hs.drop (k + 1) := by rw [eh]; exact List.drop_eq_getElem_cons hk
  obtain ⟨f1, f2⟩ := find_head hr ehs
  have hm : hAt x k ∈ (rndA x R ns k).hs := by rw [ehs]; simp
  have hroom := hold_room hr hm
  have hhold := ((right_iff _).1 hr).hold
  rw [ehs] at hhold
  have hnet : netOf (hAt x k) ns k ≤ (hAt x k).up ∧ -(hAt x k).dn ≤ netOf (hAt x k) ns k := by
    unfold netOf
    split <;> omega
  have ecut : ({ rndA x R ns k with base := (rndA x R ns k).base + netOf (hAt x k) ns k, hs := (rndA x R ns k).hs.filter fun z => decide (z.nd ≠ (hAt x k).nd) } : Ac) = rndA x R ns (k + 1) := by
    rw [ehs, hold_cut hhold]
    simp only [rndA, netsSum, eh, List.getElem?_eq_getElem hk]
    simp; omega
  have hcut := cut_right hw hr hm hnet.1 hnet.2
  rw [ecut] at hcut
  have hwf := hw.hs _ hm
  refine ⟨fun q hq => ?_, ?_, ?_, hcut.1, hcut.2, ?_⟩
  · have hq' : (rndA x R ns k).round ≠ q := fun e => hq e.symm
    simp [aReport, hr, f1, f2, hq']
  · have hr1 : (rndA x R ns k).round = R := rfl
    have hnb : ¬ ((hAt x k).up < netOf (hAt x k) ns k ∨ netOf (hAt x k) ns k < -(hAt x k).dn) := by omega
    rw [← ecut]
    simp only [aReport, hr, f1, f2, hr1, hnb, hR]
    simp
  · have : findB (rndA x R ns (k + 1)) (hAt x k).nd = false := find_gone (by
      simp only [holdB, Bool.and_eq_true] at hhold
      exact hhold.2)
    simp [aReport, hcut.1, this]
  · unfold In64
    have h1 := hwf.2.2.1
    have h2 := hwf.2.2.2
    unfold In64 at h1 h2
    omega

theorem accountrounds (x : Ac) (a : Option Addr) (c : Nat) (r : Int) (an : Option Addr) (cn : Nat) (ns : List Int) (hx : x.wf) (hr64 : In64 r) (hns : ∀ v ∈ ns, In64 v) (hnl : ns.length ≤ 9223372036854775807) (h0 : a = none → x.hs = []) (m : M) (h : Row m a (hds x.hs)) (hn2 : Row m an (ints ns)) :
    QSpec Try.prog 5 [acv x a c, I r, .slice an ns.length cn] m (.bool true) := by
  refine QSpec.of_vc Try.func5 (ann := fun n _ => rndAnn x a c an cn ns (rndR x r) { m with sz := n }) fun N hN => ?_
  refine vc_by (X :=
      true = true ∧
      ∃ (b : Bool),
      QSpec Try.prog (21 : Nat) [] { π := m.π, sz := N, uf := m.uf : M } (Value.bool b) ∧
      ifB (!b) (Done (Value.bool false = Value.bool true))
      (∀ (n : Nat),
      N ≤ n →
      Vc.Spec Try.prog (28 : Nat)
      [Value.agg
      #[Value.string x.key, Value.int IntKind.i64 x.lo, Value.int IntKind.i64 x.hi, Value.int IntKind.i64 x.base, Value.int IntKind.i64 x.round,
      Value.slice a x.hs.length c, Value.int IntKind.i64 x.lk.cl, Value.int IntKind.i64 x.lk.sq, Value.int IntKind.i64 x.lk.hm, Value.int IntKind.i64 x.lk.n],
      Value.int IntKind.i64 r]
      { π := m.π, sz := n, uf := m.uf : M } fun (v : Value) (m' : M) =>
      ∃ (s : ByteArray),
      ∃ (n : Int),
      ∃ (n_1 : Int),
      ∃ (n_2 : Int),
      ∃ (n_3 : Int),
      ∃ (a_2 : Option Addr),
      ∃ (n_4 : Nat),
      ∃ (c_1 : Nat),
      ∃ (n_5 : Int),
      ∃ (n_6 : Int),
      ∃ (n_7 : Int),
      ∃ (n_8 : Int),
      ∃ (n_9 : Int),
      v =
      Value.tuple
      #[Value.agg
      #[Value.string s, Value.int IntKind.i64 n, Value.int IntKind.i64 n_1, Value.int IntKind.i64 n_2, Value.int IntKind.i64 n_3,
      Value.slice a_2 n_4 c_1, Value.int IntKind.i64 n_5, Value.int IntKind.i64 n_6, Value.int IntKind.i64 n_7,
      Value.int IntKind.i64 n_8],
      Value.int IntKind.i64 n_9] ∧
      ifB (n_9 != (0 : Int))
      (∃ (b : Bool),
      QSpec Try.prog (23 : Nat)
      [Value.agg
      #[Value.string s, Value.int IntKind.i64 n, Value.int IntKind.i64 n_1, Value.int IntKind.i64 n_2, Value.int IntKind.i64 n_3,
      Value.slice a_2 n_4 c_1, Value.int IntKind.i64 n_5, Value.int IntKind.i64 n_6, Value.int IntKind.i64 n_7,
      Value.int IntKind.i64 n_8],
      Value.agg
      #[Value.string { data := #[] : ByteArray }, Value.int IntKind.i64 (0 : Int), Value.int IntKind.i64 (0 : Int),
      Value.int IntKind.i64 (0 : Int), Value.int IntKind.i64 (0 : Int), Value.slice none (0 : Nat) (0 : Nat),
      Value.int IntKind.i64 (0 : Int), Value.int IntKind.i64 (0 : Int), Value.int IntKind.i64 (0 : Int),
      Value.int IntKind.i64 (0 : Int)]]
      m' (Value.bool b) ∧
      Done (Value.bool b = Value.bool true))
      (true = true ∧
      ∀ (b : Nat),
      m'.sz ≤ b →
      ∃ (n_10 : Int),
      ∃ (n_11 : Int),
      QSpec Try.prog (29 : Nat) [Value.slice (some { block := b, off := (0 : Nat) : Addr }) (1 : Nat) (1 : Nat)]
      (m'.newBlock b [Value.int IntKind.i64 x.base]) (Value.agg #[Value.int IntKind.i64 n_10, Value.int IntKind.u64 n_11]) ∧
      (∃ (a_4 : RndX),
      RndI x (rndR x r) ns { π := m.π, sz := N, uf := m.uf : M } a_4 ∧
      m'.newBlock b [Value.int IntKind.i64 x.base] = a_4.m ∧
      ((SV.val (Value.int IntKind.i64 (0 : Int)) = SV.val (Value.int IntKind.i64 (↑a_4.k : Int)) ∧ true = true) ∧
      (SV.own ((0 : Nat) + (0 : Nat)) (0 : Nat) = SV.own (0 : Nat) (0 : Nat) ∧ true = true) ∧
      (SV.val (Value.slice an ns.length cn) = SV.val (Value.slice an ns.length cn) ∧ true = true) ∧
      (SV.own ((0 : Nat) + (2 : Nat) + (2 : Nat) + (6 : Nat)) (0 : Nat) = SV.own (10 : Nat) (0 : Nat) ∧
      true = true) ∧
      (SV.own ((0 : Nat) + (2 : Nat) + (2 : Nat) + (9 : Nat) + (2 : Nat) + (4 : Nat)) (0 : Nat) =
      SV.own (19 : Nat) (0 : Nat) ∧
      true = true) ∧
      True) ∧
      (some
      { ty := (28 : Nat), cs := [Value.string x.key, Value.int IntKind.i64 x.lo, Value.int IntKind.i64 x.hi, Value.int IntKind.i64 x.base, Value.int IntKind.i64 x.round, Value.slice a x.hs.length c, Value.int IntKind.i64 x.lk.cl, Value.int IntKind.i64 x.lk.sq, Value.int IntKind.i64 x.lk.hm, Value.int IntKind.i64 x.lk.n] : Bx } =
      some
      { ty := (28 : TypeId), cs := [Value.string x.key, Value.int IntKind.i64 x.lo, Value.int IntKind.i64 x.hi, Value.int IntKind.i64 x.base, Value.int IntKind.i64 x.round, Value.slice a x.hs.length c, Value.int IntKind.i64 x.lk.cl, Value.int IntKind.i64 x.lk.sq, Value.int IntKind.i64 x.lk.hm, Value.int IntKind.i64 x.lk.n] : Bx } ∧
      true = true) ∧
      (some
      { ty := (28 : Nat), cs := [Value.string s, Value.int IntKind.i64 n, Value.int IntKind.i64 n_1, Value.int IntKind.i64 n_2, Value.int IntKind.i64 n_3, Value.slice a_2 n_4 c_1, Value.int IntKind.i64 n_5, Value.int IntKind.i64 n_6, Value.int IntKind.i64 n_7, Value.int IntKind.i64 n_8] : Bx } =
      some
      { ty := (28 : TypeId), cs := [Value.string x.key, Value.int IntKind.i64 x.lo, Value.int IntKind.i64 x.hi, Value.int IntKind.i64 (x.base + netsSum x.hs ns a_4.k), Value.int IntKind.i64 (rndR x r), Value.slice a_4.a (List.drop a_4.k x.hs).length a_4.c, Value.int IntKind.i64 x.lk.cl, Value.int IntKind.i64 x.lk.sq, Value.int IntKind.i64 x.lk.hm, Value.int IntKind.i64 x.lk.n] : Bx } ∧
      true = true) ∧
      (some { ty := (52 : Nat), cs := [Value.int IntKind.i64 n_10, Value.int IntKind.u64 n_11] : Bx } =
      some
      { ty := (52 : TypeId), cs := [Value.int IntKind.i64 (wideHi (x.base + netsSum x.hs ns a_4.k)), Value.int IntKind.u64 (wideLo (x.base + netsSum x.hs ns a_4.k))] : Bx } ∧
      true = true) ∧
      True) ∧
      ∀ (a_4 : RndX),
      RndI x (rndR x r) ns { π := m.π, sz := N, uf := m.uf : M } a_4 →
      ifB (decide ((↑a_4.k : Int) < (↑x.hs.length : Int)))
      (∃ (b : Nat),
      ∃ (off : Nat),
      a = some { block := b, off := off : Addr } ∧
      ((0 : Int) ≤ (↑a_4.k : Int) ∧ (↑a_4.k : Int) < (↑x.hs.length : Int)) ∧
      ∃ (n : Int),
      ∃ (n_12 : Int),
      ∃ (n_13 : Int),
      ∃ (n_14 : Int),
      CellsAt a_4.m b (off + (↑a_4.k : Int).toNat * (4 : Nat))
      [Value.int IntKind.i64 n, Value.int IntKind.i64 n_12, Value.int IntKind.i64 n_13,
      Value.int IntKind.i64 n_14] ∧
      ifB (decide ((↑a_4.k : Int) < (↑ns.length : Int)))
      (true = true ∧
      ∃ (b : Nat),
      ∃ (off : Nat),
      an = some { block := b, off := off : Addr } ∧
      ((0 : Int) ≤ (↑a_4.k : Int) ∧ (↑a_4.k : Int) < (↑ns.length : Int)) ∧
      ∃ (n_15 : Int),
      CellsAt a_4.m b (off + (↑a_4.k : Int).toNat * (1 : Nat))
      [Value.int IntKind.i64 n_15] ∧
      ∀ (n_16 : Nat),
      a_4.m.sz ≤ n_16 →
      Vc.Spec Try.prog (30 : Nat)
      [Value.agg
      #[Value.string x.key, Value.int IntKind.i64 x.lo,
      Value.int IntKind.i64 x.hi,
      Value.int IntKind.i64 (x.base + netsSum x.hs ns a_4.k),
      Value.int IntKind.i64 (rndR x r),
      Value.slice a_4.a (List.drop a_4.k x.hs).length a_4.c,
      Value.int IntKind.i64 x.lk.cl, Value.int IntKind.i64 x.lk.sq,
      Value.int IntKind.i64 x.lk.hm, Value.int IntKind.i64 x.lk.n],
      Value.int IntKind.i64 n, Value.int IntKind.i64 n_12,
      Value.int IntKind.i64 (IntKind.i64.wrap (rndR x r + (1 : Int))),
      Value.int IntKind.i64
      (if
      (if n_13 < n_15 then n_13 else n_15) >
      IntKind.i64.wrap ((0 : Int) - n_14) then
      if n_13 < n_15 then n_13 else n_15
      else IntKind.i64.wrap ((0 : Int) - n_14))]
      { π := a_4.m.π, sz := n_16, uf := a_4.m.uf : M } fun (v : Value) (m' : M) =>
      ∃ (s : ByteArray),
      ∃ (n_17 : Int),
      ∃ (n_18 : Int),
      ∃ (n_19 : Int),
      ∃ (n_20 : Int),
      ∃ (a_7 : Option Addr),
      ∃ (n_21 : Nat),
      ∃ (c_2 : Nat),
      ∃ (n_22 : Int),
      ∃ (n_23 : Int),
      ∃ (n_24 : Int),
      ∃ (n_25 : Int),
      ∃ (n_26 : Int),
      v =
      Value.tuple
      #[Value.agg
      #[Value.string s,
      Value.int IntKind.i64 n_17,
      Value.int IntKind.i64 n_18,
      Value.int IntKind.i64 n_19,
      Value.int IntKind.i64 n_20,
      Value.slice a_7 n_21 c_2,
      Value.int IntKind.i64 n_22,
      Value.int IntKind.i64 n_23,
      Value.int IntKind.i64 n_24,
      Value.int IntKind.i64 n_25],
      Value.int IntKind.i64 n_26] ∧
      ∀ (n_27 : Nat),
      m'.sz ≤ n_27 →
      Vc.Spec Try.prog (30 : Nat)
      [Value.agg
      #[Value.string x.key,
      Value.int IntKind.i64 x.lo,
      Value.int IntKind.i64 x.hi,
      Value.int IntKind.i64
      (x.base + netsSum x.hs ns a_4.k),
      Value.int IntKind.i64 (rndR x r),
      Value.slice a_4.a
      (List.drop a_4.k x.hs).length
      a_4.c,
      Value.int IntKind.i64 x.lk.cl,
      Value.int IntKind.i64 x.lk.sq,
      Value.int IntKind.i64 x.lk.hm,
      Value.int IntKind.i64 x.lk.n],
      Value.int IntKind.i64 n,
      Value.int IntKind.i64 n_12,
      Value.int IntKind.i64 (rndR x r),
      Value.int IntKind.i64
      (if
      (if n_13 < n_15 then n_13
      else n_15) >
      IntKind.i64.wrap
      ((0 : Int) - n_14) then
      if n_13 < n_15 then n_13 else n_15
      else
      IntKind.i64.wrap
      ((0 : Int) - n_14))]
      { π := m'.π, sz := n_27, uf := m'.uf : M }
      fun (v : Value) (m' : M) =>
      ∃ (s : ByteArray),
      ∃ (n_28 : Int),
      ∃ (n_29 : Int),
      ∃ (n_30 : Int),
      ∃ (n_31 : Int),
      ∃ (a_9 : Option Addr),
      ∃ (n_32 : Nat),
      ∃ (c_3 : Nat),
      ∃ (n_33 : Int),
      ∃ (n_34 : Int),
      ∃ (n_35 : Int),
      ∃ (n_36 : Int),
      ∃ (n_37 : Int),
      v =
      Value.tuple
      #[Value.agg
      #[Value.string
      s,
      Value.int
      IntKind.i64
      n_28,
      Value.int
      IntKind.i64
      n_29,
      Value.int
      IntKind.i64
      n_30,
      Value.int
      IntKind.i64
      n_31,
      Value.slice
      a_9
      n_32
      c_3,
      Value.int
      IntKind.i64
      n_33,
      Value.int
      IntKind.i64
      n_34,
      Value.int
      IntKind.i64
      n_35,
      Value.int
      IntKind.i64
      n_36],
      Value.int
      IntKind.i64
      n_37] ∧
      ∀
      (n_38 :
      Nat),
      m'.sz ≤
      n_38 →
      Vc.Spec
      Try.prog
      (30 :
      Nat)
      [Value.agg
      #[Value.string
      s,
      Value.int
      IntKind.i64
      n_28,
      Value.int
      IntKind.i64
      n_29,
      Value.int
      IntKind.i64
      n_30,
      Value.int
      IntKind.i64
      n_31,
      Value.slice
      a_9
      n_32
      c_3,
      Value.int
      IntKind.i64
      n_33,
      Value.int
      IntKind.i64
      n_34,
      Value.int
      IntKind.i64
      n_35,
      Value.int
      IntKind.i64
      n_36],
      Value.int
      IntKind.i64
      n,
      Value.int
      IntKind.i64
      n_12,
      Value.int
      IntKind.i64
      (rndR
      x
      r),
      Value.int
      IntKind.i64
      (if
      (if
      n_13 <
      n_15 then
      n_13
      else
      n_15) >
      IntKind.i64.wrap
      ((0 :
      Int) -
      n_14) then
      if
      n_13 <
      n_15 then
      n_13
      else
      n_15
      else
      IntKind.i64.wrap
      ((0 :
      Int) -
      n_14))]
      { π := m'.π, sz := n_38, uf := m'.uf : M }
      fun
      (v :
      Value)
      (m' :
      M) =>
      ∃ (s_1 :
      ByteArray),
      ∃ (n :
      Int),
      ∃
      (n_39
      :
      Int),
      ∃
      (n_40
      :
      Int),
      ∃
      (n_41
      :
      Int),
      ∃
      (a_11
      :
      Option
      Addr),
      ∃
      (n_42
      :
      Nat),
      ∃
      (c_4
      :
      Nat),
      ∃
      (n_43
      :
      Int),
      ∃
      (n_44
      :
      Int),
      ∃
      (n_45
      :
      Int),
      ∃
      (n_46
      :
      Int),
      ∃
      (n_47
      :
      Int),
      v =
      Value.tuple
      #[Value.agg
      #[Value.string
      s_1,
      Value.int
      IntKind.i64
      n,
      Value.int
      IntKind.i64
      n_39,
      Value.int
      IntKind.i64
      n_40,
      Value.int
      IntKind.i64
      n_41,
      Value.slice
      a_11
      n_42
      c_4,
      Value.int
      IntKind.i64
      n_43,
      Value.int
      IntKind.i64
      n_44,
      Value.int
      IntKind.i64
      n_45,
      Value.int
      IntKind.i64
      n_46],
      Value.int
      IntKind.i64
      n_47] ∧
      ifB
      (n_26 !=
      (152 :
      Int))
      (Done
      (Value.bool
      false =
      Value.bool
      true))
      (ifB
      (n_37 !=
      (0 :
      Int))
      (Done
      (Value.bool
      false =
      Value.bool
      true))
      (ifB
      (n_47 !=
      (151 :
      Int))
      (Done
      (Value.bool
      false =
      Value.bool
      true))
      (∃
      (n
      :
      Int),
      ∃
      (n_48
      :
      Int),
      QSpec
      Try.prog
      (31 :
      Nat)
      [Value.agg
      #[Value.int
      IntKind.i64
      (wideHi
      (x.base +
      netsSum
      x.hs
      ns
      a_4.k)),
      Value.int
      IntKind.u64
      (wideLo
      (x.base +
      netsSum
      x.hs
      ns
      a_4.k))],
      Value.int
      IntKind.i64
      (if
      (if
      n_13 <
      n_15 then
      n_13
      else
      n_15) >
      IntKind.i64.wrap
      ((0 :
      Int) -
      n_14) then
      if
      n_13 <
      n_15 then
      n_13
      else
      n_15
      else
      IntKind.i64.wrap
      ((0 :
      Int) -
      n_14))]
      m'
      (Value.agg
      #[Value.int
      IntKind.i64
      n,
      Value.int
      IntKind.u64
      n_48]) ∧
      ∃
      (a'
      :
      RndX),
      (RndI
      x
      (rndR
      x
      r)
      ns
      { π := m.π, sz := N, uf := m.uf : M }
      a' ∧
      m' =
      a'.m ∧
      ((SV.val
      (Value.int
      IntKind.i64
      (IntKind.i64.wrap
      ((↑a_4.k :
      Int) +
      (1 :
      Int)))) =
      SV.val
      (Value.int
      IntKind.i64
      (↑a'.k :
      Int)) ∧
      true =
      true) ∧
      (SV.own
      (0 :
      Nat)
      (0 :
      Nat) =
      SV.own
      (0 :
      Nat)
      (0 :
      Nat) ∧
      true =
      true) ∧
      (SV.val
      (Value.slice
      an
      ns.length
      cn) =
      SV.val
      (Value.slice
      an
      ns.length
      cn) ∧
      true =
      true) ∧
      (SV.own
      (10 :
      Nat)
      (0 :
      Nat) =
      SV.own
      (10 :
      Nat)
      (0 :
      Nat) ∧
      true =
      true) ∧
      (SV.own
      (19 :
      Nat)
      (0 :
      Nat) =
      SV.own
      (19 :
      Nat)
      (0 :
      Nat) ∧
      true =
      true) ∧
      True) ∧
      (some
      { ty := (28 : TypeId), cs := [Value.string x.key, Value.int IntKind.i64 x.lo, Value.int IntKind.i64 x.hi, Value.int IntKind.i64 x.base, Value.int IntKind.i64 x.round, Value.slice a x.hs.length c, Value.int IntKind.i64 x.lk.cl, Value.int IntKind.i64 x.lk.sq, Value.int IntKind.i64 x.lk.hm, Value.int IntKind.i64 x.lk.n] : Bx } =
      some
      { ty := (28 : TypeId), cs := [Value.string x.key, Value.int IntKind.i64 x.lo, Value.int IntKind.i64 x.hi, Value.int IntKind.i64 x.base, Value.int IntKind.i64 x.round, Value.slice a x.hs.length c, Value.int IntKind.i64 x.lk.cl, Value.int IntKind.i64 x.lk.sq, Value.int IntKind.i64 x.lk.hm, Value.int IntKind.i64 x.lk.n] : Bx } ∧
      true =
      true) ∧
      (some
      { ty := (28 : TypeId), cs := [Value.string s, Value.int IntKind.i64 n_28, Value.int IntKind.i64 n_29, Value.int IntKind.i64 n_30, Value.int IntKind.i64 n_31, Value.slice a_9 n_32 c_3, Value.int IntKind.i64 n_33, Value.int IntKind.i64 n_34, Value.int IntKind.i64 n_35, Value.int IntKind.i64 n_36] : Bx } =
      some
      { ty := (28 : TypeId), cs := [Value.string x.key, Value.int IntKind.i64 x.lo, Value.int IntKind.i64 x.hi, Value.int IntKind.i64 (x.base + netsSum x.hs ns a'.k), Value.int IntKind.i64 (rndR x r), Value.slice a'.a (List.drop a'.k x.hs).length a'.c, Value.int IntKind.i64 x.lk.cl, Value.int IntKind.i64 x.lk.sq, Value.int IntKind.i64 x.lk.hm, Value.int IntKind.i64 x.lk.n] : Bx } ∧
      true =
      true) ∧
      (some
      { ty := (52 : TypeId), cs := [Value.int IntKind.i64 n, Value.int IntKind.u64 n_48] : Bx } =
      some
      { ty := (52 : TypeId), cs := [Value.int IntKind.i64 (wideHi (x.base + netsSum x.hs ns a'.k)), Value.int IntKind.u64 (wideLo (x.base + netsSum x.hs ns a'.k))] : Bx } ∧
      true =
      true) ∧
      True) ∧
      x.hs.length -
      a'.k <
      x.hs.length -
      a_4.k))))
      (∀ (n_15 : Nat),
      a_4.m.sz ≤ n_15 →
      Vc.Spec Try.prog (30 : Nat)
      [Value.agg
      #[Value.string x.key, Value.int IntKind.i64 x.lo, Value.int IntKind.i64 x.hi,
      Value.int IntKind.i64 (x.base + netsSum x.hs ns a_4.k),
      Value.int IntKind.i64 (rndR x r),
      Value.slice a_4.a (List.drop a_4.k x.hs).length a_4.c,
      Value.int IntKind.i64 x.lk.cl, Value.int IntKind.i64 x.lk.sq,
      Value.int IntKind.i64 x.lk.hm, Value.int IntKind.i64 x.lk.n],
      Value.int IntKind.i64 n, Value.int IntKind.i64 n_12,
      Value.int IntKind.i64 (IntKind.i64.wrap (rndR x r + (1 : Int))),
      Value.int IntKind.i64 (0 : Int)]
      { π := a_4.m.π, sz := n_15, uf := a_4.m.uf : M } fun (v : Value) (m' : M) =>
      ∃ (s : ByteArray),
      ∃ (n_16 : Int),
      ∃ (n_17 : Int),
      ∃ (n_18 : Int),
      ∃ (n_19 : Int),
      ∃ (a_7 : Option Addr),
      ∃ (n_20 : Nat),
      ∃ (c_2 : Nat),
      ∃ (n_21 : Int),
      ∃ (n_22 : Int),
      ∃ (n_23 : Int),
      ∃ (n_24 : Int),
      ∃ (n_25 : Int),
      v =
      Value.tuple
      #[Value.agg
      #[Value.string s, Value.int IntKind.i64 n_16,
      Value.int IntKind.i64 n_17,
      Value.int IntKind.i64 n_18,
      Value.int IntKind.i64 n_19,
      Value.slice a_7 n_20 c_2,
      Value.int IntKind.i64 n_21,
      Value.int IntKind.i64 n_22,
      Value.int IntKind.i64 n_23,
      Value.int IntKind.i64 n_24],
      Value.int IntKind.i64 n_25] ∧
      ∀ (n_26 : Nat),
      m'.sz ≤ n_26 →
      Vc.Spec Try.prog (30 : Nat)
      [Value.agg
      #[Value.string x.key, Value.int IntKind.i64 x.lo,
      Value.int IntKind.i64 x.hi,
      Value.int IntKind.i64
      (x.base + netsSum x.hs ns a_4.k),
      Value.int IntKind.i64 (rndR x r),
      Value.slice a_4.a (List.drop a_4.k x.hs).length
      a_4.c,
      Value.int IntKind.i64 x.lk.cl,
      Value.int IntKind.i64 x.lk.sq,
      Value.int IntKind.i64 x.lk.hm,
      Value.int IntKind.i64 x.lk.n],
      Value.int IntKind.i64 n, Value.int IntKind.i64 n_12,
      Value.int IntKind.i64 (rndR x r),
      Value.int IntKind.i64 (0 : Int)]
      { π := m'.π, sz := n_26, uf := m'.uf : M }
      fun (v : Value) (m' : M) =>
      ∃ (s : ByteArray),
      ∃ (n_27 : Int),
      ∃ (n_28 : Int),
      ∃ (n_29 : Int),
      ∃ (n_30 : Int),
      ∃ (a_9 : Option Addr),
      ∃ (n_31 : Nat),
      ∃ (c_3 : Nat),
      ∃ (n_32 : Int),
      ∃ (n_33 : Int),
      ∃ (n_34 : Int),
      ∃ (n_35 : Int),
      ∃ (n_36 : Int),
      v =
      Value.tuple
      #[Value.agg
      #[Value.string s,
      Value.int
      IntKind.i64
      n_27,
      Value.int
      IntKind.i64
      n_28,
      Value.int
      IntKind.i64
      n_29,
      Value.int
      IntKind.i64
      n_30,
      Value.slice a_9
      n_31 c_3,
      Value.int
      IntKind.i64
      n_32,
      Value.int
      IntKind.i64
      n_33,
      Value.int
      IntKind.i64
      n_34,
      Value.int
      IntKind.i64
      n_35],
      Value.int IntKind.i64
      n_36] ∧
      ∀ (n_37 : Nat),
      m'.sz ≤ n_37 →
      Vc.Spec Try.prog
      (30 : Nat)
      [Value.agg
      #[Value.string s,
      Value.int
      IntKind.i64
      n_27,
      Value.int
      IntKind.i64
      n_28,
      Value.int
      IntKind.i64
      n_29,
      Value.int
      IntKind.i64
      n_30,
      Value.slice a_9
      n_31 c_3,
      Value.int
      IntKind.i64
      n_32,
      Value.int
      IntKind.i64
      n_33,
      Value.int
      IntKind.i64
      n_34,
      Value.int
      IntKind.i64
      n_35],
      Value.int
      IntKind.i64 n,
      Value.int
      IntKind.i64 n_12,
      Value.int
      IntKind.i64
      (rndR x r),
      Value.int
      IntKind.i64
      (0 : Int)]
      { π := m'.π, sz := n_37, uf := m'.uf : M }
      fun (v : Value)
      (m' : M) =>
      ∃ (s_1 : ByteArray),
      ∃ (n : Int),
      ∃ (n_38 : Int),
      ∃ (n_39 : Int),
      ∃ (n_40 :
      Int),
      ∃ (a_11 :
      Option
      Addr),
      ∃ (n_41 :
      Nat),
      ∃ (c_4 :
      Nat),
      ∃
      (n_42
      :
      Int),
      ∃
      (n_43
      :
      Int),
      ∃
      (n_44
      :
      Int),
      ∃
      (n_45
      :
      Int),
      ∃
      (n_46
      :
      Int),
      v =
      Value.tuple
      #[Value.agg
      #[Value.string
      s_1,
      Value.int
      IntKind.i64
      n,
      Value.int
      IntKind.i64
      n_38,
      Value.int
      IntKind.i64
      n_39,
      Value.int
      IntKind.i64
      n_40,
      Value.slice
      a_11
      n_41
      c_4,
      Value.int
      IntKind.i64
      n_42,
      Value.int
      IntKind.i64
      n_43,
      Value.int
      IntKind.i64
      n_44,
      Value.int
      IntKind.i64
      n_45],
      Value.int
      IntKind.i64
      n_46] ∧
      ifB
      (n_25 !=
      (152 :
      Int))
      (Done
      (Value.bool
      false =
      Value.bool
      true))
      (ifB
      (n_36 !=
      (0 :
      Int))
      (Done
      (Value.bool
      false =
      Value.bool
      true))
      (ifB
      (n_46 !=
      (151 :
      Int))
      (Done
      (Value.bool
      false =
      Value.bool
      true))
      (∃
      (n
      :
      Int),
      ∃
      (n_47
      :
      Int),
      QSpec
      Try.prog
      (31 :
      Nat)
      [Value.agg
      #[Value.int
      IntKind.i64
      (wideHi
      (x.base +
      netsSum
      x.hs
      ns
      a_4.k)),
      Value.int
      IntKind.u64
      (wideLo
      (x.base +
      netsSum
      x.hs
      ns
      a_4.k))],
      Value.int
      IntKind.i64
      (0 :
      Int)]
      m'
      (Value.agg
      #[Value.int
      IntKind.i64
      n,
      Value.int
      IntKind.u64
      n_47]) ∧
      ∃
      (a'
      :
      RndX),
      (RndI
      x
      (rndR
      x
      r)
      ns
      { π := m.π, sz := N, uf := m.uf : M }
      a' ∧
      m' =
      a'.m ∧
      ((SV.val
      (Value.int
      IntKind.i64
      (IntKind.i64.wrap
      ((↑a_4.k :
      Int) +
      (1 :
      Int)))) =
      SV.val
      (Value.int
      IntKind.i64
      (↑a'.k :
      Int)) ∧
      true =
      true) ∧
      (SV.own
      (0 :
      Nat)
      (0 :
      Nat) =
      SV.own
      (0 :
      Nat)
      (0 :
      Nat) ∧
      true =
      true) ∧
      (SV.val
      (Value.slice
      an
      ns.length
      cn) =
      SV.val
      (Value.slice
      an
      ns.length
      cn) ∧
      true =
      true) ∧
      (SV.own
      (10 :
      Nat)
      (0 :
      Nat) =
      SV.own
      (10 :
      Nat)
      (0 :
      Nat) ∧
      true =
      true) ∧
      (SV.own
      (19 :
      Nat)
      (0 :
      Nat) =
      SV.own
      (19 :
      Nat)
      (0 :
      Nat) ∧
      true =
      true) ∧
      True) ∧
      (some
      { ty := (28 : TypeId), cs := [Value.string x.key, Value.int IntKind.i64 x.lo, Value.int IntKind.i64 x.hi, Value.int IntKind.i64 x.base, Value.int IntKind.i64 x.round, Value.slice a x.hs.length c, Value.int IntKind.i64 x.lk.cl, Value.int IntKind.i64 x.lk.sq, Value.int IntKind.i64 x.lk.hm, Value.int IntKind.i64 x.lk.n] : Bx } =
      some
      { ty := (28 : TypeId), cs := [Value.string x.key, Value.int IntKind.i64 x.lo, Value.int IntKind.i64 x.hi, Value.int IntKind.i64 x.base, Value.int IntKind.i64 x.round, Value.slice a x.hs.length c, Value.int IntKind.i64 x.lk.cl, Value.int IntKind.i64 x.lk.sq, Value.int IntKind.i64 x.lk.hm, Value.int IntKind.i64 x.lk.n] : Bx } ∧
      true =
      true) ∧
      (some
      { ty := (28 : TypeId), cs := [Value.string s, Value.int IntKind.i64 n_27, Value.int IntKind.i64 n_28, Value.int IntKind.i64 n_29, Value.int IntKind.i64 n_30, Value.slice a_9 n_31 c_3, Value.int IntKind.i64 n_32, Value.int IntKind.i64 n_33, Value.int IntKind.i64 n_34, Value.int IntKind.i64 n_35] : Bx } =
      some
      { ty := (28 : TypeId), cs := [Value.string x.key, Value.int IntKind.i64 x.lo, Value.int IntKind.i64 x.hi, Value.int IntKind.i64 (x.base + netsSum x.hs ns a'.k), Value.int IntKind.i64 (rndR x r), Value.slice a'.a (List.drop a'.k x.hs).length a'.c, Value.int IntKind.i64 x.lk.cl, Value.int IntKind.i64 x.lk.sq, Value.int IntKind.i64 x.lk.hm, Value.int IntKind.i64 x.lk.n] : Bx } ∧
      true =
      true) ∧
      (some
      { ty := (52 : TypeId), cs := [Value.int IntKind.i64 n, Value.int IntKind.u64 n_47] : Bx } =
      some
      { ty := (52 : TypeId), cs := [Value.int IntKind.i64 (wideHi (x.base + netsSum x.hs ns a'.k)), Value.int IntKind.u64 (wideLo (x.base + netsSum x.hs ns a'.k))] : Bx } ∧
      true =
      true) ∧
      True) ∧
      x.hs.length -
      a'.k <
      x.hs.length -
      a_4.k)))))
      (∃ (n : Int),
      ∃ (b : Bool),
      QSpec Try.prog (32 : Nat)
      [Value.agg
      #[Value.int IntKind.i64 (wideHi (x.base + netsSum x.hs ns a_4.k)),
      Value.int IntKind.u64 (wideLo (x.base + netsSum x.hs ns a_4.k))]]
      a_4.m (Value.tuple #[Value.int IntKind.i64 n, Value.bool b]) ∧
      ∃ (n_12 : Int),
      ∃ (b_1 : Bool),
      QSpec Try.prog (17 : Nat)
      [Value.agg
      #[Value.string x.key, Value.int IntKind.i64 x.lo, Value.int IntKind.i64 x.hi,
      Value.int IntKind.i64 (x.base + netsSum x.hs ns a_4.k), Value.int IntKind.i64 (rndR x r),
      Value.slice a_4.a (List.drop a_4.k x.hs).length a_4.c, Value.int IntKind.i64 x.lk.cl,
      Value.int IntKind.i64 x.lk.sq, Value.int IntKind.i64 x.lk.hm, Value.int IntKind.i64 x.lk.n]]
      a_4.m (Value.tuple #[Value.int IntKind.i64 n_12, Value.bool b_1]) ∧
      ifB (x.lk.cl != (0 : Int)) (Done ((Value.bool !b_1) = Value.bool true))
      (ifB b
      (ifB b_1
      (ifB (n_12 == n) (Done (Value.bool (x.base + netsSum x.hs ns a_4.k == n) = Value.bool true))
      (Done (Value.bool false = Value.bool true)))
      (Done (Value.bool false = Value.bool true)))
      (Done (Value.bool false = Value.bool true))))))) (by kernel_rfl) ?_
  refine ⟨rfl, _, awake_q _, ifB_false fun N1 hN1 => (afreeze_s x a c r hx h0 _ (h.sz (Nat.le_trans hN hN1))).mono fun v m' hag ⟨a', c', hv, hr⟩ => ⟨_, _, _, _, _, _, _, _, _, _, _, _, _, hv, ?_⟩⟩
  by_cases he : (aFreeze x r).2 = 0
  · obtain ⟨h1, h2, h3, h4⟩ := aFreeze_ok he
    rw [h4] at hr ⊢
    have hp := (right_iff x).1 h1
    have hR1 : 1 ≤ rndR x r := by have := hp.round; unfold rndR; split <;> omega
    have hR2 : In64 (rndR x r) := by unfold rndR; split; exact hr64; exact hx.round
    have hRw : IntKind.i64.wrap (rndR x r + 1) ≠ rndR x r := by unfold In64 at hR2; simp [IntKind.wrap_i64]; omega
    obtain ⟨g1, g2⟩ := round_right hx h1 (by omega : 0 ≤ rndR x r) hR2
    have s1 : sumI [x.base] = x.base := by simp [sumI]
    have h5 : x.hs.length ≤ 5 := right_len h1
    refine ifB_false ⟨rfl, fun b hb => ⟨_, _, of_q (some ⟨b, 0, none⟩) 1 [x.base] (by simpa using hx.base) (by simp) _ (.at _ _ _ (by simp only [M.newBlock]; omega) cellsAt_new), ⟨⟨0, a', c', _⟩, ⟨Nat.zero_le _, by rw [rnd_zero]; exact g1, by rw [rnd_zero]; exact g2, ?_, ?_⟩, rfl, by simp, ⟨⟨rfl, rfl⟩, ⟨by simp [netsSum], rfl⟩, ⟨by simp [netsSum, s1], rfl⟩, trivial⟩⟩, fun y hy => ifB_intro (fun hb => ?_) (fun hb => ?_)⟩⟩
    · exact (hr.lower hN1).newBlock hb
    · exact (((Agree.szl (B := N) (m := { m with sz := N }) hN1).trans (hag.mono hN1)).trans (newBlock_agreeB (by have := hag.2.2; simp only at this; omega)))
    · have hk2 : y.k < x.hs.length := by simpa using hb
      have eh : hAt x y.k = x.hs[y.k] := by simp [hAt, List.getElem?_eq_getElem hk2]
      have hrow := (h.sz hN).agree hy.ag
      obtain ⟨b1, o1, rfl, hc⟩ := hrow.cells (by rw [hds_len]; omega)
      have hcell := hd_at hc hk2
      have hm : hAt x y.k ∈ (rndA x (rndR x r) ns y.k).hs := by
        rw [show (rndA x (rndR x r) ns y.k).hs = hAt x y.k :: x.hs.drop (y.k + 1) by rw [eh]; exact List.drop_eq_getElem_cons hk2]; simp
      have hroom := hold_room hy.right hm
      have hwh := hx.hs _ (List.getElem_mem hk2)
      rw [eh] at hroom
      have wd : IntKind.i64.wrap (0 - x.hs[y.k].dn) = - x.hs[y.k].dn := by have := hwh.2.2.2; unfold In64 at this; simp [IntKind.wrap_i64]; omega
      obtain ⟨e1, e2, e3, e4, e5, e6⟩ := rnd_step (ns := ns) hk2 hy.right hy.wf (by omega)
      have eb : x.base + netsSum x.hs ns y.k + netOf (hAt x y.k) ns y.k = x.base + netsSum x.hs ns (y.k + 1) := by
        simp only [netsSum, hAt, List.getElem?_eq_getElem hk2]; simp; omega
      have w1 : IntKind.i64.wrap ((y.k : Int) + 1) = ((y.k + 1 : Nat) : Int) := by simp [IntKind.wrap_i64]; omega
      have z0 : y.a = none → (rndA x (rndR x r) ns y.k).hs = [] := fun e => by have := hy.own; rw [e] at this; exact newr_none this
      refine ⟨b1, o1, rfl, by omega, _, _, _, _, by simpa using hcell, ifB_intro (fun h6 => ⟨rfl, ?_⟩) (fun h6 => ?_)⟩
      have hk3 : y.k < ns.length := by simpa using h6
      obtain ⟨b2, o2, rfl, hc2⟩ := ((hn2.sz hN).agree hy.ag).cells (by rw [ints_len]; omega)
      have en : (if (if x.hs[y.k].up < ns[y.k] then x.hs[y.k].up else ns[y.k]) > IntKind.i64.wrap (0 - x.hs[y.k].dn) then if x.hs[y.k].up < ns[y.k] then x.hs[y.k].up else ns[y.k] else IntKind.i64.wrap (0 - x.hs[y.k].dn)) = netOf (hAt x y.k) ns y.k := by
        rw [wd, eh]
        simp only [netOf, List.getElem?_eq_getElem hk3]
        split <;> split <;> omega
      refine ⟨b2, o2, rfl, by omega, ns[y.k], by simpa using ints_at hc2 hk3, ?_⟩
      rw [eh] at en e1 e2 e3 e6 eb
      rw [en]
      rotate_left
      have hk3 : ns.length ≤ y.k := by simp at h6; omega
      have en : netOf (hAt x y.k) ns y.k = 0 := by simp [netOf, List.getElem?_eq_none hk3]
      rw [en] at e1 e2 e3 e6 eb
      rw [eh] at e1 e2 e3
      all_goals
        intro N2 hN2
        refine (areport_s (rndA x (rndR x r) ns y.k) y.a y.c x.hs[y.k].nd x.hs[y.k].le _ _ hy.wf e6 z0 _ (hy.own.row.sz hN2)).mono fun v1 m1 hag1 ⟨a1, c1, hv1, _⟩ => ⟨_, _, _, _, _, _, _, _, _, _, _, _, _, hv1, fun N3 hN3 => ?_⟩
        have row1 := ((hy.own.row.sz hN2).agree hag1).sz hN3
        refine (areport_s (rndA x (rndR x r) ns y.k) y.a y.c x.hs[y.k].nd x.hs[y.k].le (rndR x r) _ hy.wf e6 z0 _ row1).mono fun v2 m2 hag2 ⟨a2, c2, hv2, hr2⟩ => ⟨_, _, _, _, _, _, _, _, _, _, _, _, _, hv2, fun N4 hN4 => ?_⟩
        rw [e2] at hr2 ⊢
        have z1 : a2 = none → (rndA x (rndR x r) ns (y.k + 1)).hs = [] := fun e => by have := hr2; rw [e] at this; exact newr_none this
        refine (areport_s (rndA x (rndR x r) ns (y.k + 1)) a2 c2 x.hs[y.k].nd x.hs[y.k].le (rndR x r) _ e5 e6 z1 _ (hr2.row.sz hN4)).mono fun v3 m3 hag3 ⟨a3, c3, hv3, _⟩ => ⟨_, _, _, _, _, _, _, _, _, _, _, _, _, hv3, ?_⟩
        rw [e3, e1 _ hRw]
        have h3 := hag1.2.2
        have h4 := hag2.2.2
        have h7 := hy.ag.2.2
        simp only at h3 h4 h7
        have A1 : Agree N { m with sz := N } m3 := (((hy.ag.trans (((Agree.szl (B := N) hN2).trans (hag1.mono (by simp only; omega))))).trans ((Agree.szl (B := N) hN3).trans (hag2.mono (by simp only; omega))))).trans ((Agree.szl (B := N) hN4).trans (hag3.mono (by simp only; omega)))
        refine ifB_false (ifB_false (ifB_false ⟨_, _, plus_q _ _ e6 _, ⟨y.k + 1, a2, c2, m3⟩, ⟨⟨hk2, e4, e5, ?_, A1⟩, rfl, ?_, ?_⟩, by simp only; omega⟩))
        · exact (((hr2.lower (by simp only; omega)).sz hN4).agree hag3)
        · exact ⟨⟨by rw [w1], rfl⟩, ⟨rfl, rfl⟩, ⟨rfl, rfl⟩, ⟨rfl, rfl⟩, ⟨rfl, rfl⟩, trivial⟩
        · exact ⟨⟨rfl, rfl⟩, ⟨rfl, rfl⟩, ⟨by rw [← eb], rfl⟩, trivial⟩
    · have hk : y.k = x.hs.length := by have := hy.k; simp at hb; omega
      have hb64 : In64 (x.base + netsSum x.hs ns y.k) := hy.wf.base
      have wb : IntKind.i64.wrap (x.base + netsSum x.hs ns y.k) = x.base + netsSum x.hs ns y.k := by unfold In64 at hb64; simp [IntKind.wrap_i64]; omega
      have hnil : (rndA x (rndR x r) ns y.k).hs = [] := by show x.hs.drop y.k = []; rw [hk, List.drop_length]
      refine ⟨_, _, int_q _ (by unfold In64 at hb64; omega) (by unfold In64 at hb64; omega) _, _, _, total_q (rndA x (rndR x r) ns y.k) y.a y.c hy.wf _ hy.own.row, ifB_intro (fun h6 => ⟨?_⟩) (fun h6 => ?_)⟩
      · have h6 : (rndA x (rndR x r) ns y.k).lk.cl ≠ 0 := by show x.lk.cl ≠ 0; simpa using h6
        simp [totB, h6]
      · have h6 : (rndA x (rndR x r) ns y.k).lk.cl = 0 := by show x.lk.cl = 0; simpa using h6
        have ht : totB (rndA x (rndR x r) ns y.k) = true := by simp [totB, hy.right, h6, hnil]
        rw [ht, wb]
        simp only [hb64, decide_true, if_true]
        refine ifB_true (ifB_true ?_)
        rw [show (rndA x (rndR x r) ns y.k).base = x.base + netsSum x.hs ns y.k from rfl]
        simp only [beq_self_eq_true]
        exact ifB_true ⟨trivial⟩
  · have hb : ((aFreeze x r).2 != 0) = true := by simpa using he
    rw [hb]
    have e := aFreeze_err he
    rw [e] at hr ⊢
    refine ifB_true ⟨_, saccount_q ac0 ac0 a' none c' 0 (wf_key _ (by decide)) (wf_key _ (by decide)) m' hr.row (.nil _), ⟨by simp⟩⟩

end Go.Proofs.Ytlifpjllhibdpaa
set_option linter.unusedVariables false
set_option linter.unusedSimpArgs false
namespace Go.Proofs.Ytlifpjllhibdpaa
open Go.Vc Go.RowKit
set_option maxRecDepth 100000

theorem hd_insert (a : Option Addr) (c : Nat) (l : List Hd) (i vb vo vc : Nat) (x : Hd) (S : Nat → Prop) (hn : l.length ≤ 4398046511000) (hi : i ≤ l.length) (m : M) (h : NewR m.sz S m 4 a l.length c (l.flatMap encH)) (hS : l ≠ [] → ∀ b o, a = some ⟨b, o, none⟩ → b ≠ vb) (hvlt : vb < m.sz) (hu : m.uf vb) (hv : CellsAt m vb vo (encH x)) :
    SpecW Try.prog 55 [.slice a l.length c, I i, .slice (some ⟨vb, vo, none⟩) 1 vc] m S fun v m' => ∃ a' c', v = .slice a' (l.length + 1) c' ∧ NewR m.sz S m' 4 a' (l.length + 1) c' ((l.take i ++ x :: l.drop i).flatMap encH) := by
  refine SpecW.of_vc Try.func55 (ann := noAnn) ?_
  refine vc_by (X :=
      true = true ∧
      (true = true ∧ (0 : Int) ≤ (↑i : Int) ∧ (↑i : Int) ≤ (↑l.length : Int) ∧ True ∧ True) ∧
      ifB ((↑i : Int) == (↑l.length : Int))
      (∃ (old : List Value),
      ∃ (src : List Value),
      AppPre m.sz S m (4 : Nat) (32 : Nat) a l.length c (some { block := vb, off := vo : Addr }) (1 : Nat) old src ∧
      ∀ (a' : Option Addr) (c' : Nat) (m' : M),
      AppPost Try.prog (31 : Nat) m (4 : Nat) a l.length c (1 : Nat) old src a' c' m' →
      Done
      (∃ (a'_1 : Option Addr),
      ∃ (c'_1 : Nat),
      Value.slice a' (l.length + (1 : Nat)) c' = Value.slice a'_1 (l.length + (1 : Nat)) c'_1 ∧
      NewR m.sz S m' (4 : Nat) a'_1 (l.length + (1 : Nat)) c'_1 (List.flatMap encH (List.take i l ++ x :: List.drop i l))))
      (ifB (decide (IntKind.i64.wrap ((↑l.length : Int) + (↑(1 : Nat) : Int)) > (↑c : Int)))
      ((true = true ∧ (0 : Int) ≤ (0 : Int) ∧ (0 : Int) ≤ (↑i : Int) ∧ (↑i : Int) ≤ (↑c : Int) ∧ True) ∧
      ∃ (old : List Value),
      ((0 : Int) ≤ IntKind.i64.wrap (IntKind.i64.wrap ((↑l.length : Int) + (↑(1 : Nat) : Int)) - (↑i : Int)) ∧
      AppPreZ Try.prog (31 : Nat) m.sz S m (4 : Nat) (32 : Nat) (if (↑c : Int).toNat = (0 : Nat) then a else Option.map (fun (x : Addr) => x) a)
      ((↑i : Int).toNat - (0 : Nat)) ((↑c : Int).toNat - (0 : Nat)) (IntKind.i64.wrap (IntKind.i64.wrap ((↑l.length : Int) + (↑(1 : Nat) : Int)) - (↑i : Int))).toNat
      old) ∧
      ∀ (a' : Option Addr) (c' : Nat) (m' : M),
      AppPost Try.prog (31 : Nat) m (4 : Nat) (if (↑c : Int).toNat = (0 : Nat) then a else Option.map (fun (x : Addr) => x) a) ((↑i : Int).toNat - (0 : Nat))
      ((↑c : Int).toNat - (0 : Nat)) (IntKind.i64.wrap (IntKind.i64.wrap ((↑l.length : Int) + (↑(1 : Nat) : Int)) - (↑i : Int))).toNat old
      (zeroRow Try.prog (31 : Nat) (IntKind.i64.wrap (IntKind.i64.wrap ((↑l.length : Int) + (↑(1 : Nat) : Int)) - (↑i : Int))).toNat) a' c' m' →
      (true = true ∧
      (0 : Int) ≤ (↑i : Int) ∧
      (↑i : Int) ≤ (↑((↑i : Int).toNat - (0 : Nat) + (IntKind.i64.wrap (IntKind.i64.wrap ((↑l.length : Int) + (↑(1 : Nat) : Int)) - (↑i : Int))).toNat) : Int) ∧
      True ∧ True) ∧
      ∃ (src : List Value),
      CopyPre m.sz S m' (4 : Nat)
      (if (↑c' : Int).toNat = (↑i : Int).toNat then a' else Option.map (fun (x : Addr) => x.add ((↑i : Int).toNat * Try.prog.types[(31 : Nat)].size)) a')
      ((↑((↑i : Int).toNat - (0 : Nat) + (IntKind.i64.wrap (IntKind.i64.wrap ((↑l.length : Int) + (↑(1 : Nat) : Int)) - (↑i : Int))).toNat) : Int).toNat -
      (↑i : Int).toNat)
      (some { block := vb, off := vo : Addr }) (1 : Nat) src ∧
      ∀ (m'_1 : M),
      CopyPost m'
      (if (↑c' : Int).toNat = (↑i : Int).toNat then a' else Option.map (fun (x : Addr) => x.add ((↑i : Int).toNat * Try.prog.types[(31 : Nat)].size)) a')
      src m'_1 →
      true = true ∧
      (true = true ∧
      (0 : Int) ≤ IntKind.i64.wrap ((↑i : Int) + (↑(1 : Nat) : Int)) ∧
      IntKind.i64.wrap ((↑i : Int) + (↑(1 : Nat) : Int)) ≤
      (↑((↑i : Int).toNat - (0 : Nat) + (IntKind.i64.wrap (IntKind.i64.wrap ((↑l.length : Int) + (↑(1 : Nat) : Int)) - (↑i : Int))).toNat) :
      Int) ∧
      True ∧ True) ∧
      (true = true ∧ (0 : Int) ≤ (↑i : Int) ∧ (↑i : Int) ≤ (↑l.length : Int) ∧ True ∧ True) ∧
      (∃ (src : List Value),
      CopyPre m.sz S m'_1 (4 : Nat)
      (if (↑c' : Int).toNat = (IntKind.i64.wrap ((↑i : Int) + (↑(1 : Nat) : Int))).toNat then a'
      else
      Option.map (fun (x : Addr) => x.add ((IntKind.i64.wrap ((↑i : Int) + (↑(1 : Nat) : Int))).toNat * Try.prog.types[(31 : Nat)].size)) a')
      ((↑((↑i : Int).toNat - (0 : Nat) + (IntKind.i64.wrap (IntKind.i64.wrap ((↑l.length : Int) + (↑(1 : Nat) : Int)) - (↑i : Int))).toNat) :
      Int).toNat -
      (IntKind.i64.wrap ((↑i : Int) + (↑(1 : Nat) : Int))).toNat)
      (if (↑c : Int).toNat = (↑i : Int).toNat then a
      else Option.map (fun (x : Addr) => x.add ((↑i : Int).toNat * Try.prog.types[(31 : Nat)].size)) a)
      ((↑l.length : Int).toNat - (↑i : Int).toNat) src ∧
      ∀ (m' : M),
      CopyPost m'_1
      (if (↑c' : Int).toNat = (IntKind.i64.wrap ((↑i : Int) + (↑(1 : Nat) : Int))).toNat then a'
      else
      Option.map (fun (x : Addr) => x.add ((IntKind.i64.wrap ((↑i : Int) + (↑(1 : Nat) : Int))).toNat * Try.prog.types[(31 : Nat)].size))
      a')
      src m' →
      Done
      (∃ (a'_1 : Option Addr),
      ∃ (c'_1 : Nat),
      Value.slice a'
      ((↑i : Int).toNat - (0 : Nat) +
      (IntKind.i64.wrap (IntKind.i64.wrap ((↑l.length : Int) + (↑(1 : Nat) : Int)) - (↑i : Int))).toNat)
      c' =
      Value.slice a'_1 (l.length + (1 : Nat)) c'_1 ∧
      NewR m.sz S m' (4 : Nat) a'_1 (l.length + (1 : Nat)) c'_1 (List.flatMap encH (List.take i l ++ x :: List.drop i l)))) ∧
      True)
      ((true = true ∧
      (0 : Int) ≤ (0 : Int) ∧
      (0 : Int) ≤ IntKind.i64.wrap ((↑l.length : Int) + (↑(1 : Nat) : Int)) ∧ IntKind.i64.wrap ((↑l.length : Int) + (↑(1 : Nat) : Int)) ≤ (↑c : Int) ∧ True) ∧
      (true = true ∧
      (0 : Int) ≤ IntKind.i64.wrap ((↑i : Int) + (↑(1 : Nat) : Int)) ∧
      IntKind.i64.wrap ((↑i : Int) + (↑(1 : Nat) : Int)) ≤ (↑((IntKind.i64.wrap ((↑l.length : Int) + (↑(1 : Nat) : Int))).toNat - (0 : Nat)) : Int) ∧ True ∧ True) ∧
      ∃ (b : Bool),
      RunV Try.prog (76 : Nat)
      [Value.slice (some { block := vb, off := vo : Addr }) (1 : Nat) vc,
      Value.slice
      (if (↑((↑c : Int).toNat - (0 : Nat)) : Int).toNat = (IntKind.i64.wrap ((↑i : Int) + (↑(1 : Nat) : Int))).toNat then
      if (↑c : Int).toNat = (0 : Nat) then a else Option.map (fun (x : Addr) => x) a
      else
      Option.map (fun (x : Addr) => x.add ((IntKind.i64.wrap ((↑i : Int) + (↑(1 : Nat) : Int))).toNat * Try.prog.types[(31 : Nat)].size))
      (if (↑c : Int).toNat = (0 : Nat) then a else Option.map (fun (x : Addr) => x) a))
      ((↑((IntKind.i64.wrap ((↑l.length : Int) + (↑(1 : Nat) : Int))).toNat - (0 : Nat)) : Int).toNat - (IntKind.i64.wrap ((↑i : Int) + (↑(1 : Nat) : Int))).toNat)
      ((↑((↑c : Int).toNat - (0 : Nat)) : Int).toNat - (IntKind.i64.wrap ((↑i : Int) + (↑(1 : Nat) : Int))).toNat)]
      m (Value.bool b) ∧
      ifB (!b)
      (true = true ∧
      (true = true ∧
      (0 : Int) ≤ IntKind.i64.wrap ((↑i : Int) + (↑(1 : Nat) : Int)) ∧
      IntKind.i64.wrap ((↑i : Int) + (↑(1 : Nat) : Int)) ≤ (↑((IntKind.i64.wrap ((↑l.length : Int) + (↑(1 : Nat) : Int))).toNat - (0 : Nat)) : Int) ∧
      True ∧ True) ∧
      (true = true ∧ (0 : Int) ≤ (↑i : Int) ∧ (↑i : Int) ≤ (↑((IntKind.i64.wrap ((↑l.length : Int) + (↑(1 : Nat) : Int))).toNat - (0 : Nat)) : Int) ∧ True ∧ True) ∧
      (∃ (src : List Value),
      CopyPre m.sz S m (4 : Nat)
      (if (↑((↑c : Int).toNat - (0 : Nat)) : Int).toNat = (IntKind.i64.wrap ((↑i : Int) + (↑(1 : Nat) : Int))).toNat then
      if (↑c : Int).toNat = (0 : Nat) then a else Option.map (fun (x : Addr) => x) a
      else
      Option.map (fun (x : Addr) => x.add ((IntKind.i64.wrap ((↑i : Int) + (↑(1 : Nat) : Int))).toNat * Try.prog.types[(31 : Nat)].size))
      (if (↑c : Int).toNat = (0 : Nat) then a else Option.map (fun (x : Addr) => x) a))
      ((↑((IntKind.i64.wrap ((↑l.length : Int) + (↑(1 : Nat) : Int))).toNat - (0 : Nat)) : Int).toNat -
      (IntKind.i64.wrap ((↑i : Int) + (↑(1 : Nat) : Int))).toNat)
      (if (↑((↑c : Int).toNat - (0 : Nat)) : Int).toNat = (↑i : Int).toNat then
      if (↑c : Int).toNat = (0 : Nat) then a else Option.map (fun (x : Addr) => x) a
      else
      Option.map (fun (x : Addr) => x.add ((↑i : Int).toNat * Try.prog.types[(31 : Nat)].size))
      (if (↑c : Int).toNat = (0 : Nat) then a else Option.map (fun (x : Addr) => x) a))
      ((↑((IntKind.i64.wrap ((↑l.length : Int) + (↑(1 : Nat) : Int))).toNat - (0 : Nat)) : Int).toNat - (↑i : Int).toNat) src ∧
      ∀ (m' : M),
      CopyPost m
      (if (↑((↑c : Int).toNat - (0 : Nat)) : Int).toNat = (IntKind.i64.wrap ((↑i : Int) + (↑(1 : Nat) : Int))).toNat then
      if (↑c : Int).toNat = (0 : Nat) then a else Option.map (fun (x : Addr) => x) a
      else
      Option.map (fun (x : Addr) => x.add ((IntKind.i64.wrap ((↑i : Int) + (↑(1 : Nat) : Int))).toNat * Try.prog.types[(31 : Nat)].size))
      (if (↑c : Int).toNat = (0 : Nat) then a else Option.map (fun (x : Addr) => x) a))
      src m' →
      (true = true ∧
      (0 : Int) ≤ (↑i : Int) ∧
      (↑i : Int) ≤ (↑((IntKind.i64.wrap ((↑l.length : Int) + (↑(1 : Nat) : Int))).toNat - (0 : Nat)) : Int) ∧ True ∧ True) ∧
      ∃ (src : List Value),
      CopyPre m.sz S m' (4 : Nat)
      (if (↑((↑c : Int).toNat - (0 : Nat)) : Int).toNat = (↑i : Int).toNat then
      if (↑c : Int).toNat = (0 : Nat) then a else Option.map (fun (x : Addr) => x) a
      else
      Option.map (fun (x : Addr) => x.add ((↑i : Int).toNat * Try.prog.types[(31 : Nat)].size))
      (if (↑c : Int).toNat = (0 : Nat) then a else Option.map (fun (x : Addr) => x) a))
      ((↑((IntKind.i64.wrap ((↑l.length : Int) + (↑(1 : Nat) : Int))).toNat - (0 : Nat)) : Int).toNat - (↑i : Int).toNat)
      (some { block := vb, off := vo : Addr }) (1 : Nat) src ∧
      ∀ (m'_1 : M),
      CopyPost m'
      (if (↑((↑c : Int).toNat - (0 : Nat)) : Int).toNat = (↑i : Int).toNat then
      if (↑c : Int).toNat = (0 : Nat) then a else Option.map (fun (x : Addr) => x) a
      else
      Option.map (fun (x : Addr) => x.add ((↑i : Int).toNat * Try.prog.types[(31 : Nat)].size))
      (if (↑c : Int).toNat = (0 : Nat) then a else Option.map (fun (x : Addr) => x) a))
      src m'_1 →
      Done
      (∃ (a' : Option Addr),
      ∃ (c' : Nat),
      Value.slice (if (↑c : Int).toNat = (0 : Nat) then a else Option.map (fun (x : Addr) => x) a)
      ((IntKind.i64.wrap ((↑l.length : Int) + (↑(1 : Nat) : Int))).toNat - (0 : Nat)) ((↑c : Int).toNat - (0 : Nat)) =
      Value.slice a' (l.length + (1 : Nat)) c' ∧
      NewR m.sz S m'_1 (4 : Nat) a' (l.length + (1 : Nat)) c' (List.flatMap encH (List.take i l ++ x :: List.drop i l)))) ∧
      True)
      ((true = true ∧
      (0 : Int) ≤ (↑l.length : Int) ∧ (↑l.length : Int) ≤ (↑((IntKind.i64.wrap ((↑l.length : Int) + (↑(1 : Nat) : Int))).toNat - (0 : Nat)) : Int) ∧ True ∧ True) ∧
      ∃ (src : List Value),
      CopyPre m.sz S m (4 : Nat)
      (if (↑((↑c : Int).toNat - (0 : Nat)) : Int).toNat = (↑l.length : Int).toNat then
      if (↑c : Int).toNat = (0 : Nat) then a else Option.map (fun (x : Addr) => x) a
      else
      Option.map (fun (x : Addr) => x.add ((↑l.length : Int).toNat * Try.prog.types[(31 : Nat)].size))
      (if (↑c : Int).toNat = (0 : Nat) then a else Option.map (fun (x : Addr) => x) a))
      ((↑((IntKind.i64.wrap ((↑l.length : Int) + (↑(1 : Nat) : Int))).toNat - (0 : Nat)) : Int).toNat - (↑l.length : Int).toNat)
      (some { block := vb, off := vo : Addr }) (1 : Nat) src ∧
      ∀ (m' : M),
      CopyPost m
      (if (↑((↑c : Int).toNat - (0 : Nat)) : Int).toNat = (↑l.length : Int).toNat then
      if (↑c : Int).toNat = (0 : Nat) then a else Option.map (fun (x : Addr) => x) a
      else
      Option.map (fun (x : Addr) => x.add ((↑l.length : Int).toNat * Try.prog.types[(31 : Nat)].size))
      (if (↑c : Int).toNat = (0 : Nat) then a else Option.map (fun (x : Addr) => x) a))
      src m' →
      (true = true ∧
      (0 : Int) ≤ (↑i : Int) ∧ (↑i : Int) ≤ (↑((IntKind.i64.wrap ((↑l.length : Int) + (↑(1 : Nat) : Int))).toNat - (0 : Nat)) : Int) ∧ True ∧ True) ∧
      ∃ (S' : Nat → Prop),
      (∀ (b : Nat), S' b → m'.uf b ∧ (m.sz ≤ b ∨ S b)) ∧
      ∀ (n : Nat),
      m'.sz ≤ n →
      SpecW Try.prog (77 : Nat)
      [Value.slice
      (if (↑((↑c : Int).toNat - (0 : Nat)) : Int).toNat = (↑i : Int).toNat then
      if (↑c : Int).toNat = (0 : Nat) then a else Option.map (fun (x : Addr) => x) a
      else
      Option.map (fun (x : Addr) => x.add ((↑i : Int).toNat * Try.prog.types[(31 : Nat)].size))
      (if (↑c : Int).toNat = (0 : Nat) then a else Option.map (fun (x : Addr) => x) a))
      ((↑((IntKind.i64.wrap ((↑l.length : Int) + (↑(1 : Nat) : Int))).toNat - (0 : Nat)) : Int).toNat - (↑i : Int).toNat)
      ((↑((↑c : Int).toNat - (0 : Nat)) : Int).toNat - (↑i : Int).toNat),
      Value.int IntKind.i64 (↑(1 : Nat) : Int)]
      { π := m'.π, sz := n, uf := m'.uf : M } S' fun (v : Value) (m' : M) =>
      v = Value.tuple #[] ∧
      Done
      (∃ (a' : Option Addr),
      ∃ (c' : Nat),
      Value.slice (if (↑c : Int).toNat = (0 : Nat) then a else Option.map (fun (x : Addr) => x) a)
      ((IntKind.i64.wrap ((↑l.length : Int) + (↑(1 : Nat) : Int))).toNat - (0 : Nat)) ((↑c : Int).toNat - (0 : Nat)) =
      Value.slice a' (l.length + (1 : Nat)) c' ∧
      NewR m.sz S m' (4 : Nat) a' (l.length + (1 : Nat)) c' (List.flatMap encH (List.take i l ++ x :: List.drop i l))))))) (by kernel_rfl) ?_
  have hk : ∀ x, (encH x).length = 4 := fun _ => rfl
  have w1 : IntKind.i64.wrap ((l.length : Int) + ((1 : Nat) : Int)) = ((l.length + 1 : Nat) : Int) := by simp [IntKind.wrap_i64]; omega
  have w2 : IntKind.i64.wrap (((l.length + 1 : Nat) : Int) - (i : Int)) = ((l.length + 1 - i : Nat) : Int) := by simp [IntKind.wrap_i64]; omega
  have w3 : IntKind.i64.wrap ((i : Int) + ((1 : Nat) : Int)) = ((i + 1 : Nat) : Int) := by simp [IntKind.wrap_i64]; omega
  have es : Try.prog.types[31].size = 4 := by kernel_rfl
  simp only [w1, w2, w3, es, Int.toNat_natCast, Nat.sub_zero, Option.map_id_fun', id_eq, ite_self]
  have zl : ∀ k, (zeroRow Try.prog 31 k).length = k * 4 := zrLen (by kernel_rfl)
  have z1 : ∀ k, oneCells (zeroRow Try.prog 31 k) = true := zrOne (by kernel_rfl)
  have o1 : ∀ y : List Hd, oneCells (y.flatMap encH) = true := fun y => by
    rw [oneCells_iff]; intro v hv
    obtain ⟨w, -, hw⟩ := List.mem_flatMap.1 hv
    exact oneCells_iff.1 (rfl : oneCells (encH w) = true) v hw
  have hvr : Row m (some ⟨vb, vo, none⟩) (encH x) := .at _ _ _ hvlt hv
  have eres : (l.take i ++ x :: l.drop i).flatMap encH = (l.take i).flatMap encH ++ (encH x ++ (l.drop i).flatMap encH) := by
    rw [List.flatMap_append, List.flatMap_cons]
  rw [eres]
  refine ⟨trivial, ⟨trivial, by omega, by omega, trivial, trivial⟩, ifB_intro (fun hb => ?_) (fun hb => ?_)⟩
  · have hil : i = l.length := by simp at hb; omega
    subst hil
    refine ⟨_, _, h.appPre hvr (hk x) rfl (by omega), fun a' c' m' hp => ⟨⟨a', c', rfl, ?_⟩⟩⟩
    have := h.append hp (hk x) zl (Nat.le_refl _)
    rw [List.take_length, List.drop_length, List.flatMap_nil, List.append_nil]
    exact this
  have hil : i < l.length := by simp at hb; omega
  have ho := h.toOwn (by omega)
  obtain ⟨b, o, rfl, -⟩ := ho.row.cells (by rw [flat_len hk]; omega)
  have hcl := ho.capLe
  have hbv := hS (fun e => by subst e; simp at hil) b o rfl
  have hTl : ((l.take i).flatMap encH).length = i * 4 := by rw [flat_len hk, List.length_take]; congr 1; omega
  have hDl : ((l.drop i).flatMap encH).length = (l.length - i) * 4 := by rw [flat_len hk, List.length_drop]
  have hne : some (⟨b, o, none⟩ : Addr) ≠ none := by simp
  have hci : c ≠ i := by omega
  rw [flat_cut l i] at ho
  generalize hT : (l.take i).flatMap encH = T at *
  generalize hD : (l.drop i).flatMap encH = D at *
  refine ifB_intro (fun hc => ?_) (fun hc => ?_)
  · have hcl2 : c = l.length := by simp at hc; omega
    refine ⟨⟨trivial, by omega, by omega, by omega, trivial⟩, T, ⟨by omega, ⟨ho.row.take.rowAt, hTl, zl _, z1 _, by decide, by omega, (fun e => by cases e), fun _ hr => by omega⟩⟩, fun a' c' m' hp => ⟨⟨trivial, by omega, by omega, trivial, trivial⟩, ?_⟩⟩
    rcases hp with ⟨hr, -⟩ | ⟨-, b', hb', hc', rfl, rfl⟩
    · omega
    have hbb : b ≠ b' := by have := ho.lt rfl; omega
    have hvb : vb ≠ b' := by omega
    have e1 : i + (l.length + 1 - i) = l.length + 1 := by omega
    generalize hz : zeroRow Try.prog 31 (l.length + 1 - i) = z at *
    have hzl : z.length = (l.length + 1 - i) * 4 := by rw [← hz, zl]
    have zs : z = z.take 4 ++ z.drop 4 := (List.take_append_drop _ _).symm
    have zt : (z.take 4).length = 4 := by rw [List.length_take, hzl]; omega
    have zd : (z.drop 4).length = (l.length - i) * 4 := by rw [List.length_drop, hzl]; omega
    have q1 : OwnB m.sz S (m.newBlock b' (T ++ z ++ zeroRow Try.prog 31 (c' - (i + (l.length + 1 - i))))) 4 (some ⟨b', 0, none⟩) (l.length + 1) c' (T ++ (z.take 4 ++ z.drop 4)) := by
      rw [← zs]
      exact OwnB.new hb' (by rw [List.length_append, hTl, hzl]; omega) (by rw [zl]; congr 1; omega) (by omega)
    obtain ⟨g1, q2⟩ := q1.set (new := encH x) (by rw [zt]; exact hk x)
    rw [hTl] at g1 q2
    have q2' : OwnB m.sz S ((m.newBlock b' (T ++ z ++ zeroRow Try.prog 31 (c' - (i + (l.length + 1 - i))))).setCells b' (0 + i * 4) (encH x)) 4 (some ⟨b', 0, none⟩) (l.length + 1) c' ((T ++ encH x) ++ (z.drop 4 ++ [])) := by
      rw [show (T ++ encH x) ++ (z.drop 4 ++ []) = T ++ (encH x ++ z.drop 4) by rw [List.append_nil, List.append_assoc]]; exact q2
    obtain ⟨g2, q3⟩ := q2'.set (new := D) (by rw [zd, hDl])
    have el : (T ++ encH x).length = (i + 1) * 4 := by rw [List.length_append, hTl, hk]; omega
    rw [el] at g2 q3
    refine ⟨encH x, copyPre (sub_addr (by omega)) (hvr.newBlock hb').rowAt (by rw [hk]; omega) rfl g1 (by simp), fun m1 hp1 => ?_⟩
    have hm1 := hp1.atc (sub_addr (by omega))
    subst hm1
    have hDr : Row ((m.newBlock b' (T ++ z ++ zeroRow Try.prog 31 (c' - (i + (l.length + 1 - i))))).setCells b' (0 + i * 4) (encH x)) (some ⟨b, o + i * 4, none⟩) D := by
      have h1 := ho.row.drop hTl
      rw [show (some (⟨b, o, none⟩ : Addr)).map (fun x => x.add (i * 4)) = some ⟨b, o + i * 4, none⟩ from by show some (Addr.add _ _) = _; rw [add_none]] at h1
      exact (h1.newBlock hb').of (Nat.le_refl _) fun b2 o2 e2 _ => setCells_other (by cases e2; exact hbb)
    refine ⟨trivial, ⟨trivial, by omega, by omega, trivial, trivial⟩, ⟨trivial, by omega, by omega, trivial, trivial⟩, ⟨D, copyPre (sub_addr (by omega)) (by rw [sub_addr hci]; exact hDr.rowAt) (by rw [hDl]; congr 1; omega) (by rw [← hD]; exact o1 _) g2 (by rw [sub_addr hci]; simp), fun m2 hp2 => ?_⟩, trivial⟩
    have hm2 := hp2.atc (sub_addr (by omega))
    subst hm2
    refine ⟨⟨_, c', by rw [e1], .own ?_⟩⟩
    rw [show (T ++ encH x) ++ (D ++ []) = T ++ (encH x ++ D) by rw [List.append_nil, List.append_assoc]] at q3
    exact q3
  · have hcl2 : l.length + 1 ≤ c := by simp at hc; omega
    have hi1 : c ≠ i + 1 := by omega
    have hov : RunV Try.prog 76 [.slice (some ⟨vb, vo, none⟩) 1 vc, .slice (some ⟨b, o + (i + 1) * 4, none⟩) (l.length + 1 - (i + 1)) (c - (i + 1))] m (.bool false) :=
      over_run Try.func76 (by kernel_rfl) (by kernel_rfl) (by kernel_rfl) (t := 24) (tR := 4) (by kernel_rfl) Try.underlying24 (i := Try.prog.types[31]) (by kernel_rfl) (Ne.symm hbv) hu (ho.uf rfl) (by
        obtain ⟨b2, o2, e2, hcell⟩ := ho.row.cells (by rw [List.length_append, hTl, hDl]; omega)
        cases e2
        have h0 := hcell.out 0 (by rw [List.length_append, hTl, hDl]; omega)
        rw [List.getElem?_eq_getElem (by rw [List.length_append, hTl, hDl]; omega)] at h0
        exact ⟨_, _, h0⟩)
    cases ho with
    | «at» b o len cap cs rest lo lt uf hcells hl hr hc' =>
    have rs : rest = rest.take 4 ++ rest.drop 4 := (List.take_append_drop _ _).symm
    have rt : (rest.take 4).length = 4 := by rw [List.length_take, hr]; omega
    have rd : (rest.drop 4).length = (c - (l.length + 1)) * 4 := by rw [List.length_drop, hr]; omega
    have ds : D = D.take 4 ++ D.drop 4 := (List.take_append_drop _ _).symm
    have dt : (D.take 4).length = 4 := by rw [List.length_take, hDl]; omega
    have dd : (D.drop 4).length = (l.length - (i + 1)) * 4 := by rw [List.length_drop, hDl]; omega
    have q1 : OwnB m.sz S m 4 (some ⟨b, o, none⟩) (l.length + 1) c ((T ++ D.take 4) ++ ((D.drop 4 ++ rest.take 4) ++ [])) := by
      refine .at b o _ _ _ (rest.drop 4) lo lt uf ?_ (by simp only [List.length_append, List.length_nil, hTl, dt, dd, rt]; omega) rd hcl2
      have e1 : T ++ D.take 4 ++ ((D.drop 4 ++ rest.take 4) ++ []) ++ rest.drop 4 = T ++ D ++ rest := by
        conv => rhs; rw [ds, rs]
        simp only [List.append_assoc, List.append_nil]
      rw [e1]; exact hcells
    obtain ⟨g1, q2⟩ := q1.set (new := D) (by rw [List.length_append, dd, rt, hDl]; omega)
    have el : (T ++ D.take 4).length = (i + 1) * 4 := by rw [List.length_append, hTl, dt]; omega
    rw [el] at g1 q2
    rw [show (T ++ D.take 4) ++ (D ++ []) = T ++ (D.take 4 ++ D) by rw [List.append_nil, List.append_assoc]] at q2
    obtain ⟨g2, q3⟩ := q2.set (new := encH x) (by rw [dt]; exact hk x)
    rw [hTl] at g2 q3
    have hDr : RowAt m (some ⟨b, o + i * 4, none⟩) D := by
      have := hcells.take.drop
      rw [hTl] at this
      exact .inr ⟨b, _, rfl, this⟩
    refine ⟨⟨trivial, by omega, by omega, by omega, trivial⟩, ⟨trivial, by omega, by omega, trivial, trivial⟩, false, by rw [sub_addr hi1]; exact hov, ifB_true ⟨trivial, ⟨trivial, by omega, by omega, trivial, trivial⟩, ⟨trivial, by omega, by omega, trivial, trivial⟩, ⟨D, copyPre (sub_addr hi1) (by rw [sub_addr hci]; exact hDr) (by rw [hDl]; congr 1; omega) (by rw [← hD]; exact o1 _) g1 (by rw [sub_addr hci]; simp), fun m1 hp1 => ?_⟩, trivial⟩⟩
    have hm1 := hp1.atc (sub_addr hi1)
    subst hm1
    refine ⟨⟨trivial, by omega, by omega, trivial, trivial⟩, encH x, copyPre (sub_addr hci) (Row.of (m' := m.setCells b (o + (i + 1) * 4) D) hvr (Nat.le_refl _) fun b2 o2 e2 _ => setCells_other (by cases e2; exact Ne.symm hbv)).rowAt (by rw [hk]; omega) rfl g2 (by simp), fun m2 hp2 => ?_⟩
    have hm2 := hp2.atc (sub_addr hci)
    subst hm2
    exact ⟨⟨_, c, rfl, .own q3⟩⟩

end Go.Proofs.Ytlifpjllhibdpaa
set_option linter.unusedVariables false
set_option linter.unusedSimpArgs false
namespace Go.Proofs.Ytlifpjllhibdpaa
open Go.Vc Go.RowKit
set_option maxRecDepth 100000

structure hdBsX where
  i : Nat
  j : Nat

theorem hd_bsearch (a : Option Addr) (c : Nat) (l : List Hd) (nd : Int) (f : Hd → Int) (p : Nat) (hn : l.length ≤ 4398046511000) (m : M) (h : Row m a (l.flatMap encH))
    (hf : ∀ x ∈ l, ∀ m', QSpec Try.prog 54 [.agg (encH x).toArray, I nd] m' (I (f x))) (hp : p ≤ l.length) (h1 : ∀ k (hk : k < l.length), k < p → f l[k] < 0) (h2 : ∀ k (hk : k < l.length), p ≤ k → 0 ≤ f l[k]) :
    QSpec Try.prog 53 [.slice a l.length c, I nd, .func (.func 54) #[] #[]] m (.tuple #[I p, .bool ((l[p]?).any fun x => decide (f x = 0))]) := by
  refine QSpec.of_vc Try.func53 (ann := fun n _ => { A := hdBsX, inv := fun y => y.i ≤ p ∧ p ≤ y.j ∧ y.j ≤ l.length, st := fun y => [(9, .val (I y.i)), (10, .val (I y.j)), (8, .val (I l.length)), (0, .val (.slice a l.length c)), (1, .val (I nd)), (2, .val (.func (.func 54) #[] #[]))], own := fun _ => [], m := fun _ => { m with sz := n }, μ := fun y => y.j - y.i }) fun n hn' => ?_
  refine vc_by (X :=
      true = true ∧
      (∃ (a_1 : hdBsX),
      (a_1.i ≤ p ∧ p ≤ a_1.j ∧ a_1.j ≤ l.length) ∧
      { π := m.π, sz := n, uf := m.uf : M } = { π := m.π, sz := n, uf := m.uf : M } ∧
      ((SV.val (Value.int IntKind.i64 (0 : Int)) = SV.val (Value.int IntKind.i64 (↑a_1.i : Int)) ∧ true = true) ∧
      (SV.val (Value.int IntKind.i64 (↑l.length : Int)) = SV.val (Value.int IntKind.i64 (↑a_1.j : Int)) ∧ true = true) ∧
      (SV.val (Value.int IntKind.i64 (↑l.length : Int)) = SV.val (Value.int IntKind.i64 (↑l.length : Int)) ∧ true = true) ∧
      (SV.val (Value.slice a l.length c) = SV.val (Value.slice a l.length c) ∧ true = true) ∧
      (SV.val (Value.int IntKind.i64 nd) = SV.val (Value.int IntKind.i64 nd) ∧ true = true) ∧
      (SV.val (Value.func (Fn.func (54 : FuncId)) #[] #[]) = SV.val (Value.func (Fn.func (54 : FuncId)) #[] #[]) ∧ true = true) ∧ True) ∧
      True) ∧
      ∀ (a_1 : hdBsX),
      a_1.i ≤ p ∧ p ≤ a_1.j ∧ a_1.j ≤ l.length →
      ifB (decide ((↑a_1.i : Int) < (↑a_1.j : Int)))
      (∃ (b : Nat),
      ∃ (off : Nat),
      a = some { block := b, off := off : Addr } ∧
      ((0 : Int) ≤ IntKind.i64.wrap ((IntKind.u64.wrap (IntKind.i64.wrap ((↑a_1.i : Int) + (↑a_1.j : Int)))).fdiv ((2 : Int) ^ (1 : Nat))) ∧
      IntKind.i64.wrap ((IntKind.u64.wrap (IntKind.i64.wrap ((↑a_1.i : Int) + (↑a_1.j : Int)))).fdiv ((2 : Int) ^ (1 : Nat))) < (↑l.length : Int)) ∧
      ∃ (n_1 : Int),
      ∃ (n_2 : Int),
      ∃ (n_3 : Int),
      ∃ (n_4 : Int),
      CellsAt { π := m.π, sz := n, uf := m.uf : M } b
      (off + (IntKind.i64.wrap ((IntKind.u64.wrap (IntKind.i64.wrap ((↑a_1.i : Int) + (↑a_1.j : Int)))).fdiv ((2 : Int) ^ (1 : Nat)))).toNat * (4 : Nat))
      [Value.int IntKind.i64 n_1, Value.int IntKind.i64 n_2, Value.int IntKind.i64 n_3, Value.int IntKind.i64 n_4] ∧
      ∃ (n_5 : Int),
      QSpec Try.prog (54 : FuncId)
      [Value.agg #[Value.int IntKind.i64 n_1, Value.int IntKind.i64 n_2, Value.int IntKind.i64 n_3, Value.int IntKind.i64 n_4],
      Value.int IntKind.i64 nd]
      { π := m.π, sz := n, uf := m.uf : M } (Value.int IntKind.i64 n_5) ∧
      ifB (decide (n_5 < (0 : Int)))
      (∃ (a' : hdBsX),
      ((a'.i ≤ p ∧ p ≤ a'.j ∧ a'.j ≤ l.length) ∧
      { π := m.π, sz := n, uf := m.uf : M } = { π := m.π, sz := n, uf := m.uf : M } ∧
      ((SV.val
      (Value.int IntKind.i64
      (IntKind.i64.wrap
      (IntKind.i64.wrap ((IntKind.u64.wrap (IntKind.i64.wrap ((↑a_1.i : Int) + (↑a_1.j : Int)))).fdiv ((2 : Int) ^ (1 : Nat))) +
      (1 : Int)))) =
      SV.val (Value.int IntKind.i64 (↑a'.i : Int)) ∧
      true = true) ∧
      (SV.val (Value.int IntKind.i64 (↑a_1.j : Int)) = SV.val (Value.int IntKind.i64 (↑a'.j : Int)) ∧ true = true) ∧
      (SV.val (Value.int IntKind.i64 (↑l.length : Int)) = SV.val (Value.int IntKind.i64 (↑l.length : Int)) ∧ true = true) ∧
      (SV.val (Value.slice a l.length c) = SV.val (Value.slice a l.length c) ∧ true = true) ∧
      (SV.val (Value.int IntKind.i64 nd) = SV.val (Value.int IntKind.i64 nd) ∧ true = true) ∧
      (SV.val (Value.func (Fn.func (54 : FuncId)) #[] #[]) = SV.val (Value.func (Fn.func (54 : FuncId)) #[] #[]) ∧ true = true) ∧
      True) ∧
      True) ∧
      a'.j - a'.i < a_1.j - a_1.i)
      (∃ (a' : hdBsX),
      ((a'.i ≤ p ∧ p ≤ a'.j ∧ a'.j ≤ l.length) ∧
      { π := m.π, sz := n, uf := m.uf : M } = { π := m.π, sz := n, uf := m.uf : M } ∧
      ((SV.val (Value.int IntKind.i64 (↑a_1.i : Int)) = SV.val (Value.int IntKind.i64 (↑a'.i : Int)) ∧ true = true) ∧
      (SV.val
      (Value.int IntKind.i64
      (IntKind.i64.wrap ((IntKind.u64.wrap (IntKind.i64.wrap ((↑a_1.i : Int) + (↑a_1.j : Int)))).fdiv ((2 : Int) ^ (1 : Nat))))) =
      SV.val (Value.int IntKind.i64 (↑a'.j : Int)) ∧
      true = true) ∧
      (SV.val (Value.int IntKind.i64 (↑l.length : Int)) = SV.val (Value.int IntKind.i64 (↑l.length : Int)) ∧ true = true) ∧
      (SV.val (Value.slice a l.length c) = SV.val (Value.slice a l.length c) ∧ true = true) ∧
      (SV.val (Value.int IntKind.i64 nd) = SV.val (Value.int IntKind.i64 nd) ∧ true = true) ∧
      (SV.val (Value.func (Fn.func (54 : FuncId)) #[] #[]) = SV.val (Value.func (Fn.func (54 : FuncId)) #[] #[]) ∧ true = true) ∧
      True) ∧
      True) ∧
      a'.j - a'.i < a_1.j - a_1.i))
      (ifB (decide ((↑a_1.i : Int) < (↑l.length : Int)))
      (∃ (b : Nat),
      ∃ (off : Nat),
      a = some { block := b, off := off : Addr } ∧
      ((0 : Int) ≤ (↑a_1.i : Int) ∧ (↑a_1.i : Int) < (↑l.length : Int)) ∧
      ∃ (n_1 : Int),
      ∃ (n_2 : Int),
      ∃ (n_3 : Int),
      ∃ (n_4 : Int),
      CellsAt { π := m.π, sz := n, uf := m.uf : M } b (off + (↑a_1.i : Int).toNat * (4 : Nat))
      [Value.int IntKind.i64 n_1, Value.int IntKind.i64 n_2, Value.int IntKind.i64 n_3, Value.int IntKind.i64 n_4] ∧
      ∃ (n_5 : Int),
      QSpec Try.prog (54 : FuncId)
      [Value.agg #[Value.int IntKind.i64 n_1, Value.int IntKind.i64 n_2, Value.int IntKind.i64 n_3, Value.int IntKind.i64 n_4],
      Value.int IntKind.i64 nd]
      { π := m.π, sz := n, uf := m.uf : M } (Value.int IntKind.i64 n_5) ∧
      Done
      (Value.tuple #[Value.int IntKind.i64 (↑a_1.i : Int), Value.bool (n_5 == (0 : Int))] =
      Value.tuple #[Value.int IntKind.i64 (↑p : Int), Value.bool (Option.any (fun (x : Hd) => decide (f x = (0 : Int))) l[p]?)]))
      (Done
      (Value.tuple #[Value.int IntKind.i64 (↑a_1.i : Int), Value.bool false] =
      Value.tuple #[Value.int IntKind.i64 (↑p : Int), Value.bool (Option.any (fun (x : Hd) => decide (f x = (0 : Int))) l[p]?)])))) (by kernel_rfl) ?_
  have h' := h.sz hn'
  have hk : ∀ x, (encH x).length = 4 := fun _ => rfl
  have hcell : ∀ k (hlt : k < l.length), ∃ b o, a = some ⟨b, o, none⟩ ∧ CellsAt { m with sz := n } b (o + k * 4) (encH l[k]) := fun k hlt => by
    obtain ⟨b, o, e, hc⟩ := h'.cells (by rw [flat_len hk]; omega)
    exact ⟨b, o, e, CellsAt.elem hk l o k hlt hc⟩
  refine ⟨rfl, ⟨⟨0, l.length⟩, ⟨Nat.zero_le _, hp, Nat.le_refl _⟩, by simp⟩, fun y ⟨g1, g2, g3⟩ => ifB_intro (fun hb => ?_) (fun hb => ?_)⟩
  · have hij : y.i < y.j := by simp at hb; omega
    have wm : IntKind.i64.wrap ((IntKind.u64.wrap (IntKind.i64.wrap ((y.i : Int) + (y.j : Int)))).fdiv (2 ^ 1)) = (((y.i + y.j) / 2 : Nat) : Int) := by
      rw [Int.fdiv_eq_ediv_of_nonneg _ (by decide)]
      simp [IntKind.wrap_i64, IntKind.wrap_u64]; omega
    have hm : (y.i + y.j) / 2 < l.length := by omega
    obtain ⟨b, o, rfl, hc⟩ := hcell _ hm
    have w1 : IntKind.i64.wrap ((((y.i + y.j) / 2 : Nat) : Int) + 1) = (((y.i + y.j) / 2 + 1 : Nat) : Int) := by simp [IntKind.wrap_i64]; omega
    rw [wm, w1]
    simp only [Int.toNat_natCast]
    refine ⟨b, o, rfl, by omega, _,_,_,_, hc, _, hf _ (List.getElem_mem hm) _, ifB_intro (fun hb2 => ?_) (fun hb2 => ?_)⟩
    · have hlt : f l[(y.i + y.j) / 2] < 0 := by simpa using hb2
      have : (y.i + y.j) / 2 < p := by
        rcases Nat.lt_or_ge ((y.i + y.j) / 2) p with h | h
        · exact h
        · have := h2 _ hm h; omega
      exact ⟨⟨(y.i + y.j) / 2 + 1, y.j⟩, ⟨⟨by simp only; omega, g2, g3⟩, by simp⟩, by simp only; omega⟩
    · have hlt : ¬ f l[(y.i + y.j) / 2] < 0 := by simpa using hb2
      have : p ≤ (y.i + y.j) / 2 := by
        rcases Nat.lt_or_ge ((y.i + y.j) / 2) p with h | h
        · exact absurd (h1 _ hm h) hlt
        · exact h
      exact ⟨⟨y.i, (y.i + y.j) / 2⟩, ⟨⟨g1, by simp only; omega, by simp only; omega⟩, by simp⟩, by simp only; omega⟩
  · have hij : y.i = p := by simp at hb; omega
    rw [hij]
    refine ifB_intro (fun hb2 => ?_) (fun hb2 => ⟨?_⟩)
    · have hlt : p < l.length := by simp at hb2; omega
      obtain ⟨b, o, rfl, hc⟩ := hcell p hlt
      refine ⟨b, o, rfl, by omega, _,_,_,_, by simpa using hc, _, hf _ (List.getElem_mem hlt) _, ⟨?_⟩⟩
      rw [List.getElem?_eq_getElem hlt]
      rfl
    · have hlt : l.length ≤ p := by simp at hb2; omega
      rw [List.getElem?_eq_none hlt]
      rfl

end Go.Proofs.Ytlifpjllhibdpaa
