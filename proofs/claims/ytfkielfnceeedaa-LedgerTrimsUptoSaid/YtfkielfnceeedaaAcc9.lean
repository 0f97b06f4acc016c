/-
  Contracts of functions of this seat: what each hands back, and what it leaves of memory (acc9). Nothing here is trusted: Lean checks it.
-/
import Derived.Test.YtfkielfnceeedaaAcc6
set_option linter.unusedVariables false
set_option linter.unusedSimpArgs false
namespace Go.Proofs.Ytfkielfnceeedaa
open Go.Vc Go.RowKit

/-- an account and an Errno, handed back: the holders in a block of their own, or none -/
structure AcR (m : M) (y : Ac × Int) (v : Value) (m' : M) : Prop where
  out : ∃ a' c', v = .tuple #[acv y.1 a' c', I y.2] ∧ NewR m.sz (fun _ => False) m' 4 a' y.1.hs.length c' (hds y.1.hs)

def aAdd (x : Ac) (n : Int) : Ac × Int :=
  if rightB x = false then (ac0, 21) else if n = 0 then (ac0, 1) else if x.lk.cl ≠ 0 then (ac0, 152) else
  if (0 < n ∧ roomUp x < n) ∨ (n < 0 ∧ roomDn x < -n) then (ac0, 150) else ({ x with base := x.base + n }, 0)

def aFreeze (x : Ac) (r : Int) : Ac × Int :=
  if rightB x = false then (ac0, 21) else if r < 1 ∨ 4611686018427387904 < r then (ac0, 1) else ({ x with round := if x.round = 0 then r else x.round }, 0)

def aThaw (x : Ac) : Ac × Int := if rightB x = false then (ac0, 21) else ({ x with round := 0 }, 0)

def knownE (x : Ac) : Int := if rightB x = false then 21 else if totB x then 0 else 152

def aBounds (x : Ac) (lo hi : Int) : Ac × Int :=
  if knownE x ≠ 0 then (ac0, knownE x) else if hasB lo hi x.base = false then (ac0, 150) else ({ x with lo := lo, hi := hi }, 0)

def aTake (x : Ac) (k : Lk) : Ac × Int :=
  if rightB x = false then (ac0, 21) else if keeperB k = false then (ac0, 1) else if knownE x ≠ 0 then (ac0, knownE x) else
  if fitsB x k = false then (ac0, 150) else ({ x with lk := k }, 0)

def lk0 : Lk := ⟨0, 0, 0, 0⟩

def aFree (x : Ac) (b : Bool) : Ac × Int :=
  if rightB x = false then (ac0, 21) else if x.lk.cl = 0 then (ac0, 60) else ({ x with base := if b then x.base + x.lk.n else x.base, lk := lk0 }, 0)

theorem fail_d {m m' : M} {y : Ac × Int} {e : Int} (h : y = (ac0, e)) : Done (AcR m y (.tuple #[acv ac0 none 0, I e]) m') := ⟨by subst h; exact ⟨none, 0, rfl, .nil _⟩⟩

theorem ok_d {m m' : M} {y : Ac × Int} {z : Ac} {a' : Option Addr} {c' n : Nat} (h : y = (z, 0)) (hr : NewR n (fun _ => False) m' 4 a' z.hs.length c' (hds z.hs)) (hn : m.sz ≤ n) : Done (AcR m y (.tuple #[acv z a' c', I 0]) m') := ⟨by subst h; exact ⟨a', c', rfl, hr.lower hn⟩⟩

theorem room_bounds {x : Ac} (hx : x.wf) (hr : rightB x = true) (hl : x.lk.cl = 0) : 0 ≤ roomUp x ∧ roomUp x ≤ x.hi - x.base ∧ 0 ≤ roomDn x ∧ roomDn x ≤ x.base - x.lo ∧ roomUp x = x.hi - sumI (upsL x) ∧ roomDn x = sumI (dnsL x) - x.lo := by
  have hp := (right_iff x).1 hr
  have hb := hp.bounds hx
  have h1 := hp.up
  have h2 := hp.dn
  simp [roomUp, roomDn, hr, hl] at *
  omega

theorem right_len {x : Ac} (h : rightB x = true) : x.hs.length ≤ 5 := hold_len ((right_iff x).1 h).hold

theorem aadd_s (x : Ac) (a : Option Addr) (c : Nat) (n : Int) (hx : x.wf) (hn : In64 n) (h0 : a = none → x.hs = []) (m : M) (h : Row m a (hds x.hs)) : Vc.Spec Try.prog 97 [acv x a c, I n] m (AcR m (aAdd x n)) := by
  refine Vc.Spec.of_vc Try.func97 (ann := noAnn) ?_
  refine vc_by (X :=
      true = true ∧
      ∃ (b : Bool),
      QSpec Try.prog (72 : Nat)
      [Value.agg
      #[Value.string x.key, Value.int IntKind.i64 x.lo, Value.int IntKind.i64 x.hi, Value.int IntKind.i64 x.base, Value.int IntKind.i64 x.round, Value.slice a x.hs.length c,
      Value.int IntKind.i64 x.lk.cl, Value.int IntKind.i64 x.lk.sq, Value.int IntKind.i64 x.lk.hm, Value.int IntKind.i64 x.lk.n]]
      m (Value.bool b) ∧
      ifB (!b)
      (Done
      (AcR m (aAdd x n)
      (Value.tuple
      #[Value.agg
      #[Value.string { data := #[] : ByteArray }, Value.int IntKind.i64 (0 : Int), Value.int IntKind.i64 (0 : Int), Value.int IntKind.i64 (0 : Int),
      Value.int IntKind.i64 (0 : Int), Value.slice none (0 : Nat) (0 : Nat), Value.int IntKind.i64 (0 : Int), Value.int IntKind.i64 (0 : Int),
      Value.int IntKind.i64 (0 : Int), Value.int IntKind.i64 (0 : Int)],
      Value.int IntKind.i64 (21 : Int)])
      m))
      (ifB (n == (0 : Int))
      (Done
      (AcR m (aAdd x n)
      (Value.tuple
      #[Value.agg
      #[Value.string { data := #[] : ByteArray }, Value.int IntKind.i64 (0 : Int), Value.int IntKind.i64 (0 : Int), Value.int IntKind.i64 (0 : Int),
      Value.int IntKind.i64 (0 : Int), Value.slice none (0 : Nat) (0 : Nat), Value.int IntKind.i64 (0 : Int), Value.int IntKind.i64 (0 : Int),
      Value.int IntKind.i64 (0 : Int), Value.int IntKind.i64 (0 : Int)],
      Value.int IntKind.i64 (1 : Int)])
      m))
      (∃ (b : Bool),
      QSpec Try.prog (100 : Nat)
      [Value.agg
      #[Value.string x.key, Value.int IntKind.i64 x.lo, Value.int IntKind.i64 x.hi, Value.int IntKind.i64 x.base, Value.int IntKind.i64 x.round,
      Value.slice a x.hs.length c, Value.int IntKind.i64 x.lk.cl, Value.int IntKind.i64 x.lk.sq, Value.int IntKind.i64 x.lk.hm, Value.int IntKind.i64 x.lk.n]]
      m (Value.bool b) ∧
      ifB b
      (Done
      (AcR m (aAdd x n)
      (Value.tuple
      #[Value.agg
      #[Value.string { data := #[] : ByteArray }, Value.int IntKind.i64 (0 : Int), Value.int IntKind.i64 (0 : Int), Value.int IntKind.i64 (0 : Int),
      Value.int IntKind.i64 (0 : Int), Value.slice none (0 : Nat) (0 : Nat), Value.int IntKind.i64 (0 : Int), Value.int IntKind.i64 (0 : Int),
      Value.int IntKind.i64 (0 : Int), Value.int IntKind.i64 (0 : Int)],
      Value.int IntKind.i64 (152 : Int)])
      m))
      (∃ (n_1 : Int),
      ∃ (n_2 : Int),
      QSpec Try.prog (101 : Nat)
      [Value.agg
      #[Value.string x.key, Value.int IntKind.i64 x.lo, Value.int IntKind.i64 x.hi, Value.int IntKind.i64 x.base, Value.int IntKind.i64 x.round,
      Value.slice a x.hs.length c, Value.int IntKind.i64 x.lk.cl, Value.int IntKind.i64 x.lk.sq, Value.int IntKind.i64 x.lk.hm,
      Value.int IntKind.i64 x.lk.n]]
      m (Value.tuple #[Value.int IntKind.u64 n_1, Value.int IntKind.u64 n_2]) ∧
      ifB (decide (n > (0 : Int)))
      (ifB (decide (IntKind.u64.wrap n > n_2))
      (Done
      (AcR m (aAdd x n)
      (Value.tuple
      #[Value.agg
      #[Value.string { data := #[] : ByteArray }, Value.int IntKind.i64 (0 : Int), Value.int IntKind.i64 (0 : Int), Value.int IntKind.i64 (0 : Int),
      Value.int IntKind.i64 (0 : Int), Value.slice none (0 : Nat) (0 : Nat), Value.int IntKind.i64 (0 : Int), Value.int IntKind.i64 (0 : Int),
      Value.int IntKind.i64 (0 : Int), Value.int IntKind.i64 (0 : Int)],
      Value.int IntKind.i64 (150 : Int)])
      m))
      (ifB (decide (n < (0 : Int)))
      (ifB (decide (IntKind.u64.wrap ((0 : Int) - IntKind.u64.wrap n) > n_1))
      (Done
      (AcR m (aAdd x n)
      (Value.tuple
      #[Value.agg
      #[Value.string { data := #[] : ByteArray }, Value.int IntKind.i64 (0 : Int), Value.int IntKind.i64 (0 : Int),
      Value.int IntKind.i64 (0 : Int), Value.int IntKind.i64 (0 : Int), Value.slice none (0 : Nat) (0 : Nat), Value.int IntKind.i64 (0 : Int),
      Value.int IntKind.i64 (0 : Int), Value.int IntKind.i64 (0 : Int), Value.int IntKind.i64 (0 : Int)],
      Value.int IntKind.i64 (150 : Int)])
      m))
      (∀ (n_3 : Nat),
      m.sz ≤ n_3 →
      Vc.Spec Try.prog (73 : Nat)
      [Value.agg
      #[Value.string x.key, Value.int IntKind.i64 x.lo, Value.int IntKind.i64 x.hi, Value.int IntKind.i64 x.base, Value.int IntKind.i64 x.round,
      Value.slice a x.hs.length c, Value.int IntKind.i64 x.lk.cl, Value.int IntKind.i64 x.lk.sq, Value.int IntKind.i64 x.lk.hm,
      Value.int IntKind.i64 x.lk.n]]
      { π := m.π, sz := n_3, uf := m.uf : M } fun (v : Value) (m' : M) =>
      ∃ (s : ByteArray),
      ∃ (n_4 : Int),
      ∃ (n_5 : Int),
      ∃ (n_6 : Int),
      ∃ (n_7 : Int),
      ∃ (a : Option Addr),
      ∃ (n_8 : Nat),
      ∃ (c : Nat),
      ∃ (n_9 : Int),
      ∃ (n_10 : Int),
      ∃ (n_11 : Int),
      ∃ (n_12 : Int),
      v =
      Value.agg
      #[Value.string s, Value.int IntKind.i64 n_4, Value.int IntKind.i64 n_5, Value.int IntKind.i64 n_6,
      Value.int IntKind.i64 n_7, Value.slice a n_8 c, Value.int IntKind.i64 n_9, Value.int IntKind.i64 n_10,
      Value.int IntKind.i64 n_11, Value.int IntKind.i64 n_12] ∧
      Done
      (AcR m (aAdd x n)
      (Value.tuple
      #[Value.agg
      #[Value.string s, Value.int IntKind.i64 n_4, Value.int IntKind.i64 n_5,
      Value.int IntKind.i64 (IntKind.i64.wrap (n_6 + n)), Value.int IntKind.i64 n_7, Value.slice a n_8 c,
      Value.int IntKind.i64 n_9, Value.int IntKind.i64 n_10, Value.int IntKind.i64 n_11,
      Value.int IntKind.i64 n_12],
      Value.int IntKind.i64 (0 : Int)])
      m')))
      (∀ (n_3 : Nat),
      m.sz ≤ n_3 →
      Vc.Spec Try.prog (73 : Nat)
      [Value.agg
      #[Value.string x.key, Value.int IntKind.i64 x.lo, Value.int IntKind.i64 x.hi, Value.int IntKind.i64 x.base, Value.int IntKind.i64 x.round,
      Value.slice a x.hs.length c, Value.int IntKind.i64 x.lk.cl, Value.int IntKind.i64 x.lk.sq, Value.int IntKind.i64 x.lk.hm,
      Value.int IntKind.i64 x.lk.n]]
      { π := m.π, sz := n_3, uf := m.uf : M } fun (v : Value) (m' : M) =>
      ∃ (s : ByteArray),
      ∃ (n_4 : Int),
      ∃ (n_5 : Int),
      ∃ (n_6 : Int),
      ∃ (n_7 : Int),
      ∃ (a : Option Addr),
      ∃ (n_8 : Nat),
      ∃ (c : Nat),
      ∃ (n_9 : Int),
      ∃ (n_10 : Int),
      ∃ (n_11 : Int),
      ∃ (n_12 : Int),
      v =
      Value.agg
      #[Value.string s, Value.int IntKind.i64 n_4, Value.int IntKind.i64 n_5, Value.int IntKind.i64 n_6,
      Value.int IntKind.i64 n_7, Value.slice a n_8 c, Value.int IntKind.i64 n_9, Value.int IntKind.i64 n_10,
      Value.int IntKind.i64 n_11, Value.int IntKind.i64 n_12] ∧
      Done
      (AcR m (aAdd x n)
      (Value.tuple
      #[Value.agg
      #[Value.string s, Value.int IntKind.i64 n_4, Value.int IntKind.i64 n_5,
      Value.int IntKind.i64 (IntKind.i64.wrap (n_6 + n)), Value.int IntKind.i64 n_7, Value.slice a n_8 c,
      Value.int IntKind.i64 n_9, Value.int IntKind.i64 n_10, Value.int IntKind.i64 n_11,
      Value.int IntKind.i64 n_12],
      Value.int IntKind.i64 (0 : Int)])
      m'))))
      (ifB (decide (n < (0 : Int)))
      (ifB (decide (IntKind.u64.wrap ((0 : Int) - IntKind.u64.wrap n) > n_1))
      (Done
      (AcR m (aAdd x n)
      (Value.tuple
      #[Value.agg
      #[Value.string { data := #[] : ByteArray }, Value.int IntKind.i64 (0 : Int), Value.int IntKind.i64 (0 : Int), Value.int IntKind.i64 (0 : Int),
      Value.int IntKind.i64 (0 : Int), Value.slice none (0 : Nat) (0 : Nat), Value.int IntKind.i64 (0 : Int), Value.int IntKind.i64 (0 : Int),
      Value.int IntKind.i64 (0 : Int), Value.int IntKind.i64 (0 : Int)],
      Value.int IntKind.i64 (150 : Int)])
      m))
      (∀ (n_3 : Nat),
      m.sz ≤ n_3 →
      Vc.Spec Try.prog (73 : Nat)
      [Value.agg
      #[Value.string x.key, Value.int IntKind.i64 x.lo, Value.int IntKind.i64 x.hi, Value.int IntKind.i64 x.base, Value.int IntKind.i64 x.round,
      Value.slice a x.hs.length c, Value.int IntKind.i64 x.lk.cl, Value.int IntKind.i64 x.lk.sq, Value.int IntKind.i64 x.lk.hm,
      Value.int IntKind.i64 x.lk.n]]
      { π := m.π, sz := n_3, uf := m.uf : M } fun (v : Value) (m' : M) =>
      ∃ (s : ByteArray),
      ∃ (n_4 : Int),
      ∃ (n_5 : Int),
      ∃ (n_6 : Int),
      ∃ (n_7 : Int),
      ∃ (a : Option Addr),
      ∃ (n_8 : Nat),
      ∃ (c : Nat),
      ∃ (n_9 : Int),
      ∃ (n_10 : Int),
      ∃ (n_11 : Int),
      ∃ (n_12 : Int),
      v =
      Value.agg
      #[Value.string s, Value.int IntKind.i64 n_4, Value.int IntKind.i64 n_5, Value.int IntKind.i64 n_6,
      Value.int IntKind.i64 n_7, Value.slice a n_8 c, Value.int IntKind.i64 n_9, Value.int IntKind.i64 n_10,
      Value.int IntKind.i64 n_11, Value.int IntKind.i64 n_12] ∧
      Done
      (AcR m (aAdd x n)
      (Value.tuple
      #[Value.agg
      #[Value.string s, Value.int IntKind.i64 n_4, Value.int IntKind.i64 n_5,
      Value.int IntKind.i64 (IntKind.i64.wrap (n_6 + n)), Value.int IntKind.i64 n_7, Value.slice a n_8 c,
      Value.int IntKind.i64 n_9, Value.int IntKind.i64 n_10, Value.int IntKind.i64 n_11,
      Value.int IntKind.i64 n_12],
      Value.int IntKind.i64 (0 : Int)])
      m')))
      (∀ (n_3 : Nat),
      m.sz ≤ n_3 →
      Vc.Spec Try.prog (73 : Nat)
      [Value.agg
      #[Value.string x.key, Value.int IntKind.i64 x.lo, Value.int IntKind.i64 x.hi, Value.int IntKind.i64 x.base, Value.int IntKind.i64 x.round,
      Value.slice a x.hs.length c, Value.int IntKind.i64 x.lk.cl, Value.int IntKind.i64 x.lk.sq, Value.int IntKind.i64 x.lk.hm,
      Value.int IntKind.i64 x.lk.n]]
      { π := m.π, sz := n_3, uf := m.uf : M } fun (v : Value) (m' : M) =>
      ∃ (s : ByteArray),
      ∃ (n_4 : Int),
      ∃ (n_5 : Int),
      ∃ (n_6 : Int),
      ∃ (n_7 : Int),
      ∃ (a : Option Addr),
      ∃ (n_8 : Nat),
      ∃ (c : Nat),
      ∃ (n_9 : Int),
      ∃ (n_10 : Int),
      ∃ (n_11 : Int),
      ∃ (n_12 : Int),
      v =
      Value.agg
      #[Value.string s, Value.int IntKind.i64 n_4, Value.int IntKind.i64 n_5, Value.int IntKind.i64 n_6,
      Value.int IntKind.i64 n_7, Value.slice a n_8 c, Value.int IntKind.i64 n_9, Value.int IntKind.i64 n_10,
      Value.int IntKind.i64 n_11, Value.int IntKind.i64 n_12] ∧
      Done
      (AcR m (aAdd x n)
      (Value.tuple
      #[Value.agg
      #[Value.string s, Value.int IntKind.i64 n_4, Value.int IntKind.i64 n_5,
      Value.int IntKind.i64 (IntKind.i64.wrap (n_6 + n)), Value.int IntKind.i64 n_7, Value.slice a n_8 c,
      Value.int IntKind.i64 n_9, Value.int IntKind.i64 n_10, Value.int IntKind.i64 n_11,
      Value.int IntKind.i64 n_12],
      Value.int IntKind.i64 (0 : Int)])
      m'))))))) (by kernel_rfl) ?_
  refine ⟨rfl, _, right_q x a c hx _ h, ?_⟩
  cases hr : rightB x
  · exact ifB_true (fail_d (by simp [aAdd, hr]))
  refine ifB_false (ifB_intro (fun h1 => fail_d ?_) (fun h1 => ⟨_, locked_q x a c _, ifB_intro (fun h2 => fail_d ?_) (fun h2 => ⟨_, _, room_q x a c hx _ h, ?_⟩)⟩))
  · simp at h1; simp [aAdd, hr, h1]
  · simp at h1 h2; simp [aAdd, hr, h1, h2]
  have h1 : n ≠ 0 := by simpa using h1
  have h2 : x.lk.cl = 0 := by simpa using h2
  have hb := room_bounds hx hr h2
  have hlo := hx.lo
  have hhi := hx.hi
  have hw1 : 0 < n → IntKind.u64.wrap n = n := fun h => by unfold In64 at hn; simp [IntKind.wrap_u64]; omega
  have hw2 : n < 0 → IntKind.u64.wrap (0 - IntKind.u64.wrap n) = -n := fun h => by unfold In64 at hn; simp [IntKind.wrap_u64]; omega
  refine ifB_intro (fun h3 => ifB_intro (fun h4 => fail_d ?_) (fun h4 => ifB_intro (fun h5 => ?_) (fun h5 N hN => ?_))) (fun h3 => ifB_intro (fun h4 => ifB_intro (fun h5 => fail_d ?_) (fun h5 N hN => ?_)) (fun h4 N hN => ?_))
  · simp at h3; rw [hw1 h3] at h4; simp at h4; simp [aAdd, hr, h1, h2]; omega
  · simp at h3 h5; omega
  rotate_left
  · simp at h4; rw [hw2 h4] at h5; simp at h5; simp [aAdd, hr, h1, h2]; omega
  all_goals
    refine (copied_q x a c (by have := right_len hr; omega) h0 _ (h.sz hN)).mono fun v m' hag ⟨a', c', hv, hr'⟩ => ⟨_, _, _, _, _, _, _, _, _, _, _, _, hv, ?_⟩
    have hnb : ¬ ((0 < n ∧ roomUp x < n) ∨ (n < 0 ∧ roomDn x < -n)) := by
      first
      | (simp at h3; rw [hw1 h3] at h4; simp at h4; omega)
      | (simp at h3 h4; rw [hw2 h4] at h5; simp at h5; omega)
      | (simp at h3 h4; omega)
    have e : IntKind.i64.wrap (x.base + n) = x.base + n := by unfold In64 at *; simp [IntKind.wrap_i64]; omega
    rw [e]
    exact ok_d (z := { x with base := x.base + n }) (by simp [aAdd, hr, h1, h2, hnb]) hr' hN

theorem afreeze_s (x : Ac) (a : Option Addr) (c : Nat) (n : Int) (hx : x.wf) (h0 : a = none → x.hs = []) (m : M) (h : Row m a (hds x.hs)) : Vc.Spec Try.prog 34 [acv x a c, I n] m (AcR m (aFreeze x n)) := by
  refine Vc.Spec.of_vc Try.func34 (ann := noAnn) ?_
  refine vc_by (X :=
      true = true ∧
      ∃ (b : Bool),
      QSpec Try.prog (72 : Nat)
      [Value.agg
      #[Value.string x.key, Value.int IntKind.i64 x.lo, Value.int IntKind.i64 x.hi, Value.int IntKind.i64 x.base, Value.int IntKind.i64 x.round, Value.slice a x.hs.length c,
      Value.int IntKind.i64 x.lk.cl, Value.int IntKind.i64 x.lk.sq, Value.int IntKind.i64 x.lk.hm, Value.int IntKind.i64 x.lk.n]]
      m (Value.bool b) ∧
      ifB (!b)
      (Done
      (AcR m (aFreeze x n)
      (Value.tuple
      #[Value.agg
      #[Value.string { data := #[] : ByteArray }, Value.int IntKind.i64 (0 : Int), Value.int IntKind.i64 (0 : Int), Value.int IntKind.i64 (0 : Int),
      Value.int IntKind.i64 (0 : Int), Value.slice none (0 : Nat) (0 : Nat), Value.int IntKind.i64 (0 : Int), Value.int IntKind.i64 (0 : Int),
      Value.int IntKind.i64 (0 : Int), Value.int IntKind.i64 (0 : Int)],
      Value.int IntKind.i64 (21 : Int)])
      m))
      (ifB (decide (n < (1 : Int)))
      (Done
      (AcR m (aFreeze x n)
      (Value.tuple
      #[Value.agg
      #[Value.string { data := #[] : ByteArray }, Value.int IntKind.i64 (0 : Int), Value.int IntKind.i64 (0 : Int), Value.int IntKind.i64 (0 : Int),
      Value.int IntKind.i64 (0 : Int), Value.slice none (0 : Nat) (0 : Nat), Value.int IntKind.i64 (0 : Int), Value.int IntKind.i64 (0 : Int),
      Value.int IntKind.i64 (0 : Int), Value.int IntKind.i64 (0 : Int)],
      Value.int IntKind.i64 (1 : Int)])
      m))
      (ifB (decide (n > (4611686018427387904 : Int)))
      (Done
      (AcR m (aFreeze x n)
      (Value.tuple
      #[Value.agg
      #[Value.string { data := #[] : ByteArray }, Value.int IntKind.i64 (0 : Int), Value.int IntKind.i64 (0 : Int), Value.int IntKind.i64 (0 : Int),
      Value.int IntKind.i64 (0 : Int), Value.slice none (0 : Nat) (0 : Nat), Value.int IntKind.i64 (0 : Int), Value.int IntKind.i64 (0 : Int),
      Value.int IntKind.i64 (0 : Int), Value.int IntKind.i64 (0 : Int)],
      Value.int IntKind.i64 (1 : Int)])
      m))
      (∀ (n_1 : Nat),
      m.sz ≤ n_1 →
      Vc.Spec Try.prog (73 : Nat)
      [Value.agg
      #[Value.string x.key, Value.int IntKind.i64 x.lo, Value.int IntKind.i64 x.hi, Value.int IntKind.i64 x.base, Value.int IntKind.i64 x.round,
      Value.slice a x.hs.length c, Value.int IntKind.i64 x.lk.cl, Value.int IntKind.i64 x.lk.sq, Value.int IntKind.i64 x.lk.hm, Value.int IntKind.i64 x.lk.n]]
      { π := m.π, sz := n_1, uf := m.uf : M } fun (v : Value) (m' : M) =>
      ∃ (s : ByteArray),
      ∃ (n_2 : Int),
      ∃ (n_3 : Int),
      ∃ (n_4 : Int),
      ∃ (n_5 : Int),
      ∃ (a : Option Addr),
      ∃ (n_6 : Nat),
      ∃ (c : Nat),
      ∃ (n_7 : Int),
      ∃ (n_8 : Int),
      ∃ (n_9 : Int),
      ∃ (n_10 : Int),
      v =
      Value.agg
      #[Value.string s, Value.int IntKind.i64 n_2, Value.int IntKind.i64 n_3, Value.int IntKind.i64 n_4, Value.int IntKind.i64 n_5,
      Value.slice a n_6 c, Value.int IntKind.i64 n_7, Value.int IntKind.i64 n_8, Value.int IntKind.i64 n_9,
      Value.int IntKind.i64 n_10] ∧
      ifB (n_5 == (0 : Int))
      (Done
      (AcR m (aFreeze x n)
      (Value.tuple
      #[Value.agg
      #[Value.string s, Value.int IntKind.i64 n_2, Value.int IntKind.i64 n_3, Value.int IntKind.i64 n_4, Value.int IntKind.i64 n,
      Value.slice a n_6 c, Value.int IntKind.i64 n_7, Value.int IntKind.i64 n_8, Value.int IntKind.i64 n_9,
      Value.int IntKind.i64 n_10],
      Value.int IntKind.i64 (0 : Int)])
      m'))
      (Done
      (AcR m (aFreeze x n)
      (Value.tuple
      #[Value.agg
      #[Value.string s, Value.int IntKind.i64 n_2, Value.int IntKind.i64 n_3, Value.int IntKind.i64 n_4,
      Value.int IntKind.i64 n_5, Value.slice a n_6 c, Value.int IntKind.i64 n_7, Value.int IntKind.i64 n_8,
      Value.int IntKind.i64 n_9, Value.int IntKind.i64 n_10],
      Value.int IntKind.i64 (0 : Int)])
      m')))))) (by kernel_rfl) ?_
  refine ⟨rfl, _, right_q x a c hx _ h, ?_⟩
  cases hr : rightB x
  · exact ifB_true (fail_d (by simp [aFreeze, hr]))
  refine ifB_false (ifB_intro (fun h1 => fail_d ?_) (fun h1 => ifB_intro (fun h2 => fail_d ?_) (fun h2 N hN => ?_)))
  · simp at h1; simp [aFreeze, hr]; omega
  · simp at h2; simp [aFreeze, hr]; omega
  · refine (copied_q x a c (by have := right_len hr; omega) h0 _ (h.sz hN)).mono fun v m' hag ⟨a', c', hv, hr'⟩ => ⟨_, _, _, _, _, _, _, _, _, _, _, _, hv, ?_⟩
    have hnb : ¬ (n < 1 ∨ 4611686018427387904 < n) := by simp at h1 h2; omega
    refine ifB_intro (fun h3 => ok_d (z := { x with round := n }) ?_ hr' hN) (fun h3 => ok_d (z := x) ?_ hr' hN)
    · simp at h3; simp [aFreeze, hr, hnb, h3]
    · simp at h3; simp [aFreeze, hr, hnb, h3]

theorem athaw_s (x : Ac) (a : Option Addr) (c : Nat) (hx : x.wf) (h0 : a = none → x.hs = []) (m : M) (h : Row m a (hds x.hs)) : Vc.Spec Try.prog 36 [acv x a c] m (AcR m (aThaw x)) := by
  refine Vc.Spec.of_vc Try.func36 (ann := noAnn) ?_
  refine vc_by (X :=
      true = true ∧
      ∃ (b : Bool),
      QSpec Try.prog (72 : Nat)
      [Value.agg
      #[Value.string x.key, Value.int IntKind.i64 x.lo, Value.int IntKind.i64 x.hi, Value.int IntKind.i64 x.base, Value.int IntKind.i64 x.round, Value.slice a x.hs.length c,
      Value.int IntKind.i64 x.lk.cl, Value.int IntKind.i64 x.lk.sq, Value.int IntKind.i64 x.lk.hm, Value.int IntKind.i64 x.lk.n]]
      m (Value.bool b) ∧
      ifB (!b)
      (Done
      (AcR m (aThaw x)
      (Value.tuple
      #[Value.agg
      #[Value.string { data := #[] : ByteArray }, Value.int IntKind.i64 (0 : Int), Value.int IntKind.i64 (0 : Int), Value.int IntKind.i64 (0 : Int),
      Value.int IntKind.i64 (0 : Int), Value.slice none (0 : Nat) (0 : Nat), Value.int IntKind.i64 (0 : Int), Value.int IntKind.i64 (0 : Int),
      Value.int IntKind.i64 (0 : Int), Value.int IntKind.i64 (0 : Int)],
      Value.int IntKind.i64 (21 : Int)])
      m))
      (∀ (n : Nat),
      m.sz ≤ n →
      Vc.Spec Try.prog (73 : Nat)
      [Value.agg
      #[Value.string x.key, Value.int IntKind.i64 x.lo, Value.int IntKind.i64 x.hi, Value.int IntKind.i64 x.base, Value.int IntKind.i64 x.round,
      Value.slice a x.hs.length c, Value.int IntKind.i64 x.lk.cl, Value.int IntKind.i64 x.lk.sq, Value.int IntKind.i64 x.lk.hm, Value.int IntKind.i64 x.lk.n]]
      { π := m.π, sz := n, uf := m.uf : M } fun (v : Value) (m' : M) =>
      ∃ (s : ByteArray),
      ∃ (n : Int),
      ∃ (n_1 : Int),
      ∃ (n_2 : Int),
      ∃ (n_3 : Int),
      ∃ (a : Option Addr),
      ∃ (n_4 : Nat),
      ∃ (c : Nat),
      ∃ (n_5 : Int),
      ∃ (n_6 : Int),
      ∃ (n_7 : Int),
      ∃ (n_8 : Int),
      v =
      Value.agg
      #[Value.string s, Value.int IntKind.i64 n, Value.int IntKind.i64 n_1, Value.int IntKind.i64 n_2, Value.int IntKind.i64 n_3,
      Value.slice a n_4 c, Value.int IntKind.i64 n_5, Value.int IntKind.i64 n_6, Value.int IntKind.i64 n_7, Value.int IntKind.i64 n_8] ∧
      Done
      (AcR m (aThaw x)
      (Value.tuple
      #[Value.agg
      #[Value.string s, Value.int IntKind.i64 n, Value.int IntKind.i64 n_1, Value.int IntKind.i64 n_2, Value.int IntKind.i64 (0 : Int),
      Value.slice a n_4 c, Value.int IntKind.i64 n_5, Value.int IntKind.i64 n_6, Value.int IntKind.i64 n_7,
      Value.int IntKind.i64 n_8],
      Value.int IntKind.i64 (0 : Int)])
      m'))) (by kernel_rfl) ?_
  refine ⟨rfl, _, right_q x a c hx _ h, ?_⟩
  cases hr : rightB x
  · exact ifB_true (fail_d (by simp [aThaw, hr]))
  refine ifB_false (fun N hN => ?_)
  refine (copied_q x a c (by have := right_len hr; omega) h0 _ (h.sz hN)).mono fun v m' hag ⟨a', c', hv, hr'⟩ => ⟨_, _, _, _, _, _, _, _, _, _, _, _, hv, ?_⟩
  exact ok_d (z := { x with round := 0 }) (by simp [aThaw, hr]) hr' hN

theorem known_right {x : Ac} (h : knownE x = 0) : rightB x = true := by
  cases hr : rightB x
  · simp [knownE, hr] at h
  · rfl

theorem lock_in {x : Ac} (hx : x.wf) (hr : rightB x = true) (h : x.lk.cl ≠ 0) : In64 (x.base + x.lk.n) := by
  have hl := ((right_iff x).1 hr).lock
  simp [lockB, h, fitsB, hasB] at hl
  have h1 := hx.lo
  have h2 := hx.hi
  unfold In64 at *
  omega

theorem known_q (x : Ac) (a : Option Addr) (c : Nat) (hx : x.wf) (m : M) (h : Row m a (hds x.hs)) : QSpec Try.prog 108 [acv x a c] m (I (knownE x)) := by
  refine QSpec.of_vc Try.func108 (ann := fun _ => noAnn) fun n hn => ?_
  refine vc_by (X :=
      true = true ∧
      ∃ (b : Bool),
      QSpec Try.prog (72 : Nat)
      [Value.agg
      #[Value.string x.key, Value.int IntKind.i64 x.lo, Value.int IntKind.i64 x.hi, Value.int IntKind.i64 x.base, Value.int IntKind.i64 x.round, Value.slice a x.hs.length c,
      Value.int IntKind.i64 x.lk.cl, Value.int IntKind.i64 x.lk.sq, Value.int IntKind.i64 x.lk.hm, Value.int IntKind.i64 x.lk.n]]
      { π := m.π, sz := n, uf := m.uf : M } (Value.bool b) ∧
      ifB (!b) (Done (Value.int IntKind.i64 (21 : Int) = Value.int IntKind.i64 (knownE x)))
      (∃ (n_1 : Int),
      ∃ (b : Bool),
      QSpec Try.prog (113 : Nat)
      [Value.agg
      #[Value.string x.key, Value.int IntKind.i64 x.lo, Value.int IntKind.i64 x.hi, Value.int IntKind.i64 x.base, Value.int IntKind.i64 x.round,
      Value.slice a x.hs.length c, Value.int IntKind.i64 x.lk.cl, Value.int IntKind.i64 x.lk.sq, Value.int IntKind.i64 x.lk.hm, Value.int IntKind.i64 x.lk.n]]
      { π := m.π, sz := n, uf := m.uf : M } (Value.tuple #[Value.int IntKind.i64 n_1, Value.bool b]) ∧
      ifB (!b) (Done (Value.int IntKind.i64 (152 : Int) = Value.int IntKind.i64 (knownE x))) (Done (Value.int IntKind.i64 (0 : Int) = Value.int IntKind.i64 (knownE x))))) (by kernel_rfl) ?_
  refine ⟨rfl, _, right_q x a c hx _ (h.sz hn), ?_⟩
  cases hr : rightB x
  · exact ifB_true ⟨by simp [knownE, hr]⟩
  refine ifB_false ⟨_, _, total_q x a c hx _ (h.sz hn), ifB_intro (fun h1 => ⟨?_⟩) (fun h1 => ⟨?_⟩)⟩
  · simp at h1; simp [knownE, hr, h1]
  · simp at h1; simp [knownE, hr, h1]

theorem abounds_s (x : Ac) (a : Option Addr) (c : Nat) (lo hi : Int) (hx : x.wf) (h0 : a = none → x.hs = []) (m : M) (h : Row m a (hds x.hs)) : Vc.Spec Try.prog 94 [acv x a c, sp lo hi] m (AcR m (aBounds x lo hi)) := by
  refine Vc.Spec.of_vc Try.func94 (ann := noAnn) ?_
  refine vc_by (X :=
      true = true ∧
      ∃ (n : Int),
      QSpec Try.prog (108 : Nat)
      [Value.agg
      #[Value.string x.key, Value.int IntKind.i64 x.lo, Value.int IntKind.i64 x.hi, Value.int IntKind.i64 x.base, Value.int IntKind.i64 x.round, Value.slice a x.hs.length c,
      Value.int IntKind.i64 x.lk.cl, Value.int IntKind.i64 x.lk.sq, Value.int IntKind.i64 x.lk.hm, Value.int IntKind.i64 x.lk.n]]
      m (Value.int IntKind.i64 n) ∧
      ifB (n != (0 : Int))
      (Done
      (AcR m (aBounds x lo hi)
      (Value.tuple
      #[Value.agg
      #[Value.string { data := #[] : ByteArray }, Value.int IntKind.i64 (0 : Int), Value.int IntKind.i64 (0 : Int), Value.int IntKind.i64 (0 : Int),
      Value.int IntKind.i64 (0 : Int), Value.slice none (0 : Nat) (0 : Nat), Value.int IntKind.i64 (0 : Int), Value.int IntKind.i64 (0 : Int),
      Value.int IntKind.i64 (0 : Int), Value.int IntKind.i64 (0 : Int)],
      Value.int IntKind.i64 n])
      m))
      (∃ (b : Bool),
      QSpec Try.prog (86 : Nat) [Value.agg #[Value.int IntKind.i64 lo, Value.int IntKind.i64 hi], Value.int IntKind.i64 x.base] m (Value.bool b) ∧
      ifB (!b)
      (Done
      (AcR m (aBounds x lo hi)
      (Value.tuple
      #[Value.agg
      #[Value.string { data := #[] : ByteArray }, Value.int IntKind.i64 (0 : Int), Value.int IntKind.i64 (0 : Int), Value.int IntKind.i64 (0 : Int),
      Value.int IntKind.i64 (0 : Int), Value.slice none (0 : Nat) (0 : Nat), Value.int IntKind.i64 (0 : Int), Value.int IntKind.i64 (0 : Int),
      Value.int IntKind.i64 (0 : Int), Value.int IntKind.i64 (0 : Int)],
      Value.int IntKind.i64 (150 : Int)])
      m))
      (∀ (n : Nat),
      m.sz ≤ n →
      Vc.Spec Try.prog (73 : Nat)
      [Value.agg
      #[Value.string x.key, Value.int IntKind.i64 x.lo, Value.int IntKind.i64 x.hi, Value.int IntKind.i64 x.base, Value.int IntKind.i64 x.round,
      Value.slice a x.hs.length c, Value.int IntKind.i64 x.lk.cl, Value.int IntKind.i64 x.lk.sq, Value.int IntKind.i64 x.lk.hm, Value.int IntKind.i64 x.lk.n]]
      { π := m.π, sz := n, uf := m.uf : M } fun (v : Value) (m' : M) =>
      ∃ (s : ByteArray),
      ∃ (n : Int),
      ∃ (n_1 : Int),
      ∃ (n_2 : Int),
      ∃ (n_3 : Int),
      ∃ (a : Option Addr),
      ∃ (n_4 : Nat),
      ∃ (c : Nat),
      ∃ (n_5 : Int),
      ∃ (n_6 : Int),
      ∃ (n_7 : Int),
      ∃ (n_8 : Int),
      v =
      Value.agg
      #[Value.string s, Value.int IntKind.i64 n, Value.int IntKind.i64 n_1, Value.int IntKind.i64 n_2, Value.int IntKind.i64 n_3,
      Value.slice a n_4 c, Value.int IntKind.i64 n_5, Value.int IntKind.i64 n_6, Value.int IntKind.i64 n_7,
      Value.int IntKind.i64 n_8] ∧
      Done
      (AcR m (aBounds x lo hi)
      (Value.tuple
      #[Value.agg
      #[Value.string s, Value.int IntKind.i64 lo, Value.int IntKind.i64 hi, Value.int IntKind.i64 n_2, Value.int IntKind.i64 n_3,
      Value.slice a n_4 c, Value.int IntKind.i64 n_5, Value.int IntKind.i64 n_6, Value.int IntKind.i64 n_7,
      Value.int IntKind.i64 n_8],
      Value.int IntKind.i64 (0 : Int)])
      m')))) (by kernel_rfl) ?_
  refine ⟨rfl, _, known_q x a c hx _ h, ifB_intro (fun h1 => fail_d ?_) (fun h1 => ⟨_, has_q _ _ _ _, ifB_intro (fun h2 => fail_d ?_) (fun h2 N hN => ?_)⟩)⟩
  · simp at h1; simp [aBounds, h1]
  · simp at h1 h2; simp [aBounds, h1, h2]
  · have h1 : knownE x = 0 := by simpa using h1
    have h2 : hasB lo hi x.base = true := by simpa using h2
    have hr := known_right h1
    refine (copied_q x a c (by have := right_len hr; omega) h0 _ (h.sz hN)).mono fun v m' hag ⟨a', c', hv, hr'⟩ => ⟨_, _, _, _, _, _, _, _, _, _, _, _, hv, ?_⟩
    exact ok_d (z := { x with lo := lo, hi := hi }) (by simp [aBounds, h1, h2]) hr' hN

theorem atake_s (x : Ac) (a : Option Addr) (c : Nat) (k : Lk) (hx : x.wf) (hk : k.wf) (h0 : a = none → x.hs = []) (m : M) (h : Row m a (hds x.hs)) : Vc.Spec Try.prog 95 [acv x a c, .agg #[I k.cl, I k.sq, I k.hm, I k.n]] m (AcR m (aTake x k)) := by
  refine Vc.Spec.of_vc Try.func95 (ann := noAnn) ?_
  refine vc_by (X :=
      true = true ∧
      ∃ (b : Bool),
      QSpec Try.prog (72 : Nat)
      [Value.agg
      #[Value.string x.key, Value.int IntKind.i64 x.lo, Value.int IntKind.i64 x.hi, Value.int IntKind.i64 x.base, Value.int IntKind.i64 x.round, Value.slice a x.hs.length c,
      Value.int IntKind.i64 x.lk.cl, Value.int IntKind.i64 x.lk.sq, Value.int IntKind.i64 x.lk.hm, Value.int IntKind.i64 x.lk.n]]
      m (Value.bool b) ∧
      ifB (!b)
      (Done
      (AcR m (aTake x k)
      (Value.tuple
      #[Value.agg
      #[Value.string { data := #[] : ByteArray }, Value.int IntKind.i64 (0 : Int), Value.int IntKind.i64 (0 : Int), Value.int IntKind.i64 (0 : Int),
      Value.int IntKind.i64 (0 : Int), Value.slice none (0 : Nat) (0 : Nat), Value.int IntKind.i64 (0 : Int), Value.int IntKind.i64 (0 : Int),
      Value.int IntKind.i64 (0 : Int), Value.int IntKind.i64 (0 : Int)],
      Value.int IntKind.i64 (21 : Int)])
      m))
      (∃ (b : Bool),
      QSpec Try.prog (89 : Nat) [Value.agg #[Value.int IntKind.i64 k.cl, Value.int IntKind.i64 k.sq, Value.int IntKind.i64 k.hm, Value.int IntKind.i64 k.n]] m (Value.bool b) ∧
      ifB (!b)
      (Done
      (AcR m (aTake x k)
      (Value.tuple
      #[Value.agg
      #[Value.string { data := #[] : ByteArray }, Value.int IntKind.i64 (0 : Int), Value.int IntKind.i64 (0 : Int), Value.int IntKind.i64 (0 : Int),
      Value.int IntKind.i64 (0 : Int), Value.slice none (0 : Nat) (0 : Nat), Value.int IntKind.i64 (0 : Int), Value.int IntKind.i64 (0 : Int),
      Value.int IntKind.i64 (0 : Int), Value.int IntKind.i64 (0 : Int)],
      Value.int IntKind.i64 (1 : Int)])
      m))
      (∃ (n : Int),
      QSpec Try.prog (108 : Nat)
      [Value.agg
      #[Value.string x.key, Value.int IntKind.i64 x.lo, Value.int IntKind.i64 x.hi, Value.int IntKind.i64 x.base, Value.int IntKind.i64 x.round,
      Value.slice a x.hs.length c, Value.int IntKind.i64 x.lk.cl, Value.int IntKind.i64 x.lk.sq, Value.int IntKind.i64 x.lk.hm, Value.int IntKind.i64 x.lk.n]]
      m (Value.int IntKind.i64 n) ∧
      ifB (n != (0 : Int))
      (Done
      (AcR m (aTake x k)
      (Value.tuple
      #[Value.agg
      #[Value.string { data := #[] : ByteArray }, Value.int IntKind.i64 (0 : Int), Value.int IntKind.i64 (0 : Int), Value.int IntKind.i64 (0 : Int),
      Value.int IntKind.i64 (0 : Int), Value.slice none (0 : Nat) (0 : Nat), Value.int IntKind.i64 (0 : Int), Value.int IntKind.i64 (0 : Int),
      Value.int IntKind.i64 (0 : Int), Value.int IntKind.i64 (0 : Int)],
      Value.int IntKind.i64 n])
      m))
      (∃ (b : Bool),
      QSpec Try.prog (90 : Nat)
      [Value.agg
      #[Value.string x.key, Value.int IntKind.i64 x.lo, Value.int IntKind.i64 x.hi, Value.int IntKind.i64 x.base, Value.int IntKind.i64 x.round,
      Value.slice a x.hs.length c, Value.int IntKind.i64 x.lk.cl, Value.int IntKind.i64 x.lk.sq, Value.int IntKind.i64 x.lk.hm,
      Value.int IntKind.i64 x.lk.n],
      Value.agg #[Value.int IntKind.i64 k.cl, Value.int IntKind.i64 k.sq, Value.int IntKind.i64 k.hm, Value.int IntKind.i64 k.n]]
      m (Value.bool b) ∧
      ifB (!b)
      (Done
      (AcR m (aTake x k)
      (Value.tuple
      #[Value.agg
      #[Value.string { data := #[] : ByteArray }, Value.int IntKind.i64 (0 : Int), Value.int IntKind.i64 (0 : Int), Value.int IntKind.i64 (0 : Int),
      Value.int IntKind.i64 (0 : Int), Value.slice none (0 : Nat) (0 : Nat), Value.int IntKind.i64 (0 : Int), Value.int IntKind.i64 (0 : Int),
      Value.int IntKind.i64 (0 : Int), Value.int IntKind.i64 (0 : Int)],
      Value.int IntKind.i64 (150 : Int)])
      m))
      (∀ (n : Nat),
      m.sz ≤ n →
      Vc.Spec Try.prog (73 : Nat)
      [Value.agg
      #[Value.string x.key, Value.int IntKind.i64 x.lo, Value.int IntKind.i64 x.hi, Value.int IntKind.i64 x.base, Value.int IntKind.i64 x.round,
      Value.slice a x.hs.length c, Value.int IntKind.i64 x.lk.cl, Value.int IntKind.i64 x.lk.sq, Value.int IntKind.i64 x.lk.hm,
      Value.int IntKind.i64 x.lk.n]]
      { π := m.π, sz := n, uf := m.uf : M } fun (v : Value) (m' : M) =>
      ∃ (s : ByteArray),
      ∃ (n : Int),
      ∃ (n_1 : Int),
      ∃ (n_2 : Int),
      ∃ (n_3 : Int),
      ∃ (a : Option Addr),
      ∃ (n_4 : Nat),
      ∃ (c : Nat),
      ∃ (n_5 : Int),
      ∃ (n_6 : Int),
      ∃ (n_7 : Int),
      ∃ (n_8 : Int),
      v =
      Value.agg
      #[Value.string s, Value.int IntKind.i64 n, Value.int IntKind.i64 n_1, Value.int IntKind.i64 n_2,
      Value.int IntKind.i64 n_3, Value.slice a n_4 c, Value.int IntKind.i64 n_5, Value.int IntKind.i64 n_6,
      Value.int IntKind.i64 n_7, Value.int IntKind.i64 n_8] ∧
      Done
      (AcR m (aTake x k)
      (Value.tuple
      #[Value.agg
      #[Value.string s, Value.int IntKind.i64 n, Value.int IntKind.i64 n_1, Value.int IntKind.i64 n_2,
      Value.int IntKind.i64 n_3, Value.slice a n_4 c, Value.int IntKind.i64 k.cl, Value.int IntKind.i64 k.sq,
      Value.int IntKind.i64 k.hm, Value.int IntKind.i64 k.n],
      Value.int IntKind.i64 (0 : Int)])
      m')))))) (by kernel_rfl) ?_
  refine ⟨rfl, _, right_q x a c hx _ h, ?_⟩
  cases hr : rightB x
  · exact ifB_true (fail_d (by simp [aTake, hr]))
  refine ifB_false ⟨_, keeper_q k _, ifB_intro (fun h1 => fail_d ?_) (fun h1 => ⟨_, known_q x a c hx _ h, ifB_intro (fun h2 => fail_d ?_) (fun h2 => ⟨_, fits_q x a c k hx hk _, ifB_intro (fun h3 => fail_d ?_) (fun h3 N hN => ?_)⟩)⟩)⟩
  · simp at h1; simp [aTake, hr, h1]
  · simp at h1 h2; simp [aTake, hr, h1, h2]
  · simp at h1 h2 h3; simp [aTake, hr, h1, h2, h3]
  · simp at h1 h2 h3
    refine (copied_q x a c (by have := right_len hr; omega) h0 _ (h.sz hN)).mono fun v m' hag ⟨a', c', hv, hr'⟩ => ⟨_, _, _, _, _, _, _, _, _, _, _, _, hv, ?_⟩
    exact ok_d (z := { x with lk := k }) (by simp [aTake, hr, h1, h2, h3]) hr' hN

theorem afree_s (x : Ac) (a : Option Addr) (c : Nat) (b : Bool) (hx : x.wf) (h0 : a = none → x.hs = []) (m : M) (h : Row m a (hds x.hs)) : Vc.Spec Try.prog 96 [acv x a c, .bool b] m (AcR m (aFree x b)) := by
  refine Vc.Spec.of_vc Try.func96 (ann := noAnn) ?_
  refine vc_by (X :=
      true = true ∧
      ∃ (b_1 : Bool),
      QSpec Try.prog (72 : Nat)
      [Value.agg
      #[Value.string x.key, Value.int IntKind.i64 x.lo, Value.int IntKind.i64 x.hi, Value.int IntKind.i64 x.base, Value.int IntKind.i64 x.round, Value.slice a x.hs.length c,
      Value.int IntKind.i64 x.lk.cl, Value.int IntKind.i64 x.lk.sq, Value.int IntKind.i64 x.lk.hm, Value.int IntKind.i64 x.lk.n]]
      m (Value.bool b_1) ∧
      ifB (!b_1)
      (Done
      (AcR m (aFree x b)
      (Value.tuple
      #[Value.agg
      #[Value.string { data := #[] : ByteArray }, Value.int IntKind.i64 (0 : Int), Value.int IntKind.i64 (0 : Int), Value.int IntKind.i64 (0 : Int),
      Value.int IntKind.i64 (0 : Int), Value.slice none (0 : Nat) (0 : Nat), Value.int IntKind.i64 (0 : Int), Value.int IntKind.i64 (0 : Int),
      Value.int IntKind.i64 (0 : Int), Value.int IntKind.i64 (0 : Int)],
      Value.int IntKind.i64 (21 : Int)])
      m))
      (∃ (b_2 : Bool),
      QSpec Try.prog (100 : Nat)
      [Value.agg
      #[Value.string x.key, Value.int IntKind.i64 x.lo, Value.int IntKind.i64 x.hi, Value.int IntKind.i64 x.base, Value.int IntKind.i64 x.round,
      Value.slice a x.hs.length c, Value.int IntKind.i64 x.lk.cl, Value.int IntKind.i64 x.lk.sq, Value.int IntKind.i64 x.lk.hm, Value.int IntKind.i64 x.lk.n]]
      m (Value.bool b_2) ∧
      ifB (!b_2)
      (Done
      (AcR m (aFree x b)
      (Value.tuple
      #[Value.agg
      #[Value.string { data := #[] : ByteArray }, Value.int IntKind.i64 (0 : Int), Value.int IntKind.i64 (0 : Int), Value.int IntKind.i64 (0 : Int),
      Value.int IntKind.i64 (0 : Int), Value.slice none (0 : Nat) (0 : Nat), Value.int IntKind.i64 (0 : Int), Value.int IntKind.i64 (0 : Int),
      Value.int IntKind.i64 (0 : Int), Value.int IntKind.i64 (0 : Int)],
      Value.int IntKind.i64 (60 : Int)])
      m))
      (∀ (n : Nat),
      m.sz ≤ n →
      Vc.Spec Try.prog (73 : Nat)
      [Value.agg
      #[Value.string x.key, Value.int IntKind.i64 x.lo, Value.int IntKind.i64 x.hi, Value.int IntKind.i64 x.base, Value.int IntKind.i64 x.round,
      Value.slice a x.hs.length c, Value.int IntKind.i64 x.lk.cl, Value.int IntKind.i64 x.lk.sq, Value.int IntKind.i64 x.lk.hm, Value.int IntKind.i64 x.lk.n]]
      { π := m.π, sz := n, uf := m.uf : M } fun (v : Value) (m' : M) =>
      ∃ (s : ByteArray),
      ∃ (n : Int),
      ∃ (n_1 : Int),
      ∃ (n_2 : Int),
      ∃ (n_3 : Int),
      ∃ (a : Option Addr),
      ∃ (n_4 : Nat),
      ∃ (c : Nat),
      ∃ (n_5 : Int),
      ∃ (n_6 : Int),
      ∃ (n_7 : Int),
      ∃ (n_8 : Int),
      v =
      Value.agg
      #[Value.string s, Value.int IntKind.i64 n, Value.int IntKind.i64 n_1, Value.int IntKind.i64 n_2, Value.int IntKind.i64 n_3,
      Value.slice a n_4 c, Value.int IntKind.i64 n_5, Value.int IntKind.i64 n_6, Value.int IntKind.i64 n_7,
      Value.int IntKind.i64 n_8] ∧
      ifB b
      (Done
      (AcR m (aFree x b)
      (Value.tuple
      #[Value.agg
      #[Value.string s, Value.int IntKind.i64 n, Value.int IntKind.i64 n_1,
      Value.int IntKind.i64 (IntKind.i64.wrap (n_2 + n_8)), Value.int IntKind.i64 n_3, Value.slice a n_4 c,
      Value.int IntKind.i64 (0 : Int), Value.int IntKind.i64 (0 : Int), Value.int IntKind.i64 (0 : Int),
      Value.int IntKind.i64 (0 : Int)],
      Value.int IntKind.i64 (0 : Int)])
      m'))
      (Done
      (AcR m (aFree x b)
      (Value.tuple
      #[Value.agg
      #[Value.string s, Value.int IntKind.i64 n, Value.int IntKind.i64 n_1, Value.int IntKind.i64 n_2,
      Value.int IntKind.i64 n_3, Value.slice a n_4 c, Value.int IntKind.i64 (0 : Int), Value.int IntKind.i64 (0 : Int),
      Value.int IntKind.i64 (0 : Int), Value.int IntKind.i64 (0 : Int)],
      Value.int IntKind.i64 (0 : Int)])
      m'))))) (by kernel_rfl) ?_
  refine ⟨rfl, _, right_q x a c hx _ h, ?_⟩
  cases hr : rightB x
  · exact ifB_true (fail_d (by simp [aFree, hr]))
  refine ifB_false ⟨_, locked_q x a c _, ifB_intro (fun h1 => fail_d ?_) (fun h1 N hN => ?_)⟩
  · simp at h1; simp [aFree, hr, h1]
  · have h1 : x.lk.cl ≠ 0 := by simpa using h1
    refine (copied_q x a c (by have := right_len hr; omega) h0 _ (h.sz hN)).mono fun v m' hag ⟨a', c', hv, hr'⟩ => ⟨_, _, _, _, _, _, _, _, _, _, _, _, hv, ?_⟩
    refine ifB_intro (fun h2 => ?_) (fun h2 => ok_d (z := { x with lk := lk0 }) ?_ hr' hN)
    · subst h2
      have e : IntKind.i64.wrap (x.base + x.lk.n) = x.base + x.lk.n := by have := lock_in hx hr h1; unfold In64 at this; simp [IntKind.wrap_i64]; omega
      rw [e]
      exact ok_d (z := { x with base := x.base + x.lk.n, lk := lk0 }) (by simp [aFree, hr, h1]) hr' hN
    · subst h2; simp [aFree, hr, h1]

theorem ccopy_q (x : Ac) (a : Option Addr) (c : Nat) (hn : x.hs.length ≤ 1048576) (m : M) (h : Row m a (hds x.hs)) : Vc.Spec Try.prog 23 [acv x a c] m (fun v m' => ∃ a' c', v = acv x a' c' ∧ NewR m.sz (fun _ => False) m' 4 a' x.hs.length c' (hds x.hs)) := by
  refine Vc.Spec.of_vc Try.func23 (ann := noAnn) ?_
  refine vc_by (X :=
      true = true ∧
      ∃ (old : List Value),
      ∃ (src : List Value),
      AppPre m.sz (fun (x : Nat) => False) m (4 : Nat) (32 : Nat) none (0 : Nat) (0 : Nat) a x.hs.length old src ∧
      ∀ (a' : Option Addr) (c' : Nat) (m' : M),
      AppPost Try.prog (67 : Nat) m (4 : Nat) none (0 : Nat) (0 : Nat) x.hs.length old src a' c' m' →
      Done
      (∃ (a'_1 : Option Addr),
      ∃ (c'_1 : Nat),
      Value.agg
      #[Value.string x.key, Value.int IntKind.i64 x.lo, Value.int IntKind.i64 x.hi, Value.int IntKind.i64 x.base, Value.int IntKind.i64 x.round,
      Value.slice a' ((0 : Nat) + x.hs.length) c', Value.int IntKind.i64 x.lk.cl, Value.int IntKind.i64 x.lk.sq, Value.int IntKind.i64 x.lk.hm,
      Value.int IntKind.i64 x.lk.n] =
      Value.agg
      #[Value.string x.key, Value.int IntKind.i64 x.lo, Value.int IntKind.i64 x.hi, Value.int IntKind.i64 x.base, Value.int IntKind.i64 x.round,
      Value.slice a'_1 x.hs.length c'_1, Value.int IntKind.i64 x.lk.cl, Value.int IntKind.i64 x.lk.sq, Value.int IntKind.i64 x.lk.hm,
      Value.int IntKind.i64 x.lk.n] ∧
      NewR m.sz (fun (x : Nat) => False) m' (4 : Nat) a'_1 x.hs.length c'_1 (hds x.hs))) (by kernel_rfl) ?_
  have ho : NewR m.sz (fun _ => False) m 4 none 0 0 [] := .nil _
  refine ⟨rfl, _, _, ho.appPre h (hds_len _) (one_hds _) (by omega), fun a' c' m' hp => ⟨a', c', by simp, ?_⟩⟩
  have := ho.append hp (hds_len _) zr_hd (Nat.le_refl _)
  simpa using this

end Go.Proofs.Ytfkielfnceeedaa
