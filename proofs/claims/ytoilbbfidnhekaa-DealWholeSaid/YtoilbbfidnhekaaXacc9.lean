/-
  Contracts of functions of this seat: what each hands back, and what it leaves of memory (xacc9). Nothing here is trusted: Lean checks it.
-/
import Derived.Test.YtoilbbfidnhekaaXacc6
set_option linter.unusedVariables false
set_option linter.unusedSimpArgs false
namespace Go.Proofs.Ytoilbbfidnhekaa.Acc
open Go.Vc Go.RowKit

/-- an account and an Errno, handed back: the holders in a block of their own, or none -/
structure AcR (m : M) (y : Ac × Int) (v : Value) (m' : M) : Prop where
  out : ∃ a' c', v = .tuple #[acv y.1 a' c', I y.2] ∧ NewR m.sz (fun _ => False) m' 4 a' y.1.hs.length c' (hds y.1.hs)

def aAdd (x : Ac) (n : Int) : Ac × Int :=
  if rightB x = false then (ac0, 21) else if n = 0 then (ac0, 1) else if x.lk.cl ≠ 0 then (ac0, 152) else
  if (0 < n ∧ roomUp x < n) ∨ (n < 0 ∧ roomDn x < -n) then (ac0, 150) else ({ x with base := x.base + n }, 0)

def aFreeze (x : Ac) (r : Int) : Ac × Int :=
  if rightB x = false then (ac0, 21) else if r < 1 ∨ 4611686018427387904 < r then (ac0, 1) else ({ x with round := if x.round = 0 then r else x.round }, 0)

def aThaw (x : Ac) : Ac × Int := if rightB x = false then (ac0, 21) else ({ x with round := 0 }, 0)

def knownE (x : Ac) : Int := if rightB x = false then 21 else if totB x then 0 else 152

def aBounds (x : Ac) (lo hi : Int) : Ac × Int :=
  if knownE x ≠ 0 then (ac0, knownE x) else if hasB lo hi x.base = false then (ac0, 150) else ({ x with lo := lo, hi := hi }, 0)

def aTake (x : Ac) (k : Lk) : Ac × Int :=
  if rightB x = false then (ac0, 21) else if keeperB k = false then (ac0, 1) else if knownE x ≠ 0 then (ac0, knownE x) else
  if fitsB x k = false then (ac0, 150) else ({ x with lk := k }, 0)

def lk0 : Lk := ⟨0, 0, 0, 0⟩

def aFree (x : Ac) (b : Bool) : Ac × Int :=
  if rightB x = false then (ac0, 21) else if x.lk.cl = 0 then (ac0, 60) else ({ x with base := if b then x.base + x.lk.n else x.base, lk := lk0 }, 0)

theorem fail_d {m m' : M} {y : Ac × Int} {e : Int} (h : y = (ac0, e)) : Done (AcR m y (.tuple #[acv ac0 none 0, I e]) m') := ⟨by subst h; exact ⟨none, 0, rfl, .nil _⟩⟩

theorem ok_d {m m' : M} {y : Ac × Int} {z : Ac} {a' : Option Addr} {c' n : Nat} (h : y = (z, 0)) (hr : NewR n (fun _ => False) m' 4 a' z.hs.length c' (hds z.hs)) (hn : m.sz ≤ n) : Done (AcR m y (.tuple #[acv z a' c', I 0]) m') := ⟨by subst h; exact ⟨a', c', rfl, hr.lower hn⟩⟩

theorem room_bounds {x : Ac} (hx : x.wf) (hr : rightB x = true) (hl : x.lk.cl = 0) : 0 ≤ roomUp x ∧ roomUp x ≤ x.hi - x.base ∧ 0 ≤ roomDn x ∧ roomDn x ≤ x.base - x.lo ∧ roomUp x = x.hi - sumI (upsL x) ∧ roomDn x = sumI (dnsL x) - x.lo := by
  have hp := (right_iff x).1 hr
  have hb := hp.bounds hx
  have h1 := hp.up
  have h2 := hp.dn
  simp [roomUp, roomDn, hr, hl] at *
  omega

theorem right_len {x : Ac} (h : rightB x = true) : x.hs.length ≤ 5 := hold_len ((right_iff x).1 h).hold

theorem known_right {x : Ac} (h : knownE x = 0) : rightB x = true := by
  cases hr : rightB x
  · simp [knownE, hr] at h
  · rfl

theorem lock_in {x : Ac} (hx : x.wf) (hr : rightB x = true) (h : x.lk.cl ≠ 0) : In64 (x.base + x.lk.n) := by
  have hl := ((right_iff x).1 hr).lock
  simp [lockB, h, fitsB, hasB] at hl
  have h1 := hx.lo
  have h2 := hx.hi
  unfold In64 at *
  omega

theorem known_q (x : Ac) (a : Option Addr) (c : Nat) (hx : x.wf) (m : M) (h : Row m a (hds x.hs)) : QSpec Try.prog 69 [acv x a c] m (I (knownE x)) := by
  refine QSpec.of_vc Try.func69 (ann := fun _ => noAnn) fun n hn => ?_
  refine vc_by (X :=
      true = true ∧
      ∃ (b : Bool),
      QSpec Try.prog (67 : Nat)
      [Value.agg
      #[Value.string x.key, Value.int IntKind.i64 x.lo, Value.int IntKind.i64 x.hi, Value.int IntKind.i64 x.base, Value.int IntKind.i64 x.round, Value.slice a x.hs.length c,
      Value.int IntKind.i64 x.lk.cl, Value.int IntKind.i64 x.lk.sq, Value.int IntKind.i64 x.lk.hm, Value.int IntKind.i64 x.lk.n]]
      { π := m.π, sz := n, uf := m.uf : M } (Value.bool b) ∧
      ifB (!b) (Done (Value.int IntKind.i64 (21 : Int) = Value.int IntKind.i64 (knownE x)))
      (∃ (n_1 : Int),
      ∃ (b : Bool),
      QSpec Try.prog (82 : Nat)
      [Value.agg
      #[Value.string x.key, Value.int IntKind.i64 x.lo, Value.int IntKind.i64 x.hi, Value.int IntKind.i64 x.base, Value.int IntKind.i64 x.round,
      Value.slice a x.hs.length c, Value.int IntKind.i64 x.lk.cl, Value.int IntKind.i64 x.lk.sq, Value.int IntKind.i64 x.lk.hm, Value.int IntKind.i64 x.lk.n]]
      { π := m.π, sz := n, uf := m.uf : M } (Value.tuple #[Value.int IntKind.i64 n_1, Value.bool b]) ∧
      ifB (!b) (Done (Value.int IntKind.i64 (152 : Int) = Value.int IntKind.i64 (knownE x))) (Done (Value.int IntKind.i64 (0 : Int) = Value.int IntKind.i64 (knownE x))))) (by kernel_rfl) ?_
  refine ⟨rfl, _, right_q x a c hx _ (h.sz hn), ?_⟩
  cases hr : rightB x
  · exact ifB_true ⟨by simp [knownE, hr]⟩
  refine ifB_false ⟨_, _, total_q x a c hx _ (h.sz hn), ifB_intro (fun h1 => ⟨?_⟩) (fun h1 => ⟨?_⟩)⟩
  · simp at h1; simp [knownE, hr, h1]
  · simp at h1; simp [knownE, hr, h1]

theorem atake_s (x : Ac) (a : Option Addr) (c : Nat) (k : Lk) (hx : x.wf) (hk : k.wf) (h0 : a = none → x.hs = []) (m : M) (h : Row m a (hds x.hs)) : Vc.Spec Try.prog 37 [acv x a c, .agg #[I k.cl, I k.sq, I k.hm, I k.n]] m (AcR m (aTake x k)) := by
  refine Vc.Spec.of_vc Try.func37 (ann := noAnn) ?_
  refine vc_by (X :=
      true = true ∧
      ∃ (b : Bool),
      QSpec Try.prog (67 : Nat)
      [Value.agg
      #[Value.string x.key, Value.int IntKind.i64 x.lo, Value.int IntKind.i64 x.hi, Value.int IntKind.i64 x.base, Value.int IntKind.i64 x.round, Value.slice a x.hs.length c,
      Value.int IntKind.i64 x.lk.cl, Value.int IntKind.i64 x.lk.sq, Value.int IntKind.i64 x.lk.hm, Value.int IntKind.i64 x.lk.n]]
      m (Value.bool b) ∧
      ifB (!b)
      (Done
      (AcR m (aTake x k)
      (Value.tuple
      #[Value.agg
      #[Value.string { data := #[] : ByteArray }, Value.int IntKind.i64 (0 : Int), Value.int IntKind.i64 (0 : Int), Value.int IntKind.i64 (0 : Int),
      Value.int IntKind.i64 (0 : Int), Value.slice none (0 : Nat) (0 : Nat), Value.int IntKind.i64 (0 : Int), Value.int IntKind.i64 (0 : Int),
      Value.int IntKind.i64 (0 : Int), Value.int IntKind.i64 (0 : Int)],
      Value.int IntKind.i64 (21 : Int)])
      m))
      (∃ (b : Bool),
      QSpec Try.prog (68 : Nat) [Value.agg #[Value.int IntKind.i64 k.cl, Value.int IntKind.i64 k.sq, Value.int IntKind.i64 k.hm, Value.int IntKind.i64 k.n]] m (Value.bool b) ∧
      ifB (!b)
      (Done
      (AcR m (aTake x k)
      (Value.tuple
      #[Value.agg
      #[Value.string { data := #[] : ByteArray }, Value.int IntKind.i64 (0 : Int), Value.int IntKind.i64 (0 : Int), Value.int IntKind.i64 (0 : Int),
      Value.int IntKind.i64 (0 : Int), Value.slice none (0 : Nat) (0 : Nat), Value.int IntKind.i64 (0 : Int), Value.int IntKind.i64 (0 : Int),
      Value.int IntKind.i64 (0 : Int), Value.int IntKind.i64 (0 : Int)],
      Value.int IntKind.i64 (1 : Int)])
      m))
      (∃ (n : Int),
      QSpec Try.prog (69 : Nat)
      [Value.agg
      #[Value.string x.key, Value.int IntKind.i64 x.lo, Value.int IntKind.i64 x.hi, Value.int IntKind.i64 x.base, Value.int IntKind.i64 x.round,
      Value.slice a x.hs.length c, Value.int IntKind.i64 x.lk.cl, Value.int IntKind.i64 x.lk.sq, Value.int IntKind.i64 x.lk.hm, Value.int IntKind.i64 x.lk.n]]
      m (Value.int IntKind.i64 n) ∧
      ifB (n != (0 : Int))
      (Done
      (AcR m (aTake x k)
      (Value.tuple
      #[Value.agg
      #[Value.string { data := #[] : ByteArray }, Value.int IntKind.i64 (0 : Int), Value.int IntKind.i64 (0 : Int), Value.int IntKind.i64 (0 : Int),
      Value.int IntKind.i64 (0 : Int), Value.slice none (0 : Nat) (0 : Nat), Value.int IntKind.i64 (0 : Int), Value.int IntKind.i64 (0 : Int),
      Value.int IntKind.i64 (0 : Int), Value.int IntKind.i64 (0 : Int)],
      Value.int IntKind.i64 n])
      m))
      (∃ (b : Bool),
      QSpec Try.prog (70 : Nat)
      [Value.agg
      #[Value.string x.key, Value.int IntKind.i64 x.lo, Value.int IntKind.i64 x.hi, Value.int IntKind.i64 x.base, Value.int IntKind.i64 x.round,
      Value.slice a x.hs.length c, Value.int IntKind.i64 x.lk.cl, Value.int IntKind.i64 x.lk.sq, Value.int IntKind.i64 x.lk.hm,
      Value.int IntKind.i64 x.lk.n],
      Value.agg #[Value.int IntKind.i64 k.cl, Value.int IntKind.i64 k.sq, Value.int IntKind.i64 k.hm, Value.int IntKind.i64 k.n]]
      m (Value.bool b) ∧
      ifB (!b)
      (Done
      (AcR m (aTake x k)
      (Value.tuple
      #[Value.agg
      #[Value.string { data := #[] : ByteArray }, Value.int IntKind.i64 (0 : Int), Value.int IntKind.i64 (0 : Int), Value.int IntKind.i64 (0 : Int),
      Value.int IntKind.i64 (0 : Int), Value.slice none (0 : Nat) (0 : Nat), Value.int IntKind.i64 (0 : Int), Value.int IntKind.i64 (0 : Int),
      Value.int IntKind.i64 (0 : Int), Value.int IntKind.i64 (0 : Int)],
      Value.int IntKind.i64 (150 : Int)])
      m))
      (∀ (n : Nat),
      m.sz ≤ n →
      Vc.Spec Try.prog (71 : Nat)
      [Value.agg
      #[Value.string x.key, Value.int IntKind.i64 x.lo, Value.int IntKind.i64 x.hi, Value.int IntKind.i64 x.base, Value.int IntKind.i64 x.round,
      Value.slice a x.hs.length c, Value.int IntKind.i64 x.lk.cl, Value.int IntKind.i64 x.lk.sq, Value.int IntKind.i64 x.lk.hm,
      Value.int IntKind.i64 x.lk.n]]
      { π := m.π, sz := n, uf := m.uf : M } fun (v : Value) (m' : M) =>
      ∃ (s : ByteArray),
      ∃ (n : Int),
      ∃ (n_1 : Int),
      ∃ (n_2 : Int),
      ∃ (n_3 : Int),
      ∃ (a : Option Addr),
      ∃ (n_4 : Nat),
      ∃ (c : Nat),
      ∃ (n_5 : Int),
      ∃ (n_6 : Int),
      ∃ (n_7 : Int),
      ∃ (n_8 : Int),
      v =
      Value.agg
      #[Value.string s, Value.int IntKind.i64 n, Value.int IntKind.i64 n_1, Value.int IntKind.i64 n_2,
      Value.int IntKind.i64 n_3, Value.slice a n_4 c, Value.int IntKind.i64 n_5, Value.int IntKind.i64 n_6,
      Value.int IntKind.i64 n_7, Value.int IntKind.i64 n_8] ∧
      Done
      (AcR m (aTake x k)
      (Value.tuple
      #[Value.agg
      #[Value.string s, Value.int IntKind.i64 n, Value.int IntKind.i64 n_1, Value.int IntKind.i64 n_2,
      Value.int IntKind.i64 n_3, Value.slice a n_4 c, Value.int IntKind.i64 k.cl, Value.int IntKind.i64 k.sq,
      Value.int IntKind.i64 k.hm, Value.int IntKind.i64 k.n],
      Value.int IntKind.i64 (0 : Int)])
      m')))))) (by kernel_rfl) ?_
  refine ⟨rfl, _, right_q x a c hx _ h, ?_⟩
  cases hr : rightB x
  · exact ifB_true (fail_d (by simp [aTake, hr]))
  refine ifB_false ⟨_, keeper_q k _, ifB_intro (fun h1 => fail_d ?_) (fun h1 => ⟨_, known_q x a c hx _ h, ifB_intro (fun h2 => fail_d ?_) (fun h2 => ⟨_, fits_q x a c k hx hk _, ifB_intro (fun h3 => fail_d ?_) (fun h3 N hN => ?_)⟩)⟩)⟩
  · simp at h1; simp [aTake, hr, h1]
  · simp at h1 h2; simp [aTake, hr, h1, h2]
  · simp at h1 h2 h3; simp [aTake, hr, h1, h2, h3]
  · simp at h1 h2 h3
    refine (copied_q x a c (by have := right_len hr; omega) h0 _ (h.sz hN)).mono fun v m' hag ⟨a', c', hv, hr'⟩ => ⟨_, _, _, _, _, _, _, _, _, _, _, _, hv, ?_⟩
    exact ok_d (z := { x with lk := k }) (by simp [aTake, hr, h1, h2, h3]) hr' hN

theorem afree_s (x : Ac) (a : Option Addr) (c : Nat) (b : Bool) (hx : x.wf) (h0 : a = none → x.hs = []) (m : M) (h : Row m a (hds x.hs)) : Vc.Spec Try.prog 38 [acv x a c, .bool b] m (AcR m (aFree x b)) := by
  refine Vc.Spec.of_vc Try.func38 (ann := noAnn) ?_
  refine vc_by (X :=
      true = true ∧
      ∃ (b_1 : Bool),
      QSpec Try.prog (67 : Nat)
      [Value.agg
      #[Value.string x.key, Value.int IntKind.i64 x.lo, Value.int IntKind.i64 x.hi, Value.int IntKind.i64 x.base, Value.int IntKind.i64 x.round, Value.slice a x.hs.length c,
      Value.int IntKind.i64 x.lk.cl, Value.int IntKind.i64 x.lk.sq, Value.int IntKind.i64 x.lk.hm, Value.int IntKind.i64 x.lk.n]]
      m (Value.bool b_1) ∧
      ifB (!b_1)
      (Done
      (AcR m (aFree x b)
      (Value.tuple
      #[Value.agg
      #[Value.string { data := #[] : ByteArray }, Value.int IntKind.i64 (0 : Int), Value.int IntKind.i64 (0 : Int), Value.int IntKind.i64 (0 : Int),
      Value.int IntKind.i64 (0 : Int), Value.slice none (0 : Nat) (0 : Nat), Value.int IntKind.i64 (0 : Int), Value.int IntKind.i64 (0 : Int),
      Value.int IntKind.i64 (0 : Int), Value.int IntKind.i64 (0 : Int)],
      Value.int IntKind.i64 (21 : Int)])
      m))
      (∃ (b_2 : Bool),
      QSpec Try.prog (72 : Nat)
      [Value.agg
      #[Value.string x.key, Value.int IntKind.i64 x.lo, Value.int IntKind.i64 x.hi, Value.int IntKind.i64 x.base, Value.int IntKind.i64 x.round,
      Value.slice a x.hs.length c, Value.int IntKind.i64 x.lk.cl, Value.int IntKind.i64 x.lk.sq, Value.int IntKind.i64 x.lk.hm, Value.int IntKind.i64 x.lk.n]]
      m (Value.bool b_2) ∧
      ifB (!b_2)
      (Done
      (AcR m (aFree x b)
      (Value.tuple
      #[Value.agg
      #[Value.string { data := #[] : ByteArray }, Value.int IntKind.i64 (0 : Int), Value.int IntKind.i64 (0 : Int), Value.int IntKind.i64 (0 : Int),
      Value.int IntKind.i64 (0 : Int), Value.slice none (0 : Nat) (0 : Nat), Value.int IntKind.i64 (0 : Int), Value.int IntKind.i64 (0 : Int),
      Value.int IntKind.i64 (0 : Int), Value.int IntKind.i64 (0 : Int)],
      Value.int IntKind.i64 (60 : Int)])
      m))
      (∀ (n : Nat),
      m.sz ≤ n →
      Vc.Spec Try.prog (71 : Nat)
      [Value.agg
      #[Value.string x.key, Value.int IntKind.i64 x.lo, Value.int IntKind.i64 x.hi, Value.int IntKind.i64 x.base, Value.int IntKind.i64 x.round,
      Value.slice a x.hs.length c, Value.int IntKind.i64 x.lk.cl, Value.int IntKind.i64 x.lk.sq, Value.int IntKind.i64 x.lk.hm, Value.int IntKind.i64 x.lk.n]]
      { π := m.π, sz := n, uf := m.uf : M } fun (v : Value) (m' : M) =>
      ∃ (s : ByteArray),
      ∃ (n : Int),
      ∃ (n_1 : Int),
      ∃ (n_2 : Int),
      ∃ (n_3 : Int),
      ∃ (a : Option Addr),
      ∃ (n_4 : Nat),
      ∃ (c : Nat),
      ∃ (n_5 : Int),
      ∃ (n_6 : Int),
      ∃ (n_7 : Int),
      ∃ (n_8 : Int),
      v =
      Value.agg
      #[Value.string s, Value.int IntKind.i64 n, Value.int IntKind.i64 n_1, Value.int IntKind.i64 n_2, Value.int IntKind.i64 n_3,
      Value.slice a n_4 c, Value.int IntKind.i64 n_5, Value.int IntKind.i64 n_6, Value.int IntKind.i64 n_7,
      Value.int IntKind.i64 n_8] ∧
      ifB b
      (Done
      (AcR m (aFree x b)
      (Value.tuple
      #[Value.agg
      #[Value.string s, Value.int IntKind.i64 n, Value.int IntKind.i64 n_1,
      Value.int IntKind.i64 (IntKind.i64.wrap (n_2 + n_8)), Value.int IntKind.i64 n_3, Value.slice a n_4 c,
      Value.int IntKind.i64 (0 : Int), Value.int IntKind.i64 (0 : Int), Value.int IntKind.i64 (0 : Int),
      Value.int IntKind.i64 (0 : Int)],
      Value.int IntKind.i64 (0 : Int)])
      m'))
      (Done
      (AcR m (aFree x b)
      (Value.tuple
      #[Value.agg
      #[Value.string s, Value.int IntKind.i64 n, Value.int IntKind.i64 n_1, Value.int IntKind.i64 n_2,
      Value.int IntKind.i64 n_3, Value.slice a n_4 c, Value.int IntKind.i64 (0 : Int), Value.int IntKind.i64 (0 : Int),
      Value.int IntKind.i64 (0 : Int), Value.int IntKind.i64 (0 : Int)],
      Value.int IntKind.i64 (0 : Int)])
      m'))))) (by kernel_rfl) ?_
  refine ⟨rfl, _, right_q x a c hx _ h, ?_⟩
  cases hr : rightB x
  · exact ifB_true (fail_d (by simp [aFree, hr]))
  refine ifB_false ⟨_, locked_q x a c _, ifB_intro (fun h1 => fail_d ?_) (fun h1 N hN => ?_)⟩
  · simp at h1; simp [aFree, hr, h1]
  · have h1 : x.lk.cl ≠ 0 := by simpa using h1
    refine (copied_q x a c (by have := right_len hr; omega) h0 _ (h.sz hN)).mono fun v m' hag ⟨a', c', hv, hr'⟩ => ⟨_, _, _, _, _, _, _, _, _, _, _, _, hv, ?_⟩
    refine ifB_intro (fun h2 => ?_) (fun h2 => ok_d (z := { x with lk := lk0 }) ?_ hr' hN)
    · subst h2
      have e : IntKind.i64.wrap (x.base + x.lk.n) = x.base + x.lk.n := by have := lock_in hx hr h1; unfold In64 at this; simp [IntKind.wrap_i64]; omega
      rw [e]
      exact ok_d (z := { x with base := x.base + x.lk.n, lk := lk0 }) (by simp [aFree, hr, h1]) hr' hN
    · subst h2; simp [aFree, hr, h1]

end Go.Proofs.Ytoilbbfidnhekaa.Acc
