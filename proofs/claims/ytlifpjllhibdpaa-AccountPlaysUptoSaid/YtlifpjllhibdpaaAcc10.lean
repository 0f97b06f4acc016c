/-
  Contracts of functions of this seat: what each hands back, and what it leaves of memory (acc10). Nothing here is trusted: Lean checks it.
-/
import Derived.Test.YtlifpjllhibdpaaAcc9
set_option linter.unusedVariables false
set_option linter.unusedSimpArgs false
namespace Go.Proofs.Ytlifpjllhibdpaa
open Go.Vc Go.RowKit

theorem sum_shift (l : List Int) (b n : Int) : sumI ((b + n) :: l) = sumI (b :: l) + n := by
  rw [sumI_cons, sumI_cons]; omega

/-- the total changed by n -/
def Ac.by (x : Ac) (n : Int) : Ac := { x with base := x.base + n }

theorem aAdd_ok {x : Ac} {n : Int} (h : (aAdd x n).2 = 0) : rightB x = true ∧ n ≠ 0 ∧ x.lk.cl = 0 ∧ ¬ ((0 < n ∧ roomUp x < n) ∨ (n < 0 ∧ roomDn x < -n)) ∧ aAdd x n = (x.by n, 0) := by
  unfold aAdd at h ⊢
  split at h
  · simp at h
  split at h
  · simp at h
  split at h
  · simp at h
  split at h
  · simp at h
  rename_i h1 h2 h3 h4
  simp at h1 h3
  exact ⟨h1, h2, h3, h4, by simp only [h1, h2, h3, h4, if_false, Ac.by]; simp⟩

theorem aAdd_err {x : Ac} {n : Int} (h : (aAdd x n).2 ≠ 0) : aAdd x n = (ac0, (aAdd x n).2) := by
  unfold aAdd at h ⊢
  repeat' split
  all_goals simp_all

theorem by_right {x : Ac} {n : Int} (hx : x.wf) (hr : rightB x = true) (hl : x.lk.cl = 0) (h : ¬ ((0 < n ∧ roomUp x < n) ∨ (n < 0 ∧ roomDn x < -n))) : rightB (x.by n) = true ∧ (x.by n).wf ∧ roomUp (x.by n) = roomUp x - n ∧ roomDn (x.by n) = roomDn x + n := by
  have hb := room_bounds hx hr hl
  have hp := (right_iff x).1 hr
  have hbd := hp.bounds hx
  have hlo := hx.lo
  have hhi := hx.hi
  have e1 : sumI (upsL (x.by n)) = sumI (upsL x) + n := sum_shift _ _ _
  have e2 : sumI (dnsL (x.by n)) = sumI (dnsL x) + n := sum_shift _ _ _
  have hR : RightP (x.by n) := by
    refine ⟨hp.key, ?_, hp.round, hp.hold, ?_, ?_, ?_⟩
    · show x.lo ≤ x.base + n ∧ x.base + n ≤ x.hi; omega
    · rw [e1]; show _ ≤ x.hi; omega
    · rw [e2]; show x.lo ≤ _; omega
    · have := hp.lock
      simp only [lockB, hl, if_true, Ac.by] at this ⊢
      exact this
  have hR' := (right_iff _).2 hR
  have hl' : (x.by n).lk.cl = 0 := hl
  have hw : (x.by n).wf := ⟨hx.key, hx.lo, hx.hi, by show In64 (x.base + n); unfold In64 at *; omega, hx.round, hx.hs, hx.len, hx.lk⟩
  have hb' := room_bounds hw hR' hl'
  rw [e1, e2] at hb'
  exact ⟨hR', hw, by have h1 : (x.by n).hi = x.hi := rfl; omega, by have h1 : (x.by n).lo = x.lo := rfl; omega⟩

theorem by_back (x : Ac) (n : Int) : (x.by n).by (-n) = x := by
  obtain ⟨_, _, _, b, _, _, _⟩ := x
  simp only [Ac.by, Ac.mk.injEq, true_and, and_true]; omega

theorem newr_none {B c n : Nat} {S : Nat → Prop} {m : M} {l : List Hd} (h : NewR B S m 4 none n c (hds l)) : l = [] := by
  have : hds l = [] := by
    generalize hds l = cs at h
    generalize ha : (none : Option Addr) = a at h
    cases h with
    | nil => rfl
    | own h => cases h with
      | nil => rfl
      | «at» => cases ha
  have := congrArg List.length this
  rw [hds_len] at this
  exact List.eq_nil_of_length_eq_zero (by simp at this; omega)

theorem wrap_in (n : Int) : In64 (IntKind.i64.wrap n) := by
  unfold In64; simp [IntKind.wrap_i64]; omega

theorem accountadds (x : Ac) (a : Option Addr) (c : Nat) (n : Int) (hx : x.wf) (hn : In64 n) (h0 : a = none → x.hs = []) (m : M) (h : Row m a (hds x.hs)) : QSpec Try.prog 4 [acv x a c, I n] m (.bool true) := by
  refine QSpec.of_vc Try.func4 (ann := fun _ => noAnn) fun N hN => ?_
  refine vc_by (X :=
      true = true ∧
      ∃ (b : Bool),
      QSpec Try.prog (21 : Nat) [] { π := m.π, sz := N, uf := m.uf : M } (Value.bool b) ∧
      ifB (!b) (Done (Value.bool false = Value.bool true))
      (∃ (n_1 : Int),
      ∃ (n_2 : Int),
      QSpec Try.prog (15 : Nat)
      [Value.agg
      #[Value.string x.key, Value.int IntKind.i64 x.lo, Value.int IntKind.i64 x.hi, Value.int IntKind.i64 x.base, Value.int IntKind.i64 x.round,
      Value.slice a x.hs.length c, Value.int IntKind.i64 x.lk.cl, Value.int IntKind.i64 x.lk.sq, Value.int IntKind.i64 x.lk.hm, Value.int IntKind.i64 x.lk.n]]
      { π := m.π, sz := N, uf := m.uf : M } (Value.tuple #[Value.int IntKind.u64 n_1, Value.int IntKind.u64 n_2]) ∧
      ∀ (n_3 : Nat),
      N ≤ n_3 →
      Vc.Spec Try.prog (27 : Nat)
      [Value.agg
      #[Value.string x.key, Value.int IntKind.i64 x.lo, Value.int IntKind.i64 x.hi, Value.int IntKind.i64 x.base, Value.int IntKind.i64 x.round,
      Value.slice a x.hs.length c, Value.int IntKind.i64 x.lk.cl, Value.int IntKind.i64 x.lk.sq, Value.int IntKind.i64 x.lk.hm, Value.int IntKind.i64 x.lk.n],
      Value.int IntKind.i64 n]
      { π := m.π, sz := n_3, uf := m.uf : M } fun (v : Value) (m' : M) =>
      ∃ (s : ByteArray),
      ∃ (n_4 : Int),
      ∃ (n_5 : Int),
      ∃ (n_6 : Int),
      ∃ (n_7 : Int),
      ∃ (a_2 : Option Addr),
      ∃ (n_8 : Nat),
      ∃ (c_1 : Nat),
      ∃ (n_9 : Int),
      ∃ (n_10 : Int),
      ∃ (n_11 : Int),
      ∃ (n_12 : Int),
      ∃ (n_13 : Int),
      v =
      Value.tuple
      #[Value.agg
      #[Value.string s, Value.int IntKind.i64 n_4, Value.int IntKind.i64 n_5, Value.int IntKind.i64 n_6,
      Value.int IntKind.i64 n_7, Value.slice a_2 n_8 c_1, Value.int IntKind.i64 n_9, Value.int IntKind.i64 n_10,
      Value.int IntKind.i64 n_11, Value.int IntKind.i64 n_12],
      Value.int IntKind.i64 n_13] ∧
      ifB (n_13 == (0 : Int))
      (∀ (n_14 : Nat),
      m'.sz ≤ n_14 →
      Vc.Spec Try.prog (27 : Nat)
      [Value.agg
      #[Value.string s, Value.int IntKind.i64 n_4, Value.int IntKind.i64 n_5, Value.int IntKind.i64 n_6,
      Value.int IntKind.i64 n_7, Value.slice a_2 n_8 c_1, Value.int IntKind.i64 n_9, Value.int IntKind.i64 n_10,
      Value.int IntKind.i64 n_11, Value.int IntKind.i64 n_12],
      Value.int IntKind.i64 (IntKind.i64.wrap ((0 : Int) - n))]
      { π := m'.π, sz := n_14, uf := m'.uf : M } fun (v : Value) (m' : M) =>
      ∃ (s : ByteArray),
      ∃ (n_15 : Int),
      ∃ (n_16 : Int),
      ∃ (n_17 : Int),
      ∃ (n_18 : Int),
      ∃ (a_4 : Option Addr),
      ∃ (n_19 : Nat),
      ∃ (c_2 : Nat),
      ∃ (n_20 : Int),
      ∃ (n_21 : Int),
      ∃ (n_22 : Int),
      ∃ (n_23 : Int),
      ∃ (n_24 : Int),
      v =
      Value.tuple
      #[Value.agg
      #[Value.string s, Value.int IntKind.i64 n_15, Value.int IntKind.i64 n_16,
      Value.int IntKind.i64 n_17, Value.int IntKind.i64 n_18, Value.slice a_4 n_19 c_2,
      Value.int IntKind.i64 n_20, Value.int IntKind.i64 n_21, Value.int IntKind.i64 n_22,
      Value.int IntKind.i64 n_23],
      Value.int IntKind.i64 n_24] ∧
      ifB (n != IntKind.i64.wrap ((0 : Int) - n))
      (ifB (n_24 == (0 : Int))
      (∃ (b : Bool),
      QSpec Try.prog (23 : Nat)
      [Value.agg
      #[Value.string s, Value.int IntKind.i64 n_15, Value.int IntKind.i64 n_16,
      Value.int IntKind.i64 n_17, Value.int IntKind.i64 n_18,
      Value.slice a_4 n_19 c_2, Value.int IntKind.i64 n_20,
      Value.int IntKind.i64 n_21, Value.int IntKind.i64 n_22,
      Value.int IntKind.i64 n_23],
      Value.agg
      #[Value.string x.key, Value.int IntKind.i64 x.lo, Value.int IntKind.i64 x.hi,
      Value.int IntKind.i64 x.base, Value.int IntKind.i64 x.round,
      Value.slice a x.hs.length c, Value.int IntKind.i64 x.lk.cl,
      Value.int IntKind.i64 x.lk.sq, Value.int IntKind.i64 x.lk.hm,
      Value.int IntKind.i64 x.lk.n]]
      m' (Value.bool b) ∧
      ifB b (Done (Value.bool (IntKind.i64.wrap (n_6 - n) == x.base) = Value.bool true))
      (Done (Value.bool false = Value.bool true)))
      (Done (Value.bool false = Value.bool true)))
      (ifB (n != (0 : Int))
      (Done (Value.bool (IntKind.i64.wrap (n_6 - n) == x.base) = Value.bool true))
      (Done (Value.bool false = Value.bool true))))
      (∃ (n_14 : Int),
      QSpec Try.prog (22 : Nat)
      [Value.agg
      #[Value.string x.key, Value.int IntKind.i64 x.lo, Value.int IntKind.i64 x.hi, Value.int IntKind.i64 x.base,
      Value.int IntKind.i64 x.round, Value.slice a x.hs.length c, Value.int IntKind.i64 x.lk.cl,
      Value.int IntKind.i64 x.lk.sq, Value.int IntKind.i64 x.lk.hm, Value.int IntKind.i64 x.lk.n]]
      m' (Value.int IntKind.i64 n_14) ∧
      ifB (n_14 != (0 : Int))
      (ifB (n_13 == (21 : Int)) (Done (Value.bool true = Value.bool true))
      (ifB (n_13 == (1 : Int)) (Done (Value.bool true = Value.bool true))
      (Done (Value.bool (n_13 == (152 : Int)) = Value.bool true))))
      (ifB (n == (0 : Int))
      (ifB (n_13 == (21 : Int)) (Done (Value.bool true = Value.bool true))
      (ifB (n_13 == (1 : Int)) (Done (Value.bool true = Value.bool true))
      (Done (Value.bool (n_13 == (152 : Int)) = Value.bool true))))
      (ifB (x.lk.cl != (0 : Int))
      (ifB (n_13 == (21 : Int)) (Done (Value.bool true = Value.bool true))
      (ifB (n_13 == (1 : Int)) (Done (Value.bool true = Value.bool true))
      (Done (Value.bool (n_13 == (152 : Int)) = Value.bool true))))
      (ifB (n_13 == (150 : Int))
      (ifB (decide (n > (0 : Int)))
      (ifB (decide (IntKind.u64.wrap n > n_2)) (Done (Value.bool true = Value.bool true))
      (ifB (decide (n < (0 : Int)))
      (Done (Value.bool (decide (IntKind.u64.wrap (IntKind.i64.wrap ((0 : Int) - n)) > n_1)) = Value.bool true))
      (Done (Value.bool false = Value.bool true))))
      (ifB (decide (n < (0 : Int)))
      (Done (Value.bool (decide (IntKind.u64.wrap (IntKind.i64.wrap ((0 : Int) - n)) > n_1)) = Value.bool true))
      (Done (Value.bool false = Value.bool true))))
      (Done (Value.bool false = Value.bool true)))))))) (by kernel_rfl) ?_
  refine ⟨rfl, _, awake_q _, ifB_false ⟨_, _, room_q x a c hx _ (h.sz hN), fun N1 hN1 => (aadd_s x a c n hx hn h0 _ (h.sz (Nat.le_trans hN hN1))).mono fun v m' hag ⟨a', c', hv, hr⟩ => ⟨_, _, _, _, _, _, _, _, _, _, _, _, _, hv, ?_⟩⟩⟩
  by_cases he : (aAdd x n).2 = 0
  · obtain ⟨h1, h2, h3, h4, h5⟩ := aAdd_ok he
    obtain ⟨g1, g2, g3, g4⟩ := by_right hx h1 h3 h4
    rw [h5] at hr ⊢
    refine ifB_true fun N2 hN2 => (aadd_s (x.by n) a' c' (IntKind.i64.wrap (0 - n)) g2 (wrap_in _) (fun e => by subst e; exact newr_none hr) _ (hr.row.sz hN2)).mono fun v2 m2 hag2 ⟨a2, c2, hv2, hr2⟩ => ⟨_, _, _, _, _, _, _, _, _, _, _, _, _, hv2, ?_⟩
    have hrow : Row m2 a (hds x.hs) := ((((h.sz (Nat.le_trans hN hN1)).agree hag).sz hN2).agree hag2)
    have eb : IntKind.i64.wrap ((x.by n).base - n) = x.base := by
      have := hx.base; unfold In64 at this; simp [Ac.by, IntKind.wrap_i64]; omega
    refine ifB_intro (fun h6 => ?_) (fun h6 => ifB_intro (fun h7 => ⟨?_⟩) (fun h7 => ?_))
    · have h6 : n ≠ IntKind.i64.wrap (0 - n) := by simpa using h6
      have e : IntKind.i64.wrap (0 - n) = -n := by
        unfold In64 at hn; simp [IntKind.wrap_i64] at h6 ⊢; omega
      have hb := room_bounds hx h1 h3
      have e2 : aAdd (x.by n) (-n) = (x, 0) := by
        have hnb : ¬ ((0 < -n ∧ roomUp (x.by n) < -n) ∨ (-n < 0 ∧ roomDn (x.by n) < -(-n))) := by omega
        have hb2 := by_back x n
        unfold Ac.by at hb2
        simp only [aAdd, g1, hnb, if_false]
        have hl : (x.by n).lk.cl = 0 := h3
        have hn0 : -n ≠ 0 := by omega
        simp only [hl, hn0, if_false]
        simp [Ac.by]
        obtain ⟨_, _, _, b, _, _, _⟩ := x
        simp; omega
      rw [e, e2] at hr2 ⊢
      refine ifB_true ⟨_, saccount_q x x a2 a c2 c hx hx m2 hr2.row hrow, ?_⟩
      simp only [decide_true]
      exact ifB_true ⟨by simp only [eb]; simp⟩
    · simp only [eb]; simp
    · simp at h7; exact absurd h7 h2
  · have hb : ((aAdd x n).2 == 0) = false := by simpa using he
    rw [hb]
    have hrow : Row m' a (hds x.hs) := (h.sz (Nat.le_trans hN hN1)).agree hag
    refine ifB_false ⟨_, check_q x a c hx _ hrow, ?_⟩
    cases h1 : rightB x
    · have e : (aAdd x n).2 = 21 := by simp [aAdd, h1]
      rw [e]
      exact ifB_true (ifB_true ⟨rfl⟩)
    refine ifB_false (ifB_intro (fun h2 => ?_) (fun h2 => ifB_intro (fun h3 => ?_) (fun h3 => ?_)))
    · have e : (aAdd x n).2 = 1 := by simp at h2; simp [aAdd, h1, h2]
      rw [e]
      exact ifB_false (ifB_true ⟨rfl⟩)
    · have e : (aAdd x n).2 = 152 := by simp at h2 h3; simp [aAdd, h1, h2, h3]
      rw [e]
      exact ifB_false (ifB_false ⟨rfl⟩)
    · simp at h2 h3
      have hnb : (0 < n ∧ roomUp x < n) ∨ (n < 0 ∧ roomDn x < -n) := by
        rcases Classical.em ((0 < n ∧ roomUp x < n) ∨ (n < 0 ∧ roomDn x < -n)) with hh | hh
        · exact hh
        · simp [aAdd, h1, h2, h3, hh] at he
      have e : (aAdd x n).2 = 150 := by simp [aAdd, h1, h2, h3, hnb]
      rw [e]
      refine ifB_true (ifB_intro (fun h4 => ifB_intro (fun h5 => ⟨rfl⟩) (fun h5 => ?_)) (fun h4 => ifB_intro (fun h5 => ⟨?_⟩) (fun h5 => ?_)))
      all_goals
        simp at h4
        unfold In64 at hn
      · simp [IntKind.wrap_u64] at h5; omega
      · have : n < 0 := by omega
        simp [IntKind.wrap_u64, IntKind.wrap_i64]; omega
      · simp at h5; omega

end Go.Proofs.Ytlifpjllhibdpaa
