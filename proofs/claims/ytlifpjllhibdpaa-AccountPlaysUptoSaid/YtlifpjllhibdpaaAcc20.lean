/-
  Contracts of functions of this seat: what each hands back, and what it leaves of memory (acc20). Nothing here is trusted: Lean checks it.
-/
import Derived.Test.YtlifpjllhibdpaaAcc19
set_option linter.unusedVariables false
set_option linter.unusedSimpArgs false
namespace Go.Proofs.Ytlifpjllhibdpaa
open Go.Vc Go.RowKit
set_option maxRecDepth 100000

theorem hold_step : ∀ {l : List Hd} {last : Int} (k : Int), holdB last l = true → (l.filter fun z => decide (z.nd ≤ k + 1)) = (l.filter fun z => decide (z.nd ≤ k)) ++ l.filter fun z => decide (z.nd = k + 1)
  | [], _, _, _ => rfl
  | h :: r, last, k, hb => by
    simp only [holdB, Bool.and_eq_true] at hb
    have hm := hold_mem _ _ hb.2
    by_cases h1 : h.nd ≤ k
    · rw [List.filter_cons_of_pos (by simp; omega), List.filter_cons_of_pos (by simpa using h1), List.filter_cons_of_neg (by simp; omega), hold_step k hb.2, List.cons_append]
    · have e1 : (r.filter fun z => decide (z.nd ≤ k)) = [] := List.filter_eq_nil_iff.2 fun z hz => by have := hm z hz; simp; omega
      by_cases h2 : h.nd = k + 1
      · have e2 : (r.filter fun z => decide (z.nd ≤ k + 1)) = [] := List.filter_eq_nil_iff.2 fun z hz => by have := hm z hz; simp; omega
        have e3 : (r.filter fun z => decide (z.nd = k + 1)) = [] := List.filter_eq_nil_iff.2 fun z hz => by have := hm z hz; simp; omega
        rw [List.filter_cons_of_pos (by simp; omega), List.filter_cons_of_neg (by simpa using h1), List.filter_cons_of_pos (by simpa using h2), e1, e2, e3]
        rfl
      · rw [List.filter_cons_of_neg (by simp; omega), List.filter_cons_of_neg (by simpa using h1), List.filter_cons_of_neg (by simpa using h2), hold_step k hb.2]

theorem putH_one (l : List Hd) (h : Hd) (k : Nat) : ((putH l h).filter fun z => decide (z.nd = ((k + 1 : Nat) : Int))) = oneW h k ++ (l.filter fun z => decide (z.nd ≠ h.nd)).filter fun z => decide (z.nd = ((k + 1 : Nat) : Int)) := by
  simp only [putH, List.filter_append, List.filter_cons, List.filter_filter]
  by_cases hk : ((k + 1 : Nat) : Int) = h.nd
  · have e1 : (l.filter fun a => decide (a.nd = ((k + 1 : Nat) : Int)) && decide (a.nd < h.nd)) = [] := List.filter_eq_nil_iff.2 fun z _ => by simp; omega
    have e2 : (l.filter fun a => decide (a.nd = ((k + 1 : Nat) : Int)) && decide (h.nd < a.nd)) = [] := List.filter_eq_nil_iff.2 fun z _ => by simp; omega
    have e3 : (l.filter fun a => decide (a.nd = ((k + 1 : Nat) : Int)) && decide (a.nd ≠ h.nd)) = [] := List.filter_eq_nil_iff.2 fun z _ => by simp; omega
    rw [e1, e2, e3, if_pos (by simpa using hk.symm)]
    unfold oneW
    rw [if_pos hk]; rfl
  · have hw : oneW h k = [] := by unfold oneW; rw [if_neg hk]
    rw [hw, if_neg (by simp; omega), List.nil_append]
    rcases (by omega : ((k + 1 : Nat) : Int) < h.nd ∨ h.nd ≤ ((k + 1 : Nat) : Int)) with hlt | hge
    · have e2 : (l.filter fun a => decide (a.nd = ((k + 1 : Nat) : Int)) && decide (h.nd < a.nd)) = [] := List.filter_eq_nil_iff.2 fun z _ => by simp; omega
      rw [e2, List.append_nil]
      exact List.filter_congr fun z _ => by rw [Bool.eq_iff_iff]; simp; omega
    · have e2 : (l.filter fun a => decide (a.nd = ((k + 1 : Nat) : Int)) && decide (a.nd < h.nd)) = [] := List.filter_eq_nil_iff.2 fun z _ => by simp; omega
      rw [e2, List.nil_append]
      exact List.filter_congr fun z _ => by rw [Bool.eq_iff_iff]; simp; omega

theorem resW_put {l : List Hd} {h : Hd} (hl : holdB 0 l = true) (hh : hdB 0 h = true) : resW (l.filter fun z => decide (z.nd ≠ h.nd)) h 5 = putH l h := by
  have hs := putH_hold hl hh
  have key : ∀ k : Nat, resW (l.filter fun z => decide (z.nd ≠ h.nd)) h k = (putH l h).filter fun z => decide (z.nd ≤ (k : Int)) := fun k => by
    induction k with
    | zero =>
      simp only [resW]
      exact (List.filter_eq_nil_iff.2 fun z hz => by have := hold_mem _ _ hs z hz; simp; omega).symm
    | succ k ih =>
      simp only [resW]
      rw [ih, List.append_assoc, ← putH_one]
      exact (hold_step (k : Int) hs).symm
  rw [key 5]
  exact List.filter_eq_self.2 fun z hz => by have := hold_mem _ _ hs z hz; simp; omega

theorem rgrant_s (x : Ac) (a : Option Addr) (c : Nat) (nd le ns : Int) (hx : x.wf) (hle : In64 le) (m : M) (h : Row m a (hds x.hs)) : Vc.Spec Try.prog 64 [acv x a c, I nd, I le, I ns] m (AcR m (aGrant x nd le ns)) := by
  refine Vc.Spec.of_vc Try.func64 (ann := noAnn) ?_
  refine vc_by (X :=
      true = true ∧
      ∃ (b : Bool),
      QSpec Try.prog (12 : Nat)
      [Value.agg
      #[Value.string x.key, Value.int IntKind.i64 x.lo, Value.int IntKind.i64 x.hi, Value.int IntKind.i64 x.base, Value.int IntKind.i64 x.round, Value.slice a x.hs.length c,
      Value.int IntKind.i64 x.lk.cl, Value.int IntKind.i64 x.lk.sq, Value.int IntKind.i64 x.lk.hm, Value.int IntKind.i64 x.lk.n]]
      m (Value.bool b) ∧
      ifB (!b)
      (Done
      (AcR m (aGrant x nd le ns)
      (Value.tuple
      #[Value.agg
      #[Value.string { data := #[] : ByteArray }, Value.int IntKind.i64 (0 : Int), Value.int IntKind.i64 (0 : Int), Value.int IntKind.i64 (0 : Int),
      Value.int IntKind.i64 (0 : Int), Value.slice none (0 : Nat) (0 : Nat), Value.int IntKind.i64 (0 : Int), Value.int IntKind.i64 (0 : Int),
      Value.int IntKind.i64 (0 : Int), Value.int IntKind.i64 (0 : Int)],
      Value.int IntKind.i64 (21 : Int)])
      m))
      (ifB (decide (ns < (1 : Int)))
      (Done
      (AcR m (aGrant x nd le ns)
      (Value.tuple
      #[Value.agg
      #[Value.string { data := #[] : ByteArray }, Value.int IntKind.i64 (0 : Int), Value.int IntKind.i64 (0 : Int), Value.int IntKind.i64 (0 : Int),
      Value.int IntKind.i64 (0 : Int), Value.slice none (0 : Nat) (0 : Nat), Value.int IntKind.i64 (0 : Int), Value.int IntKind.i64 (0 : Int),
      Value.int IntKind.i64 (0 : Int), Value.int IntKind.i64 (0 : Int)],
      Value.int IntKind.i64 (1 : Int)])
      m))
      (ifB (decide (ns > (5 : Int)))
      (Done
      (AcR m (aGrant x nd le ns)
      (Value.tuple
      #[Value.agg
      #[Value.string { data := #[] : ByteArray }, Value.int IntKind.i64 (0 : Int), Value.int IntKind.i64 (0 : Int), Value.int IntKind.i64 (0 : Int),
      Value.int IntKind.i64 (0 : Int), Value.slice none (0 : Nat) (0 : Nat), Value.int IntKind.i64 (0 : Int), Value.int IntKind.i64 (0 : Int),
      Value.int IntKind.i64 (0 : Int), Value.int IntKind.i64 (0 : Int)],
      Value.int IntKind.i64 (1 : Int)])
      m))
      (ifB (decide (nd < (1 : Int)))
      (Done
      (AcR m (aGrant x nd le ns)
      (Value.tuple
      #[Value.agg
      #[Value.string { data := #[] : ByteArray }, Value.int IntKind.i64 (0 : Int), Value.int IntKind.i64 (0 : Int), Value.int IntKind.i64 (0 : Int),
      Value.int IntKind.i64 (0 : Int), Value.slice none (0 : Nat) (0 : Nat), Value.int IntKind.i64 (0 : Int), Value.int IntKind.i64 (0 : Int),
      Value.int IntKind.i64 (0 : Int), Value.int IntKind.i64 (0 : Int)],
      Value.int IntKind.i64 (1 : Int)])
      m))
      (ifB (decide (nd > ns))
      (Done
      (AcR m (aGrant x nd le ns)
      (Value.tuple
      #[Value.agg
      #[Value.string { data := #[] : ByteArray }, Value.int IntKind.i64 (0 : Int), Value.int IntKind.i64 (0 : Int), Value.int IntKind.i64 (0 : Int),
      Value.int IntKind.i64 (0 : Int), Value.slice none (0 : Nat) (0 : Nat), Value.int IntKind.i64 (0 : Int), Value.int IntKind.i64 (0 : Int),
      Value.int IntKind.i64 (0 : Int), Value.int IntKind.i64 (0 : Int)],
      Value.int IntKind.i64 (1 : Int)])
      m))
      (∃ (b : Bool),
      QSpec Try.prog (79 : Nat) [Value.int IntKind.i64 le] m (Value.bool b) ∧
      ifB (!b)
      (Done
      (AcR m (aGrant x nd le ns)
      (Value.tuple
      #[Value.agg
      #[Value.string { data := #[] : ByteArray }, Value.int IntKind.i64 (0 : Int), Value.int IntKind.i64 (0 : Int), Value.int IntKind.i64 (0 : Int),
      Value.int IntKind.i64 (0 : Int), Value.slice none (0 : Nat) (0 : Nat), Value.int IntKind.i64 (0 : Int), Value.int IntKind.i64 (0 : Int),
      Value.int IntKind.i64 (0 : Int), Value.int IntKind.i64 (0 : Int)],
      Value.int IntKind.i64 (1 : Int)])
      m))
      (ifB (x.round != (0 : Int))
      (Done
      (AcR m (aGrant x nd le ns)
      (Value.tuple
      #[Value.agg
      #[Value.string { data := #[] : ByteArray }, Value.int IntKind.i64 (0 : Int), Value.int IntKind.i64 (0 : Int), Value.int IntKind.i64 (0 : Int),
      Value.int IntKind.i64 (0 : Int), Value.slice none (0 : Nat) (0 : Nat), Value.int IntKind.i64 (0 : Int), Value.int IntKind.i64 (0 : Int),
      Value.int IntKind.i64 (0 : Int), Value.int IntKind.i64 (0 : Int)],
      Value.int IntKind.i64 (152 : Int)])
      m))
      (ifB (x.lk.cl != (0 : Int))
      (Done
      (AcR m (aGrant x nd le ns)
      (Value.tuple
      #[Value.agg
      #[Value.string { data := #[] : ByteArray }, Value.int IntKind.i64 (0 : Int), Value.int IntKind.i64 (0 : Int), Value.int IntKind.i64 (0 : Int),
      Value.int IntKind.i64 (0 : Int), Value.slice none (0 : Nat) (0 : Nat), Value.int IntKind.i64 (0 : Int), Value.int IntKind.i64 (0 : Int),
      Value.int IntKind.i64 (0 : Int), Value.int IntKind.i64 (0 : Int)],
      Value.int IntKind.i64 (152 : Int)])
      m))
      (∃ (n : Int),
      ∃ (n_1 : Int),
      ∃ (n_2 : Int),
      ∃ (n_3 : Int),
      ∃ (b : Bool),
      QSpec Try.prog (20 : Nat)
      [Value.agg
      #[Value.string x.key, Value.int IntKind.i64 x.lo, Value.int IntKind.i64 x.hi, Value.int IntKind.i64 x.base,
      Value.int IntKind.i64 x.round, Value.slice a x.hs.length c, Value.int IntKind.i64 x.lk.cl, Value.int IntKind.i64 x.lk.sq,
      Value.int IntKind.i64 x.lk.hm, Value.int IntKind.i64 x.lk.n],
      Value.int IntKind.i64 nd]
      m
      (Value.tuple
      #[Value.agg #[Value.int IntKind.i64 n, Value.int IntKind.i64 n_1, Value.int IntKind.i64 n_2, Value.int IntKind.i64 n_3], Value.bool b]) ∧
      ifB (!b)
      (∃ (n : Int),
      ∃ (n_4 : Int),
      QSpec Try.prog (16 : Nat)
      [Value.agg
      #[Value.string x.key, Value.int IntKind.i64 x.lo, Value.int IntKind.i64 x.hi, Value.int IntKind.i64 x.base,
      Value.int IntKind.i64 x.round, Value.slice a x.hs.length c, Value.int IntKind.i64 x.lk.cl, Value.int IntKind.i64 x.lk.sq,
      Value.int IntKind.i64 x.lk.hm, Value.int IntKind.i64 x.lk.n]]
      m (Value.tuple #[Value.int IntKind.u64 n, Value.int IntKind.u64 n_4]) ∧
      true = true ∧
      ∃ (n_5 : Int),
      QSpec Try.prog (81 : Nat)
      [Value.int IntKind.u64 n, Value.int IntKind.i64 (IntKind.i64.wrap (ns + (1 : Int))), Value.int IntKind.i64 ns] m
      (Value.int IntKind.u64 n_5) ∧
      ∃ (n : Int),
      QSpec Try.prog (80 : Nat) [Value.int IntKind.i64 (0 : Int), Value.int IntKind.u64 n_5] m (Value.int IntKind.i64 n) ∧
      true = true ∧
      ∃ (n_6 : Int),
      QSpec Try.prog (81 : Nat)
      [Value.int IntKind.u64 n_4, Value.int IntKind.i64 (IntKind.i64.wrap (ns + (1 : Int))), Value.int IntKind.i64 ns] m
      (Value.int IntKind.u64 n_6) ∧
      ∃ (n_7 : Int),
      QSpec Try.prog (80 : Nat) [Value.int IntKind.i64 (0 : Int), Value.int IntKind.u64 n_6] m
      (Value.int IntKind.i64 n_7) ∧
      ∀ (n_8 : Nat),
      m.sz ≤ n_8 →
      Vc.Spec Try.prog (82 : Nat)
      [Value.agg
      #[Value.string x.key, Value.int IntKind.i64 x.lo, Value.int IntKind.i64 x.hi,
      Value.int IntKind.i64 x.base, Value.int IntKind.i64 x.round, Value.slice a x.hs.length c,
      Value.int IntKind.i64 x.lk.cl, Value.int IntKind.i64 x.lk.sq, Value.int IntKind.i64 x.lk.hm,
      Value.int IntKind.i64 x.lk.n],
      Value.agg
      #[Value.int IntKind.i64 nd, Value.int IntKind.i64 le, Value.int IntKind.i64 n_7,
      Value.int IntKind.i64 n]]
      { π := m.π, sz := n_8, uf := m.uf : M } fun (v : Value) (m' : M) =>
      ∃ (s : ByteArray),
      ∃ (n : Int),
      ∃ (n_9 : Int),
      ∃ (n_10 : Int),
      ∃ (n_11 : Int),
      ∃ (a : Option Addr),
      ∃ (n_12 : Nat),
      ∃ (c : Nat),
      ∃ (n_13 : Int),
      ∃ (n_14 : Int),
      ∃ (n_15 : Int),
      ∃ (n_16 : Int),
      v =
      Value.agg
      #[Value.string s, Value.int IntKind.i64 n, Value.int IntKind.i64 n_9,
      Value.int IntKind.i64 n_10, Value.int IntKind.i64 n_11,
      Value.slice a n_12 c, Value.int IntKind.i64 n_13,
      Value.int IntKind.i64 n_14, Value.int IntKind.i64 n_15,
      Value.int IntKind.i64 n_16] ∧
      Done
      (AcR m (aGrant x nd le ns)
      (Value.tuple
      #[Value.agg
      #[Value.string s, Value.int IntKind.i64 n, Value.int IntKind.i64 n_9,
      Value.int IntKind.i64 n_10, Value.int IntKind.i64 n_11,
      Value.slice a n_12 c, Value.int IntKind.i64 n_13,
      Value.int IntKind.i64 n_14, Value.int IntKind.i64 n_15,
      Value.int IntKind.i64 n_16],
      Value.int IntKind.i64 (0 : Int)])
      m'))
      (∃ (n_4 : Int),
      ∃ (n_5 : Int),
      QSpec Try.prog (16 : Nat)
      [Value.agg
      #[Value.string x.key, Value.int IntKind.i64 x.lo, Value.int IntKind.i64 x.hi, Value.int IntKind.i64 x.base,
      Value.int IntKind.i64 x.round, Value.slice a x.hs.length c, Value.int IntKind.i64 x.lk.cl, Value.int IntKind.i64 x.lk.sq,
      Value.int IntKind.i64 x.lk.hm, Value.int IntKind.i64 x.lk.n]]
      m (Value.tuple #[Value.int IntKind.u64 n_4, Value.int IntKind.u64 n_5]) ∧
      true = true ∧
      ∃ (n_6 : Int),
      QSpec Try.prog (81 : Nat)
      [Value.int IntKind.u64 n_4, Value.int IntKind.i64 (IntKind.i64.wrap (ns + (1 : Int))), Value.int IntKind.i64 ns] m
      (Value.int IntKind.u64 n_6) ∧
      ∃ (n_7 : Int),
      QSpec Try.prog (80 : Nat) [Value.int IntKind.i64 n_3, Value.int IntKind.u64 n_6] m (Value.int IntKind.i64 n_7) ∧
      true = true ∧
      ∃ (n_8 : Int),
      QSpec Try.prog (81 : Nat)
      [Value.int IntKind.u64 n_5, Value.int IntKind.i64 (IntKind.i64.wrap (ns + (1 : Int))), Value.int IntKind.i64 ns] m
      (Value.int IntKind.u64 n_8) ∧
      ∃ (n_9 : Int),
      QSpec Try.prog (80 : Nat) [Value.int IntKind.i64 n_2, Value.int IntKind.u64 n_8] m (Value.int IntKind.i64 n_9) ∧
      ∀ (n_10 : Nat),
      m.sz ≤ n_10 →
      Vc.Spec Try.prog (82 : Nat)
      [Value.agg
      #[Value.string x.key, Value.int IntKind.i64 x.lo, Value.int IntKind.i64 x.hi,
      Value.int IntKind.i64 x.base, Value.int IntKind.i64 x.round, Value.slice a x.hs.length c,
      Value.int IntKind.i64 x.lk.cl, Value.int IntKind.i64 x.lk.sq, Value.int IntKind.i64 x.lk.hm,
      Value.int IntKind.i64 x.lk.n],
      Value.agg
      #[Value.int IntKind.i64 n, Value.int IntKind.i64 n_1, Value.int IntKind.i64 n_9,
      Value.int IntKind.i64 n_7]]
      { π := m.π, sz := n_10, uf := m.uf : M } fun (v : Value) (m' : M) =>
      ∃ (s : ByteArray),
      ∃ (n : Int),
      ∃ (n_11 : Int),
      ∃ (n_12 : Int),
      ∃ (n_13 : Int),
      ∃ (a : Option Addr),
      ∃ (n_14 : Nat),
      ∃ (c : Nat),
      ∃ (n_15 : Int),
      ∃ (n_16 : Int),
      ∃ (n_17 : Int),
      ∃ (n_18 : Int),
      v =
      Value.agg
      #[Value.string s, Value.int IntKind.i64 n, Value.int IntKind.i64 n_11,
      Value.int IntKind.i64 n_12, Value.int IntKind.i64 n_13,
      Value.slice a n_14 c, Value.int IntKind.i64 n_15,
      Value.int IntKind.i64 n_16, Value.int IntKind.i64 n_17,
      Value.int IntKind.i64 n_18] ∧
      Done
      (AcR m (aGrant x nd le ns)
      (Value.tuple
      #[Value.agg
      #[Value.string s, Value.int IntKind.i64 n, Value.int IntKind.i64 n_11,
      Value.int IntKind.i64 n_12, Value.int IntKind.i64 n_13,
      Value.slice a n_14 c, Value.int IntKind.i64 n_15,
      Value.int IntKind.i64 n_16, Value.int IntKind.i64 n_17,
      Value.int IntKind.i64 n_18],
      Value.int IntKind.i64 (0 : Int)])
      m'))))))))))) (by kernel_rfl) ?_
  refine ⟨rfl, _, rright_q x a c hx _ h, ?_⟩
  cases hr : rightB x
  · exact ifB_true (fail_d (by simp [aGrant, hr]))
  refine ifB_false (ifB_intro (fun h1 => fail_d ?_) (fun h1 => ifB_intro (fun h2 => fail_d ?_) (fun h2 => ifB_intro (fun h3 => fail_d ?_) (fun h3 => ifB_intro (fun h4 => fail_d ?_) (fun h4 => ⟨_, rnumber_q le _, ifB_intro (fun h5 => fail_d ?_) (fun h5 => ifB_intro (fun h7 => fail_d ?_) (fun h7 => ifB_intro (fun h8 => fail_d ?_) (fun h8 => ?_)))⟩)))))
  · simp at h1; simp [aGrant, hr, h1]
  · simp at h2; simp [aGrant, hr, h2]
  · simp at h3; simp [aGrant, hr, h3]
  · simp at h4; simp [aGrant, hr, h4]
  · have h5 : le < 1 ∨ 4611686018427387904 < le := by simp at h5; omega
    simp [aGrant, hr, h5]
  all_goals
    have harg : ¬ (ns < 1 ∨ 5 < ns ∨ nd < 1 ∨ ns < nd ∨ le < 1 ∨ 4611686018427387904 < le) := by simp at h1 h2 h3 h4 h5; omega
  · simp at h7; simp [aGrant, hr, harg, h7]
  · simp at h8; simp [aGrant, hr, harg, h8]
  have h7 : x.round = 0 := by simpa using h7
  have h8 : x.lk.cl = 0 := by simpa using h8
  have hres : aGrant x nd le ns = (grantA x nd le ns, 0) := by simp [aGrant, hr, harg, h7, h8, grantA]
  have hp := (right_iff x).1 hr
  have hm := hold_mem _ _ hp.hold
  have hb := room_bounds hx hr h8
  have hl5 := right_len hr
  have hlo := hx.lo
  have hhi := hx.hi
  have P := grant_p hx hr (by omega) (by omega) (by omega) (by omega : nd ≤ ns) (by omega) hle h7 h8
  have uU : InU (roomUp x) := by have := hx.base; unfold InU; unfold In64 at *; omega
  have uD : InU (roomDn x) := by have := hx.base; unfold InU; unfold In64 at *; omega
  have w1 : IntKind.i64.wrap (ns + 1) = ns + 1 := by simp [IntKind.wrap_i64]; omega
  have s1 := share_in (roomUp x) (ns + 1) ns uU
  have s2 := share_in (roomDn x) (ns + 1) ns uD
  have i1 : In64 (ns + 1) := by unfold In64; omega
  have i2 : In64 ns := by unfold In64; omega
  have iU1 : InU (shareV (roomUp x) (ns + 1) ns) := by unfold InU at *; omega
  have iU2 : InU (shareV (roomDn x) (ns + 1) ns) := by unfold InU at *; omega
  have hgd : hdB 0 (grantH x nd le ns) = true := by
    have hmem : grantH x nd le ns ∈ (grantA x nd le ns).hs := List.mem_append_right _ List.mem_cons_self
    have h9 := hold_mem _ _ ((right_iff _).1 P.right).hold _ hmem
    simp only [hdB, Bool.and_eq_true, decide_eq_true_eq]; omega
  have hput := resW_put hp.hold hgd
  rw [P.gnd] at hput
  have hup := P.up
  have hdn := P.dn
  have hfin : ∀ (e : Hd) (N : Nat), e = grantH x nd le ns → m.sz ≤ N → Vc.Spec Try.prog 82 [acv x a c, hdv e] { m with sz := N } fun v m' => ∃ s n1 n2 n3 n4 a n5 c n6 n7 n8 n9, v = .agg #[.string s, I n1, I n2, I n3, I n4, .slice a n5 c, I n6, I n7, I n8, I n9] ∧ Done (AcR m (aGrant x nd le ns) (.tuple #[.agg #[.string s, I n1, I n2, I n3, I n4, .slice a n5 c, I n6, I n7, I n8, I n9], I 0]) m') := fun e N he hN => by
    subst he
    refine (with_s x a c (grantH x nd le ns) (by omega) _ (h.sz hN)).mono fun v m' hag ⟨a', c', hv, hr'⟩ => ⟨_, _, _, _, _, _, _, _, _, _, _, _, hv, ?_⟩
    rw [P.gnd, hput] at hr' ⊢
    rw [hres]
    exact ok_d (z := grantA x nd le ns) rfl hr' hN
  rw [w1]
  refine ⟨_, _, _, _, _, rfind_q x a c nd hx _ h, ?_⟩
  cases hf : findB x nd
  · have hfn : fndH x.hs nd = none := by simpa [findB, hr] using hf
    have hge : (⟨nd, le, moreI 0 (shareV (roomUp x) (ns + 1) ns), moreI 0 (shareV (roomDn x) (ns + 1) ns)⟩ : Hd) = grantH x nd le ns := by simp [grantH, hf]
    refine ifB_true ⟨_, _, rroom_q x a c hx _ h, rfl, _, rshare_q _ _ _ uD i1 i2 _, _, rmore_q 0 _ (by omega) iU2 _, rfl, _, rshare_q _ _ _ uU i1 i2 _, _, rmore_q 0 _ (by omega) iU1 _, fun N hN => ?_⟩
    exact hfin _ N hge hN
  · have hge : (⟨(findH x nd).nd, (findH x nd).le, moreI (findH x nd).up (shareV (roomUp x) (ns + 1) ns), moreI (findH x nd).dn (shareV (roomDn x) (ns + 1) ns)⟩ : Hd) = grantH x nd le ns := by simp [grantH, hf]
    refine ifB_false ⟨_, _, rroom_q x a c hx _ h, rfl, _, rshare_q _ _ _ uD i1 i2 _, _, rmore_q _ _ (by omega) iU2 _, rfl, _, rshare_q _ _ _ uU i1 i2 _, _, rmore_q _ _ (by omega) iU1 _, fun N hN => ?_⟩
    exact hfin _ N hge hN

end Go.Proofs.Ytlifpjllhibdpaa
