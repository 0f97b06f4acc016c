/-
  Contracts of functions of this seat: what each hands back, and what it leaves of memory (acc3). Nothing here is trusted: Lean checks it.
-/
import Derived.Test.YtfkielfnceeedaaAcc2
set_option linter.unusedVariables false
set_option linter.unusedSimpArgs false
namespace Go.Proofs.Ytfkielfnceeedaa
open Go.Vc Go.RowKit

def keeperB (k : Lk) : Bool := decide (1 ≤ k.cl) && decide (1 ≤ k.sq) && decide (1 ≤ k.hm) && decide (k.hm < 8)

def fitsB (x : Ac) (k : Lk) : Bool := hasB x.lo x.hi (x.base + k.n)

def lkZ (k : Lk) : Bool := decide (k.cl = 0) && decide (k.sq = 0) && decide (k.hm = 0) && decide (k.n = 0)

def lockB (x : Ac) : Bool := if x.lk.cl = 0 then lkZ x.lk else keeperB x.lk && x.hs.isEmpty && fitsB x x.lk

def keyB (k : ByteArray) : Bool := decide (1 ≤ k.size) && decide (k.size ≤ 16)

def rightB (x : Ac) : Bool := keyB x.key && hasB x.lo x.hi x.base && decide (0 ≤ x.round) && holdB 0 x.hs && decide (sumI (upsL x) ≤ x.hi) && decide (x.lo ≤ sumI (dnsL x)) && lockB x

theorem keeper_q (k : Lk) (m : M) : QSpec Try.prog 89 [.agg #[I k.cl, I k.sq, I k.hm, I k.n]] m (.bool (keeperB k)) := by
  refine QSpec.of_vc Try.func89 (ann := fun _ => noAnn) fun n hn => ?_
  refine vc_by (X :=
      true = true ∧
      ifB (decide (k.cl ≥ (1 : Int)))
      (ifB (decide (k.sq ≥ (1 : Int)))
      (ifB (decide (k.hm ≥ (1 : Int))) (Done (Value.bool (decide (k.hm < (8 : Int))) = Value.bool (keeperB k))) (Done (Value.bool false = Value.bool (keeperB k))))
      (Done (Value.bool false = Value.bool (keeperB k))))
      (Done (Value.bool false = Value.bool (keeperB k)))) (by kernel_rfl) ?_
  refine ⟨rfl, ?_⟩
  repeat' (refine ifB_intro (fun h => ?_) (fun h => ?_))
  all_goals (refine ⟨?_⟩; simp at *; simp [keeperB]; omega)

theorem fits_q (x : Ac) (a : Option Addr) (c : Nat) (k : Lk) (hx : x.wf) (hk : k.wf) (m : M) : QSpec Try.prog 90 [acv x a c, .agg #[I k.cl, I k.sq, I k.hm, I k.n]] m (.bool (fitsB x k)) := by
  refine QSpec.of_vc Try.func90 (ann := fun _ => noAnn) fun n hn => ?_
  refine vc_by (X :=
      true = true ∧
      ∃ (n_1 : Int),
      ∃ (n_2 : Int),
      QSpec Try.prog (55 : Nat) [Value.int IntKind.i64 x.base, Value.int IntKind.i64 k.n] { π := m.π, sz := n, uf := m.uf : M }
      (Value.tuple #[Value.int IntKind.i64 n_1, Value.int IntKind.i64 n_2]) ∧
      ifB (n_2 == (0 : Int))
      (∃ (b : Bool),
      QSpec Try.prog (86 : Nat) [Value.agg #[Value.int IntKind.i64 x.lo, Value.int IntKind.i64 x.hi], Value.int IntKind.i64 n_1] { π := m.π, sz := n, uf := m.uf : M }
      (Value.bool b) ∧
      Done (Value.bool b = Value.bool (fitsB x k)))
      (Done (Value.bool false = Value.bool (fitsB x k)))) (by kernel_rfl) ?_
  refine ⟨rfl, _, _, add_q _ _ hx.base hk.2.2.2 _, ?_⟩
  by_cases hin : In64 (x.base + k.n)
  · simp only [addE, addV, hin, if_true]
    exact ⟨_, has_q _ _ _ _, ⟨rfl⟩⟩
  · simp only [addE, addV, hin, if_false]
    refine ifB_intro (fun h => by simp at h) (fun _ => ⟨?_⟩)
    have h1 := hx.lo
    have h2 := hx.hi
    unfold In64 at *
    simp [fitsB, hasB]; omega

theorem sumI_cons (a : Int) (l : List Int) : sumI (a :: l) = a + sumI l := by
  simp only [sumI, List.foldl_cons]; rw [foldl_add]; simp

theorem sumI_nonneg : ∀ (l : List Int), (∀ x ∈ l, 0 ≤ x) → 0 ≤ sumI l
  | [], _ => by simp [sumI]
  | x :: r, h => by rw [sumI_cons]; have := h x (by simp); have := sumI_nonneg r fun y hy => h y (by simp [hy]); omega

theorem sumI_nonpos : ∀ (l : List Int), (∀ x ∈ l, x ≤ 0) → sumI l ≤ 0
  | [], _ => by simp [sumI]
  | x :: r, h => by rw [sumI_cons]; have := h x (by simp); have := sumI_nonpos r fun y hy => h y (by simp [hy]); omega

theorem hold_mem : ∀ (l : List Hd) (last : Int), holdB last l = true → ∀ h ∈ l, last < h.nd ∧ h.nd ≤ 5 ∧ 1 ≤ h.le ∧ 0 ≤ h.up ∧ 0 ≤ h.dn
  | x :: r, last, hb, h, hm => by
    simp only [holdB, hdB, Bool.and_eq_true, decide_eq_true_eq] at hb
    rcases List.mem_cons.1 hm with rfl | hm
    · omega
    · have := hold_mem r x.nd hb.2 h hm
      omega

theorem up_ge {x : Ac} (h : holdB 0 x.hs = true) : x.base ≤ sumI (upsL x) ∧ sumI (dnsL x) ≤ x.base := by
  have hm := hold_mem _ _ h
  have h1 := sumI_nonneg (x.hs.map (·.up)) fun y hy => by obtain ⟨z, hz, rfl⟩ := List.mem_map.1 hy; exact (hm z hz).2.2.2.1
  have h2 := sumI_nonpos (x.hs.map (-·.dn)) fun y hy => by obtain ⟨z, hz, rfl⟩ := List.mem_map.1 hy; have := (hm z hz).2.2.2.2; omega
  simp only [upsL, dnsL, sumI_cons]
  omega

theorem right_q (x : Ac) (a : Option Addr) (c : Nat) (hx : x.wf) (m : M) (h : Row m a (hds x.hs)) : QSpec Try.prog 72 [acv x a c] m (.bool (rightB x)) := by
  refine QSpec.of_vc Try.func72 (ann := fun _ => noAnn) fun n hn => ?_
  refine vc_by (X :=
      true = true ∧
      ifB (decide ((↑x.key.size : Int) < (1 : Int))) (Done (Value.bool false = Value.bool (rightB x)))
      (ifB (decide ((↑x.key.size : Int) > (16 : Int))) (Done (Value.bool false = Value.bool (rightB x)))
      (∃ (b : Bool),
      QSpec Try.prog (86 : Nat) [Value.agg #[Value.int IntKind.i64 x.lo, Value.int IntKind.i64 x.hi], Value.int IntKind.i64 x.base] { π := m.π, sz := n, uf := m.uf : M }
      (Value.bool b) ∧
      ifB (!b) (Done (Value.bool false = Value.bool (rightB x)))
      (ifB (decide (x.round < (0 : Int))) (Done (Value.bool false = Value.bool (rightB x)))
      (∃ (b : Bool),
      QSpec Try.prog (87 : Nat) [Value.slice a x.hs.length c] { π := m.π, sz := n, uf := m.uf : M } (Value.bool b) ∧
      ifB (!b) (Done (Value.bool false = Value.bool (rightB x)))
      (∃ (n_1 : Int),
      ∃ (n_2 : Int),
      ∃ (b : Bool),
      QSpec Try.prog (88 : Nat)
      [Value.agg
      #[Value.string x.key, Value.int IntKind.i64 x.lo, Value.int IntKind.i64 x.hi, Value.int IntKind.i64 x.base, Value.int IntKind.i64 x.round,
      Value.slice a x.hs.length c, Value.int IntKind.i64 x.lk.cl, Value.int IntKind.i64 x.lk.sq, Value.int IntKind.i64 x.lk.hm,
      Value.int IntKind.i64 x.lk.n]]
      { π := m.π, sz := n, uf := m.uf : M } (Value.tuple #[Value.int IntKind.i64 n_1, Value.int IntKind.i64 n_2, Value.bool b]) ∧
      ifB (!b) (Done (Value.bool false = Value.bool (rightB x)))
      (ifB (decide (n_1 > x.hi)) (Done (Value.bool false = Value.bool (rightB x)))
      (ifB (decide (n_2 < x.lo)) (Done (Value.bool false = Value.bool (rightB x)))
      (ifB (x.lk.cl == (0 : Int))
      (Done
      (Value.bool (x.lk.cl == (0 : Int) && (x.lk.sq == (0 : Int) && (x.lk.hm == (0 : Int) && (x.lk.n == (0 : Int) && true)))) =
      Value.bool (rightB x)))
      (∃ (b : Bool),
      QSpec Try.prog (89 : Nat)
      [Value.agg #[Value.int IntKind.i64 x.lk.cl, Value.int IntKind.i64 x.lk.sq, Value.int IntKind.i64 x.lk.hm, Value.int IntKind.i64 x.lk.n]]
      { π := m.π, sz := n, uf := m.uf : M } (Value.bool b) ∧
      ifB b
      (ifB ((↑x.hs.length : Int) == (0 : Int))
      (∃ (b : Bool),
      QSpec Try.prog (90 : Nat)
      [Value.agg
      #[Value.string x.key, Value.int IntKind.i64 x.lo, Value.int IntKind.i64 x.hi, Value.int IntKind.i64 x.base,
      Value.int IntKind.i64 x.round, Value.slice a x.hs.length c, Value.int IntKind.i64 x.lk.cl, Value.int IntKind.i64 x.lk.sq,
      Value.int IntKind.i64 x.lk.hm, Value.int IntKind.i64 x.lk.n],
      Value.agg
      #[Value.int IntKind.i64 x.lk.cl, Value.int IntKind.i64 x.lk.sq, Value.int IntKind.i64 x.lk.hm, Value.int IntKind.i64 x.lk.n]]
      { π := m.π, sz := n, uf := m.uf : M } (Value.bool b) ∧
      Done (Value.bool b = Value.bool (rightB x)))
      (Done (Value.bool false = Value.bool (rightB x))))
      (Done (Value.bool false = Value.bool (rightB x))))))))))))) (by kernel_rfl) ?_
  have h' := h.sz hn
  refine ⟨rfl, ifB_intro (fun h1 => ⟨?_⟩) (fun h1 => ifB_intro (fun h2 => ⟨?_⟩) (fun h2 => ⟨_, has_q _ _ _ _, ifB_intro (fun h3 => ⟨?_⟩) (fun h3 => ifB_intro (fun h4 => ⟨?_⟩) (fun h4 => ⟨_, holders_q a c x.hs hx.len _ h', ifB_intro (fun h5 => ⟨?_⟩) (fun h5 => ?_)⟩))⟩))⟩
  · simp at h1; simp [rightB, keyB]; omega
  · simp at h2; simp [rightB, keyB]; omega
  · simp at h3; simp [rightB, h3]
  · simp at h4; simp [rightB]; omega
  · simp at h5; simp [rightB, h5]
  · have h5 : holdB 0 x.hs = true := by simpa using h5
    have hm := hold_mem _ _ h5
    have hge := up_ge h5
    have hk : keyB x.key = true := by simp at h1 h2; simp [keyB]; omega
    have hh : hasB x.lo x.hi x.base = true := by simpa using h3
    have hr : 0 ≤ x.round := by simpa using h4
    have hlo := hx.lo
    have hhi := hx.hi
    have hhb : x.lo ≤ x.base ∧ x.base ≤ x.hi := by simpa [hasB] using hh
    have hR : rightB x = (decide (sumI (upsL x) ≤ x.hi) && decide (x.lo ≤ sumI (dnsL x)) && lockB x) := by simp [rightB, hk, hh, hr, h5]
    have hl : QSpec Try.prog 88 [acv x a c] { m with sz := n } (.tuple #[I (clip (sumI (upsL x))), I (clip (sumI (dnsL x))), .bool (decide (In64 (sumI (upsL x))) && decide (In64 (sumI (dnsL x))))]) :=
      lent_q x a c hx (hold_len h5) (fun y hy => (hm y hy).2.2.2) _ h'
    rw [hR]
    refine ⟨_, _, _, hl, ?_⟩
    by_cases i1 : In64 (sumI (upsL x))
    · by_cases i2 : In64 (sumI (dnsL x))
      · simp only [i1, i2, decide_true, Bool.and_self, Bool.not_true, clip, if_true]
        refine ifB_false (ifB_intro (fun h6 => ⟨?_⟩) (fun h6 => ifB_intro (fun h7 => ⟨?_⟩) (fun h7 => ?_)))
        · simp at h6; simp; omega
        · simp at h7; simp; omega
        · have h6 : sumI (upsL x) ≤ x.hi := by simp at h6; omega
          have h7 : x.lo ≤ sumI (dnsL x) := by simp at h7; omega
          simp only [h6, h7, decide_true, Bool.true_and]
          refine ifB_intro (fun h8 => ⟨?_⟩) (fun h8 => ⟨_, keeper_q _ _, ifB_intro (fun h9 => ifB_intro (fun h10 => ⟨_, fits_q x a c x.lk hx hx.lk _, ⟨?_⟩⟩) (fun h10 => ⟨?_⟩)) (fun h9 => ⟨?_⟩)⟩)
          · simp at h8; simp [lockB, h8, lkZ, Bool.beq_eq_decide_eq, Bool.and_assoc]
          · simp at h8 h10; simp [lockB, h8, h9, h10]
          · simp at h8 h10; simp [lockB, h8, h10]
          · simp at h8 h9; simp [lockB, h8, h9]
      · simp only [i2, decide_false, Bool.and_false, Bool.not_false]
        refine ifB_true ⟨?_⟩
        unfold In64 at *
        simp; omega
    · simp only [i1, decide_false, Bool.false_and, Bool.not_false]
      refine ifB_true ⟨?_⟩
      unfold In64 at *
      simp; omega

end Go.Proofs.Ytfkielfnceeedaa
