/-
  Contracts of functions of this seat: what each hands back, and what it leaves of memory (wit18). Nothing here is trusted: Lean checks it.
-/
import Derived.Test.YtbhlhnkjmncloaaWit17
set_option linter.unusedVariables false
set_option linter.unusedSimpArgs false
namespace Go.Proofs.Ytbhlhnkjmncloaa
open Go.Vc Go.RowKit
set_option maxRecDepth 100000

/-- a call as it stood at a time -/
def cutE (t : Int) (c : Cl) : Cl := { c with mo := if c.mo > t then 0 else c.mo, aw := if c.aw > t then 0 else c.aw, an_er := if c.aw > t then 0 else c.an_er, an_va := if c.aw > t then 0 else c.an_va, an_le := if c.aw > t then 0 else c.an_le, an_mo := if c.aw > t then 0 else c.an_mo }

/-- the numbers below k of the calls that are there at a time -/
def keepK (l : List Cl) (t : Int) (k : Nat) : List Nat := (List.range k).filter fun i => decide ((clA l i).ca ≤ t)

def cutK (l : List Cl) (t : Int) (k : Nat) : List Cl := (keepK l t k).map fun i => cutE t (clA l i)

theorem cutK_succ (l : List Cl) (t : Int) (k : Nat) : cutK l t (k + 1) = cutK l t k ++ if (clA l k).ca ≤ t then [cutE t (clA l k)] else [] := by
  unfold cutK keepK
  rw [List.range_succ, List.filter_append, List.map_append]
  congr 1
  by_cases h : (clA l k).ca ≤ t <;> simp [h]

theorem keepK_len (l : List Cl) (t : Int) (k : Nat) : (keepK l t k).length ≤ k := by
  have := List.length_filter_le (fun i => decide ((clA l i).ca ≤ t)) (List.range k)
  rw [List.length_range] at this
  exact this

theorem cutK_len (l : List Cl) (t : Int) (k : Nat) : (cutK l t k).length ≤ k := by
  unfold cutK; rw [List.length_map]; exact keepK_len l t k

abbrev cutL (l : List Cl) (t : Int) : List Cl := cutK l t l.length

theorem cutE_wf {t : Int} {c : Cl} (h : c.wf) : (cutE t c).wf := by
  unfold Cl.wf cutE at *
  have z : In64 0 := by decide
  simp only
  refine ⟨h.1, h.2.1, h.2.2.1, h.2.2.2.1, h.2.2.2.2.1, h.2.2.2.2.2.1, h.2.2.2.2.2.2.1, h.2.2.2.2.2.2.2.1, h.2.2.2.2.2.2.2.2.1, h.2.2.2.2.2.2.2.2.2.1, ?_, ?_, ?_, ?_, ?_, ?_⟩
  all_goals split
  all_goals first | exact z | skip
  · exact h.2.2.2.2.2.2.2.2.2.2.1
  · exact h.2.2.2.2.2.2.2.2.2.2.2.1
  · exact h.2.2.2.2.2.2.2.2.2.2.2.2.1
  · exact h.2.2.2.2.2.2.2.2.2.2.2.2.2.1
  · exact h.2.2.2.2.2.2.2.2.2.2.2.2.2.2.1
  · exact h.2.2.2.2.2.2.2.2.2.2.2.2.2.2.2

theorem cutL_wf {l : List Cl} (hl : ∀ x ∈ l, x.wf) (t : Int) : ∀ x ∈ cutL l t, x.wf := fun x hx => by
  obtain ⟨i, -, rfl⟩ := List.mem_map.1 hx
  exact cutE_wf (clA_wf hl)

theorem keepK_lt (l : List Cl) (t : Int) (k : Nat) : (keepK l t k).Pairwise (· < ·) := List.Pairwise.filter _ List.pairwise_lt_range

theorem keepK_mem {l : List Cl} {t : Int} {k i : Nat} : i ∈ keepK l t k ↔ i < k ∧ (clA l i).ca ≤ t := by simp [keepK]

theorem cutE_bad {c : Cl} {t : Int} (h : badB c = false) : badB (cutE t c) = false := by
  by_cases e : c.aw > t
  · simp only [badB, cutE, if_pos e]
    simp [badB] at h ⊢; exact h.1
  · simp only [badB, cutE, if_neg e]
    exact h

theorem cutE_old {c : Cl} {t : Int} (h : oldB c = false) : oldB (cutE t c) = false := by
  by_cases e : c.mo > t
  · simp [oldB, cutE, e]
  · by_cases e2 : c.aw > t
    · simp only [oldB, cutE, if_neg e, if_pos e2]
      simp [oldB] at h ⊢
      exact fun h1 => (h h1).1
    · simp only [oldB, cutE, if_neg e, if_neg e2]
      exact h

theorem cutE_non {c : Cl} {t : Int} (h : nonB c = false) (ho : oldB c = false) : nonB (cutE t c) = false := by
  by_cases e : c.aw > t
  · simp [nonB, cutE, e]
  · by_cases e0 : c.aw = 0
    · have : ¬ (0 : Int) > t := by omega
      simp [nonB, cutE, e0]
    · have hm : (decide (0 < if c.mo > t then 0 else c.mo)) = decide (0 < c.mo) := by
        by_cases e1 : 0 < c.mo
        · have := old_no ho e1
          rw [if_neg (by omega)]
        · split <;> simp <;> omega
      simp only [nonB, cutE, if_neg e]
      rw [hm]
      exact h

section
variable {l : List Cl} {t : Int}

/-- the number in the whole history -/
def kpI (l : List Cl) (t : Int) (i : Nat) : Nat := ((keepK l t l.length)[i]?).getD 0

theorem kpI_at {i : Nat} (h : i < (cutL l t).length) : ∃ h2 : i < (keepK l t l.length).length, kpI l t i = (keepK l t l.length)[i] := by
  have h2 : i < (keepK l t l.length).length := by simpa [cutL, cutK] using h
  exact ⟨h2, by simp [kpI, List.getElem?_eq_getElem h2]⟩

theorem kpI_spec {i : Nat} (h : i < (cutL l t).length) : kpI l t i < l.length ∧ (clA l (kpI l t i)).ca ≤ t ∧ clA (cutL l t) i = cutE t (clA l (kpI l t i)) := by
  obtain ⟨h2, e⟩ := kpI_at h
  have hm := keepK_mem.1 (List.getElem_mem h2)
  rw [← e] at hm
  refine ⟨hm.1, hm.2, ?_⟩
  rw [clA_at h, e]
  simp [cutL, cutK]

theorem kpI_lt {i j : Nat} (h : j < (cutL l t).length) (hij : i < j) : kpI l t i < kpI l t j := by
  obtain ⟨h2, e⟩ := kpI_at h
  obtain ⟨h3, e2⟩ := kpI_at (l := l) (t := t) (i := i) (by omega)
  rw [e, e2]
  exact List.pairwise_iff_getElem.1 (keepK_lt l t l.length) i j h3 h2 hij

theorem kpI_onto {j : Nat} (h1 : j < l.length) (h2 : (clA l j).ca ≤ t) : ∃ i, i < (cutL l t).length ∧ kpI l t i = j := by
  obtain ⟨i, hi, e⟩ := List.mem_iff_getElem.1 (keepK_mem.2 ⟨h1, h2⟩ : j ∈ keepK l t l.length)
  refine ⟨i, by simpa [cutL, cutK] using hi, ?_⟩
  simp [kpI, List.getElem?_eq_getElem hi, e]

theorem cut_take {i : Nat} (hi : i < (cutL l t).length) {x : Cl} (hx : x ∈ (cutL l t).take i) : ∃ j, j < kpI l t i ∧ (clA l j).ca ≤ t ∧ x = cutE t (clA l j) := by
  rw [List.mem_take_iff_getElem] at hx
  obtain ⟨j, hj, rfl⟩ := hx
  have hj2 : j < (cutL l t).length := by omega
  obtain ⟨g1, g2, g3⟩ := kpI_spec hj2
  refine ⟨kpI l t j, kpI_lt hi (by omega), g2, ?_⟩
  rw [← g3, clA_at hj2]

/-- what is left of a history of right form has a right form -/
theorem cut_frm (h : ∀ i, i < l.length → WrgZ (clA l i) (l.take i)) : ∀ i, i < (cutL l t).length → WrgZ (clA (cutL l t) i) ((cutL l t).take i) := by
  intro i hi
  obtain ⟨g1, g2, g3⟩ := kpI_spec hi
  have H := h _ g1
  have pr : ∀ j, j < kpI l t i → (clA l j).cl = (clA l (kpI l t i)).cl → _ := fun j hj => frm_pair h hj g1
  rw [g3]
  generalize hp : kpI l t i = p at *
  generalize clA l p = c at *
  refine ⟨cutE_bad H.bad, ?_, cutE_old H.old, ?_, cutE_non H.non H.old⟩
  · rw [sqB, List.any_eq_false]
    intro x hx
    obtain ⟨j, j1, j2, rfl⟩ := cut_take hi hx
    rw [hp] at j1
    have P := pr j j1
    simp [cutE]
    intro e
    have := P e; omega
  · rw [opnB, List.any_eq_false]
    intro x hx
    obtain ⟨j, j1, j2, rfl⟩ := cut_take hi hx
    rw [hp] at j1
    have P := pr j j1
    simp [cutE]
    intro e
    have := P e
    omega

theorem cut_mo {i : Nat} (hi : i < (cutL l t).length) : moA (cutL l t) i = if moA l (kpI l t i) > t then 0 else moA l (kpI l t i) := by
  rw [moA_cl, (kpI_spec hi).2.2, moA_cl]; rfl

/-- the order of what is left is the order's part up to then -/
theorem cut_ord (h : ∀ i, i < l.length → WrgZ (clA l i) (l.take i)) : (ordL (cutL l t)).map (kpI l t) = (ordL l).filter fun i => decide (moA l i ≤ t) := by
  have O := ordL_is (cutL l t)
  refine IsOrd.uniq (l := l) (p := fun i => (i < l.length ∧ 0 < moA l i) ∧ moA l i ≤ t) ⟨?_, fun i => ?_⟩ ⟨List.Pairwise.filter _ (ordL_is l).pw, fun i => by rw [List.mem_filter, (ordL_is l).mem]; simp⟩
  · rw [List.pairwise_map]
    refine (List.Pairwise.and_mem.1 O.pw).imp fun {a b} ⟨ha, hb, hab⟩ => ?_
    have h1 := (O.mem a).1 ha
    have h2 := (O.mem b).1 hb
    have m1 := cut_mo h1.1
    have m2 := cut_mo h2.1
    have q1 := h1.2
    have q2 := h2.2
    unfold lexC at hab ⊢
    rw [m1] at hab q1
    rw [m2] at hab q2
    have lt := fun hlt : a < b => kpI_lt h2.1 hlt
    split at hab <;> split at hab <;> rename_i c1 c2 <;> simp [c1, c2] at q1 q2
    rcases hab with hab | hab
    · exact .inl hab
    · exact .inr ⟨hab.1, lt hab.2⟩
  · rw [List.mem_map]
    constructor
    · rintro ⟨a, ha, rfl⟩
      have h1 := (O.mem a).1 ha
      have m1 := cut_mo h1.1
      have q1 := h1.2
      rw [m1] at q1
      split at q1
      · omega
      · exact ⟨⟨(kpI_spec h1.1).1, q1⟩, by omega⟩
    · rintro ⟨⟨h1, h2⟩, h3⟩
      have H := h i h1
      have h4 := (old_no H.old (by rw [← moA_cl]; exact h2)).1
      rw [← moA_cl] at h4
      obtain ⟨a, ha, rfl⟩ := kpI_onto (l := l) (t := t) h1 (by omega)
      refine ⟨a, (O.mem a).2 ⟨ha, ?_⟩, rfl⟩
      rw [cut_mo ha, if_neg (by omega)]
      exact h2

theorem ord_split (v : Int) : ordL l = ((ordL l).filter fun i => decide (moA l i ≤ v)) ++ (ordL l).filter fun i => !decide (moA l i ≤ v) := by
  refine (ordL_is l).uniq ⟨?_, fun i => ?_⟩
  · refine List.pairwise_append.2 ⟨List.Pairwise.filter _ (ordL_is l).pw, List.Pairwise.filter _ (ordL_is l).pw, fun a ha b hb => ?_⟩
    have h1 := (List.mem_filter.1 ha).2
    have h2 := (List.mem_filter.1 hb).2
    simp at h1 h2
    unfold lexC; omega
  · rw [List.mem_append, List.mem_filter, List.mem_filter, (ordL_is l).mem]
    by_cases e : moA l i ≤ v <;> simp [e]

theorem secP_left {A B : List Nat} : ∀ {t : List Tt}, secP l (A ++ B) t = none → secP l A t = none := by
  induction A with
  | nil => intro t _; rfl
  | cons a A ih =>
    intro t h
    rw [List.cons_append, secP] at h
    rw [secP]
    split at h
    · rename_i c; rw [if_pos c]; exact ih h
    · cases h

theorem rig_cut {c : Cl} {a : An} (h : rigB c a = true) : rigB (cutE t c) a = true := by
  by_cases e : c.aw > t
  · simp [rigB, cutE, e]
  · simp only [rigB, cutE, if_neg e] at h ⊢
    exact h

theorem secP_cut : ∀ (L : List Nat) {T : List Tt}, (∀ i ∈ L, i < (cutL l t).length) → secP l (L.map (kpI l t)) T = none → secP (cutL l t) L T = none
  | [], T, _, _ => rfl
  | i :: r, T, hm, h => by
    have e := (kpI_spec (hm i (by simp))).2.2
    rw [List.map_cons, secP] at h
    rw [secP, e]
    have eo : opC (cutE t (clA l (kpI l t i))) = opC (clA l (kpI l t i)) := rfl
    rw [eo]
    split at h
    · rename_i c
      rw [if_pos (rig_cut c)]
      exact secP_cut r (fun j hj => hm j (by simp [hj])) h
    · cases h

theorem cut_legal (h : LegO l) : LegO (cutL l t) := by
  refine ⟨cut_frm h.frm, secP_cut _ (fun i hi => ordL_lt hi) ?_⟩
  rw [cut_ord h.frm]
  have := h.sec
  rw [ord_split (l := l) t] at this
  exact secP_left this
end

theorem newR_cap {B : Nat} {S : Nat → Prop} {m : M} {size len cap : Nat} {a : Option Addr} {cs : List Value} (h : NewR B S m size a len cap cs) : len ≤ cap := by
  cases h with
  | nil => exact Nat.le_refl _
  | own ho => exact ho.capLe

structure CuX where
  i : Nat
  a : Option Addr
  c : Nat
  m : M

theorem cutoff_s (a : Option Addr) (cp : Nat) (l : List Cl) (t : Int) (hn : l.length ≤ 1048576) (m : M) (h : Row m a (cls l)) : Vc.Spec Try.prog 25 [.slice a l.length cp, I t] m fun v m' => ∃ a' c', v = .slice a' (cutL l t).length c' ∧ (cutL l t).length ≤ c' ∧ Row m' a' (cls (cutL l t)) := by
  refine Vc.Spec.of_vc Try.func25 (ann := fun _ => { A := CuX, inv := fun y => y.i ≤ l.length ∧ NewR m.sz (fun _ => False) y.m 16 y.a (cutK l t y.i).length y.c (cls (cutK l t y.i)) ∧ Agree m.sz m y.m, st := fun y => [(6, .val (I y.i)), (5, .val (.slice y.a (cutK l t y.i).length y.c)), (1, .val (I t)), (0, .val (.slice a l.length cp))], own := fun _ => [], m := fun y => y.m, μ := fun y => l.length - y.i }) ?_
  refine vc_by (X :=
      true = true ∧
      (∃ (a_1 : CuX),
      (a_1.i ≤ l.length ∧ NewR m.sz (fun (x : Nat) => False) a_1.m (16 : Nat) a_1.a (cutK l t a_1.i).length a_1.c (cls (cutK l t a_1.i)) ∧ Agree m.sz m a_1.m) ∧
      m = a_1.m ∧
      ((SV.val (Value.int IntKind.i64 (0 : Int)) = SV.val (Value.int IntKind.i64 (↑a_1.i : Int)) ∧ true = true) ∧
      (SV.val (Value.slice none (0 : Nat) (0 : Nat)) = SV.val (Value.slice a_1.a (cutK l t a_1.i).length a_1.c) ∧ true = true) ∧
      (SV.val (Value.int IntKind.i64 t) = SV.val (Value.int IntKind.i64 t) ∧ true = true) ∧
      (SV.val (Value.slice a l.length cp) = SV.val (Value.slice a l.length cp) ∧ true = true) ∧ True) ∧
      True) ∧
      ∀ (a_1 : CuX),
      a_1.i ≤ l.length ∧ NewR m.sz (fun (x : Nat) => False) a_1.m (16 : Nat) a_1.a (cutK l t a_1.i).length a_1.c (cls (cutK l t a_1.i)) ∧ Agree m.sz m a_1.m →
      ifB (decide ((↑a_1.i : Int) < (↑l.length : Int)))
      (∃ (b : Nat),
      ∃ (off : Nat),
      a = some { block := b, off := off : Addr } ∧
      ((0 : Int) ≤ (↑a_1.i : Int) ∧ (↑a_1.i : Int) < (↑l.length : Int)) ∧
      ∃ (n : Int),
      ∃ (n_1 : Int),
      ∃ (n_2 : Int),
      ∃ (n_3 : Int),
      ∃ (s : ByteArray),
      ∃ (s_1 : ByteArray),
      ∃ (n_4 : Int),
      ∃ (n_5 : Int),
      ∃ (n_6 : Int),
      ∃ (n_7 : Int),
      ∃ (n_8 : Int),
      ∃ (n_9 : Int),
      ∃ (n_10 : Int),
      ∃ (n_11 : Int),
      ∃ (n_12 : Int),
      ∃ (n_13 : Int),
      CellsAt a_1.m b (off + (↑a_1.i : Int).toNat * (16 : Nat))
      [Value.int IntKind.i64 n, Value.int IntKind.i64 n_1, Value.int IntKind.i64 n_2, Value.int IntKind.i64 n_3, Value.string s,
      Value.string s_1, Value.int IntKind.i64 n_4, Value.int IntKind.i64 n_5, Value.int IntKind.i64 n_6,
      Value.int IntKind.i64 n_7, Value.int IntKind.i64 n_8, Value.int IntKind.i64 n_9, Value.int IntKind.i64 n_10,
      Value.int IntKind.i64 n_11, Value.int IntKind.i64 n_12, Value.int IntKind.i64 n_13] ∧
      ifB (decide (n_7 > t))
      (∃ (a' : CuX),
      ((a'.i ≤ l.length ∧
      NewR m.sz (fun (x : Nat) => False) a'.m (16 : Nat) a'.a (cutK l t a'.i).length a'.c (cls (cutK l t a'.i)) ∧
      Agree m.sz m a'.m) ∧
      a_1.m = a'.m ∧
      ((SV.val (Value.int IntKind.i64 (IntKind.i64.wrap ((↑a_1.i : Int) + (1 : Int)))) =
      SV.val (Value.int IntKind.i64 (↑a'.i : Int)) ∧
      true = true) ∧
      (SV.val (Value.slice a_1.a (cutK l t a_1.i).length a_1.c) =
      SV.val (Value.slice a'.a (cutK l t a'.i).length a'.c) ∧
      true = true) ∧
      (SV.val (Value.int IntKind.i64 t) = SV.val (Value.int IntKind.i64 t) ∧ true = true) ∧
      (SV.val (Value.slice a l.length cp) = SV.val (Value.slice a l.length cp) ∧ true = true) ∧ True) ∧
      True) ∧
      l.length - a'.i < l.length - a_1.i)
      (ifB (decide (n_8 > t))
      (ifB (decide (n_9 > t))
      (true = true ∧
      ∀ (b : Nat),
      a_1.m.sz ≤ b →
      ∃ (old : List Value),
      ∃ (src : List Value),
      AppPre m.sz (fun (x : Nat) => False)
      (a_1.m.newBlock b
      [Value.int IntKind.i64 n, Value.int IntKind.i64 n_1, Value.int IntKind.i64 n_2, Value.int IntKind.i64 n_3,
      Value.string s, Value.string s_1, Value.int IntKind.i64 n_4, Value.int IntKind.i64 n_5,
      Value.int IntKind.i64 n_6, Value.int IntKind.i64 n_7, Value.int IntKind.i64 (0 : Int),
      Value.int IntKind.i64 (0 : Int), Value.int IntKind.i64 (0 : Int), Value.int IntKind.i64 (0 : Int),
      Value.int IntKind.i64 (0 : Int), Value.int IntKind.i64 (0 : Int)])
      (16 : Nat) (144 : Nat) a_1.a (cutK l t a_1.i).length a_1.c (some { block := b, off := (0 : Nat) : Addr })
      (1 : Nat) old src ∧
      ∀ (a' : Option Addr) (c' : Nat) (m' : M),
      AppPost Try.prog (51 : Nat)
      (a_1.m.newBlock b
      [Value.int IntKind.i64 n, Value.int IntKind.i64 n_1, Value.int IntKind.i64 n_2,
      Value.int IntKind.i64 n_3, Value.string s, Value.string s_1, Value.int IntKind.i64 n_4,
      Value.int IntKind.i64 n_5, Value.int IntKind.i64 n_6, Value.int IntKind.i64 n_7,
      Value.int IntKind.i64 (0 : Int), Value.int IntKind.i64 (0 : Int), Value.int IntKind.i64 (0 : Int),
      Value.int IntKind.i64 (0 : Int), Value.int IntKind.i64 (0 : Int), Value.int IntKind.i64 (0 : Int)])
      (16 : Nat) a_1.a (cutK l t a_1.i).length a_1.c (1 : Nat) old src a' c' m' →
      ∃ (a'_1 : CuX),
      ((a'_1.i ≤ l.length ∧
      NewR m.sz (fun (x : Nat) => False) a'_1.m (16 : Nat) a'_1.a (cutK l t a'_1.i).length a'_1.c
      (cls (cutK l t a'_1.i)) ∧
      Agree m.sz m a'_1.m) ∧
      m' = a'_1.m ∧
      ((SV.val (Value.int IntKind.i64 (IntKind.i64.wrap ((↑a_1.i : Int) + (1 : Int)))) =
      SV.val (Value.int IntKind.i64 (↑a'_1.i : Int)) ∧
      true = true) ∧
      (SV.val (Value.slice a' ((cutK l t a_1.i).length + (1 : Nat)) c') =
      SV.val (Value.slice a'_1.a (cutK l t a'_1.i).length a'_1.c) ∧
      true = true) ∧
      (SV.val (Value.int IntKind.i64 t) = SV.val (Value.int IntKind.i64 t) ∧ true = true) ∧
      (SV.val (Value.slice a l.length cp) = SV.val (Value.slice a l.length cp) ∧ true = true) ∧
      True) ∧
      True) ∧
      l.length - a'_1.i < l.length - a_1.i)
      (true = true ∧
      ∀ (b : Nat),
      a_1.m.sz ≤ b →
      ∃ (old : List Value),
      ∃ (src : List Value),
      AppPre m.sz (fun (x : Nat) => False)
      (a_1.m.newBlock b
      [Value.int IntKind.i64 n, Value.int IntKind.i64 n_1, Value.int IntKind.i64 n_2, Value.int IntKind.i64 n_3,
      Value.string s, Value.string s_1, Value.int IntKind.i64 n_4, Value.int IntKind.i64 n_5,
      Value.int IntKind.i64 n_6, Value.int IntKind.i64 n_7, Value.int IntKind.i64 (0 : Int),
      Value.int IntKind.i64 n_9, Value.int IntKind.i64 n_10, Value.int IntKind.i64 n_11,
      Value.int IntKind.i64 n_12, Value.int IntKind.i64 n_13])
      (16 : Nat) (144 : Nat) a_1.a (cutK l t a_1.i).length a_1.c (some { block := b, off := (0 : Nat) : Addr })
      (1 : Nat) old src ∧
      ∀ (a' : Option Addr) (c' : Nat) (m' : M),
      AppPost Try.prog (51 : Nat)
      (a_1.m.newBlock b
      [Value.int IntKind.i64 n, Value.int IntKind.i64 n_1, Value.int IntKind.i64 n_2,
      Value.int IntKind.i64 n_3, Value.string s, Value.string s_1, Value.int IntKind.i64 n_4,
      Value.int IntKind.i64 n_5, Value.int IntKind.i64 n_6, Value.int IntKind.i64 n_7,
      Value.int IntKind.i64 (0 : Int), Value.int IntKind.i64 n_9, Value.int IntKind.i64 n_10,
      Value.int IntKind.i64 n_11, Value.int IntKind.i64 n_12, Value.int IntKind.i64 n_13])
      (16 : Nat) a_1.a (cutK l t a_1.i).length a_1.c (1 : Nat) old src a' c' m' →
      ∃ (a'_1 : CuX),
      ((a'_1.i ≤ l.length ∧
      NewR m.sz (fun (x : Nat) => False) a'_1.m (16 : Nat) a'_1.a (cutK l t a'_1.i).length a'_1.c
      (cls (cutK l t a'_1.i)) ∧
      Agree m.sz m a'_1.m) ∧
      m' = a'_1.m ∧
      ((SV.val (Value.int IntKind.i64 (IntKind.i64.wrap ((↑a_1.i : Int) + (1 : Int)))) =
      SV.val (Value.int IntKind.i64 (↑a'_1.i : Int)) ∧
      true = true) ∧
      (SV.val (Value.slice a' ((cutK l t a_1.i).length + (1 : Nat)) c') =
      SV.val (Value.slice a'_1.a (cutK l t a'_1.i).length a'_1.c) ∧
      true = true) ∧
      (SV.val (Value.int IntKind.i64 t) = SV.val (Value.int IntKind.i64 t) ∧ true = true) ∧
      (SV.val (Value.slice a l.length cp) = SV.val (Value.slice a l.length cp) ∧ true = true) ∧
      True) ∧
      True) ∧
      l.length - a'_1.i < l.length - a_1.i))
      (ifB (decide (n_9 > t))
      (true = true ∧
      ∀ (b : Nat),
      a_1.m.sz ≤ b →
      ∃ (old : List Value),
      ∃ (src : List Value),
      AppPre m.sz (fun (x : Nat) => False)
      (a_1.m.newBlock b
      [Value.int IntKind.i64 n, Value.int IntKind.i64 n_1, Value.int IntKind.i64 n_2, Value.int IntKind.i64 n_3,
      Value.string s, Value.string s_1, Value.int IntKind.i64 n_4, Value.int IntKind.i64 n_5,
      Value.int IntKind.i64 n_6, Value.int IntKind.i64 n_7, Value.int IntKind.i64 n_8,
      Value.int IntKind.i64 (0 : Int), Value.int IntKind.i64 (0 : Int), Value.int IntKind.i64 (0 : Int),
      Value.int IntKind.i64 (0 : Int), Value.int IntKind.i64 (0 : Int)])
      (16 : Nat) (144 : Nat) a_1.a (cutK l t a_1.i).length a_1.c (some { block := b, off := (0 : Nat) : Addr })
      (1 : Nat) old src ∧
      ∀ (a' : Option Addr) (c' : Nat) (m' : M),
      AppPost Try.prog (51 : Nat)
      (a_1.m.newBlock b
      [Value.int IntKind.i64 n, Value.int IntKind.i64 n_1, Value.int IntKind.i64 n_2,
      Value.int IntKind.i64 n_3, Value.string s, Value.string s_1, Value.int IntKind.i64 n_4,
      Value.int IntKind.i64 n_5, Value.int IntKind.i64 n_6, Value.int IntKind.i64 n_7,
      Value.int IntKind.i64 n_8, Value.int IntKind.i64 (0 : Int), Value.int IntKind.i64 (0 : Int),
      Value.int IntKind.i64 (0 : Int), Value.int IntKind.i64 (0 : Int), Value.int IntKind.i64 (0 : Int)])
      (16 : Nat) a_1.a (cutK l t a_1.i).length a_1.c (1 : Nat) old src a' c' m' →
      ∃ (a'_1 : CuX),
      ((a'_1.i ≤ l.length ∧
      NewR m.sz (fun (x : Nat) => False) a'_1.m (16 : Nat) a'_1.a (cutK l t a'_1.i).length a'_1.c
      (cls (cutK l t a'_1.i)) ∧
      Agree m.sz m a'_1.m) ∧
      m' = a'_1.m ∧
      ((SV.val (Value.int IntKind.i64 (IntKind.i64.wrap ((↑a_1.i : Int) + (1 : Int)))) =
      SV.val (Value.int IntKind.i64 (↑a'_1.i : Int)) ∧
      true = true) ∧
      (SV.val (Value.slice a' ((cutK l t a_1.i).length + (1 : Nat)) c') =
      SV.val (Value.slice a'_1.a (cutK l t a'_1.i).length a'_1.c) ∧
      true = true) ∧
      (SV.val (Value.int IntKind.i64 t) = SV.val (Value.int IntKind.i64 t) ∧ true = true) ∧
      (SV.val (Value.slice a l.length cp) = SV.val (Value.slice a l.length cp) ∧ true = true) ∧
      True) ∧
      True) ∧
      l.length - a'_1.i < l.length - a_1.i)
      (true = true ∧
      ∀ (b : Nat),
      a_1.m.sz ≤ b →
      ∃ (old : List Value),
      ∃ (src : List Value),
      AppPre m.sz (fun (x : Nat) => False)
      (a_1.m.newBlock b
      [Value.int IntKind.i64 n, Value.int IntKind.i64 n_1, Value.int IntKind.i64 n_2, Value.int IntKind.i64 n_3,
      Value.string s, Value.string s_1, Value.int IntKind.i64 n_4, Value.int IntKind.i64 n_5,
      Value.int IntKind.i64 n_6, Value.int IntKind.i64 n_7, Value.int IntKind.i64 n_8,
      Value.int IntKind.i64 n_9, Value.int IntKind.i64 n_10, Value.int IntKind.i64 n_11,
      Value.int IntKind.i64 n_12, Value.int IntKind.i64 n_13])
      (16 : Nat) (144 : Nat) a_1.a (cutK l t a_1.i).length a_1.c (some { block := b, off := (0 : Nat) : Addr })
      (1 : Nat) old src ∧
      ∀ (a' : Option Addr) (c' : Nat) (m' : M),
      AppPost Try.prog (51 : Nat)
      (a_1.m.newBlock b
      [Value.int IntKind.i64 n, Value.int IntKind.i64 n_1, Value.int IntKind.i64 n_2,
      Value.int IntKind.i64 n_3, Value.string s, Value.string s_1, Value.int IntKind.i64 n_4,
      Value.int IntKind.i64 n_5, Value.int IntKind.i64 n_6, Value.int IntKind.i64 n_7,
      Value.int IntKind.i64 n_8, Value.int IntKind.i64 n_9, Value.int IntKind.i64 n_10,
      Value.int IntKind.i64 n_11, Value.int IntKind.i64 n_12, Value.int IntKind.i64 n_13])
      (16 : Nat) a_1.a (cutK l t a_1.i).length a_1.c (1 : Nat) old src a' c' m' →
      ∃ (a'_1 : CuX),
      ((a'_1.i ≤ l.length ∧
      NewR m.sz (fun (x : Nat) => False) a'_1.m (16 : Nat) a'_1.a (cutK l t a'_1.i).length a'_1.c
      (cls (cutK l t a'_1.i)) ∧
      Agree m.sz m a'_1.m) ∧
      m' = a'_1.m ∧
      ((SV.val (Value.int IntKind.i64 (IntKind.i64.wrap ((↑a_1.i : Int) + (1 : Int)))) =
      SV.val (Value.int IntKind.i64 (↑a'_1.i : Int)) ∧
      true = true) ∧
      (SV.val (Value.slice a' ((cutK l t a_1.i).length + (1 : Nat)) c') =
      SV.val (Value.slice a'_1.a (cutK l t a'_1.i).length a'_1.c) ∧
      true = true) ∧
      (SV.val (Value.int IntKind.i64 t) = SV.val (Value.int IntKind.i64 t) ∧ true = true) ∧
      (SV.val (Value.slice a l.length cp) = SV.val (Value.slice a l.length cp) ∧ true = true) ∧
      True) ∧
      True) ∧
      l.length - a'_1.i < l.length - a_1.i))))
      (Done
      (∃ (a' : Option Addr),
      ∃ (c' : Nat), Value.slice a_1.a (cutK l t a_1.i).length a_1.c = Value.slice a' (cutL l t).length c' ∧ (cutL l t).length ≤ c' ∧ Row a_1.m a' (cls (cutL l t))))) (by kernel_rfl) ?_
  have w : ∀ k, k < l.length → IntKind.i64.wrap ((k : Int) + 1) = ((k + 1 : Nat) : Int) := fun k hk => by simp [IntKind.wrap_i64]; omega
  refine ⟨rfl, ⟨⟨0, none, 0, m⟩, ⟨Nat.zero_le _, .nil _, Agree.refl _ _⟩, rfl, by simp [cutK, keepK]⟩, fun y ⟨yi, yo, yag⟩ => ifB_intro (fun hb => ?_) (fun hb => ⟨?_⟩)⟩
  · have hk : y.i < l.length := by simpa using hb
    obtain ⟨b, o, hx, hc⟩ := (h.agree yag).cells (by rw [cl_len]; omega)
    have es := cutK_succ l t y.i
    rw [clA_at hk] at es
    have hlen := cutK_len l t y.i
    have push : l[y.i].ca ≤ t → ∀ src0, src0 = encCl (cutE t l[y.i]) → ∀ b3, y.m.sz ≤ b3 → ∃ old src, AppPre m.sz (fun x => False) (y.m.newBlock b3 src0) 16 144 y.a (cutK l t y.i).length y.c (some ⟨b3, 0, none⟩) 1 old src ∧ ∀ (a' : Option Addr) (c' : Nat) (m' : M), AppPost Try.prog 51 (y.m.newBlock b3 src0) 16 y.a (cutK l t y.i).length y.c 1 old src a' c' m' → ∃ a'_1 : CuX, ((a'_1.i ≤ l.length ∧ NewR m.sz (fun x => False) a'_1.m 16 a'_1.a (cutK l t a'_1.i).length a'_1.c (cls (cutK l t a'_1.i)) ∧ Agree m.sz m a'_1.m) ∧ m' = a'_1.m ∧ ((SV.val (.int .i64 (IntKind.i64.wrap ((y.i : Int) + 1))) = SV.val (I a'_1.i) ∧ true = true) ∧ (SV.val (.slice a' ((cutK l t y.i).length + 1) c') = SV.val (.slice a'_1.a (cutK l t a'_1.i).length a'_1.c) ∧ true = true) ∧ (SV.val (I t) = SV.val (I t) ∧ true = true) ∧ (SV.val (.slice a l.length cp) = SV.val (.slice a l.length cp) ∧ true = true) ∧ True) ∧ True) ∧ l.length - a'_1.i < l.length - y.i := by
      intro hca src0 hs b3 hb3
      subst hs
      rw [if_pos hca] at es
      obtain ⟨p1, p2⟩ := yo.push (P := Try.prog) (e := 51) (bytes := 144) (src := encCl (cutE t l[y.i])) hb3 yag.2.2 rfl rfl (by omega) cl_zr
      refine ⟨_, _, p1, fun a' c' m' hp => ?_⟩
      obtain ⟨g1, g2⟩ := p2 a' c' m' hp
      refine ⟨⟨y.i + 1, a', c', m'⟩, ⟨⟨hk, ?_, yag.trans g2⟩, rfl, by simp [w _ hk, es]⟩, by simp only; omega⟩
      simp only
      rw [es, List.length_append, show cls (cutK l t y.i ++ [cutE t l[y.i]]) = cls (cutK l t y.i) ++ encCl (cutE t l[y.i]) by simp [cls]]
      exact g1
    refine ⟨b, o, hx, by omega, _, _, _, _, _, _, _, _, _, _, _, _, _, _, _, _, by simpa using cl_at hc hk, ifB_intro (fun h1 => ?_) (fun h1 => ?_)⟩
    · have h1 : ¬ l[y.i].ca ≤ t := by simp at h1; omega
      rw [if_neg h1, List.append_nil] at es
      exact ⟨⟨y.i + 1, y.a, y.c, y.m⟩, ⟨⟨hk, by simp only; rw [es]; exact yo, yag⟩, rfl, by simp [w _ hk, es]⟩, by simp only; omega⟩
    · have h1 : l[y.i].ca ≤ t := by simp at h1; omega
      refine ifB_intro (fun h2 => ifB_intro (fun h3 => ⟨rfl, push h1 _ ?_⟩) (fun h3 => ⟨rfl, push h1 _ ?_⟩)) (fun h2 => ifB_intro (fun h3 => ⟨rfl, push h1 _ ?_⟩) (fun h3 => ⟨rfl, push h1 _ ?_⟩))
      · have h2 : l[y.i].mo > t := by simpa using h2
        have h3 : l[y.i].aw > t := by simpa using h3
        simp only [encCl, cutE, if_pos h2, if_pos h3]
      · have h2 : l[y.i].mo > t := by simpa using h2
        have h3 : ¬ l[y.i].aw > t := by simpa using h3
        simp only [encCl, cutE, if_pos h2, if_neg h3]
      · have h2 : ¬ l[y.i].mo > t := by simpa using h2
        have h3 : l[y.i].aw > t := by simpa using h3
        simp only [encCl, cutE, if_neg h2, if_pos h3]
      · have h2 : ¬ l[y.i].mo > t := by simpa using h2
        have h3 : ¬ l[y.i].aw > t := by simpa using h3
        simp only [encCl, cutE, if_neg h2, if_neg h3]
  · have hk : y.i = l.length := by simp at hb; omega
    rw [hk] at yo ⊢
    exact ⟨y.a, y.c, rfl, newR_cap yo, yo.row⟩

theorem witnesscut (a : Option Addr) (cp : Nat) (l : List Cl) (t : Int) (hn : l.length ≤ 1048576) (hcp : l.length ≤ cp) (hl : ∀ x ∈ l, x.wf) (m : M) (h : Row m a (cls l)) :
    QSpec Try.prog 7 [.slice a l.length cp, I t] m (.bool true) := by
  refine QSpec.of_vc Try.func7 (ann := fun _ => noAnn) fun N hN => ?_
  refine vc_by (X :=
      true = true ∧
      ∃ (n : Int),
      ∃ (n_1 : Int),
      QSpec Try.prog (24 : Nat) [Value.slice a l.length cp] { π := m.π, sz := N, uf := m.uf : M } (Value.tuple #[Value.int IntKind.i64 n, Value.int IntKind.i64 n_1]) ∧
      ∃ (b : Bool),
      QSpec Try.prog (14 : Nat) [] { π := m.π, sz := N, uf := m.uf : M } (Value.bool b) ∧
      ifB (!b) (∃ (b : Bool), QSpec Try.prog (14 : Nat) [] { π := m.π, sz := N, uf := m.uf : M } (Value.bool b) ∧ Done (Value.bool b = Value.bool true))
      (ifB (n_1 != (0 : Int)) (∃ (b : Bool), QSpec Try.prog (14 : Nat) [] { π := m.π, sz := N, uf := m.uf : M } (Value.bool b) ∧ Done (Value.bool b = Value.bool true))
      (∃ (S' : Nat → Prop),
      (∀ (b : Nat), S' b → m.uf b ∧ (N ≤ b ∨ False)) ∧
      ∀ (n : Nat),
      N ≤ n →
      SpecW Try.prog (25 : Nat) [Value.slice a l.length cp, Value.int IntKind.i64 t] { π := m.π, sz := n, uf := m.uf : M } S' fun (v : Value) (m' : M) =>
      ∃ (a : Option Addr),
      ∃ (n : Nat),
      ∃ (c : Nat),
      v = Value.slice a n c ∧
      ∃ (n_2 : Int),
      ∃ (n_3 : Int),
      QSpec Try.prog (24 : Nat) [Value.slice a n c] m' (Value.tuple #[Value.int IntKind.i64 n_2, Value.int IntKind.i64 n_3]) ∧
      ifB (n_3 == (0 : Int)) (Done (Value.bool (n_2 == (↑n : Int)) = Value.bool true)) (Done (Value.bool false = Value.bool true))))) (by kernel_rfl) ?_
  have h' := h.sz hN
  refine ⟨rfl, _, _, wLegal_q a cp l hn hcp hl _ h', _, wawake_q _, ifB_false ?_⟩
  rcases leg_cases l with ⟨hg, e⟩ | ⟨h1, h2, h3⟩
  · rw [e]
    refine ifB_false ⟨_, noS, fun N1 hN1 => (cutoff_s a cp l t hn _ (h'.sz hN1)).monoW fun v1 m1 ag1 q1 => ?_⟩
    obtain ⟨x, d, e1, hc1, r1⟩ := q1
    have hL := wLegal_q x d (cutL l t) (by have := cutK_len l t l.length; unfold cutL; omega) hc1 (cutL_wf hl t) _ r1
    rw [(cut_legal (t := t) hg).leg] at hL
    exact ⟨_, _, _, e1, _, _, hL, ifB_true ⟨by simp⟩⟩
  · exact ifB_true' (by simpa using h1) ⟨_, wawake_q _, ⟨rfl⟩⟩

end Go.Proofs.Ytbhlhnkjmncloaa
