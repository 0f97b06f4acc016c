/-
  Contracts of functions of this seat: what each hands back, and what it leaves of memory (wit13). Nothing here is trusted: Lean checks it.
-/
import Derived.Test.YtbhlhnkjmncloaaWit12
set_option linter.unusedVariables false
set_option linter.unusedSimpArgs false
namespace Go.Proofs.Ytbhlhnkjmncloaa
open Go.Vc Go.RowKit
set_option maxRecDepth 100000

theorem rRun_s (a : Option Addr) (cp : Nat) (l : List Cl) (hn : l.length ≤ 1048576) (hl : ∀ x ∈ l, x.wf) (m : M) (h : Row m a (cls l)) : Vc.Spec Try.prog 29 [.slice a l.length cp] m fun v m' => ∃ a' c', v = .slice a' (runC (ordC l) []).length c' ∧ Row m' a' (tts (runC (ordC l) [])) := by
  refine Vc.Spec.of_vc Try.func29 (ann := fun _ => { A := RuX, inv := RuI l m, st := fun y => [(5, .val (I y.k)), (4, .val (.slice y.x (ordC l).length y.d)), (3, .val (.slice y.a (runC ((ordC l).take y.k) []).length y.c))], own := fun _ => [], m := fun y => y.m, μ := fun y => (ordC l).length - y.k }) ?_
  refine vc_by (X :=
      true = true ∧
      ∃ (S' : Nat → Prop),
      (∀ (b : Nat), S' b → m.uf b ∧ (m.sz ≤ b ∨ False)) ∧
      ∀ (n : Nat),
      m.sz ≤ n →
      SpecW Try.prog (28 : Nat) [Value.slice a l.length cp] { π := m.π, sz := n, uf := m.uf : M } S' fun (v : Value) (m' : M) =>
      ∃ (a : Option Addr),
      ∃ (n : Nat),
      ∃ (c : Nat),
      v = Value.slice a n c ∧
      (∃ (a_2 : RuX),
      RuI l m a_2 ∧
      m' = a_2.m ∧
      ((SV.val (Value.int IntKind.i64 (0 : Int)) = SV.val (Value.int IntKind.i64 (↑a_2.k : Int)) ∧ true = true) ∧
      (SV.val (Value.slice a n c) = SV.val (Value.slice a_2.x (ordC l).length a_2.d) ∧ true = true) ∧
      (SV.val (Value.slice none (0 : Nat) (0 : Nat)) = SV.val (Value.slice a_2.a (runC (List.take a_2.k (ordC l)) []).length a_2.c) ∧ true = true) ∧
      True) ∧
      True) ∧
      ∀ (a : RuX),
      RuI l m a →
      ifB (decide ((↑a.k : Int) < (↑(ordC l).length : Int)))
      (∃ (b : Nat),
      ∃ (off : Nat),
      a.x = some { block := b, off := off : Addr } ∧
      ((0 : Int) ≤ (↑a.k : Int) ∧ (↑a.k : Int) < (↑(ordC l).length : Int)) ∧
      ∃ (n : Int),
      ∃ (s : ByteArray),
      ∃ (s_1 : ByteArray),
      ∃ (n_1 : Int),
      ∃ (n_2 : Int),
      ∃ (n_3 : Int),
      CellsAt a.m b (off + (↑a.k : Int).toNat * (16 : Nat) + (3 : Nat))
      [Value.int IntKind.i64 n, Value.string s, Value.string s_1, Value.int IntKind.i64 n_1, Value.int IntKind.i64 n_2,
      Value.int IntKind.i64 n_3] ∧
      ∃ (S' : Nat → Prop),
      (∀ (b : Nat), S' b → a.m.uf b ∧ (m.sz ≤ b ∨ False)) ∧
      ∀ (n_4 : Nat),
      a.m.sz ≤ n_4 →
      SpecW Try.prog (13 : Nat)
      [Value.slice a.a (runC (List.take a.k (ordC l)) []).length a.c,
      Value.agg
      #[Value.int IntKind.i64 n, Value.string s, Value.string s_1, Value.int IntKind.i64 n_1, Value.int IntKind.i64 n_2,
      Value.int IntKind.i64 n_3]]
      { π := a.m.π, sz := n_4, uf := a.m.uf : M } S' fun (v : Value) (m' : M) =>
      ∃ (a_4 : Option Addr),
      ∃ (n : Nat),
      ∃ (c : Nat),
      ∃ (n_5 : Int),
      ∃ (n_6 : Int),
      ∃ (n_7 : Int),
      ∃ (n_8 : Int),
      v =
      Value.tuple
      #[Value.slice a_4 n c,
      Value.agg
      #[Value.int IntKind.i64 n_5, Value.int IntKind.i64 n_6, Value.int IntKind.i64 n_7,
      Value.int IntKind.i64 n_8]] ∧
      ∃ (a' : RuX),
      (RuI l m a' ∧
      m' = a'.m ∧
      ((SV.val (Value.int IntKind.i64 (IntKind.i64.wrap ((↑a.k : Int) + (1 : Int)))) =
      SV.val (Value.int IntKind.i64 (↑a'.k : Int)) ∧
      true = true) ∧
      (SV.val (Value.slice a.x (ordC l).length a.d) =
      SV.val (Value.slice a'.x (ordC l).length a'.d) ∧
      true = true) ∧
      (SV.val (Value.slice a_4 n c) =
      SV.val (Value.slice a'.a (runC (List.take a'.k (ordC l)) []).length a'.c) ∧
      true = true) ∧
      True) ∧
      True) ∧
      (ordC l).length - a'.k < (ordC l).length - a.k)
      (Done
      (∃ (a' : Option Addr),
      ∃ (c' : Nat),
      Value.slice a.a (runC (List.take a.k (ordC l)) []).length a.c = Value.slice a' (runC (ordC l) []).length c' ∧
      Row a.m a' (tts (runC (ordC l) []))))) (by kernel_rfl) ?_
  have hle := ordC_le l
  refine ⟨rfl, _, noS, fun N hN => (rOrder_s a cp l hn _ (h.sz hN)).monoW fun v m' hag ⟨x, d, hv, hr⟩ => ⟨x, _, d, hv, ⟨⟨0, x, d, none, 0, m'⟩, ⟨Nat.zero_le _, hr, .nil _⟩, rfl, by simp [runC]⟩, fun y Y => ifB_intro (fun hb => ?_) (fun hb => ⟨?_⟩)⟩⟩
  · have hk : y.k < (ordC l).length := by simpa using hb
    obtain ⟨b, o, hx, hc⟩ := Y.ns.cells (by rw [cl_len]; omega)
    have w1 : IntKind.i64.wrap ((y.k : Int) + 1) = ((y.k + 1 : Nat) : Int) := by simp [IntKind.wrap_i64]; omega
    have hw := ordC_wf hl
    have T := runC_ok ((ordC l).take y.k) (TotI.nil (n := 0)) fun c hc => hw c (List.mem_of_mem_take hc)
    have tl := T.len
    rw [List.length_take] at tl
    have e : runC ((ordC l).take (y.k + 1)) [] = (doT (runC ((ordC l).take y.k) []) (opC (ordC l)[y.k])).1 := by
      rw [List.take_succ_eq_append_getElem hk, runC_snoc]
    have c1 := CellsAt.field cl_k hc hk (p := [I (ordC l)[y.k].cl, I (ordC l)[y.k].sq, I (ordC l)[y.k].nd]) (old := encOq (opC (ordC l)[y.k])) (q := [I (ordC l)[y.k].ca, I (ordC l)[y.k].mo, I (ordC l)[y.k].aw, I (ordC l)[y.k].an_er, I (ordC l)[y.k].an_va, I (ordC l)[y.k].an_le, I (ordC l)[y.k].an_mo]) rfl
    refine ⟨b, o, hx, by omega, _, _, _, _, _, _, by simpa using c1, ?_⟩
    refine ⟨_, noS, fun N2 hN2 => (rdo_s y.a y.c _ (opC (ordC l)[y.k]) (by omega) T.wf (opC_wf (hw _ (List.getElem_mem hk))) _ (Y.t.sz hN2)).monoW fun v2 m2 hag2 q2 => ?_⟩
    obtain ⟨x2, d2, hv2, hr2⟩ := q2
    exact ⟨_, _, _, _, _, _, _, hv2, ⟨y.k + 1, y.x, y.d, x2, d2, m2⟩, ⟨⟨hk, (Y.ns.sz hN2).agree hag2, by simp only; rw [e]; exact hr2⟩, rfl, by simp [w1, e]⟩, by simp only; omega⟩
  · have hk : y.k = (ordC l).length := by have := Y.k; simp at hb; omega
    have ho := Y.t
    rw [hk, List.take_length] at ho ⊢
    exact ⟨y.a, y.c, rfl, ho⟩

/-- the first call of an order that was not told rightly -/
def secP (l : List Cl) : List Nat → List Tt → Option Nat
  | [], _ => none
  | i :: r, t => if rigB (clA l i) (doT t (opC (clA l i))).2 then secP l r (doT t (opC (clA l i))).1 else some i

/-- the first call of which the form is wrong -/
def frmP (l : List Cl) : Option Nat := (List.range l.length).find? fun i => !decide (wrgE (clA l i) (l.take i) = 0)

def legP (l : List Cl) : Int × Int := match frmP l with
  | some i => (i, wrgE (clA l i) (l.take i))
  | none => match secP l (ordL l) [] with
    | some i => (i, 150)
    | none => (l.length, 0)

theorem frm_some {l : List Cl} {i : Nat} (hi : i < l.length) (h1 : ∀ j, j < i → wrgE (clA l j) (l.take j) = 0) (h2 : wrgE (clA l i) (l.take i) ≠ 0) : frmP l = some i := by
  unfold frmP
  rw [List.find?_range_eq_some]
  refine ⟨by simpa using h2, by simpa using hi, fun j hj => by simp [h1 j hj]⟩

theorem frm_none {l : List Cl} (h1 : ∀ j, j < l.length → wrgE (clA l j) (l.take j) = 0) : frmP l = none := by
  unfold frmP
  rw [List.find?_range_eq_none]
  intro j hj; simp [h1 j hj]

structure LgX where
  k : Nat
  x : Option Addr
  d : Nat
  a : Option Addr
  c : Nat
  m : M

structure LgI (l : List Cl) (al : Option Addr) (y : LgX) : Prop where
  k : y.k ≤ (ordL l).length
  ns : Row y.m y.x (nsv (ordL l))
  src : Row y.m al (cls l)
  t : Row y.m y.a (tts (runC ((ordC l).take y.k) []))
  sec : secP l (ordL l) [] = secP l ((ordL l).drop y.k) (runC ((ordC l).take y.k) [])

theorem run_take {l : List Cl} {k : Nat} (hk : k < (ordL l).length) : runC ((ordC l).take (k + 1)) [] = (doT (runC ((ordC l).take k) []) (opC (clA l (ordL l)[k]))).1 := by
  rw [List.take_succ_eq_append_getElem (by rw [ordC_len]; exact hk), runC_snoc, ordC_get hk]

theorem run_tot {l : List Cl} (hl : ∀ x ∈ l, x.wf) (k : Nat) : TotI (runC ((ordC l).take k) []) (2 * l.length) := by
  have T := runC_ok ((ordC l).take k) (TotI.nil (n := 0)) fun c hc => ordC_wf hl c (List.mem_of_mem_take hc)
  have h2 := ordC_le l
  have h3 := T.len
  rw [List.length_take] at h3
  exact ⟨T.right, T.wf, by omega⟩

theorem wLegal_q (a : Option Addr) (cp : Nat) (l : List Cl) (hn : l.length ≤ 1048576) (hcp : l.length ≤ cp) (hl : ∀ x ∈ l, x.wf) (m : M) (h : Row m a (cls l)) : QSpec Try.prog 24 [.slice a l.length cp] m (.tuple #[I (legP l).1, I (legP l).2]) := by
  refine QSpec.of_vc Try.func24 (ann := fun n r => match r with
    | 2 => { A := Nat, inv := fun k => k ≤ l.length ∧ ∀ j, j < k → wrgE (clA l j) (l.take j) = 0, st := fun k => [(14, .val (I k)), (13, .val (I l.length)), (12, .val (.slice a l.length cp)), (0, .val (.slice a l.length cp))], own := fun _ => [], m := fun _ => { m with sz := n }, μ := fun k => l.length - k }
    | 10 => { A := LgX, inv := LgI l a, st := fun y => [(32, .val (I y.k)), (31, .val (I (ordL l).length)), (30, .val (.slice y.x (ordL l).length y.d)), (7, .val (.slice y.a (runC ((ordC l).take y.k) []).length y.c)), (0, .val (.slice a l.length cp))], own := fun _ => [], m := fun y => y.m, μ := fun y => (ordL l).length - y.k }
    | _ => noAnn 0) fun n hn' => ?_
  refine vc_by (X :=
      true = true ∧
      (∃ (a_1 : Nat),
      (a_1 ≤ l.length ∧ ∀ (j : Nat), j < a_1 → wrgE (clA l j) (List.take j l) = (0 : Int)) ∧
      { π := m.π, sz := n, uf := m.uf : M } = { π := m.π, sz := n, uf := m.uf : M } ∧
      ((SV.val (Value.int IntKind.i64 (0 : Int)) = SV.val (Value.int IntKind.i64 (↑a_1 : Int)) ∧ true = true) ∧
      (SV.val (Value.int IntKind.i64 (↑l.length : Int)) = SV.val (Value.int IntKind.i64 (↑l.length : Int)) ∧ true = true) ∧
      (SV.val (Value.slice a l.length cp) = SV.val (Value.slice a l.length cp) ∧ true = true) ∧
      (SV.val (Value.slice a l.length cp) = SV.val (Value.slice a l.length cp) ∧ true = true) ∧ True) ∧
      True) ∧
      ∀ (a_1 : Nat),
      (a_1 ≤ l.length ∧ ∀ (j : Nat), j < a_1 → wrgE (clA l j) (List.take j l) = (0 : Int)) →
      ifB (decide ((↑a_1 : Int) < (↑l.length : Int)))
      (∃ (b : Nat),
      ∃ (off : Nat),
      a = some { block := b, off := off : Addr } ∧
      ((0 : Int) ≤ (↑a_1 : Int) ∧ (↑a_1 : Int) < (↑l.length : Int)) ∧
      ∃ (n_1 : Int),
      ∃ (n_2 : Int),
      ∃ (n_3 : Int),
      ∃ (n_4 : Int),
      ∃ (s : ByteArray),
      ∃ (s_1 : ByteArray),
      ∃ (n_5 : Int),
      ∃ (n_6 : Int),
      ∃ (n_7 : Int),
      ∃ (n_8 : Int),
      ∃ (n_9 : Int),
      ∃ (n_10 : Int),
      ∃ (n_11 : Int),
      ∃ (n_12 : Int),
      ∃ (n_13 : Int),
      ∃ (n_14 : Int),
      CellsAt { π := m.π, sz := n, uf := m.uf : M } b (off + (↑a_1 : Int).toNat * (16 : Nat))
      [Value.int IntKind.i64 n_1, Value.int IntKind.i64 n_2, Value.int IntKind.i64 n_3, Value.int IntKind.i64 n_4, Value.string s,
      Value.string s_1, Value.int IntKind.i64 n_5, Value.int IntKind.i64 n_6, Value.int IntKind.i64 n_7,
      Value.int IntKind.i64 n_8, Value.int IntKind.i64 n_9, Value.int IntKind.i64 n_10, Value.int IntKind.i64 n_11,
      Value.int IntKind.i64 n_12, Value.int IntKind.i64 n_13, Value.int IntKind.i64 n_14] ∧
      true = true ∧
      (true = true ∧ (0 : Int) ≤ (0 : Int) ∧ (0 : Int) ≤ (↑a_1 : Int) ∧ (↑a_1 : Int) ≤ (↑cp : Int) ∧ True) ∧
      ∃ (n_15 : Int),
      QSpec Try.prog (47 : Nat)
      [Value.agg
      #[Value.int IntKind.i64 n_1, Value.int IntKind.i64 n_2, Value.int IntKind.i64 n_3, Value.int IntKind.i64 n_4,
      Value.string s, Value.string s_1, Value.int IntKind.i64 n_5, Value.int IntKind.i64 n_6,
      Value.int IntKind.i64 n_7, Value.int IntKind.i64 n_8, Value.int IntKind.i64 n_9, Value.int IntKind.i64 n_10,
      Value.int IntKind.i64 n_11, Value.int IntKind.i64 n_12, Value.int IntKind.i64 n_13, Value.int IntKind.i64 n_14],
      Value.slice (if (↑cp : Int).toNat = (0 : Nat) then a else Option.map (fun (x : Addr) => x) a)
      ((↑a_1 : Int).toNat - (0 : Nat)) ((↑cp : Int).toNat - (0 : Nat))]
      { π := m.π, sz := n, uf := m.uf : M } (Value.int IntKind.i64 n_15) ∧
      ifB (n_15 != (0 : Int))
      (Done
      (Value.tuple #[Value.int IntKind.i64 (↑a_1 : Int), Value.int IntKind.i64 n_15] =
      Value.tuple #[Value.int IntKind.i64 (legP l).fst, Value.int IntKind.i64 (legP l).snd]))
      (∃ (a' : Nat),
      ((a' ≤ l.length ∧ ∀ (j : Nat), j < a' → wrgE (clA l j) (List.take j l) = (0 : Int)) ∧
      { π := m.π, sz := n, uf := m.uf : M } = { π := m.π, sz := n, uf := m.uf : M } ∧
      ((SV.val (Value.int IntKind.i64 (IntKind.i64.wrap ((↑a_1 : Int) + (1 : Int)))) =
      SV.val (Value.int IntKind.i64 (↑a' : Int)) ∧
      true = true) ∧
      (SV.val (Value.int IntKind.i64 (↑l.length : Int)) = SV.val (Value.int IntKind.i64 (↑l.length : Int)) ∧
      true = true) ∧
      (SV.val (Value.slice a l.length cp) = SV.val (Value.slice a l.length cp) ∧ true = true) ∧
      (SV.val (Value.slice a l.length cp) = SV.val (Value.slice a l.length cp) ∧ true = true) ∧ True) ∧
      True) ∧
      l.length - a' < l.length - a_1))
      (∃ (S' : Nat → Prop),
      (∀ (b : Nat), S' b → m.uf b ∧ (n ≤ b ∨ False)) ∧
      ∀ (n_1 : Nat),
      n ≤ n_1 →
      SpecW Try.prog (46 : Nat) [Value.slice a l.length cp] { π := m.π, sz := n_1, uf := m.uf : M } S' fun (v : Value) (m' : M) =>
      ∃ (a_4 : Option Addr),
      ∃ (n_2 : Nat),
      ∃ (c : Nat),
      v = Value.slice a_4 n_2 c ∧
      (∃ (a_5 : LgX),
      LgI l a a_5 ∧
      m' = a_5.m ∧
      ((SV.val (Value.int IntKind.i64 (0 : Int)) = SV.val (Value.int IntKind.i64 (↑a_5.k : Int)) ∧ true = true) ∧
      (SV.val (Value.int IntKind.i64 (↑n_2 : Int)) = SV.val (Value.int IntKind.i64 (↑(ordL l).length : Int)) ∧ true = true) ∧
      (SV.val (Value.slice a_4 n_2 c) = SV.val (Value.slice a_5.x (ordL l).length a_5.d) ∧ true = true) ∧
      (SV.val (Value.slice none (0 : Nat) (0 : Nat)) = SV.val (Value.slice a_5.a (runC (List.take a_5.k (ordC l)) []).length a_5.c) ∧
      true = true) ∧
      (SV.val (Value.slice a l.length cp) = SV.val (Value.slice a l.length cp) ∧ true = true) ∧ True) ∧
      True) ∧
      ∀ (a_5 : LgX),
      LgI l a a_5 →
      ifB (decide ((↑a_5.k : Int) < (↑(ordL l).length : Int)))
      (∃ (b : Nat),
      ∃ (off : Nat),
      a_5.x = some { block := b, off := off : Addr } ∧
      ((0 : Int) ≤ (↑a_5.k : Int) ∧ (↑a_5.k : Int) < (↑(ordL l).length : Int)) ∧
      ∃ (n_3 : Int),
      CellsAt a_5.m b (off + (↑a_5.k : Int).toNat * (1 : Nat)) [Value.int IntKind.i64 n_3] ∧
      ∃ (b : Nat),
      ∃ (off : Nat),
      a = some { block := b, off := off : Addr } ∧
      ((0 : Int) ≤ n_3 ∧ n_3 < (↑l.length : Int)) ∧
      ∃ (n_4 : Int),
      ∃ (s : ByteArray),
      ∃ (s_1 : ByteArray),
      ∃ (n_5 : Int),
      ∃ (n_6 : Int),
      ∃ (n_7 : Int),
      CellsAt a_5.m b (off + n_3.toNat * (16 : Nat) + (3 : Nat))
      [Value.int IntKind.i64 n_4, Value.string s, Value.string s_1, Value.int IntKind.i64 n_5,
      Value.int IntKind.i64 n_6, Value.int IntKind.i64 n_7] ∧
      ∃ (S' : Nat → Prop),
      (∀ (b : Nat), S' b → a_5.m.uf b ∧ (n ≤ b ∨ False)) ∧
      ∀ (n : Nat),
      a_5.m.sz ≤ n →
      SpecW Try.prog (12 : Nat)
      [Value.slice a_5.a (runC (List.take a_5.k (ordC l)) []).length a_5.c,
      Value.agg
      #[Value.int IntKind.i64 n_4, Value.string s, Value.string s_1, Value.int IntKind.i64 n_5,
      Value.int IntKind.i64 n_6, Value.int IntKind.i64 n_7]]
      { π := a_5.m.π, sz := n, uf := a_5.m.uf : M } S' fun (v : Value) (m' : M) =>
      ∃ (a_8 : Option Addr),
      ∃ (n : Nat),
      ∃ (c : Nat),
      ∃ (n_8 : Int),
      ∃ (n_9 : Int),
      ∃ (n_10 : Int),
      ∃ (n_11 : Int),
      v =
      Value.tuple
      #[Value.slice a_8 n c,
      Value.agg
      #[Value.int IntKind.i64 n_8, Value.int IntKind.i64 n_9,
      Value.int IntKind.i64 n_10, Value.int IntKind.i64 n_11]] ∧
      true = true ∧
      ∃ (b : Nat),
      ∃ (off : Nat),
      a = some { block := b, off := off : Addr } ∧
      ((0 : Int) ≤ n_3 ∧ n_3 < (↑l.length : Int)) ∧
      ∃ (n_12 : Int),
      ∃ (n_13 : Int),
      ∃ (n_14 : Int),
      ∃ (n_15 : Int),
      ∃ (s : ByteArray),
      ∃ (s_2 : ByteArray),
      ∃ (n_16 : Int),
      ∃ (n_17 : Int),
      ∃ (n_18 : Int),
      ∃ (n_19 : Int),
      ∃ (n_20 : Int),
      ∃ (n_21 : Int),
      ∃ (n_22 : Int),
      ∃ (n_23 : Int),
      ∃ (n_24 : Int),
      ∃ (n_25 : Int),
      CellsAt m' b
      (off + n_3.toNat * (16 : Nat))
      [Value.int IntKind.i64 n_12,
      Value.int IntKind.i64 n_13,
      Value.int IntKind.i64 n_14,
      Value.int IntKind.i64 n_15,
      Value.string s, Value.string s_2,
      Value.int IntKind.i64 n_16,
      Value.int IntKind.i64 n_17,
      Value.int IntKind.i64 n_18,
      Value.int IntKind.i64 n_19,
      Value.int IntKind.i64 n_20,
      Value.int IntKind.i64 n_21,
      Value.int IntKind.i64 n_22,
      Value.int IntKind.i64 n_23,
      Value.int IntKind.i64 n_24,
      Value.int IntKind.i64 n_25] ∧
      ∃ (b : Bool),
      QSpec Try.prog (48 : Nat)
      [Value.agg
      #[Value.int IntKind.i64 n_12,
      Value.int IntKind.i64 n_13,
      Value.int IntKind.i64 n_14,
      Value.int IntKind.i64 n_15,
      Value.string s,
      Value.string s_2,
      Value.int IntKind.i64 n_16,
      Value.int IntKind.i64 n_17,
      Value.int IntKind.i64 n_18,
      Value.int IntKind.i64 n_19,
      Value.int IntKind.i64 n_20,
      Value.int IntKind.i64 n_21,
      Value.int IntKind.i64 n_22,
      Value.int IntKind.i64 n_23,
      Value.int IntKind.i64 n_24,
      Value.int IntKind.i64 n_25],
      Value.agg
      #[Value.int IntKind.i64 n_8,
      Value.int IntKind.i64 n_9,
      Value.int IntKind.i64 n_10,
      Value.int IntKind.i64 n_11]]
      m' (Value.bool b) ∧
      ifB (!b)
      (Done
      (Value.tuple
      #[Value.int IntKind.i64 n_3,
      Value.int IntKind.i64
      (150 : Int)] =
      Value.tuple
      #[Value.int IntKind.i64
      (legP l).fst,
      Value.int IntKind.i64
      (legP l).snd]))
      (∃ (a' : LgX),
      (LgI l a a' ∧
      m' = a'.m ∧
      ((SV.val
      (Value.int
      IntKind.i64
      (IntKind.i64.wrap
      ((↑a_5.k :
      Int) +
      (1 :
      Int)))) =
      SV.val
      (Value.int
      IntKind.i64
      (↑a'.k :
      Int)) ∧
      true = true) ∧
      (SV.val
      (Value.int
      IntKind.i64
      (↑(ordL
      l).length :
      Int)) =
      SV.val
      (Value.int
      IntKind.i64
      (↑(ordL
      l).length :
      Int)) ∧
      true = true) ∧
      (SV.val
      (Value.slice
      a_5.x
      (ordL
      l).length
      a_5.d) =
      SV.val
      (Value.slice
      a'.x
      (ordL
      l).length
      a'.d) ∧
      true = true) ∧
      (SV.val
      (Value.slice
      a_8 n
      c) =
      SV.val
      (Value.slice
      a'.a
      (runC
      (List.take
      a'.k
      (ordC
      l))
      []).length
      a'.c) ∧
      true = true) ∧
      (SV.val
      (Value.slice
      a
      l.length
      cp) =
      SV.val
      (Value.slice
      a
      l.length
      cp) ∧
      true =
      true) ∧
      True) ∧
      True) ∧
      (ordL l).length - a'.k <
      (ordL l).length - a_5.k))
      (Done
      (Value.tuple #[Value.int IntKind.i64 (↑l.length : Int), Value.int IntKind.i64 (0 : Int)] =
      Value.tuple #[Value.int IntKind.i64 (legP l).fst, Value.int IntKind.i64 (legP l).snd])))) (by kernel_rfl) ?_
  have h' := h.sz hn'
  have w : ∀ k, k < l.length → IntKind.i64.wrap ((k : Int) + 1) = ((k + 1 : Nat) : Int) := fun k hk => by simp [IntKind.wrap_i64]; omega
  have ol := ordL_len l
  refine ⟨rfl, ⟨0, ⟨Nat.zero_le _, fun j hj => by omega⟩, rfl, by simp⟩, fun k ⟨hk, hq⟩ => ifB_intro (fun hb => ?_) (fun hb => ?_)⟩
  · have hk2 : k < l.length := by simpa using hb
    obtain ⟨b, o, rfl, hc⟩ := h'.cells (by rw [cl_len]; omega)
    have hr : Row { m with sz := n } (some ⟨b, o, none⟩) (cls (l.take k)) := by
      have := h'
      rw [show cls l = cls (l.take k) ++ cls (l.drop k) from flat_cut l k] at this
      exact this.take
    have hw := wrong_q l[k] (some ⟨b, o, none⟩) cp (l.take k) (by rw [List.length_take]; omega) _ hr
    rw [List.length_take, Nat.min_eq_left hk] at hw
    refine ⟨b, o, rfl, by omega, _, _, _, _, _, _, _, _, _, _, _, _, _, _, _, _, by simpa using cl_at hc hk2, rfl, ⟨rfl, by omega, by omega, by omega, trivial⟩, _, by simpa using hw, ifB_intro (fun h1 => ⟨?_⟩) (fun h1 => ⟨k + 1, ⟨⟨hk2, fun j hj => ?_⟩, rfl, by simp [w k hk2]⟩, by omega⟩)⟩
    · have h1 : wrgE l[k] (l.take k) ≠ 0 := by simpa using h1
      rw [← clA_at hk2] at h1 ⊢
      simp only [legP, frm_some hk2 hq h1]
    · have h1 : wrgE l[k] (l.take k) = 0 := by simpa using h1
      by_cases e : j = k
      · rw [e, clA_at hk2]; exact h1
      · exact hq j (by omega)
  · have hk2 : k = l.length := by simp at hb; omega
    rw [hk2] at hq
    have hleg : legP l = match secP l (ordL l) [] with | some i => ((i : Int), 150) | none => ((l.length : Int), 0) := by simp only [legP, frm_none hq]
    refine ⟨_, noS, fun N hN => (worder_s a cp l (by omega) _ (h'.sz hN)).monoW fun v m' hag ⟨x, d, hv, hr⟩ => ⟨x, _, d, hv, ⟨⟨0, x, d, none, 0, m'⟩, ⟨Nat.zero_le _, hr, (h'.sz hN).agree hag, .nil _, rfl⟩, rfl, by simp [runC]⟩, fun y Y => ifB_intro (fun hb => ?_) (fun hb => ⟨?_⟩)⟩⟩
    · have hk : y.k < (ordL l).length := by simpa using hb
      obtain ⟨b, o, hx, hc⟩ := Y.ns.cells (by rw [ns_len]; omega)
      have hi := ordL_lt (List.getElem_mem hk)
      have T := run_tot hl y.k
      have e := run_take hk
      have hs := Y.sec
      rw [List.drop_eq_getElem_cons hk, secP] at hs
      have tl := T.len
      have fld : ∀ (m2 : M) (b2 o2 : Nat), CellsAt m2 b2 o2 (cls l) → CellsAt m2 b2 (o2 + (ordL l)[y.k] * 16 + 3) (encOq (opC (clA l (ordL l)[y.k]))) := fun m2 b2 o2 hc2 => by
        rw [clA_at hi]
        exact CellsAt.field cl_k hc2 hi (p := [I l[(ordL l)[y.k]].cl, I l[(ordL l)[y.k]].sq, I l[(ordL l)[y.k]].nd]) (old := encOq (opC l[(ordL l)[y.k]])) (q := [I l[(ordL l)[y.k]].ca, I l[(ordL l)[y.k]].mo, I l[(ordL l)[y.k]].aw, I l[(ordL l)[y.k]].an_er, I l[(ordL l)[y.k]].an_va, I l[(ordL l)[y.k]].an_le, I l[(ordL l)[y.k]].an_mo]) rfl
      have whl : ∀ (m2 : M) (b2 o2 : Nat), CellsAt m2 b2 o2 (cls l) → CellsAt m2 b2 (o2 + (ordL l)[y.k] * 16) (encCl (clA l (ordL l)[y.k])) := fun m2 b2 o2 hc2 => by
        rw [clA_at hi]; exact cl_at hc2 hi
      have hown : (clA l (ordL l)[y.k]).wf := clA_wf hl
      generalize hgi : (ordL l)[y.k] = i at *
      generalize hgc : clA l i = c at *
      obtain ⟨b2, o2, ha2, hc2⟩ := Y.src.cells (by rw [cl_len]; omega)
      refine ⟨b, o, hx, by omega, (i : Int), by rw [← hgi]; simpa using ns_at hc hk, b2, o2, ha2, by omega, _, _, _, _, _, _, by simpa using fld _ _ _ hc2, ?_⟩
      refine ⟨_, noS, fun N2 hN2 => (wdo_s y.a y.c _ (opC c) (by omega) T.wf (opC_wf hown) _ (Y.t.sz hN2)).monoW fun v2 m2 hag2 q2 => ?_⟩
      obtain ⟨x2, d2, hv2, hr2⟩ := q2
      have hsrc := (Y.src.sz hN2).agree hag2
      obtain ⟨b3, o3, ha3, hc3⟩ := hsrc.cells (by rw [cl_len]; omega)
      refine ⟨_, _, _, _, _, _, _, hv2, rfl, b3, o3, ha3, by omega, _, _, _, _, _, _, _, _, _, _, _, _, _, _, _, _, by simpa using whl _ _ _ hc3, _, rightly_q c _ _, ifB_intro (fun h1 => ⟨?_⟩) (fun h1 => ⟨⟨y.k + 1, y.x, y.d, x2, d2, m2⟩, ⟨⟨hk, (Y.ns.sz hN2).agree hag2, hsrc, by simp only; rw [e]; exact hr2, ?_⟩, rfl, by simp [w _ (show y.k < l.length by omega), e]⟩, by simp only; omega⟩)⟩
      · have h1 : rigB c (doT (runC ((ordC l).take y.k) []) (opC c)).2 = false := by
          have e : (!rigB c (doT (runC ((ordC l).take y.k) []) (opC c)).2) = true := h1
          simpa using e
        rw [h1] at hs
        simp only [hleg, hs]
        rfl
      · have h1 : rigB c (doT (runC ((ordC l).take y.k) []) (opC c)).2 = true := by
          have e : (!rigB c (doT (runC ((ordC l).take y.k) []) (opC c)).2) = false := h1
          simpa using e
        rw [h1, if_pos rfl] at hs
        simp only
        rw [hs, e]
    · have hk : y.k = (ordL l).length := by have := Y.k; simp at hb; omega
      have hs := Y.sec
      rw [hk, List.drop_length, secP] at hs
      simp only [hleg, hs]

end Go.Proofs.Ytbhlhnkjmncloaa
