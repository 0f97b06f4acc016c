/-
  Contracts of functions of this seat: what each hands back, and what it leaves of memory (wit11). Nothing here is trusted: Lean checks it.
-/
import Derived.Test.YtbhlhnkjmncloaaWit10
set_option linter.unusedVariables false
set_option linter.unusedSimpArgs false
namespace Go.Proofs.Ytbhlhnkjmncloaa
open Go.Vc Go.RowKit
set_option maxRecDepth 100000

/-- the totals behind calls, one behind the other -/
def runC (cs : List Cl) (t : List Tt) : List Tt := cs.foldl (fun t c => (doT t (opC c)).1) t

theorem runC_snoc (cs : List Cl) (c : Cl) (t : List Tt) : runC (cs ++ [c]) t = (doT (runC cs t) (opC c)).1 := by simp [runC]

structure TotI (t : List Tt) (n : Nat) : Prop where
  right : totB none t = true
  wf : ∀ x ∈ t, x.wf
  len : t.length ≤ n

theorem TotI.nil {n : Nat} : TotI [] n := ⟨rfl, by simp, by simp⟩

theorem TotI.step {t : List Tt} {n : Nat} (h : TotI t n) {o : Oq} (ho : o.wf) : TotI (doT t o).1 (n + 2) := by
  have P := do_p h.right h.wf ho
  have := do_len t o
  exact ⟨P.right, P.wf, by have := h.len; omega⟩

theorem runC_ok : ∀ (cs : List Cl) {t : List Tt} {n : Nat}, TotI t n → (∀ c ∈ cs, c.wf) → TotI (runC cs t) (n + 2 * cs.length)
  | [], t, n, h, _ => by simpa [runC] using h
  | c :: cs, t, n, h, hw => by
    have := runC_ok cs (h.step (opC_wf (hw c (by simp)))) (fun x hx => hw x (by simp [hx]))
    have e : runC (c :: cs) t = runC cs (doT t (opC c)).1 := rfl
    rw [e, List.length_cons]
    exact ⟨this.right, this.wf, by have := this.len; omega⟩

theorem clA_wf {l : List Cl} (hl : ∀ x ∈ l, x.wf) {i : Nat} : (clA l i).wf := by
  by_cases h : i < l.length
  · rw [clA_at h]; exact hl _ (List.getElem_mem h)
  · simp only [clA, List.getElem?_eq_none (Nat.le_of_not_lt h), Option.getD_none, cl0, Cl.wf]
    refine ⟨by decide, by decide, by decide, by decide, by decide, by decide, by decide, by decide, by decide, by decide, by decide, by decide, by decide, by decide, by decide, by decide⟩

theorem ordC_wf {l : List Cl} (hl : ∀ x ∈ l, x.wf) : ∀ x ∈ ordC l, x.wf := fun x hx => by
  obtain ⟨i, -, rfl⟩ := List.mem_map.1 hx
  exact clA_wf hl

theorem ordC_le (l : List Cl) : (ordC l).length ≤ l.length := by rw [ordC_len]; exact ordL_len l

theorem ordC_get {l : List Cl} {k : Nat} (hk : k < (ordL l).length) : (ordC l)[k]'(by rw [ordC_len]; exact hk) = clA l (ordL l)[k] := by simp [ordC]

structure OcX where
  k : Nat
  x : Option Addr
  d : Nat
  a : Option Addr
  c : Nat
  m1 : M
  m : M

structure OcI (l : List Cl) (al : Option Addr) (m : M) (y : OcX) : Prop where
  k : y.k ≤ (ordL l).length
  ns : Row y.m1 y.x (nsv (ordL l))
  src : Row y.m1 al (cls l)
  out : NewR y.m1.sz (fun _ => False) y.m 16 y.a y.k y.c (cls ((ordC l).take y.k))
  ag0 : Agree m.sz m y.m1
  ag : Agree y.m1.sz y.m1 y.m

theorem wOrder_s (a : Option Addr) (cp : Nat) (l : List Cl) (hn : l.length ≤ 1048576) (m : M) (h : Row m a (cls l)) : Vc.Spec Try.prog 21 [.slice a l.length cp] m fun v m' => ∃ a' c', v = .slice a' (ordC l).length c' ∧ Row m' a' (cls (ordC l)) := by
  refine Vc.Spec.of_vc Try.func21 (ann := fun _ => { A := OcX, inv := OcI l a m, st := fun y => [(9, .val (I y.k)), (8, .val (I (ordL l).length)), (7, .val (.slice y.x (ordL l).length y.d)), (3, .val (.slice y.a y.k y.c)), (0, .val (.slice a l.length cp))], own := fun _ => [], m := fun y => y.m, μ := fun y => (ordL l).length - y.k }) ?_
  refine vc_by (X :=
      true = true ∧
      ∃ (S' : Nat → Prop),
      (∀ (b : Nat), S' b → m.uf b ∧ (m.sz ≤ b ∨ False)) ∧
      ∀ (n : Nat),
      m.sz ≤ n →
      SpecW Try.prog (46 : Nat) [Value.slice a l.length cp] { π := m.π, sz := n, uf := m.uf : M } S' fun (v : Value) (m' : M) =>
      ∃ (a_2 : Option Addr),
      ∃ (n : Nat),
      ∃ (c : Nat),
      v = Value.slice a_2 n c ∧
      (∃ (a_3 : OcX),
      OcI l a m a_3 ∧
      m' = a_3.m ∧
      ((SV.val (Value.int IntKind.i64 (0 : Int)) = SV.val (Value.int IntKind.i64 (↑a_3.k : Int)) ∧ true = true) ∧
      (SV.val (Value.int IntKind.i64 (↑n : Int)) = SV.val (Value.int IntKind.i64 (↑(ordL l).length : Int)) ∧ true = true) ∧
      (SV.val (Value.slice a_2 n c) = SV.val (Value.slice a_3.x (ordL l).length a_3.d) ∧ true = true) ∧
      (SV.val (Value.slice none (0 : Nat) (0 : Nat)) = SV.val (Value.slice a_3.a a_3.k a_3.c) ∧ true = true) ∧
      (SV.val (Value.slice a l.length cp) = SV.val (Value.slice a l.length cp) ∧ true = true) ∧ True) ∧
      True) ∧
      ∀ (a_3 : OcX),
      OcI l a m a_3 →
      ifB (decide ((↑a_3.k : Int) < (↑(ordL l).length : Int)))
      (∃ (b : Nat),
      ∃ (off : Nat),
      a_3.x = some { block := b, off := off : Addr } ∧
      ((0 : Int) ≤ (↑a_3.k : Int) ∧ (↑a_3.k : Int) < (↑(ordL l).length : Int)) ∧
      ∃ (n : Int),
      CellsAt a_3.m b (off + (↑a_3.k : Int).toNat * (1 : Nat)) [Value.int IntKind.i64 n] ∧
      ∃ (b : Nat),
      ∃ (off : Nat),
      a = some { block := b, off := off : Addr } ∧
      ((0 : Int) ≤ n ∧ n < (↑l.length : Int)) ∧
      ∃ (n_1 : Int),
      ∃ (n_2 : Int),
      ∃ (n_3 : Int),
      ∃ (n_4 : Int),
      ∃ (s : ByteArray),
      ∃ (s_1 : ByteArray),
      ∃ (n_5 : Int),
      ∃ (n_6 : Int),
      ∃ (n_7 : Int),
      ∃ (n_8 : Int),
      ∃ (n_9 : Int),
      ∃ (n_10 : Int),
      ∃ (n_11 : Int),
      ∃ (n_12 : Int),
      ∃ (n_13 : Int),
      ∃ (n_14 : Int),
      CellsAt a_3.m b (off + n.toNat * (16 : Nat))
      [Value.int IntKind.i64 n_1, Value.int IntKind.i64 n_2, Value.int IntKind.i64 n_3,
      Value.int IntKind.i64 n_4, Value.string s, Value.string s_1, Value.int IntKind.i64 n_5,
      Value.int IntKind.i64 n_6, Value.int IntKind.i64 n_7, Value.int IntKind.i64 n_8,
      Value.int IntKind.i64 n_9, Value.int IntKind.i64 n_10, Value.int IntKind.i64 n_11,
      Value.int IntKind.i64 n_12, Value.int IntKind.i64 n_13, Value.int IntKind.i64 n_14] ∧
      true = true ∧
      ∀ (b : Nat),
      a_3.m.sz ≤ b →
      ∃ (old : List Value),
      ∃ (src : List Value),
      AppPre m.sz (fun (x : Nat) => False)
      (a_3.m.newBlock b
      [Value.int IntKind.i64 n_1, Value.int IntKind.i64 n_2, Value.int IntKind.i64 n_3,
      Value.int IntKind.i64 n_4, Value.string s, Value.string s_1,
      Value.int IntKind.i64 n_5, Value.int IntKind.i64 n_6, Value.int IntKind.i64 n_7,
      Value.int IntKind.i64 n_8, Value.int IntKind.i64 n_9,
      Value.int IntKind.i64 n_10, Value.int IntKind.i64 n_11,
      Value.int IntKind.i64 n_12, Value.int IntKind.i64 n_13,
      Value.int IntKind.i64 n_14])
      (16 : Nat) (144 : Nat) a_3.a a_3.k a_3.c
      (some { block := b, off := (0 : Nat) : Addr }) (1 : Nat) old src ∧
      ∀ (a' : Option Addr) (c' : Nat) (m' : M),
      AppPost Try.prog (51 : Nat)
      (a_3.m.newBlock b
      [Value.int IntKind.i64 n_1, Value.int IntKind.i64 n_2,
      Value.int IntKind.i64 n_3, Value.int IntKind.i64 n_4, Value.string s,
      Value.string s_1, Value.int IntKind.i64 n_5, Value.int IntKind.i64 n_6,
      Value.int IntKind.i64 n_7, Value.int IntKind.i64 n_8,
      Value.int IntKind.i64 n_9, Value.int IntKind.i64 n_10,
      Value.int IntKind.i64 n_11, Value.int IntKind.i64 n_12,
      Value.int IntKind.i64 n_13, Value.int IntKind.i64 n_14])
      (16 : Nat) a_3.a a_3.k a_3.c (1 : Nat) old src a' c' m' →
      ∃ (a'_1 : OcX),
      (OcI l a m a'_1 ∧
      m' = a'_1.m ∧
      ((SV.val
      (Value.int IntKind.i64
      (IntKind.i64.wrap ((↑a_3.k : Int) + (1 : Int)))) =
      SV.val (Value.int IntKind.i64 (↑a'_1.k : Int)) ∧
      true = true) ∧
      (SV.val (Value.int IntKind.i64 (↑(ordL l).length : Int)) =
      SV.val (Value.int IntKind.i64 (↑(ordL l).length : Int)) ∧
      true = true) ∧
      (SV.val (Value.slice a_3.x (ordL l).length a_3.d) =
      SV.val (Value.slice a'_1.x (ordL l).length a'_1.d) ∧
      true = true) ∧
      (SV.val (Value.slice a' (a_3.k + (1 : Nat)) c') =
      SV.val (Value.slice a'_1.a a'_1.k a'_1.c) ∧
      true = true) ∧
      (SV.val (Value.slice a l.length cp) =
      SV.val (Value.slice a l.length cp) ∧
      true = true) ∧
      True) ∧
      True) ∧
      (ordL l).length - a'_1.k < (ordL l).length - a_3.k)
      (Done (∃ (a' : Option Addr), ∃ (c' : Nat), Value.slice a_3.a a_3.k a_3.c = Value.slice a' (ordC l).length c' ∧ Row a_3.m a' (cls (ordC l))))) (by kernel_rfl) ?_
  refine ⟨rfl, _, noS, fun N hN => (worder_s a cp l (by omega) _ (h.sz hN)).monoW fun v m' hag ⟨x, d, hv, hr⟩ => ⟨x, _, d, hv, ⟨⟨0, x, d, none, 0, m', m'⟩, ⟨Nat.zero_le _, hr, (h.sz hN).agree hag, .nil _, (Agree.szl hN).trans (hag.mono hN), Agree.refl _ _⟩, rfl, by simp⟩, fun y Y => ifB_intro (fun hb => ?_) (fun hb => ⟨?_⟩)⟩⟩
  · have hk : y.k < (ordL l).length := by simpa using hb
    have hle := ordL_len l
    obtain ⟨b, o, hx, hc⟩ := (Y.ns.agree Y.ag).cells (by rw [ns_len]; omega)
    have hi := ordL_lt (List.getElem_mem hk)
    obtain ⟨b2, o2, ha2, hc2⟩ := (Y.src.agree Y.ag).cells (by rw [cl_len]; omega)
    have w1 : IntKind.i64.wrap ((y.k : Int) + 1) = ((y.k + 1 : Nat) : Int) := by simp [IntKind.wrap_i64]; omega
    have e : (ordC l).take (y.k + 1) = (ordC l).take y.k ++ [l[(ordL l)[y.k]]] := by
      rw [List.take_succ_eq_append_getElem (by rw [ordC_len]; exact hk), ordC_get hk, clA_at hi]
    refine ⟨b, o, hx, by omega, _, by simpa using ns_at hc hk, b2, o2, ha2, by omega, _, _, _, _, _, _, _, _, _, _, _, _, _, _, _, _, by simpa using cl_at hc2 hi, rfl, fun b3 hb3 => ?_⟩
    obtain ⟨p1, -⟩ := (Y.out.lower Y.ag0.2.2).push (P := Try.prog) (e := 51) (bytes := 144) (src := encCl l[(ordL l)[y.k]]) hb3 (Nat.le_trans Y.ag0.2.2 Y.ag.2.2) rfl rfl (by omega) cl_zr
    obtain ⟨-, p2⟩ := Y.out.push (P := Try.prog) (e := 51) (bytes := 144) (src := encCl l[(ordL l)[y.k]]) hb3 Y.ag.2.2 rfl rfl (by omega) cl_zr
    refine ⟨_, _, p1, fun a' c' m' hp => ?_⟩
    obtain ⟨g1, g2⟩ := p2 a' c' m' hp
    refine ⟨⟨y.k + 1, y.x, y.d, a', c', y.m1, m'⟩, ⟨⟨hk, Y.ns, Y.src, ?_, Y.ag0, Y.ag.trans g2⟩, rfl, by simp [w1]⟩, by simp only; omega⟩
    simp only
    rw [e, show cls ((ordC l).take y.k ++ [l[(ordL l)[y.k]]]) = cls ((ordC l).take y.k) ++ encCl l[(ordL l)[y.k]] by simp [cls]]
    exact g1
  · have hk : y.k = (ordL l).length := by have := Y.k; simp at hb; omega
    have ho := Y.out.row
    rw [hk, ← ordC_len, List.take_length] at ho
    exact ⟨y.a, y.c, by rw [hk, ordC_len], ho⟩

structure RuX where
  k : Nat
  x : Option Addr
  d : Nat
  a : Option Addr
  c : Nat
  m : M

structure RuI (l : List Cl) (m : M) (y : RuX) : Prop where
  k : y.k ≤ (ordC l).length
  ns : Row y.m y.x (cls (ordC l))
  t : Row y.m y.a (tts (runC ((ordC l).take y.k) []))

theorem wRun_s (a : Option Addr) (cp : Nat) (l : List Cl) (hn : l.length ≤ 1048576) (hl : ∀ x ∈ l, x.wf) (m : M) (h : Row m a (cls l)) : Vc.Spec Try.prog 22 [.slice a l.length cp] m fun v m' => ∃ a' c', v = .slice a' (runC (ordC l) []).length c' ∧ Row m' a' (tts (runC (ordC l) [])) := by
  refine Vc.Spec.of_vc Try.func22 (ann := fun _ => { A := RuX, inv := RuI l m, st := fun y => [(9, .val (I y.k)), (8, .val (I (ordC l).length)), (7, .val (.slice y.x (ordC l).length y.d)), (3, .val (.slice y.a (runC ((ordC l).take y.k) []).length y.c))], own := fun _ => [], m := fun y => y.m, μ := fun y => (ordC l).length - y.k }) ?_
  refine vc_by (X :=
      true = true ∧
      ∃ (S' : Nat → Prop),
      (∀ (b : Nat), S' b → m.uf b ∧ (m.sz ≤ b ∨ False)) ∧
      ∀ (n : Nat),
      m.sz ≤ n →
      SpecW Try.prog (21 : Nat) [Value.slice a l.length cp] { π := m.π, sz := n, uf := m.uf : M } S' fun (v : Value) (m' : M) =>
      ∃ (a : Option Addr),
      ∃ (n : Nat),
      ∃ (c : Nat),
      v = Value.slice a n c ∧
      (∃ (a_2 : RuX),
      RuI l m a_2 ∧
      m' = a_2.m ∧
      ((SV.val (Value.int IntKind.i64 (0 : Int)) = SV.val (Value.int IntKind.i64 (↑a_2.k : Int)) ∧ true = true) ∧
      (SV.val (Value.int IntKind.i64 (↑n : Int)) = SV.val (Value.int IntKind.i64 (↑(ordC l).length : Int)) ∧ true = true) ∧
      (SV.val (Value.slice a n c) = SV.val (Value.slice a_2.x (ordC l).length a_2.d) ∧ true = true) ∧
      (SV.val (Value.slice none (0 : Nat) (0 : Nat)) = SV.val (Value.slice a_2.a (runC (List.take a_2.k (ordC l)) []).length a_2.c) ∧ true = true) ∧
      True) ∧
      True) ∧
      ∀ (a : RuX),
      RuI l m a →
      ifB (decide ((↑a.k : Int) < (↑(ordC l).length : Int)))
      (∃ (b : Nat),
      ∃ (off : Nat),
      a.x = some { block := b, off := off : Addr } ∧
      ((0 : Int) ≤ (↑a.k : Int) ∧ (↑a.k : Int) < (↑(ordC l).length : Int)) ∧
      ∃ (n : Int),
      ∃ (n_1 : Int),
      ∃ (n_2 : Int),
      ∃ (n_3 : Int),
      ∃ (s : ByteArray),
      ∃ (s_1 : ByteArray),
      ∃ (n_4 : Int),
      ∃ (n_5 : Int),
      ∃ (n_6 : Int),
      ∃ (n_7 : Int),
      ∃ (n_8 : Int),
      ∃ (n_9 : Int),
      ∃ (n_10 : Int),
      ∃ (n_11 : Int),
      ∃ (n_12 : Int),
      ∃ (n_13 : Int),
      CellsAt a.m b (off + (↑a.k : Int).toNat * (16 : Nat))
      [Value.int IntKind.i64 n, Value.int IntKind.i64 n_1, Value.int IntKind.i64 n_2, Value.int IntKind.i64 n_3,
      Value.string s, Value.string s_1, Value.int IntKind.i64 n_4, Value.int IntKind.i64 n_5,
      Value.int IntKind.i64 n_6, Value.int IntKind.i64 n_7, Value.int IntKind.i64 n_8,
      Value.int IntKind.i64 n_9, Value.int IntKind.i64 n_10, Value.int IntKind.i64 n_11,
      Value.int IntKind.i64 n_12, Value.int IntKind.i64 n_13] ∧
      ∃ (S' : Nat → Prop),
      (∀ (b : Nat), S' b → a.m.uf b ∧ (m.sz ≤ b ∨ False)) ∧
      ∀ (n : Nat),
      a.m.sz ≤ n →
      SpecW Try.prog (12 : Nat)
      [Value.slice a.a (runC (List.take a.k (ordC l)) []).length a.c,
      Value.agg
      #[Value.int IntKind.i64 n_3, Value.string s, Value.string s_1, Value.int IntKind.i64 n_4,
      Value.int IntKind.i64 n_5, Value.int IntKind.i64 n_6]]
      { π := a.m.π, sz := n, uf := a.m.uf : M } S' fun (v : Value) (m' : M) =>
      ∃ (a_4 : Option Addr),
      ∃ (n : Nat),
      ∃ (c : Nat),
      ∃ (n_14 : Int),
      ∃ (n_15 : Int),
      ∃ (n_16 : Int),
      ∃ (n_17 : Int),
      v =
      Value.tuple
      #[Value.slice a_4 n c,
      Value.agg
      #[Value.int IntKind.i64 n_14, Value.int IntKind.i64 n_15,
      Value.int IntKind.i64 n_16, Value.int IntKind.i64 n_17]] ∧
      ∃ (a' : RuX),
      (RuI l m a' ∧
      m' = a'.m ∧
      ((SV.val
      (Value.int IntKind.i64
      (IntKind.i64.wrap ((↑a.k : Int) + (1 : Int)))) =
      SV.val (Value.int IntKind.i64 (↑a'.k : Int)) ∧
      true = true) ∧
      (SV.val (Value.int IntKind.i64 (↑(ordC l).length : Int)) =
      SV.val (Value.int IntKind.i64 (↑(ordC l).length : Int)) ∧
      true = true) ∧
      (SV.val (Value.slice a.x (ordC l).length a.d) =
      SV.val (Value.slice a'.x (ordC l).length a'.d) ∧
      true = true) ∧
      (SV.val (Value.slice a_4 n c) =
      SV.val
      (Value.slice a'.a (runC (List.take a'.k (ordC l)) []).length
      a'.c) ∧
      true = true) ∧
      True) ∧
      True) ∧
      (ordC l).length - a'.k < (ordC l).length - a.k)
      (Done
      (∃ (a' : Option Addr),
      ∃ (c' : Nat),
      Value.slice a.a (runC (List.take a.k (ordC l)) []).length a.c = Value.slice a' (runC (ordC l) []).length c' ∧
      Row a.m a' (tts (runC (ordC l) []))))) (by kernel_rfl) ?_
  have hle := ordC_le l
  refine ⟨rfl, _, noS, fun N hN => (wOrder_s a cp l hn _ (h.sz hN)).monoW fun v m' hag ⟨x, d, hv, hr⟩ => ⟨x, _, d, hv, ⟨⟨0, x, d, none, 0, m'⟩, ⟨Nat.zero_le _, hr, .nil _⟩, rfl, by simp [runC]⟩, fun y Y => ifB_intro (fun hb => ?_) (fun hb => ⟨?_⟩)⟩⟩
  · have hk : y.k < (ordC l).length := by simpa using hb
    obtain ⟨b, o, hx, hc⟩ := Y.ns.cells (by rw [cl_len]; omega)
    have w1 : IntKind.i64.wrap ((y.k : Int) + 1) = ((y.k + 1 : Nat) : Int) := by simp [IntKind.wrap_i64]; omega
    have hw := ordC_wf hl
    have T := runC_ok ((ordC l).take y.k) (TotI.nil (n := 0)) fun c hc => hw c (List.mem_of_mem_take hc)
    have tl := T.len
    rw [List.length_take] at tl
    have e : runC ((ordC l).take (y.k + 1)) [] = (doT (runC ((ordC l).take y.k) []) (opC (ordC l)[y.k])).1 := by
      rw [List.take_succ_eq_append_getElem hk, runC_snoc]
    refine ⟨b, o, hx, by omega, _, _, _, _, _, _, _, _, _, _, _, _, _, _, _, _, by simpa using cl_at hc hk, ?_⟩
    refine ⟨_, noS, fun N2 hN2 => (wdo_s y.a y.c _ (opC (ordC l)[y.k]) (by omega) T.wf (opC_wf (hw _ (List.getElem_mem hk))) _ (Y.t.sz hN2)).monoW fun v2 m2 hag2 q2 => ?_⟩
    obtain ⟨x2, d2, hv2, hr2⟩ := q2
    exact ⟨_, _, _, _, _, _, _, hv2, ⟨y.k + 1, y.x, y.d, x2, d2, m2⟩, ⟨⟨hk, (Y.ns.sz hN2).agree hag2, by simp only; rw [e]; exact hr2⟩, rfl, by simp [w1, e]⟩, by simp only; omega⟩
  · have hk : y.k = (ordC l).length := by have := Y.k; simp at hb; omega
    have ho := Y.t
    rw [hk, List.take_length] at ho ⊢
    exact ⟨y.a, y.c, rfl, ho⟩

end Go.Proofs.Ytbhlhnkjmncloaa
