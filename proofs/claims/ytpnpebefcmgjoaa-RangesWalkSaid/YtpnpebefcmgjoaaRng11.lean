/-
  Contracts of functions of this seat: what each hands back, and what it leaves of memory (rng11). Nothing here is trusted: Lean checks it.
-/
import Derived.Test.YtpnpebefcmgjoaaRng10
set_option linter.unusedVariables false
set_option linter.unusedSimpArgs false
namespace Go.Proofs.Ytpnpebefcmgjoaa
open Go.Vc Go.RowKit
set_option maxRecDepth 100000

theorem rmF_eq (f : Nat) (e : Int) : ∀ (xs : List Pl) (i : Nat), (i ≤ f → rmF f e i xs = if h : f - i < xs.length then xs.take (f - i) ++ { xs[f - i]'h with ep := e } :: xs.drop (f - i + 2) else xs) ∧ (i = f + 1 → rmF f e i xs = xs.drop 1) ∧ (f + 1 < i → rmF f e i xs = xs)
  | [], i => by simp [rmF]
  | x :: xs, i => by
    obtain ⟨i1, i2, i3⟩ := rmF_eq f e xs (i + 1)
    refine ⟨fun h => ?_, fun h => ?_, fun h => ?_⟩
    · simp only [rmF]
      by_cases e1 : i = f
      · subst e1
        rw [if_pos rfl, i2 rfl, dif_pos (by simp)]
        simp
      · rw [if_neg e1, if_neg (by omega), i1 (by omega)]
        obtain ⟨d, hd⟩ : ∃ d, f - i = d + 1 := ⟨f - i - 1, by omega⟩
        have hd' : f - (i + 1) = d := by omega
        by_cases h2 : d < xs.length
        · have hc : f - i < (x :: xs).length := by simp only [List.length_cons]; omega
          have hc' : f - (i + 1) < xs.length := by omega
          rw [dif_pos hc', dif_pos hc]
          simp only [hd, hd', List.take_succ_cons, List.drop_succ_cons, List.getElem_cons_succ, List.cons_append, List.nil_append]
        · have hc : ¬ f - i < (x :: xs).length := by simp only [List.length_cons]; omega
          have hc' : ¬ f - (i + 1) < xs.length := by omega
          rw [dif_neg hc', dif_neg hc]
          rfl
    · simp only [rmF]
      rw [if_neg (by omega), if_pos h, i3 (by omega)]
      simp
    · simp only [rmF]
      rw [if_neg (by omega), if_neg (by omega), i3 (by omega)]
      rfl

theorem rmF_del (l : List Pl) (f : Nat) (e : Int) (hf : f < l.length) : rmF f e 0 l = delS l f e := by
  rw [(rmF_eq f e l 0).1 (Nat.zero_le _), dif_pos (by simpa using hf)]
  simp only [Nat.sub_zero, delS]
  rw [List.getElem?_eq_getElem hf, List.take_succ_eq_append_getElem hf]
  apply List.ext_getElem
  · simp; omega
  · intro i h1 h2
    by_cases e1 : i < f
    · rw [List.getElem_append_left (by simp; omega), List.getElem_set_ne (by omega), List.getElem_append_left (by simp; omega), List.getElem_append_left (by simp; omega)]
    · by_cases e2 : i = f
      · subst e2
        rw [List.getElem_set_self, List.getElem_append_right (by simp; omega)]
        simp [Nat.min_eq_left (Nat.le_of_lt hf)]
      · rw [List.getElem_append_right (by simp; omega), List.getElem_set_ne (by omega), List.getElem_append_right (by simp; omega)]
        simp only [List.length_take, List.length_append, List.length_cons, List.length_nil, Nat.min_eq_left (Nat.le_of_lt hf)]
        obtain ⟨d, hd⟩ : ∃ d, i = f + 1 + d := ⟨i - f - 1, by omega⟩
        subst hd
        simp [show f + 1 + d - f = d + 1 by omega, show f + 1 + d - (f + (0 + 1)) = d by omega]

theorem mg_err {l : List Pl} {i : Int} {m : M} {e : Int} (h : mergeL l i = ([], e)) : Done (ResR (mergeL l i) (Value.tuple #[Value.slice none 0 0, I e]) m) := by
  rw [h]; exact ⟨res_no _ _⟩

theorem rf_merge (l : List Pl) (a : Option Addr) (c : Nat) (i : Int) (hi : In64 i) (hl : l.length ≤ 9223372036854775807) (m : M) (h : Row m a (pls l)) :
    Vc.Spec Try.prog 29 [.slice a l.length c, I i] m (fun v m' => ResR (mergeL l i) v m') := by
  refine Vc.Spec.of_vc Try.func29 (ann := fun _ => { A := OutX, inv := fun x => (x.i ≤ l.length ∧ rightB l = true ∧ x.out.length ≤ x.i ∧ epochL l < 4611686018427387904) ∧ (x.out ++ rmF i.toNat (epochL l + 1) x.i (l.drop x.i) = rmF i.toNat (epochL l + 1) 0 l ∧ mergeL l i = (delS l i.toNat (epochL l + 1), 0) ∧ 0 ≤ i ∧ i.toNat < l.length - 1) ∧ (NewR m.sz (fun _ => False) x.m 3 x.a x.out.length x.c (pls x.out) ∧ Agree m.sz m x.m), st := fun x => [(8, .val (I x.i)), (0, .val (.slice a l.length c)), (1, .val (I i)), (6, .val (I (epochL l))), (7, .val (.slice x.a x.out.length x.c))], own := fun _ => [], m := fun x => x.m, μ := fun x => l.length - x.i }) ?_
  refine vc_by (X :=
      true = true ∧
      ∃ (b : Bool),
      QSpec Try.prog (17 : Nat) [Value.slice a l.length c] m (Value.bool b) ∧
      ifB (!b) (Done (ResR (mergeL l i) (Value.tuple #[Value.slice none (0 : Nat) (0 : Nat), Value.int IntKind.i64 (21 : Int)]) m))
      (∃ (n : Int),
      QSpec Try.prog (24 : Nat) [Value.slice a l.length c] m (Value.int IntKind.i64 n) ∧
      ifB (decide (i < (0 : Int))) (Done (ResR (mergeL l i) (Value.tuple #[Value.slice none (0 : Nat) (0 : Nat), Value.int IntKind.i64 (170 : Int)]) m))
      (ifB (decide (i ≥ IntKind.i64.wrap ((↑l.length : Int) - (1 : Int))))
      (Done (ResR (mergeL l i) (Value.tuple #[Value.slice none (0 : Nat) (0 : Nat), Value.int IntKind.i64 (170 : Int)]) m))
      (ifB (n == (4611686018427387904 : Int)) (Done (ResR (mergeL l i) (Value.tuple #[Value.slice none (0 : Nat) (0 : Nat), Value.int IntKind.i64 (170 : Int)]) m))
      ((∃ (a_1 : OutX),
      ((a_1.i ≤ l.length ∧ rightB l = true ∧ a_1.out.length ≤ a_1.i ∧ epochL l < (4611686018427387904 : Int)) ∧
      (a_1.out ++ rmF i.toNat (epochL l + (1 : Int)) a_1.i (List.drop a_1.i l) = rmF i.toNat (epochL l + (1 : Int)) (0 : Nat) l ∧
      mergeL l i = (delS l i.toNat (epochL l + (1 : Int)), (0 : Int)) ∧ (0 : Int) ≤ i ∧ i.toNat < l.length - (1 : Nat)) ∧
      NewR m.sz (fun (x : Nat) => False) a_1.m (3 : Nat) a_1.a a_1.out.length a_1.c (pls a_1.out) ∧ Agree m.sz m a_1.m) ∧
      m = a_1.m ∧
      ((SV.val (Value.int IntKind.i64 (0 : Int)) = SV.val (Value.int IntKind.i64 (↑a_1.i : Int)) ∧ true = true) ∧
      (SV.val (Value.slice a l.length c) = SV.val (Value.slice a l.length c) ∧ true = true) ∧
      (SV.val (Value.int IntKind.i64 i) = SV.val (Value.int IntKind.i64 i) ∧ true = true) ∧
      (SV.val (Value.int IntKind.i64 n) = SV.val (Value.int IntKind.i64 (epochL l)) ∧ true = true) ∧
      (SV.val (Value.slice none (0 : Nat) (0 : Nat)) = SV.val (Value.slice a_1.a a_1.out.length a_1.c) ∧ true = true) ∧ True) ∧
      True) ∧
      ∀ (a_1 : OutX),
      (a_1.i ≤ l.length ∧ rightB l = true ∧ a_1.out.length ≤ a_1.i ∧ epochL l < (4611686018427387904 : Int)) ∧
      (a_1.out ++ rmF i.toNat (epochL l + (1 : Int)) a_1.i (List.drop a_1.i l) = rmF i.toNat (epochL l + (1 : Int)) (0 : Nat) l ∧
      mergeL l i = (delS l i.toNat (epochL l + (1 : Int)), (0 : Int)) ∧ (0 : Int) ≤ i ∧ i.toNat < l.length - (1 : Nat)) ∧
      NewR m.sz (fun (x : Nat) => False) a_1.m (3 : Nat) a_1.a a_1.out.length a_1.c (pls a_1.out) ∧ Agree m.sz m a_1.m →
      ifB (decide ((↑a_1.i : Int) < (↑l.length : Int)))
      (∃ (b : Nat),
      ∃ (off : Nat),
      a = some { block := b, off := off : Addr } ∧
      ((0 : Int) ≤ (↑a_1.i : Int) ∧ (↑a_1.i : Int) < (↑l.length : Int)) ∧
      ∃ (n : Int),
      ∃ (s : ByteArray),
      ∃ (n_1 : Int),
      CellsAt a_1.m b (off + (↑a_1.i : Int).toNat * (3 : Nat)) [Value.int IntKind.i64 n, Value.string s, Value.int IntKind.i64 n_1] ∧
      ifB ((↑a_1.i : Int) == i)
      (ifB ((↑a_1.i : Int) != IntKind.i64.wrap (i + (1 : Int)))
      (true = true ∧
      ∀ (b : Nat),
      a_1.m.sz ≤ b →
      ∃ (old : List Value),
      ∃ (src : List Value),
      AppPre m.sz (fun (x : Nat) => False)
      (a_1.m.newBlock b
      [Value.int IntKind.i64 n, Value.string s, Value.int IntKind.i64 (IntKind.i64.wrap (epochL l + (1 : Int)))])
      (3 : Nat) (32 : Nat) a_1.a a_1.out.length a_1.c (some { block := b, off := (0 : Nat) : Addr }) (1 : Nat) old src ∧
      ∀ (a' : Option Addr) (c' : Nat) (m' : M),
      AppPost Try.prog (39 : Nat)
      (a_1.m.newBlock b
      [Value.int IntKind.i64 n, Value.string s, Value.int IntKind.i64 (IntKind.i64.wrap (epochL l + (1 : Int)))])
      (3 : Nat) a_1.a a_1.out.length a_1.c (1 : Nat) old src a' c' m' →
      ∃ (a'_1 : OutX),
      (((a'_1.i ≤ l.length ∧ rightB l = true ∧ a'_1.out.length ≤ a'_1.i ∧ epochL l < (4611686018427387904 : Int)) ∧
      (a'_1.out ++ rmF i.toNat (epochL l + (1 : Int)) a'_1.i (List.drop a'_1.i l) =
      rmF i.toNat (epochL l + (1 : Int)) (0 : Nat) l ∧
      mergeL l i = (delS l i.toNat (epochL l + (1 : Int)), (0 : Int)) ∧
      (0 : Int) ≤ i ∧ i.toNat < l.length - (1 : Nat)) ∧
      NewR m.sz (fun (x : Nat) => False) a'_1.m (3 : Nat) a'_1.a a'_1.out.length a'_1.c (pls a'_1.out) ∧
      Agree m.sz m a'_1.m) ∧
      m' = a'_1.m ∧
      ((SV.val (Value.int IntKind.i64 (IntKind.i64.wrap ((↑a_1.i : Int) + (1 : Int)))) =
      SV.val (Value.int IntKind.i64 (↑a'_1.i : Int)) ∧
      true = true) ∧
      (SV.val (Value.slice a l.length c) = SV.val (Value.slice a l.length c) ∧ true = true) ∧
      (SV.val (Value.int IntKind.i64 i) = SV.val (Value.int IntKind.i64 i) ∧ true = true) ∧
      (SV.val (Value.int IntKind.i64 (epochL l)) = SV.val (Value.int IntKind.i64 (epochL l)) ∧
      true = true) ∧
      (SV.val (Value.slice a' (a_1.out.length + (1 : Nat)) c') =
      SV.val (Value.slice a'_1.a a'_1.out.length a'_1.c) ∧
      true = true) ∧
      True) ∧
      True) ∧
      l.length - a'_1.i < l.length - a_1.i)
      (∃ (a' : OutX),
      (((a'.i ≤ l.length ∧ rightB l = true ∧ a'.out.length ≤ a'.i ∧ epochL l < (4611686018427387904 : Int)) ∧
      (a'.out ++ rmF i.toNat (epochL l + (1 : Int)) a'.i (List.drop a'.i l) = rmF i.toNat (epochL l + (1 : Int)) (0 : Nat) l ∧
      mergeL l i = (delS l i.toNat (epochL l + (1 : Int)), (0 : Int)) ∧ (0 : Int) ≤ i ∧ i.toNat < l.length - (1 : Nat)) ∧
      NewR m.sz (fun (x : Nat) => False) a'.m (3 : Nat) a'.a a'.out.length a'.c (pls a'.out) ∧ Agree m.sz m a'.m) ∧
      a_1.m = a'.m ∧
      ((SV.val (Value.int IntKind.i64 (IntKind.i64.wrap ((↑a_1.i : Int) + (1 : Int)))) =
      SV.val (Value.int IntKind.i64 (↑a'.i : Int)) ∧
      true = true) ∧
      (SV.val (Value.slice a l.length c) = SV.val (Value.slice a l.length c) ∧ true = true) ∧
      (SV.val (Value.int IntKind.i64 i) = SV.val (Value.int IntKind.i64 i) ∧ true = true) ∧
      (SV.val (Value.int IntKind.i64 (epochL l)) = SV.val (Value.int IntKind.i64 (epochL l)) ∧ true = true) ∧
      (SV.val (Value.slice a_1.a a_1.out.length a_1.c) = SV.val (Value.slice a'.a a'.out.length a'.c) ∧ true = true) ∧
      True) ∧
      True) ∧
      l.length - a'.i < l.length - a_1.i))
      (ifB ((↑a_1.i : Int) != IntKind.i64.wrap (i + (1 : Int)))
      (true = true ∧
      ∀ (b : Nat),
      a_1.m.sz ≤ b →
      ∃ (old : List Value),
      ∃ (src : List Value),
      AppPre m.sz (fun (x : Nat) => False) (a_1.m.newBlock b [Value.int IntKind.i64 n, Value.string s, Value.int IntKind.i64 n_1])
      (3 : Nat) (32 : Nat) a_1.a a_1.out.length a_1.c (some { block := b, off := (0 : Nat) : Addr }) (1 : Nat) old src ∧
      ∀ (a' : Option Addr) (c' : Nat) (m' : M),
      AppPost Try.prog (39 : Nat) (a_1.m.newBlock b [Value.int IntKind.i64 n, Value.string s, Value.int IntKind.i64 n_1])
      (3 : Nat) a_1.a a_1.out.length a_1.c (1 : Nat) old src a' c' m' →
      ∃ (a'_1 : OutX),
      (((a'_1.i ≤ l.length ∧ rightB l = true ∧ a'_1.out.length ≤ a'_1.i ∧ epochL l < (4611686018427387904 : Int)) ∧
      (a'_1.out ++ rmF i.toNat (epochL l + (1 : Int)) a'_1.i (List.drop a'_1.i l) =
      rmF i.toNat (epochL l + (1 : Int)) (0 : Nat) l ∧
      mergeL l i = (delS l i.toNat (epochL l + (1 : Int)), (0 : Int)) ∧
      (0 : Int) ≤ i ∧ i.toNat < l.length - (1 : Nat)) ∧
      NewR m.sz (fun (x : Nat) => False) a'_1.m (3 : Nat) a'_1.a a'_1.out.length a'_1.c (pls a'_1.out) ∧
      Agree m.sz m a'_1.m) ∧
      m' = a'_1.m ∧
      ((SV.val (Value.int IntKind.i64 (IntKind.i64.wrap ((↑a_1.i : Int) + (1 : Int)))) =
      SV.val (Value.int IntKind.i64 (↑a'_1.i : Int)) ∧
      true = true) ∧
      (SV.val (Value.slice a l.length c) = SV.val (Value.slice a l.length c) ∧ true = true) ∧
      (SV.val (Value.int IntKind.i64 i) = SV.val (Value.int IntKind.i64 i) ∧ true = true) ∧
      (SV.val (Value.int IntKind.i64 (epochL l)) = SV.val (Value.int IntKind.i64 (epochL l)) ∧
      true = true) ∧
      (SV.val (Value.slice a' (a_1.out.length + (1 : Nat)) c') =
      SV.val (Value.slice a'_1.a a'_1.out.length a'_1.c) ∧
      true = true) ∧
      True) ∧
      True) ∧
      l.length - a'_1.i < l.length - a_1.i)
      (∃ (a' : OutX),
      (((a'.i ≤ l.length ∧ rightB l = true ∧ a'.out.length ≤ a'.i ∧ epochL l < (4611686018427387904 : Int)) ∧
      (a'.out ++ rmF i.toNat (epochL l + (1 : Int)) a'.i (List.drop a'.i l) = rmF i.toNat (epochL l + (1 : Int)) (0 : Nat) l ∧
      mergeL l i = (delS l i.toNat (epochL l + (1 : Int)), (0 : Int)) ∧ (0 : Int) ≤ i ∧ i.toNat < l.length - (1 : Nat)) ∧
      NewR m.sz (fun (x : Nat) => False) a'.m (3 : Nat) a'.a a'.out.length a'.c (pls a'.out) ∧ Agree m.sz m a'.m) ∧
      a_1.m = a'.m ∧
      ((SV.val (Value.int IntKind.i64 (IntKind.i64.wrap ((↑a_1.i : Int) + (1 : Int)))) =
      SV.val (Value.int IntKind.i64 (↑a'.i : Int)) ∧
      true = true) ∧
      (SV.val (Value.slice a l.length c) = SV.val (Value.slice a l.length c) ∧ true = true) ∧
      (SV.val (Value.int IntKind.i64 i) = SV.val (Value.int IntKind.i64 i) ∧ true = true) ∧
      (SV.val (Value.int IntKind.i64 (epochL l)) = SV.val (Value.int IntKind.i64 (epochL l)) ∧ true = true) ∧
      (SV.val (Value.slice a_1.a a_1.out.length a_1.c) = SV.val (Value.slice a'.a a'.out.length a'.c) ∧ true = true) ∧
      True) ∧
      True) ∧
      l.length - a'.i < l.length - a_1.i)))
      (Done (ResR (mergeL l i) (Value.tuple #[Value.slice a_1.a a_1.out.length a_1.c, Value.int IntKind.i64 (0 : Int)]) a_1.m))))))) (by kernel_rfl) ?_
  refine ⟨rfl, _, rf_right l a c hl m h, ifB_intro (fun h1 => ?_) (fun h1 => ?_)⟩
  · have : rightB l = false := by simpa using h1
    exact mg_err (by simp only [mergeL, this, if_true])
  have hR : rightB l = true := by simpa using h1
  have h7 := right_len hR
  have hp := right_pos hR
  have hEl := epoch_le hR
  have hE0 : 0 ≤ epochL l := epoch_nn l 0
  have w0 : IntKind.i64.wrap ((l.length : Int) - 1) = (l.length : Int) - 1 := by rw [IntKind.wrap_i64]; omega
  rw [w0]
  refine ⟨_, rf_epoch l _ c hl m h, ifB_intro (fun h2 => mg_err ?_) (fun h2 => ifB_intro (fun h3 => mg_err ?_) (fun h3 => ifB_intro (fun h4 => mg_err ?_) (fun h4 => ?_)))⟩
  · simp only [mergeL, hR, h2, Bool.true_or, if_true]; rfl
  · simp only [mergeL, hR, h3, Bool.true_or, Bool.or_true, if_true]; rfl
  · have : epochL l = 4611686018427387904 := by simpa using h4
    simp only [mergeL, hR, this]; simp
  have h2' : 0 ≤ i := by simpa using h2
  have h3' : i < (l.length : Int) - 1 := by simpa using h3
  have hE : epochL l < 4611686018427387904 := by
    have : ¬ epochL l = 4611686018427387904 := by simpa using h4
    omega
  have w1 : IntKind.i64.wrap (epochL l + 1) = epochL l + 1 := by rw [IntKind.wrap_i64]; omega
  have w2 : IntKind.i64.wrap (i + 1) = i + 1 := by rw [IntKind.wrap_i64]; omega
  have hsp : mergeL l i = (delS l i.toNat (epochL l + 1), 0) := by
    simp only [mergeL, hR, h2, h3, show ¬ epochL l ≥ 4611686018427387904 by omega]
    rfl
  rw [w1, w2]
  refine ⟨⟨⟨0, [], m, none, 0⟩, ⟨⟨Nat.zero_le _, hR, by simp, hE⟩, ⟨rfl, hsp, h2', by omega⟩, .nil _, ⟨fun _ _ => rfl, fun _ _ => Iff.rfl, Nat.le_refl _⟩⟩, rfl, by simp⟩, ?_⟩
  generalize hee : epochL l + 1 = e at *
  rintro ⟨k, out, mx, ax, cx⟩ ⟨⟨hk, -, hol, -⟩, ⟨hout, -⟩, hY, hA⟩
  simp only at hk hol hout hY hA ⊢
  have hrow : Row mx a (pls l) := h.agree hA
  refine ifB_intro (fun h10 => ?_) (fun h10 => ?_)
  · have hlt : k < l.length := by simpa using h10
    obtain ⟨b0, o0, rfl, hcx⟩ := hrow.cells (by rw [pl_len]; omega)
    rw [List.drop_eq_getElem_cons hlt, rmF] at hout
    refine ⟨b0, o0, rfl, by omega, _, _, _, by simpa using pl_at hcx hlt, ?_⟩
    rw [wrap1 hlt hl]
    by_cases hkf : k = i.toNat
    · have hb1 : ((k : Int) == i) = true := by simp; omega
      have hb2 : ((k : Int) != i + 1) = true := by simp; omega
      rw [hb1, hb2]
      refine ifB_true (ifB_true ⟨by trivial, fun b hb => ?_⟩)
      obtain ⟨p1, p2⟩ := NewR.push (P := Try.prog) (e := 39) (bytes := 32) (src := encPl { l[k] with ep := e }) hY hb hA.2.2 rfl rfl (by omega) pl_zr
      refine ⟨_, _, p1, fun a' c' m' hp => ?_⟩
      obtain ⟨q1, q2⟩ := p2 a' c' m' hp
      refine ⟨⟨k + 1, out ++ [{ l[k] with ep := e }], m', a', c'⟩, ⟨⟨⟨hlt, hR, by simp; omega, hE⟩, ⟨?_, hsp, h2', by omega⟩, ?_, hA.trans q2⟩, rfl, by simp⟩, by simp only; omega⟩
      · rw [if_pos hkf] at hout
        rw [← hout, List.append_assoc]
      · simpa [List.flatMap_append] using q1
    · have hb1 : ((k : Int) == i) = false := by simp; omega
      rw [hb1]
      refine ifB_false ?_
      by_cases hk1 : k = i.toNat + 1
      · have hb2 : ((k : Int) != i + 1) = false := by simp; omega
        rw [hb2]
        refine ifB_false ⟨⟨k + 1, out, mx, ax, cx⟩, ⟨⟨⟨hlt, hR, by simp only; omega, hE⟩, ⟨?_, hsp, h2', by omega⟩, hY, hA⟩, rfl, by simp⟩, by simp only; omega⟩
        rw [if_neg hkf, if_pos hk1] at hout
        rw [← hout]; rfl
      · have hb2 : ((k : Int) != i + 1) = true := by simp; omega
        rw [hb2]
        refine ifB_true ⟨by trivial, fun b hb => ?_⟩
        obtain ⟨p1, p2⟩ := NewR.push (P := Try.prog) (e := 39) (bytes := 32) (src := encPl l[k]) hY hb hA.2.2 rfl rfl (by omega) pl_zr
        refine ⟨_, _, p1, fun a' c' m' hp => ?_⟩
        obtain ⟨q1, q2⟩ := p2 a' c' m' hp
        refine ⟨⟨k + 1, out ++ [l[k]], m', a', c'⟩, ⟨⟨⟨hlt, hR, by simp; omega, hE⟩, ⟨?_, hsp, h2', by omega⟩, ?_, hA.trans q2⟩, rfl, by simp⟩, by simp only; omega⟩
        · rw [if_neg hkf, if_neg hk1] at hout
          rw [← hout, List.append_assoc]
        · simpa [List.flatMap_append] using q1
  · have : k = l.length := by simp at h10; omega
    subst this
    rw [List.drop_length, rmF, List.append_nil, rmF_del l i.toNat e (by omega)] at hout
    rw [hsp, ← hout]
    exact ⟨⟨_, _, rfl, hY.row⟩⟩

end Go.Proofs.Ytpnpebefcmgjoaa
