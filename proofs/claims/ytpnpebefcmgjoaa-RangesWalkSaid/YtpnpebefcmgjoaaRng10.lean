/-
  Contracts of functions of this seat: what each hands back, and what it leaves of memory (rng10). Nothing here is trusted: Lean checks it.
-/
import Derived.Test.YtpnpebefcmgjoaaRng9
set_option linter.unusedVariables false
set_option linter.unusedSimpArgs false
namespace Go.Proofs.Ytpnpebefcmgjoaa
open Go.Vc Go.RowKit
set_option maxRecDepth 100000

theorem rfind_one {key : ByteArray} : ∀ {xs : List Pl} {x : Pl} {seen : List Int} {last : Option ByteArray} (i q : Nat), chk seen last (x :: xs) = true → ltS key x.fr = false →
    rfindL key (x :: xs) i = findL key (x :: xs) i q
  | [], x, seen, last, i, q, h, hx => by
    have hw : withinB x.fr .empty key = true := by
      simp only [withinB, hx, Bool.not_false, Bool.true_and, emp_emp, Bool.true_or]
    simp only [rfindL, hdF, findL, hx, hw, if_true]
    rfl
  | y :: ys, x, seen, last, i, q, h, hx => by
    obtain ⟨-, -, -, h4⟩ := chk_cons h
    obtain ⟨-, -, h7, h8⟩ := chk_cons h4
    have hxy : ltS x.fr y.fr = true := h7
    have hem := lt_empty hxy
    cases hy : ltS key y.fr with
    | true =>
      have hall : ∀ z ∈ y :: ys, ltS key z.fr = true := fun z hz => by
        rcases List.mem_cons.1 hz with rfl | hz
        · exact hy
        · exact chk_gt h8 hy z hz
      have hw : withinB x.fr y.fr key = true := by simp only [withinB, hx, hy, Bool.or_true]; rfl
      obtain ⟨e1, e2⟩ := cnt_gt (key := key) (i + 1) i (0, 0) hall
      rw [rfindL, findL, hdF, hw, hx]
      simp only [if_true, Bool.false_eq_true, if_false]
      rw [e2]
    | false =>
      have hw : withinB x.fr y.fr key = false := by simp only [withinB, hx, hy, hem]; rfl
      have ih := rfind_one (i + 1) i h4 hy
      rw [rfindL, hdF, hw]
      simp only [Bool.false_eq_true, if_false]
      rw [ih]
      conv => rhs; rw [findL, hx]
      simp

theorem rfind_eq {l : List Pl} (key : ByteArray) (h : rightB l = true) : rfindL key l 0 = findL key l 0 0 := by
  cases l with
  | nil => cases h
  | cons x xs =>
    simp only [rightB, Bool.and_eq_true] at h
    exact rfind_one 0 0 h.2.2 (empty_lt h.2.1)

theorem ep_le : ∀ {l : List Pl} {seen : List Int} {last : Option ByteArray} (e : Int), e ≤ 4611686018427387904 → chk seen last l = true → l.foldl (fun e p => max e p.ep) e ≤ 4611686018427387904
  | [], _, _, e, h, _ => by simpa using h
  | x :: xs, seen, last, e, h, hc => by
    obtain ⟨h1, -, -, h4⟩ := chk_cons hc
    have : x.ep ≤ 4611686018427387904 := by
      simp only [plB, Bool.and_eq_true, decide_eq_true_eq] at h1
      exact h1.2.2.1
    exact ep_le (max e x.ep) (by omega) h4

theorem epoch_le {l : List Pl} (h : rightB l = true) : epochL l ≤ 4611686018427387904 := by
  simp only [rightB, Bool.and_eq_true] at h
  exact ep_le 0 (by omega) h.2.2

def rsF (f : Nat) (z : Pl) : Nat → List Pl → List Pl
  | _, [] => []
  | i, x :: xs => (if i = f then [{ x with ep := z.ep }, z] else [x]) ++ rsF f z (i + 1) xs

def rmF (f : Nat) (e : Int) : Nat → List Pl → List Pl
  | _, [] => []
  | i, x :: xs => (if i = f then [{ x with ep := e }] else if i = f + 1 then [] else [x]) ++ rmF f e (i + 1) xs

theorem rsF_eq (f : Nat) (z : Pl) : ∀ (xs : List Pl) (i : Nat), rsF f z i xs = if h : i ≤ f ∧ f - i < xs.length then xs.take (f - i) ++ { xs[f - i]'h.2 with ep := z.ep } :: z :: xs.drop (f - i + 1) else xs
  | [], i => by simp [rsF]
  | x :: xs, i => by
    have ih := rsF_eq f z xs (i + 1)
    simp only [rsF]
    rw [ih]
    by_cases e : i = f
    · subst e
      rw [dif_neg (by omega), dif_pos (by simp)]
      simp
    · rw [if_neg e]
      by_cases h : i ≤ f ∧ f - i < (x :: xs).length
      · have h' : i + 1 ≤ f ∧ f - (i + 1) < xs.length := by simp at h; omega
        obtain ⟨d, hd⟩ : ∃ d, f - i = d + 1 := ⟨f - i - 1, by omega⟩
        have hd' : f - (i + 1) = d := by omega
        rw [dif_pos h, dif_pos h']
        simp only [hd, hd', List.take_succ_cons, List.drop_succ_cons, List.getElem_cons_succ, List.cons_append, List.nil_append]
      · have h' : ¬ (i + 1 ≤ f ∧ f - (i + 1) < xs.length) := by simp at h ⊢; omega
        rw [dif_neg h, dif_neg h']
        rfl

theorem rsF_ins (l : List Pl) (key : ByteArray) (g : Int) (f : Nat) (e : Int) (hf : f < l.length) : rsF f ⟨g, key, e⟩ 0 l = insS l key g f e := by
  rw [rsF_eq, dif_pos ⟨Nat.zero_le _, by simpa using hf⟩]
  simp only [Nat.sub_zero, insS]
  rw [List.getElem?_eq_getElem hf, List.take_succ_eq_append_getElem hf]
  apply List.ext_getElem
  · simp; omega
  · intro i h1 h2
    by_cases e1 : i < f
    · rw [List.getElem_append_left (by simp; omega), List.getElem_set_ne (by omega), List.getElem_append_left (by simp; omega), List.getElem_append_left (by simp; omega)]
    · by_cases e2 : i = f
      · subst e2
        rw [List.getElem_set_self, List.getElem_append_right (by simp; omega)]
        simp [Nat.min_eq_left (Nat.le_of_lt hf)]
      · rw [List.getElem_append_right (by simp; omega), List.getElem_set_ne (by omega), List.getElem_append_right (by simp; omega)]
        simp only [List.length_take, List.length_append, List.length_cons, List.length_nil, Nat.min_eq_left (Nat.le_of_lt hf)]
        obtain ⟨d, hd⟩ : ∃ d, i = f + 1 + d := ⟨i - f - 1, by omega⟩
        subst hd
        simp [show f + 1 + d - f = d + 1 by omega, show f + 1 + d - (f + (0 + 1)) = d by omega]

theorem rf_err {l : List Pl} {key : ByteArray} {g : Int} {m : M} {e : Int} (h : splitL l key g = ([], e)) : Done (ResR (splitL l key g) (Value.tuple #[Value.slice none 0 0, I e]) m) := by
  rw [h]; exact ⟨res_no _ _⟩

structure OutX where
  i : Nat
  out : List Pl
  m : M
  a : Option Addr
  c : Nat

theorem rf_split (l : List Pl) (a : Option Addr) (c : Nat) (key : ByteArray) (g : Int) (hl : l.length ≤ 9223372036854775807) (m : M) (h : Row m a (pls l)) :
    Vc.Spec Try.prog 27 [.slice a l.length c, .string key, I g] m (fun v m' => ResR (splitL l key g) v m') := by
  refine Vc.Spec.of_vc Try.func27 (ann := fun _ => { A := OutX, inv := fun x => (x.i ≤ l.length ∧ rightB l = true ∧ x.out.length ≤ 2 * x.i ∧ epochL l < 4611686018427387904) ∧ (x.out ++ rsF (findL key l 0 0) ⟨g, key, epochL l + 1⟩ x.i (l.drop x.i) = rsF (findL key l 0 0) ⟨g, key, epochL l + 1⟩ 0 l ∧ splitL l key g = (insS l key g (findL key l 0 0) (epochL l + 1), 0)) ∧ (NewR m.sz (fun _ => False) x.m 3 x.a x.out.length x.c (pls x.out) ∧ Agree m.sz m x.m), st := fun x => [(12, .val (I x.i)), (0, .val (.slice a l.length c)), (1, .val (.string key)), (10, .val (I (epochL l))), (11, .val (.slice x.a x.out.length x.c)), (2, .val (I g))], own := fun _ => [], m := fun x => x.m, μ := fun x => l.length - x.i }) ?_
  refine vc_by (X :=
      true = true ∧
      ∃ (b : Bool),
      QSpec Try.prog (17 : Nat) [Value.slice a l.length c] m (Value.bool b) ∧
      ifB (!b) (Done (ResR (splitL l key g) (Value.tuple #[Value.slice none (0 : Nat) (0 : Nat), Value.int IntKind.i64 (21 : Int)]) m))
      (ifB (decide ((↑key.size : Int) < (1 : Int))) (Done (ResR (splitL l key g) (Value.tuple #[Value.slice none (0 : Nat) (0 : Nat), Value.int IntKind.i64 (1 : Int)]) m))
      (ifB (decide ((↑key.size : Int) > (16 : Int))) (Done (ResR (splitL l key g) (Value.tuple #[Value.slice none (0 : Nat) (0 : Nat), Value.int IntKind.i64 (1 : Int)]) m))
      (ifB (decide (g < (1 : Int))) (Done (ResR (splitL l key g) (Value.tuple #[Value.slice none (0 : Nat) (0 : Nat), Value.int IntKind.i64 (1 : Int)]) m))
      (ifB (decide (g ≥ (8 : Int))) (Done (ResR (splitL l key g) (Value.tuple #[Value.slice none (0 : Nat) (0 : Nat), Value.int IntKind.i64 (1 : Int)]) m))
      (∃ (n : Int),
      ∃ (b : Bool),
      QSpec Try.prog (20 : Nat) [Value.slice a l.length c, Value.int IntKind.i64 g] m (Value.tuple #[Value.int IntKind.i64 n, Value.bool b]) ∧
      ifB b (Done (ResR (splitL l key g) (Value.tuple #[Value.slice none (0 : Nat) (0 : Nat), Value.int IntKind.i64 (171 : Int)]) m))
      (∃ (n : Int),
      QSpec Try.prog (21 : Nat) [Value.slice a l.length c, Value.string key] m (Value.int IntKind.i64 n) ∧
      ∃ (b : Nat),
      ∃ (off : Nat),
      a = some { block := b, off := off : Addr } ∧
      ((0 : Int) ≤ n ∧ n < (↑l.length : Int)) ∧
      ∃ (s : ByteArray),
      CellsAt m b (off + n.toNat * (3 : Nat) + (1 : Nat)) [Value.string s] ∧
      ifB (s.toList == key.toList)
      (Done (ResR (splitL l key g) (Value.tuple #[Value.slice none (0 : Nat) (0 : Nat), Value.int IntKind.i64 (171 : Int)]) m))
      (∃ (n : Int),
      QSpec Try.prog (24 : Nat) [Value.slice a l.length c] m (Value.int IntKind.i64 n) ∧
      ifB (n == (4611686018427387904 : Int))
      (Done (ResR (splitL l key g) (Value.tuple #[Value.slice none (0 : Nat) (0 : Nat), Value.int IntKind.i64 (170 : Int)]) m))
      ((∃ (a_1 : OutX),
      ((a_1.i ≤ l.length ∧ rightB l = true ∧ a_1.out.length ≤ (2 : Nat) * a_1.i ∧ epochL l < (4611686018427387904 : Int)) ∧
      (a_1.out ++
      rsF (findL key l (0 : Nat) (0 : Nat)) { gr := g, fr := key, ep := epochL l + (1 : Int) : Pl } a_1.i
      (List.drop a_1.i l) =
      rsF (findL key l (0 : Nat) (0 : Nat)) { gr := g, fr := key, ep := epochL l + (1 : Int) : Pl } (0 : Nat) l ∧
      splitL l key g = (insS l key g (findL key l (0 : Nat) (0 : Nat)) (epochL l + (1 : Int)), (0 : Int))) ∧
      NewR m.sz (fun (x : Nat) => False) a_1.m (3 : Nat) a_1.a a_1.out.length a_1.c (pls a_1.out) ∧ Agree m.sz m a_1.m) ∧
      m = a_1.m ∧
      ((SV.val (Value.int IntKind.i64 (0 : Int)) = SV.val (Value.int IntKind.i64 (↑a_1.i : Int)) ∧ true = true) ∧
      (SV.val (Value.slice a l.length c) = SV.val (Value.slice a l.length c) ∧ true = true) ∧
      (SV.val (Value.string key) = SV.val (Value.string key) ∧ true = true) ∧
      (SV.val (Value.int IntKind.i64 n) = SV.val (Value.int IntKind.i64 (epochL l)) ∧ true = true) ∧
      (SV.val (Value.slice none (0 : Nat) (0 : Nat)) = SV.val (Value.slice a_1.a a_1.out.length a_1.c) ∧ true = true) ∧
      (SV.val (Value.int IntKind.i64 g) = SV.val (Value.int IntKind.i64 g) ∧ true = true) ∧ True) ∧
      True) ∧
      ∀ (a_1 : OutX),
      (a_1.i ≤ l.length ∧ rightB l = true ∧ a_1.out.length ≤ (2 : Nat) * a_1.i ∧ epochL l < (4611686018427387904 : Int)) ∧
      (a_1.out ++
      rsF (findL key l (0 : Nat) (0 : Nat)) { gr := g, fr := key, ep := epochL l + (1 : Int) : Pl } a_1.i
      (List.drop a_1.i l) =
      rsF (findL key l (0 : Nat) (0 : Nat)) { gr := g, fr := key, ep := epochL l + (1 : Int) : Pl } (0 : Nat) l ∧
      splitL l key g = (insS l key g (findL key l (0 : Nat) (0 : Nat)) (epochL l + (1 : Int)), (0 : Int))) ∧
      NewR m.sz (fun (x : Nat) => False) a_1.m (3 : Nat) a_1.a a_1.out.length a_1.c (pls a_1.out) ∧ Agree m.sz m a_1.m →
      ifB (decide ((↑a_1.i : Int) < (↑l.length : Int)))
      (∃ (b : Nat),
      ∃ (off : Nat),
      a = some { block := b, off := off : Addr } ∧
      ((0 : Int) ≤ (↑a_1.i : Int) ∧ (↑a_1.i : Int) < (↑l.length : Int)) ∧
      ∃ (n : Int),
      ∃ (s : ByteArray),
      ∃ (n_1 : Int),
      CellsAt a_1.m b (off + (↑a_1.i : Int).toNat * (3 : Nat))
      [Value.int IntKind.i64 n, Value.string s, Value.int IntKind.i64 n_1] ∧
      ∃ (n_2 : Int),
      QSpec Try.prog (21 : Nat) [Value.slice a l.length c, Value.string key] a_1.m (Value.int IntKind.i64 n_2) ∧
      ifB ((↑a_1.i : Int) == n_2)
      (true = true ∧
      ∀ (b : Nat),
      a_1.m.sz ≤ b →
      ∃ (old : List Value),
      ∃ (src : List Value),
      AppPre m.sz (fun (x : Nat) => False)
      (a_1.m.newBlock b
      [Value.int IntKind.i64 n, Value.string s,
      Value.int IntKind.i64 (IntKind.i64.wrap (epochL l + (1 : Int)))])
      (3 : Nat) (32 : Nat) a_1.a a_1.out.length a_1.c
      (some { block := b, off := (0 : Nat) : Addr }) (1 : Nat) old src ∧
      ∀ (a' : Option Addr) (c' : Nat) (m' : M),
      AppPost Try.prog (39 : Nat)
      (a_1.m.newBlock b
      [Value.int IntKind.i64 n, Value.string s,
      Value.int IntKind.i64 (IntKind.i64.wrap (epochL l + (1 : Int)))])
      (3 : Nat) a_1.a a_1.out.length a_1.c (1 : Nat) old src a' c' m' →
      ∃ (n : Int),
      QSpec Try.prog (21 : Nat) [Value.slice a l.length c, Value.string key] m'
      (Value.int IntKind.i64 n) ∧
      ifB ((↑a_1.i : Int) == n)
      (true = true ∧
      ∀ (b : Nat),
      m'.sz ≤ b →
      ∃ (old : List Value),
      ∃ (src : List Value),
      AppPre m.sz (fun (x : Nat) => False)
      (m'.newBlock b
      [Value.int IntKind.i64 g, Value.string key,
      Value.int IntKind.i64
      (IntKind.i64.wrap (epochL l + (1 : Int)))])
      (3 : Nat) (32 : Nat) a' (a_1.out.length + (1 : Nat)) c'
      (some { block := b, off := (0 : Nat) : Addr }) (1 : Nat) old src ∧
      ∀ (a'_1 : Option Addr) (c'_1 : Nat) (m'_1 : M),
      AppPost Try.prog (39 : Nat)
      (m'.newBlock b
      [Value.int IntKind.i64 g, Value.string key,
      Value.int IntKind.i64
      (IntKind.i64.wrap (epochL l + (1 : Int)))])
      (3 : Nat) a' (a_1.out.length + (1 : Nat)) c' (1 : Nat) old src
      a'_1 c'_1 m'_1 →
      ∃ (a' : OutX),
      (((a'.i ≤ l.length ∧
      rightB l = true ∧
      a'.out.length ≤ (2 : Nat) * a'.i ∧
      epochL l < (4611686018427387904 : Int)) ∧
      (a'.out ++
      rsF (findL key l (0 : Nat) (0 : Nat))
      { gr := g, fr := key, ep := epochL l + (1 : Int) : Pl }
      a'.i (List.drop a'.i l) =
      rsF (findL key l (0 : Nat) (0 : Nat))
      { gr := g, fr := key, ep := epochL l + (1 : Int) : Pl }
      (0 : Nat) l ∧
      splitL l key g =
      (insS l key g (findL key l (0 : Nat) (0 : Nat))
      (epochL l + (1 : Int)),
      (0 : Int))) ∧
      NewR m.sz (fun (x : Nat) => False) a'.m (3 : Nat) a'.a
      a'.out.length a'.c (pls a'.out) ∧
      Agree m.sz m a'.m) ∧
      m'_1 = a'.m ∧
      ((SV.val
      (Value.int IntKind.i64
      (IntKind.i64.wrap
      ((↑a_1.i : Int) + (1 : Int)))) =
      SV.val (Value.int IntKind.i64 (↑a'.i : Int)) ∧
      true = true) ∧
      (SV.val (Value.slice a l.length c) =
      SV.val (Value.slice a l.length c) ∧
      true = true) ∧
      (SV.val (Value.string key) =
      SV.val (Value.string key) ∧
      true = true) ∧
      (SV.val (Value.int IntKind.i64 (epochL l)) =
      SV.val
      (Value.int IntKind.i64 (epochL l)) ∧
      true = true) ∧
      (SV.val
      (Value.slice a'_1
      (a_1.out.length + (1 : Nat) +
      (1 : Nat))
      c'_1) =
      SV.val
      (Value.slice a'.a a'.out.length
      a'.c) ∧
      true = true) ∧
      (SV.val (Value.int IntKind.i64 g) =
      SV.val (Value.int IntKind.i64 g) ∧
      true = true) ∧
      True) ∧
      True) ∧
      l.length - a'.i < l.length - a_1.i)
      (∃ (a'_1 : OutX),
      (((a'_1.i ≤ l.length ∧
      rightB l = true ∧
      a'_1.out.length ≤ (2 : Nat) * a'_1.i ∧
      epochL l < (4611686018427387904 : Int)) ∧
      (a'_1.out ++
      rsF (findL key l (0 : Nat) (0 : Nat))
      { gr := g, fr := key, ep := epochL l + (1 : Int) : Pl } a'_1.i
      (List.drop a'_1.i l) =
      rsF (findL key l (0 : Nat) (0 : Nat))
      { gr := g, fr := key, ep := epochL l + (1 : Int) : Pl }
      (0 : Nat) l ∧
      splitL l key g =
      (insS l key g (findL key l (0 : Nat) (0 : Nat))
      (epochL l + (1 : Int)),
      (0 : Int))) ∧
      NewR m.sz (fun (x : Nat) => False) a'_1.m (3 : Nat) a'_1.a
      a'_1.out.length a'_1.c (pls a'_1.out) ∧
      Agree m.sz m a'_1.m) ∧
      m' = a'_1.m ∧
      ((SV.val
      (Value.int IntKind.i64
      (IntKind.i64.wrap ((↑a_1.i : Int) + (1 : Int)))) =
      SV.val (Value.int IntKind.i64 (↑a'_1.i : Int)) ∧
      true = true) ∧
      (SV.val (Value.slice a l.length c) =
      SV.val (Value.slice a l.length c) ∧
      true = true) ∧
      (SV.val (Value.string key) = SV.val (Value.string key) ∧
      true = true) ∧
      (SV.val (Value.int IntKind.i64 (epochL l)) =
      SV.val (Value.int IntKind.i64 (epochL l)) ∧
      true = true) ∧
      (SV.val (Value.slice a' (a_1.out.length + (1 : Nat)) c') =
      SV.val (Value.slice a'_1.a a'_1.out.length a'_1.c) ∧
      true = true) ∧
      (SV.val (Value.int IntKind.i64 g) =
      SV.val (Value.int IntKind.i64 g) ∧
      true = true) ∧
      True) ∧
      True) ∧
      l.length - a'_1.i < l.length - a_1.i))
      (true = true ∧
      ∀ (b : Nat),
      a_1.m.sz ≤ b →
      ∃ (old : List Value),
      ∃ (src : List Value),
      AppPre m.sz (fun (x : Nat) => False)
      (a_1.m.newBlock b [Value.int IntKind.i64 n, Value.string s, Value.int IntKind.i64 n_1])
      (3 : Nat) (32 : Nat) a_1.a a_1.out.length a_1.c
      (some { block := b, off := (0 : Nat) : Addr }) (1 : Nat) old src ∧
      ∀ (a' : Option Addr) (c' : Nat) (m' : M),
      AppPost Try.prog (39 : Nat)
      (a_1.m.newBlock b
      [Value.int IntKind.i64 n, Value.string s, Value.int IntKind.i64 n_1])
      (3 : Nat) a_1.a a_1.out.length a_1.c (1 : Nat) old src a' c' m' →
      ∃ (n : Int),
      QSpec Try.prog (21 : Nat) [Value.slice a l.length c, Value.string key] m'
      (Value.int IntKind.i64 n) ∧
      ifB ((↑a_1.i : Int) == n)
      (true = true ∧
      ∀ (b : Nat),
      m'.sz ≤ b →
      ∃ (old : List Value),
      ∃ (src : List Value),
      AppPre m.sz (fun (x : Nat) => False)
      (m'.newBlock b
      [Value.int IntKind.i64 g, Value.string key,
      Value.int IntKind.i64
      (IntKind.i64.wrap (epochL l + (1 : Int)))])
      (3 : Nat) (32 : Nat) a' (a_1.out.length + (1 : Nat)) c'
      (some { block := b, off := (0 : Nat) : Addr }) (1 : Nat) old src ∧
      ∀ (a'_1 : Option Addr) (c'_1 : Nat) (m'_1 : M),
      AppPost Try.prog (39 : Nat)
      (m'.newBlock b
      [Value.int IntKind.i64 g, Value.string key,
      Value.int IntKind.i64
      (IntKind.i64.wrap (epochL l + (1 : Int)))])
      (3 : Nat) a' (a_1.out.length + (1 : Nat)) c' (1 : Nat) old src
      a'_1 c'_1 m'_1 →
      ∃ (a' : OutX),
      (((a'.i ≤ l.length ∧
      rightB l = true ∧
      a'.out.length ≤ (2 : Nat) * a'.i ∧
      epochL l < (4611686018427387904 : Int)) ∧
      (a'.out ++
      rsF (findL key l (0 : Nat) (0 : Nat))
      { gr := g, fr := key, ep := epochL l + (1 : Int) : Pl }
      a'.i (List.drop a'.i l) =
      rsF (findL key l (0 : Nat) (0 : Nat))
      { gr := g, fr := key, ep := epochL l + (1 : Int) : Pl }
      (0 : Nat) l ∧
      splitL l key g =
      (insS l key g (findL key l (0 : Nat) (0 : Nat))
      (epochL l + (1 : Int)),
      (0 : Int))) ∧
      NewR m.sz (fun (x : Nat) => False) a'.m (3 : Nat) a'.a
      a'.out.length a'.c (pls a'.out) ∧
      Agree m.sz m a'.m) ∧
      m'_1 = a'.m ∧
      ((SV.val
      (Value.int IntKind.i64
      (IntKind.i64.wrap
      ((↑a_1.i : Int) + (1 : Int)))) =
      SV.val (Value.int IntKind.i64 (↑a'.i : Int)) ∧
      true = true) ∧
      (SV.val (Value.slice a l.length c) =
      SV.val (Value.slice a l.length c) ∧
      true = true) ∧
      (SV.val (Value.string key) =
      SV.val (Value.string key) ∧
      true = true) ∧
      (SV.val (Value.int IntKind.i64 (epochL l)) =
      SV.val
      (Value.int IntKind.i64 (epochL l)) ∧
      true = true) ∧
      (SV.val
      (Value.slice a'_1
      (a_1.out.length + (1 : Nat) +
      (1 : Nat))
      c'_1) =
      SV.val
      (Value.slice a'.a a'.out.length
      a'.c) ∧
      true = true) ∧
      (SV.val (Value.int IntKind.i64 g) =
      SV.val (Value.int IntKind.i64 g) ∧
      true = true) ∧
      True) ∧
      True) ∧
      l.length - a'.i < l.length - a_1.i)
      (∃ (a'_1 : OutX),
      (((a'_1.i ≤ l.length ∧
      rightB l = true ∧
      a'_1.out.length ≤ (2 : Nat) * a'_1.i ∧
      epochL l < (4611686018427387904 : Int)) ∧
      (a'_1.out ++
      rsF (findL key l (0 : Nat) (0 : Nat))
      { gr := g, fr := key, ep := epochL l + (1 : Int) : Pl } a'_1.i
      (List.drop a'_1.i l) =
      rsF (findL key l (0 : Nat) (0 : Nat))
      { gr := g, fr := key, ep := epochL l + (1 : Int) : Pl }
      (0 : Nat) l ∧
      splitL l key g =
      (insS l key g (findL key l (0 : Nat) (0 : Nat))
      (epochL l + (1 : Int)),
      (0 : Int))) ∧
      NewR m.sz (fun (x : Nat) => False) a'_1.m (3 : Nat) a'_1.a
      a'_1.out.length a'_1.c (pls a'_1.out) ∧
      Agree m.sz m a'_1.m) ∧
      m' = a'_1.m ∧
      ((SV.val
      (Value.int IntKind.i64
      (IntKind.i64.wrap ((↑a_1.i : Int) + (1 : Int)))) =
      SV.val (Value.int IntKind.i64 (↑a'_1.i : Int)) ∧
      true = true) ∧
      (SV.val (Value.slice a l.length c) =
      SV.val (Value.slice a l.length c) ∧
      true = true) ∧
      (SV.val (Value.string key) = SV.val (Value.string key) ∧
      true = true) ∧
      (SV.val (Value.int IntKind.i64 (epochL l)) =
      SV.val (Value.int IntKind.i64 (epochL l)) ∧
      true = true) ∧
      (SV.val (Value.slice a' (a_1.out.length + (1 : Nat)) c') =
      SV.val (Value.slice a'_1.a a'_1.out.length a'_1.c) ∧
      true = true) ∧
      (SV.val (Value.int IntKind.i64 g) =
      SV.val (Value.int IntKind.i64 g) ∧
      true = true) ∧
      True) ∧
      True) ∧
      l.length - a'_1.i < l.length - a_1.i)))
      (Done
      (ResR (splitL l key g) (Value.tuple #[Value.slice a_1.a a_1.out.length a_1.c, Value.int IntKind.i64 (0 : Int)])
      a_1.m))))))))))) (by kernel_rfl) ?_
  refine ⟨rfl, _, rf_right l a c hl m h, ifB_intro (fun h1 => ?_) (fun h1 => ?_)⟩
  · have : rightB l = false := by simpa using h1
    exact rf_err (by simp only [splitL, this, if_true])
  have hR : rightB l = true := by simpa using h1
  have h7 := right_len hR
  have hp := right_pos hR
  have hfl := findL_len key hp
  have hrf := rfind_eq key hR
  have hEl := epoch_le hR
  have hE0 : 0 ≤ epochL l := epoch_nn l 0
  refine ifB_intro (fun h2 => rf_err ?_) (fun h2 => ifB_intro (fun h3 => rf_err ?_) (fun h3 => ifB_intro (fun h4 => rf_err ?_) (fun h4 => ifB_intro (fun h5 => rf_err ?_) (fun h5 => ?_))))
  · have : ¬ 1 ≤ key.size := by simp at h2; omega
    simp only [splitL, hR, this]; rfl
  · have : ¬ key.size ≤ 16 := by simp at h3; omega
    simp only [splitL, hR, this, decide_false, Bool.false_and, Bool.and_false]; rfl
  · have : ¬ 1 ≤ g := by simp at h4; omega
    simp only [splitL, hR, grpB, this, decide_false, Bool.false_and, Bool.and_false]; rfl
  · have : ¬ g < 8 := by simp at h5; omega
    simp only [splitL, hR, grpB, this, decide_false, Bool.and_false]; rfl
  have hG : (decide (1 ≤ key.size) && (decide (key.size ≤ 16) && grpB g)) = true := by
    simp at h2 h3 h4 h5
    simp [grpB]; omega
  obtain ⟨b0, o0, rfl, hc⟩ := h.cells (by rw [pl_len]; omega)
  refine ⟨_, _, ofV_eq l g ▸ rf_of l _ c g hl m h, ifB_intro (fun h6 => rf_err ?_) (fun h6 => ⟨_, hrf ▸ rf_find l _ c key hl m h, b0, o0, rfl, by omega, _, by simpa using pl_frc hc hfl, ifB_intro (fun h8 => rf_err ?_) (fun h8 => ?_)⟩)⟩
  · simp only [splitL, hR, hG, h6, Bool.true_or, if_true]; rfl
  · have : l[findL key l 0 0].fr = key := toList_inj.1 (by simpa using h8)
    have e : (l[findL key l 0 0]?.getD pl0).fr = key := by rw [List.getElem?_eq_getElem hfl]; exact this
    simp only [splitL, hR, hG, e, decide_true, Bool.or_true, if_true]; rfl
  have hT : (decide (ofI l g < l.length) || decide ((l[findL key l 0 0]?.getD pl0).fr = key)) = false := by
    rw [List.getElem?_eq_getElem hfl, h6]
    have : ¬ l[findL key l 0 0].fr = key := fun e => by rw [e] at h8; simp at h8
    simp [this]
  refine ⟨_, rf_epoch l _ c hl m h, ifB_intro (fun h9 => rf_err ?_) (fun h9 => ?_)⟩
  · have : epochL l = 4611686018427387904 := by simpa using h9
    simp only [splitL, hR, hG, hT, this]; rfl
  have hE : epochL l < 4611686018427387904 := by
    have : ¬ epochL l = 4611686018427387904 := by simpa using h9
    omega
  have w1 : IntKind.i64.wrap (epochL l + 1) = epochL l + 1 := by rw [IntKind.wrap_i64]; omega
  have hsp : splitL l key g = (insS l key g (findL key l 0 0) (epochL l + 1), 0) := by
    simp only [splitL, hR, hG, hT, show ¬ epochL l ≥ 4611686018427387904 by omega]
    rfl
  rw [w1]
  refine ⟨⟨⟨0, [], m, none, 0⟩, ⟨⟨Nat.zero_le _, hR, by simp, hE⟩, ⟨rfl, hsp⟩, .nil _, ⟨fun _ _ => rfl, fun _ _ => Iff.rfl, Nat.le_refl _⟩⟩, rfl, by simp⟩, ?_⟩
  generalize hff : findL key l 0 0 = f at *
  generalize hee : epochL l + 1 = e at *
  rintro ⟨k, out, mx, ax, cx⟩ ⟨⟨hk, -, hol, -⟩, ⟨hout, -⟩, hY, hA⟩
  simp only at hk hol hout hY hA ⊢
  have hrow : Row mx (some ⟨b0, o0, none⟩) (pls l) := h.agree hA
  have hfind : ∀ mm : M, Row mm (some ⟨b0, o0, none⟩) (pls l) → QSpec Try.prog 21 [.slice (some ⟨b0, o0, none⟩) l.length c, .string key] mm (I f) := fun mm hm => by
    have := rf_find l _ c key hl mm hm
    rwa [hrf] at this
  refine ifB_intro (fun h10 => ?_) (fun h10 => ?_)
  · have hlt : k < l.length := by simpa using h10
    have hcx := (hrow.cells (by rw [pl_len]; omega))
    obtain ⟨b1, o1, e1, hcx⟩ := hcx
    obtain ⟨rfl, rfl⟩ : b0 = b1 ∧ o0 = o1 := by simpa using e1
    rw [List.drop_eq_getElem_cons hlt, rsF] at hout
    refine ⟨b0, o0, rfl, by omega, _, _, _, by simpa using pl_at hcx hlt, _, hfind mx hrow, ?_⟩
    rw [wrap1 hlt hl]
    by_cases hkf : k = f
    · have hb1 : ((k : Int) == (f : Int)) = true := by simp [hkf]
      rw [hb1]
      refine ifB_true ⟨by trivial, fun b hb => ?_⟩
      obtain ⟨p1, p2⟩ := NewR.push (P := Try.prog) (e := 39) (bytes := 32) (src := encPl { l[k] with ep := e }) hY hb hA.2.2 rfl rfl (by omega) pl_zr
      refine ⟨_, _, p1, fun a' c' m' hp => ?_⟩
      obtain ⟨q1, q2⟩ := p2 a' c' m' hp
      have hA' := hA.trans q2
      refine ⟨_, hfind m' (h.agree hA'), ?_⟩
      rw [hb1]
      refine ifB_true ⟨by trivial, fun b2 hb2 => ?_⟩
      have q1' : NewR m.sz (fun _ => False) m' 3 a' (out ++ [{ l[k] with ep := e }]).length c' (pls (out ++ [{ l[k] with ep := e }])) := by
        simpa [List.flatMap_append] using q1
      obtain ⟨p3, p4⟩ := NewR.push (P := Try.prog) (e := 39) (bytes := 32) (src := encPl ⟨g, key, e⟩) q1' hb2 hA'.2.2 rfl rfl (by simp; omega) pl_zr
      simp only [List.length_append, List.length_cons, List.length_nil] at p3 p4
      refine ⟨_, _, p3, fun a2 c2 m2 hp2 => ?_⟩
      obtain ⟨q3, q4⟩ := p4 a2 c2 m2 hp2
      refine ⟨⟨k + 1, out ++ [{ l[k] with ep := e }, ⟨g, key, e⟩], m2, a2, c2⟩, ⟨⟨⟨hlt, hR, by simp; omega, hE⟩, ⟨?_, hsp⟩, ?_, hA'.trans q4⟩, rfl, by simp⟩, by simp only; omega⟩
      · rw [if_pos hkf] at hout
        rw [← hout, List.append_assoc]
      · simpa [List.flatMap_append, Nat.add_assoc] using q3
    · have hb1 : ((k : Int) == (f : Int)) = false := by simp; omega
      rw [hb1]
      refine ifB_false ⟨by trivial, fun b hb => ?_⟩
      obtain ⟨p1, p2⟩ := NewR.push (P := Try.prog) (e := 39) (bytes := 32) (src := encPl l[k]) hY hb hA.2.2 rfl rfl (by omega) pl_zr
      refine ⟨_, _, p1, fun a' c' m' hp => ?_⟩
      obtain ⟨q1, q2⟩ := p2 a' c' m' hp
      have hA' := hA.trans q2
      refine ⟨_, hfind m' (h.agree hA'), ?_⟩
      rw [hb1]
      refine ifB_false ⟨⟨k + 1, out ++ [l[k]], m', a', c'⟩, ⟨⟨⟨hlt, hR, by simp; omega, hE⟩, ⟨?_, hsp⟩, ?_, hA'⟩, rfl, by simp⟩, by simp only; omega⟩
      · rw [if_neg hkf] at hout
        rw [← hout, List.append_assoc]
      · simpa [List.flatMap_append] using q1
  · have : k = l.length := by simp at h10; omega
    subst this
    rw [List.drop_length, rsF, List.append_nil, rsF_ins l key g f e hfl] at hout
    rw [hsp, ← hout]
    exact ⟨⟨_, _, rfl, hY.row⟩⟩

end Go.Proofs.Ytpnpebefcmgjoaa
