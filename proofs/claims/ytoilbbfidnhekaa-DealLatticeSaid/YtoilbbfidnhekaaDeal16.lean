/-
  Contracts of functions of this seat: what each hands back, and what it leaves of memory (deal16). Nothing here is trusted: Lean checks it.
-/
import Derived.Test.YtoilbbfidnhekaaDeal15
set_option linter.unusedVariables false
set_option linter.unusedSimpArgs false
namespace Go.Proofs.Ytoilbbfidnhekaa
open Go.Vc Go.RowKit
set_option maxRecDepth 100000

theorem listE_succ (f : Int → Int) : ∀ (n : Nat) (c : Int), listE f (n + 1) c = listE f n c ++ (if 0 < f (c + n) then [⟨c + n, f (c + n)⟩] else [])
  | 0, c => by simp [listE]
  | n + 1, c => by
    have ih := listE_succ f n (c + 1)
    have e : c + 1 + (n : Int) = c + ((n + 1 : Nat) : Int) := by omega
    rw [e] at ih
    rw [listE]
    split
    · rename_i h; rw [ih, listE, if_pos h]; rfl
    · rename_i h; rw [ih, listE, if_neg h]

theorem listE_len (f : Int → Int) : ∀ (n : Nat) (c : Int), (listE f n c).length ≤ n
  | 0, _ => Nat.le_refl _
  | n + 1, c => by
    have ih := listE_len f n (c + 1)
    simp only [listE]; split
    · simp; omega
    · omega

set_option maxHeartbeats 1000000 in
theorem rjoin_s (a ab : Option Addr) (cp cb : Nat) (l b : List En) (hn : l.length ≤ 1048576) (hb : b.length ≤ 1048576) (m : M) (h : Row m a (ens l)) (h2 : Row m ab (ens b)) : Vc.Spec Try.prog 30 [.slice a l.length cp, .slice ab b.length cb] m (LeR m (joinE l b)) := by
  refine Vc.Spec.of_vc Try.func30 (ann := fun _ => { A := JoX, inv := fun y => y.k ≤ 8 ∧ NewR m.sz (fun _ => False) y.m 2 y.a (listE (fun c => maxI (ofE l c) (ofE b c)) y.k 1).length y.c (ens (listE (fun c => maxI (ofE l c) (ofE b c)) y.k 1)) ∧ Agree m.sz m y.m, st := fun y => [(7, .val (I ((y.k + 1 : Nat) : Int))), (0, .val (.slice a l.length cp)), (1, .val (.slice ab b.length cb)), (6, .val (.slice y.a (listE (fun c => maxI (ofE l c) (ofE b c)) y.k 1).length y.c))], own := fun _ => [], m := fun y => y.m, μ := fun y => 8 - y.k }) ?_
  refine vc_by (X :=
      true = true ∧
      ∃ (b_1 : Bool),
      QSpec Try.prog (26 : Nat) [Value.slice a l.length cp] m (Value.bool b_1) ∧
      ifB (!b_1) (Done (LeR m (joinE l b) (Value.tuple #[Value.slice none (0 : Nat) (0 : Nat), Value.int IntKind.i64 (21 : Int)]) m))
      (∃ (b_2 : Bool),
      QSpec Try.prog (26 : Nat) [Value.slice ab b.length cb] m (Value.bool b_2) ∧
      ifB (!b_2) (Done (LeR m (joinE l b) (Value.tuple #[Value.slice none (0 : Nat) (0 : Nat), Value.int IntKind.i64 (21 : Int)]) m))
      ((∃ (a_1 : JoX),
      (a_1.k ≤ (8 : Nat) ∧
      NewR m.sz (fun (x : Nat) => False) a_1.m (2 : Nat) a_1.a (listE (fun (c : Int) => maxI (ofE l c) (ofE b c)) a_1.k (1 : Int)).length a_1.c
      (ens (listE (fun (c : Int) => maxI (ofE l c) (ofE b c)) a_1.k (1 : Int))) ∧
      Agree m.sz m a_1.m) ∧
      m = a_1.m ∧
      ((SV.val (Value.int IntKind.i64 (1 : Int)) = SV.val (Value.int IntKind.i64 (↑(a_1.k + (1 : Nat)) : Int)) ∧ true = true) ∧
      (SV.val (Value.slice a l.length cp) = SV.val (Value.slice a l.length cp) ∧ true = true) ∧
      (SV.val (Value.slice ab b.length cb) = SV.val (Value.slice ab b.length cb) ∧ true = true) ∧
      (SV.val (Value.slice none (0 : Nat) (0 : Nat)) =
      SV.val (Value.slice a_1.a (listE (fun (c : Int) => maxI (ofE l c) (ofE b c)) a_1.k (1 : Int)).length a_1.c) ∧
      true = true) ∧
      True) ∧
      True) ∧
      ∀ (a_1 : JoX),
      a_1.k ≤ (8 : Nat) ∧
      NewR m.sz (fun (x : Nat) => False) a_1.m (2 : Nat) a_1.a (listE (fun (c : Int) => maxI (ofE l c) (ofE b c)) a_1.k (1 : Int)).length a_1.c
      (ens (listE (fun (c : Int) => maxI (ofE l c) (ofE b c)) a_1.k (1 : Int))) ∧
      Agree m.sz m a_1.m →
      ifB (decide ((↑(a_1.k + (1 : Nat)) : Int) ≤ (8 : Int)))
      (∃ (n : Int),
      QSpec Try.prog (58 : Nat) [Value.slice a l.length cp, Value.int IntKind.i64 (↑(a_1.k + (1 : Nat)) : Int)] a_1.m (Value.int IntKind.i64 n) ∧
      ∃ (n_1 : Int),
      QSpec Try.prog (58 : Nat) [Value.slice ab b.length cb, Value.int IntKind.i64 (↑(a_1.k + (1 : Nat)) : Int)] a_1.m (Value.int IntKind.i64 n_1) ∧
      ifB (decide ((if n_1 > n then n_1 else n) > (0 : Int)))
      (true = true ∧
      ∀ (b_3 : Nat),
      a_1.m.sz ≤ b_3 →
      ∃ (old : List Value),
      ∃ (src : List Value),
      AppPre m.sz (fun (x : Nat) => False)
      (a_1.m.newBlock b_3 [Value.int IntKind.i64 (↑(a_1.k + (1 : Nat)) : Int), Value.int IntKind.i64 (if n_1 > n then n_1 else n)])
      (2 : Nat) (16 : Nat) a_1.a (listE (fun (c : Int) => maxI (ofE l c) (ofE b c)) a_1.k (1 : Int)).length a_1.c
      (some { block := b_3, off := (0 : Nat) : Addr }) (1 : Nat) old src ∧
      ∀ (a' : Option Addr) (c' : Nat) (m' : M),
      AppPost Try.prog (48 : Nat)
      (a_1.m.newBlock b_3 [Value.int IntKind.i64 (↑(a_1.k + (1 : Nat)) : Int), Value.int IntKind.i64 (if n_1 > n then n_1 else n)])
      (2 : Nat) a_1.a (listE (fun (c : Int) => maxI (ofE l c) (ofE b c)) a_1.k (1 : Int)).length a_1.c (1 : Nat) old src a' c' m' →
      ∃ (a'_1 : JoX),
      ((a'_1.k ≤ (8 : Nat) ∧
      NewR m.sz (fun (x : Nat) => False) a'_1.m (2 : Nat) a'_1.a
      (listE (fun (c : Int) => maxI (ofE l c) (ofE b c)) a'_1.k (1 : Int)).length a'_1.c
      (ens (listE (fun (c : Int) => maxI (ofE l c) (ofE b c)) a'_1.k (1 : Int))) ∧
      Agree m.sz m a'_1.m) ∧
      m' = a'_1.m ∧
      ((SV.val (Value.int IntKind.i64 (IntKind.i64.wrap ((↑(a_1.k + (1 : Nat)) : Int) + (1 : Int)))) =
      SV.val (Value.int IntKind.i64 (↑(a'_1.k + (1 : Nat)) : Int)) ∧
      true = true) ∧
      (SV.val (Value.slice a l.length cp) = SV.val (Value.slice a l.length cp) ∧ true = true) ∧
      (SV.val (Value.slice ab b.length cb) = SV.val (Value.slice ab b.length cb) ∧ true = true) ∧
      (SV.val
      (Value.slice a' ((listE (fun (c : Int) => maxI (ofE l c) (ofE b c)) a_1.k (1 : Int)).length + (1 : Nat))
      c') =
      SV.val
      (Value.slice a'_1.a (listE (fun (c : Int) => maxI (ofE l c) (ofE b c)) a'_1.k (1 : Int)).length a'_1.c) ∧
      true = true) ∧
      True) ∧
      True) ∧
      (8 : Nat) - a'_1.k < (8 : Nat) - a_1.k)
      (∃ (a' : JoX),
      ((a'.k ≤ (8 : Nat) ∧
      NewR m.sz (fun (x : Nat) => False) a'.m (2 : Nat) a'.a (listE (fun (c : Int) => maxI (ofE l c) (ofE b c)) a'.k (1 : Int)).length a'.c
      (ens (listE (fun (c : Int) => maxI (ofE l c) (ofE b c)) a'.k (1 : Int))) ∧
      Agree m.sz m a'.m) ∧
      a_1.m = a'.m ∧
      ((SV.val (Value.int IntKind.i64 (IntKind.i64.wrap ((↑(a_1.k + (1 : Nat)) : Int) + (1 : Int)))) =
      SV.val (Value.int IntKind.i64 (↑(a'.k + (1 : Nat)) : Int)) ∧
      true = true) ∧
      (SV.val (Value.slice a l.length cp) = SV.val (Value.slice a l.length cp) ∧ true = true) ∧
      (SV.val (Value.slice ab b.length cb) = SV.val (Value.slice ab b.length cb) ∧ true = true) ∧
      (SV.val (Value.slice a_1.a (listE (fun (c : Int) => maxI (ofE l c) (ofE b c)) a_1.k (1 : Int)).length a_1.c) =
      SV.val (Value.slice a'.a (listE (fun (c : Int) => maxI (ofE l c) (ofE b c)) a'.k (1 : Int)).length a'.c) ∧
      true = true) ∧
      True) ∧
      True) ∧
      (8 : Nat) - a'.k < (8 : Nat) - a_1.k))
      (Done
      (LeR m (joinE l b)
      (Value.tuple #[Value.slice a_1.a (listE (fun (c : Int) => maxI (ofE l c) (ofE b c)) a_1.k (1 : Int)).length a_1.c, Value.int IntKind.i64 (0 : Int)])
      a_1.m))))) (by kernel_rfl) ?_
  have hl1 : l.length ≤ 9223372036854775807 := by omega
  have hl2 : b.length ≤ 9223372036854775807 := by omega
  refine ⟨rfl, _, rends_q a cp l hl1 _ h, ?_⟩
  cases ha : endsB 0 l
  · exact ifB_true (le_fail (by simp [joinE, ha]))
  refine ifB_false ⟨_, rends_q ab cb b hl2 _ h2, ?_⟩
  cases hb2 : endsB 0 b
  · exact ifB_true (le_fail (by simp [joinE, hb2]))
  refine ifB_false ⟨⟨⟨0, none, 0, m⟩, ⟨Nat.zero_le _, .nil _, Agree.refl _ _⟩, rfl, by simp [listE], trivial⟩, fun y ⟨hk, Y, A⟩ => ifB_intro (fun h3 => ?_) (fun h3 => ?_)⟩
  · have hk2 : y.k < 8 := by simp at h3; omega
    have w1 : IntKind.i64.wrap (((y.k + 1 : Nat) : Int) + 1) = ((y.k + 1 + 1 : Nat) : Int) := by simp [IntKind.wrap_i64]; omega
    have hs := listE_succ (fun c => maxI (ofE l c) (ofE b c)) y.k 1
    have hle := listE_len (fun c => maxI (ofE l c) (ofE b c)) y.k 1
    have ek : (1 : Int) + (y.k : Int) = ((y.k + 1 : Nat) : Int) := by omega
    rw [ek] at hs
    refine ⟨_, rof_q a cp l _ hl1 _ (h.agree A), _, rof_q ab cb b _ hl2 _ (h2.agree A), ifB_intro (fun h4 => ?_) (fun h4 => ?_)⟩
    · refine ⟨rfl, fun b3 hb3 => ?_⟩
      have hv : 0 < maxI (ofE l ((y.k + 1 : Nat) : Int)) (ofE b ((y.k + 1 : Nat) : Int)) := of_decide_eq_true h4
      rw [if_pos hv] at hs
      obtain ⟨p1, p2⟩ := NewR.push (P := Try.prog) (e := 48) (bytes := 16) (src := encEn ⟨((y.k + 1 : Nat) : Int), maxI (ofE l ((y.k + 1 : Nat) : Int)) (ofE b ((y.k + 1 : Nat) : Int))⟩) Y hb3 A.2.2 rfl rfl (by omega) en_zr
      refine ⟨_, _, p1, fun a' c' m' hp => ?_⟩
      obtain ⟨g1, g2⟩ := p2 a' c' m' hp
      have e2 : ens (listE (fun c => maxI (ofE l c) (ofE b c)) (y.k + 1) 1) = ens (listE (fun c => maxI (ofE l c) (ofE b c)) y.k 1) ++ encEn ⟨((y.k + 1 : Nat) : Int), maxI (ofE l ((y.k + 1 : Nat) : Int)) (ofE b ((y.k + 1 : Nat) : Int))⟩ := by rw [hs]; simp [ens]
      have e3 : (listE (fun c => maxI (ofE l c) (ofE b c)) (y.k + 1) 1).length = (listE (fun c => maxI (ofE l c) (ofE b c)) y.k 1).length + 1 := by rw [hs]; simp
      refine ⟨⟨y.k + 1, a', c', m'⟩, ⟨⟨hk2, ?_, A.trans g2⟩, rfl, ?_, trivial⟩, by simp only; omega⟩
      · simp only; rw [e2, e3]; exact g1
      · simp only; rw [w1, e3]; simp
    · have hv : ¬ 0 < maxI (ofE l ((y.k + 1 : Nat) : Int)) (ofE b ((y.k + 1 : Nat) : Int)) := of_decide_eq_false h4
      rw [if_neg hv, List.append_nil] at hs
      refine ⟨⟨y.k + 1, y.a, y.c, y.m⟩, ⟨⟨hk2, ?_, A⟩, rfl, ?_, trivial⟩, by simp only; omega⟩
      · simp only; rw [hs]; exact Y
      · simp only; rw [w1, hs]; simp
  · have : y.k = 8 := by simp at h3; omega
    rw [this] at Y ⊢
    exact le_ok (n := m.sz) (z := listE (fun c => maxI (ofE l c) (ofE b c)) 8 1) (by simp [joinE, ha, hb2, fold_list ha hb2]) rfl Y (Nat.le_refl _)

end Go.Proofs.Ytoilbbfidnhekaa
