/-
  Contracts of functions of package num, its reference and its laws: what each hands back. Nothing here is trusted: Lean checks it.
-/
import Derived.Test.YtfagpihpelgmiaaNum4
namespace Go.Proofs.Ytfagpihpelgmiaa
open Go.Vc Go.RowKit
theorem sumI_append (a b : List Int) : sumI (a ++ b) = sumI a + sumI b := by
  unfold sumI
  rw [List.foldl_append, foldl_add]
theorem sumI_reverse (l : List Int) : sumI l.reverse = sumI l := by
  induction l with
  | nil => rfl
  | cons x r ih =>
    rw [List.reverse_cons, sumI_append, ih, show x :: r = [x] ++ r from rfl, sumI_append]
    omega
structure OrdX where
  j : Nat
  a : Option Addr
  c : Nat
  m : M
def ordAnn (a : Option Addr) (c : Nat) (l : List Int) (k : Int) (m : M) : Ann where
  A := OrdX
  inv x := x.j ≤ l.length ∧ Own m.sz (fun _ => False) x.m 1 x.a x.j x.c (ints (l.reverse.take x.j)) ∧ Agree m.sz m x.m
  st x := [(6, .val (I ((l.length : Int) - 1 - x.j))), (5, .val (.slice x.a x.j x.c)), (0, .val (.slice a l.length c)), (1, .val (I k))]
  own _ := []
  m x := x.m
  μ x := l.length - x.j
theorem numorder (a : Option Addr) (c : Nat) (l : List Int) (k : Int) (hlc : l.length ≤ c) (hl : ∀ x ∈ l, In64 x) (hk : In64 k) (hn : l.length ≤ 1048576) (m : M) (h : Row m a (ints l)) : QSpec Try.prog 10 [.slice a l.length c, I k] m (.bool true) := by
  refine QSpec.of_vc Try.func10 (ann := fun n _ => ordAnn a c l k { m with sz := n }) fun n hn => ?_
  refine vc_by (X :=
      true = true ∧
        (∃ (a_1 : OrdX),
            (a_1.j ≤ l.length ∧
                Own n (fun (x : Nat) => False) a_1.m (1 : Nat) a_1.a a_1.j a_1.c (ints (List.take a_1.j l.reverse)) ∧ Agree n { π := m.π, sz := n, uf := m.uf : M } a_1.m) ∧
              { π := m.π, sz := n, uf := m.uf : M } = a_1.m ∧
                ((SV.val (Value.int IntKind.i64 (IntKind.i64.wrap ((↑l.length : Int) - (1 : Int)))) = SV.val (Value.int IntKind.i64 ((↑l.length : Int) - (1 : Int) - (↑a_1.j : Int))) ∧
                      true = true) ∧
                    (SV.val (Value.slice none (0 : Nat) (0 : Nat)) = SV.val (Value.slice a_1.a a_1.j a_1.c) ∧ true = true) ∧
                      (SV.val (Value.slice a l.length c) = SV.val (Value.slice a l.length c) ∧ true = true) ∧
                        (SV.val (Value.int IntKind.i64 k) = SV.val (Value.int IntKind.i64 k) ∧ true = true) ∧ True) ∧
                  True) ∧
          ∀ (a_1 : OrdX),
            a_1.j ≤ l.length ∧ Own n (fun (x : Nat) => False) a_1.m (1 : Nat) a_1.a a_1.j a_1.c (ints (List.take a_1.j l.reverse)) ∧ Agree n { π := m.π, sz := n, uf := m.uf : M } a_1.m →
              ifB (decide ((↑l.length : Int) - (1 : Int) - (↑a_1.j : Int) ≥ (0 : Int)))
                (∃ (b : Nat),
                  ∃ (off : Nat),
                    a = some { block := b, off := off : Addr } ∧
                      ((0 : Int) ≤ (↑l.length : Int) - (1 : Int) - (↑a_1.j : Int) ∧ (↑l.length : Int) - (1 : Int) - (↑a_1.j : Int) < (↑l.length : Int)) ∧
                        ∃ (n_1 : Int),
                          CellsAt a_1.m b (off + ((↑l.length : Int) - (1 : Int) - (↑a_1.j : Int)).toNat * (1 : Nat)) [Value.int IntKind.i64 n_1] ∧
                            true = true ∧
                              ∀ (b : Nat),
                                a_1.m.sz ≤ b →
                                  ∃ (old : List Value),
                                    ∃ (src : List Value),
                                      AppPre n (fun (x : Nat) => False) (a_1.m.newBlock b [Value.int IntKind.i64 n_1]) (1 : Nat) (8 : Nat) a_1.a a_1.j a_1.c
                                          (some { block := b, off := (0 : Nat) : Addr }) (1 : Nat) old src ∧
                                        ∀ (a' : Option Addr) (c' : Nat) (m' : M),
                                          AppPost Try.prog (3 : Nat) (a_1.m.newBlock b [Value.int IntKind.i64 n_1]) (1 : Nat) a_1.a a_1.j a_1.c (1 : Nat) old src a' c' m' →
                                            ∃ (a'_1 : OrdX),
                                              ((a'_1.j ≤ l.length ∧
                                                    Own n (fun (x : Nat) => False) a'_1.m (1 : Nat) a'_1.a a'_1.j a'_1.c (ints (List.take a'_1.j l.reverse)) ∧
                                                      Agree n { π := m.π, sz := n, uf := m.uf : M } a'_1.m) ∧
                                                  m' = a'_1.m ∧
                                                    ((SV.val (Value.int IntKind.i64 (IntKind.i64.wrap ((↑l.length : Int) - (1 : Int) - (↑a_1.j : Int) - (1 : Int)))) =
                                                            SV.val (Value.int IntKind.i64 ((↑l.length : Int) - (1 : Int) - (↑a'_1.j : Int))) ∧
                                                          true = true) ∧
                                                        (SV.val (Value.slice a' (a_1.j + (1 : Nat)) c') = SV.val (Value.slice a'_1.a a'_1.j a'_1.c) ∧ true = true) ∧
                                                          (SV.val (Value.slice a l.length c) = SV.val (Value.slice a l.length c) ∧ true = true) ∧
                                                            (SV.val (Value.int IntKind.i64 k) = SV.val (Value.int IntKind.i64 k) ∧ true = true) ∧ True) ∧
                                                      True) ∧
                                                l.length - a'_1.j < l.length - a_1.j)
                (∃ (n : Int),
                  ∃ (n_1 : Int),
                    QSpec Try.prog (26 : Nat) [Value.slice a l.length c] a_1.m (Value.tuple #[Value.int IntKind.i64 n, Value.int IntKind.i64 n_1]) ∧
                      ∃ (n_2 : Int),
                        ∃ (n_3 : Int),
                          QSpec Try.prog (26 : Nat) [Value.slice a_1.a a_1.j a_1.c] a_1.m (Value.tuple #[Value.int IntKind.i64 n_2, Value.int IntKind.i64 n_3]) ∧
                            ∃ (b : Bool),
                              QSpec Try.prog (13 : Nat) [] a_1.m (Value.bool b) ∧
                                ifB (!b) (Done (Value.bool false = Value.bool true))
                                  (ifB (n != n_2) (Done (Value.bool false = Value.bool true))
                                    (ifB (n_1 != n_3) (Done (Value.bool false = Value.bool true))
                                      ((true = true ∧
                                          (0 : Int) ≤ (0 : Int) ∧
                                            ((0 : Int) ≤
                                                if (if (↑l.length : Int) < k then (↑l.length : Int) else k) > (0 : Int) then if (↑l.length : Int) < k then (↑l.length : Int) else k
                                                else (0 : Int)) ∧
                                              (if (if (↑l.length : Int) < k then (↑l.length : Int) else k) > (0 : Int) then if (↑l.length : Int) < k then (↑l.length : Int) else k
                                                  else (0 : Int)) ≤
                                                  (↑c : Int) ∧
                                                True) ∧
                                        ∃ (n_4 : Int),
                                          ∃ (n_5 : Int),
                                            QSpec Try.prog (26 : Nat)
                                                [Value.slice (if (↑c : Int).toNat = (0 : Nat) then a else Option.map (fun (x : Addr) => x) a)
                                                    ((if (if (↑l.length : Int) < k then (↑l.length : Int) else k) > (0 : Int) then if (↑l.length : Int) < k then (↑l.length : Int) else k
                                                        else (0 : Int)).toNat -
                                                      (0 : Nat))
                                                    ((↑c : Int).toNat - (0 : Nat))]
                                                a_1.m (Value.tuple #[Value.int IntKind.i64 n_4, Value.int IntKind.i64 n_5]) ∧
                                              (true = true ∧
                                                  ((0 : Int) ≤
                                                      if (if (↑l.length : Int) < k then (↑l.length : Int) else k) > (0 : Int) then if (↑l.length : Int) < k then (↑l.length : Int) else k
                                                      else (0 : Int)) ∧
                                                    (if (if (↑l.length : Int) < k then (↑l.length : Int) else k) > (0 : Int) then if (↑l.length : Int) < k then (↑l.length : Int) else k
                                                        else (0 : Int)) ≤
                                                        (↑l.length : Int) ∧
                                                      True ∧ True) ∧
                                                ∃ (n_6 : Int),
                                                  ∃ (n_7 : Int),
                                                    QSpec Try.prog (26 : Nat)
                                                        [Value.slice
                                                            (if
                                                                (↑c : Int).toNat =
                                                                  (if (if (↑l.length : Int) < k then (↑l.length : Int) else k) > (0 : Int) then
                                                                      if (↑l.length : Int) < k then (↑l.length : Int) else k
                                                                    else (0 : Int)).toNat then
                                                              a
                                                            else
                                                              Option.map
                                                                (fun (x : Addr) =>
                                                                  x.add
                                                                    ((if (if (↑l.length : Int) < k then (↑l.length : Int) else k) > (0 : Int) then
                                                                          if (↑l.length : Int) < k then (↑l.length : Int) else k
                                                                        else (0 : Int)).toNat *
                                                                      Try.prog.types[(3 : Nat)].size))
                                                                a)
                                                            ((↑l.length : Int).toNat -
                                                              (if (if (↑l.length : Int) < k then (↑l.length : Int) else k) > (0 : Int) then
                                                                  if (↑l.length : Int) < k then (↑l.length : Int) else k
                                                                else (0 : Int)).toNat)
                                                            ((↑c : Int).toNat -
                                                              (if (if (↑l.length : Int) < k then (↑l.length : Int) else k) > (0 : Int) then
                                                                  if (↑l.length : Int) < k then (↑l.length : Int) else k
                                                                else (0 : Int)).toNat)]
                                                        a_1.m (Value.tuple #[Value.int IntKind.i64 n_6, Value.int IntKind.i64 n_7]) ∧
                                                      ifB (n_5 != (0 : Int)) (Done (Value.bool true = Value.bool true))
                                                        (ifB (n_7 != (0 : Int)) (Done (Value.bool true = Value.bool true))
                                                          (∃ (n_8 : Int),
                                                            ∃ (n_9 : Int),
                                                              QSpec Try.prog (12 : Nat) [Value.int IntKind.i64 n_4, Value.int IntKind.i64 n_6] a_1.m
                                                                  (Value.tuple #[Value.int IntKind.i64 n_8, Value.int IntKind.i64 n_9]) ∧
                                                                ifB (n_8 == n) (Done (Value.bool (n_9 == n_1) = Value.bool true)) (Done (Value.bool false = Value.bool true))))))))) (by kernel_rfl) ?_
  have h' := h.sz hn
  refine ⟨rfl, ⟨⟨0, none, 0, { m with sz := n }⟩, ⟨Nat.zero_le _, .nil, Agree.refl _ _⟩, rfl, ⟨⟨?_, rfl⟩, ⟨rfl, rfl⟩, ⟨rfl, rfl⟩, ⟨rfl, rfl⟩, trivial⟩, trivial⟩, fun x ⟨hx1, hx2, hx3⟩ => ifB_intro (fun hb => ?_) (fun hb => ?_)⟩
  · simp [IntKind.wrap_i64]; omega
  · simp only [decide_eq_true_eq, ge_iff_le] at hb
    have hr := h'.agree hx3
    obtain ⟨b, o, rfl, hc⟩ := hr.cells (by rw [ints_len]; omega)
    have hlt : l.length - 1 - x.j < l.length := by omega
    have e1 : ((l.length : Int) - 1 - x.j).toNat = l.length - 1 - x.j := by omega
    rw [e1]
    refine ⟨b, o, rfl, by omega, l[l.length - 1 - x.j], by simpa using ints_at hc hlt, rfl, fun b2 hb2 => ⟨ints (l.reverse.take x.j), [I l[l.length - 1 - x.j]], ?_, fun a' c' m' hp => ⟨⟨x.j + 1, a', c', m'⟩, ⟨⟨by simp only; omega, ?_, ?_⟩, rfl, ⟨⟨?_, rfl⟩, ⟨rfl, rfl⟩, ⟨rfl, rfl⟩, ⟨rfl, rfl⟩, trivial⟩, trivial⟩, by simp only; omega⟩⟩⟩
    · have ho : Own n (fun _ => False) (x.m.newBlock b2 [I l[l.length - 1 - x.j]]) 1 x.a x.j x.c (ints (l.reverse.take x.j)) :=
        hx2.of (by simp only [M.newBlock]; omega) fun b' o' _ hb' => ⟨newBlock_other (by omega), .inr⟩
      exact ho.appPre Row.new rfl rfl ⟨by omega, by omega⟩
    · have ho : Own n (fun _ => False) (x.m.newBlock b2 [I l[l.length - 1 - x.j]]) 1 x.a x.j x.c (ints (l.reverse.take x.j)) :=
        hx2.of (by simp only [M.newBlock]; omega) fun b' o' _ hb' => ⟨newBlock_other (by omega), .inr⟩
      have := ho.append hp rfl (zeroRow_len (z := I 0) rfl rfl rfl) (by simp only [M.newBlock]; have := hx3.2.2; simp only at this; omega)
      rw [List.take_succ_eq_append_getElem (by simp; omega), List.getElem_reverse]
      simpa [ints] using this
    · have ho : Own n (fun _ => False) (x.m.newBlock b2 [I l[l.length - 1 - x.j]]) 1 x.a x.j x.c (ints (l.reverse.take x.j)) :=
        hx2.of (by simp only [M.newBlock]; omega) fun b' o' _ hb' => ⟨newBlock_other (by omega), .inr⟩
      have h3 := hx3.2.2
      simp only at h3
      exact (hx3.trans (newBlock_agreeB (by omega))).trans (hp.agree (by simp only [M.newBlock]; omega) ho)
    · simp [IntKind.wrap_i64]; omega
  · simp only [decide_eq_false_iff_not, ge_iff_le] at hb
    have hj : x.j = l.length := by omega
    have hr := h'.agree hx3
    have hb2 := hx2.row
    rw [hj, ← List.length_reverse, List.take_length] at hb2
    have hS := sum_q a c l hl (by omega) x.m hr
    have hS2 := sum_q x.a x.c l.reverse (fun y hy => hl y (by simpa using hy)) (by simp; omega) x.m hb2
    have er := sumI_reverse l
    rw [er, List.length_reverse, ← hj] at hS2
    refine ⟨_, _, hS, _, _, hS2, _, awake_q _, ifB_false ?_⟩
    simp only [bne_self_eq_false]
    refine ifB_false (ifB_false ?_)
    obtain ⟨K, hK, hKl⟩ : ∃ K : Nat, (if (if (l.length : Int) < k then (l.length : Int) else k) > 0 then (if (l.length : Int) < k then (l.length : Int) else k) else 0) = (K : Int) ∧ K ≤ l.length :=
      ⟨((if (if (l.length : Int) < k then (l.length : Int) else k) > 0 then (if (l.length : Int) < k then (l.length : Int) else k) else 0)).toNat, by split <;> split <;> omega, by split <;> split <;> omega⟩
    rw [hK]
    simp only [Int.toNat_natCast]
    have e0 : l.take K ++ l.drop K = l := List.take_append_drop K l
    have hrk : Row x.m a (ints (l.take K) ++ ints (l.drop K)) := by rw [← List.flatMap_append, e0]; exact hr
    have hlk : (l.take K).length = K := by simp; omega
    have hdk : (l.drop K).length = l.length - K := by simp
    have h1 : Row x.m (if c = 0 then a else a.map fun y => y.add 0) (ints (l.take K)) :=
      Row.sub (cs := []) hrk.take rfl fun e => by
        have : l.take K = [] := by apply List.eq_nil_of_length_eq_zero; omega
        rw [this]; rfl
    have h2 : Row x.m (if c = K then a else a.map fun y => y.add (K * 1)) (ints (l.drop K)) :=
      Row.sub hrk (by rw [ints_len, hlk]; omega) fun e => by
        have : l.drop K = [] := by apply List.eq_nil_of_length_eq_zero; omega
        rw [this]; rfl
    have hS3 := sum_q _ c (l.take K) (fun y hy => hl y (List.mem_of_mem_take hy)) (by omega) x.m h1
    have hS4 := sum_q _ (c - K) (l.drop K) (fun y hy => hl y (List.mem_of_mem_drop hy)) (by omega) x.m h2
    have hsum : sumI l = sumI (l.take K) + sumI (l.drop K) := by rw [← sumI_append, e0]
    rw [hlk] at hS3
    rw [hdk] at hS4
    refine ⟨⟨trivial, by decide, Int.natCast_nonneg _, Int.ofNat_le.2 (by omega), trivial⟩, _, _, hS3, ⟨trivial, Int.natCast_nonneg _, Int.ofNat_le.2 hKl, trivial, trivial⟩, _, _, hS4, ?_⟩
    by_cases i1 : In64 (sumI (l.take K))
    · by_cases i2 : In64 (sumI (l.drop K))
      · rw [if_pos i1, if_pos i1, if_pos i2, if_pos i2]
        refine ifB_false (ifB_false ⟨_, _, add_q _ _ i1 i2 _, ?_⟩)
        simp only [addV, addE, ← hsum]
        simp [ifB, done_iff]
      · rw [if_neg i2, if_neg i2]
        exact ifB_intro (fun _ => ⟨trivial⟩) fun _ => ifB_true ⟨trivial⟩
    · rw [if_neg i1, if_neg i1]
      exact ifB_true ⟨trivial⟩
end Go.Proofs.Ytfagpihpelgmiaa
