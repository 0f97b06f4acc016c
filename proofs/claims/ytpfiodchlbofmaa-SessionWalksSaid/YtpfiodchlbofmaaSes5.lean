/-
  Contracts of functions of this seat: what each hands back, and what it leaves of memory (ses5). Nothing here is trusted: Lean checks it.
-/
import Derived.Test.YtpfiodchlbofmaaSes4
set_option linter.unusedVariables false
set_option linter.unusedSimpArgs false
namespace Go.Proofs.Ytpfiodchlbofmaa
open Go.Vc Go.RowKit
set_option maxRecDepth 100000

theorem ofM_drop {c : Int} : ∀ {l : List Mk} {k : Nat}, k ≤ l.length → (∀ x ∈ l.take k, x.cl ≠ c) → ofM l c = ofM (l.drop k) c
  | l, 0, _, _ => by simp
  | [], k + 1, h, _ => by simp at h
  | x :: xs, k + 1, h, hl => by
    have hx := hl x (by simp)
    have ih := ofM_drop (l := xs) (k := k) (by simpa using h) fun y hy => hl y (by simp [hy])
    simp only [ofM, List.drop_succ_cons, if_neg hx, ih]

theorem rright_q (a : Option Addr) (cp : Nat) (l : List Mk) (hn : l.length ≤ 9223372036854775807) (m : M) (h : Row m a (mks l)) : QSpec Try.prog 16 [.slice a l.length cp] m (.bool (tabB 0 l)) := by
  refine QSpec.of_vc Try.func16 (ann := fun n _ => { A := Nat × Int, inv := fun y => y.1 ≤ l.length ∧ tabB 0 l = tabB y.2 (l.drop y.1) ∧ 0 ≤ y.2, st := fun y => [(4, .val (I y.1)), (0, .val (.slice a l.length cp)), (3, .val (I y.2))], own := fun _ => [], m := fun _ => { m with sz := n }, μ := fun y => l.length - y.1 }) fun n hn' => ?_
  refine vc_by (X :=
      true = true ∧
      (∃ (a_1 : Nat × Int),
      (a_1.fst ≤ l.length ∧ tabB (0 : Int) l = tabB a_1.snd (List.drop a_1.fst l) ∧ (0 : Int) ≤ a_1.snd) ∧
      { π := m.π, sz := n, uf := m.uf : M } = { π := m.π, sz := n, uf := m.uf : M } ∧
      ((SV.val (Value.int IntKind.i64 (0 : Int)) = SV.val (Value.int IntKind.i64 (↑a_1.fst : Int)) ∧ true = true) ∧
      (SV.val (Value.slice a l.length cp) = SV.val (Value.slice a l.length cp) ∧ true = true) ∧
      (SV.val (Value.int IntKind.i64 (0 : Int)) = SV.val (Value.int IntKind.i64 a_1.snd) ∧ true = true) ∧ True) ∧
      True) ∧
      ∀ (a_1 : Nat × Int),
      a_1.fst ≤ l.length ∧ tabB (0 : Int) l = tabB a_1.snd (List.drop a_1.fst l) ∧ (0 : Int) ≤ a_1.snd →
      ifB (decide ((↑a_1.fst : Int) < (↑l.length : Int)))
      (∃ (b : Nat),
      ∃ (off : Nat),
      a = some { block := b, off := off : Addr } ∧
      ((0 : Int) ≤ (↑a_1.fst : Int) ∧ (↑a_1.fst : Int) < (↑l.length : Int)) ∧
      ∃ (n_1 : Int),
      ∃ (n_2 : Int),
      ∃ (b_1 : Bool),
      ∃ (n_3 : Int),
      ∃ (n_4 : Int),
      ∃ (n_5 : Int),
      ∃ (n_6 : Int),
      CellsAt { π := m.π, sz := n, uf := m.uf : M } b (off + (↑a_1.fst : Int).toNat * (7 : Nat))
      [Value.int IntKind.i64 n_1, Value.int IntKind.i64 n_2, Value.bool b_1, Value.int IntKind.i64 n_3, Value.int IntKind.i64 n_4,
      Value.int IntKind.i64 n_5, Value.int IntKind.i64 n_6] ∧
      ifB (decide (n_1 ≤ a_1.snd)) (Done (Value.bool false = Value.bool (tabB (0 : Int) l)))
      (ifB (decide (n_1 > (8 : Int))) (Done (Value.bool false = Value.bool (tabB (0 : Int) l)))
      (ifB (decide (n_2 < (0 : Int))) (Done (Value.bool false = Value.bool (tabB (0 : Int) l)))
      (ifB (decide (n_2 > (4611686018427387904 : Int))) (Done (Value.bool false = Value.bool (tabB (0 : Int) l)))
      (ifB b_1
      (ifB (decide (n_2 < (1 : Int))) (Done (Value.bool false = Value.bool (tabB (0 : Int) l)))
      (ifB (!(n_3 == (0 : Int) && (n_4 == (0 : Int) && (n_5 == (0 : Int) && (n_6 == (0 : Int) && true)))))
      (Done (Value.bool false = Value.bool (tabB (0 : Int) l)))
      (∃ (a' : Nat × Int),
      ((a'.fst ≤ l.length ∧ tabB (0 : Int) l = tabB a'.snd (List.drop a'.fst l) ∧ (0 : Int) ≤ a'.snd) ∧
      { π := m.π, sz := n, uf := m.uf : M } = { π := m.π, sz := n, uf := m.uf : M } ∧
      ((SV.val (Value.int IntKind.i64 (IntKind.i64.wrap ((↑a_1.fst : Int) + (1 : Int)))) =
      SV.val (Value.int IntKind.i64 (↑a'.fst : Int)) ∧
      true = true) ∧
      (SV.val (Value.slice a l.length cp) = SV.val (Value.slice a l.length cp) ∧ true = true) ∧
      (SV.val (Value.int IntKind.i64 n_1) = SV.val (Value.int IntKind.i64 a'.snd) ∧ true = true) ∧ True) ∧
      True) ∧
      l.length - a'.fst < l.length - a_1.fst)))
      (∃ (a' : Nat × Int),
      ((a'.fst ≤ l.length ∧ tabB (0 : Int) l = tabB a'.snd (List.drop a'.fst l) ∧ (0 : Int) ≤ a'.snd) ∧
      { π := m.π, sz := n, uf := m.uf : M } = { π := m.π, sz := n, uf := m.uf : M } ∧
      ((SV.val (Value.int IntKind.i64 (IntKind.i64.wrap ((↑a_1.fst : Int) + (1 : Int)))) =
      SV.val (Value.int IntKind.i64 (↑a'.fst : Int)) ∧
      true = true) ∧
      (SV.val (Value.slice a l.length cp) = SV.val (Value.slice a l.length cp) ∧ true = true) ∧
      (SV.val (Value.int IntKind.i64 n_1) = SV.val (Value.int IntKind.i64 a'.snd) ∧ true = true) ∧ True) ∧
      True) ∧
      l.length - a'.fst < l.length - a_1.fst))))))
      (Done (Value.bool true = Value.bool (tabB (0 : Int) l)))) (by kernel_rfl) ?_
  have h' := h.sz hn'
  refine ⟨rfl, ⟨⟨0, 0⟩, by simp⟩, fun y ⟨hk, hq, hz⟩ => ifB_intro (fun hb => ?_) (fun hb => ⟨?_⟩)⟩
  · have hk2 : y.1 < l.length := by simpa using hb
    obtain ⟨b, o, rfl, hc⟩ := h'.cells (by rw [mk_len]; omega)
    have w1 : IntKind.i64.wrap ((y.1 : Int) + 1) = ((y.1 + 1 : Nat) : Int) := by simp [IntKind.wrap_i64]; omega
    rw [List.drop_eq_getElem_cons hk2, tabB] at hq
    have bad : (decide (y.2 < l[y.1].cl) && mkB l[y.1]) = false → Done (Value.bool false = Value.bool (tabB 0 l)) := fun e => by
      rw [e, Bool.false_and] at hq
      exact ⟨by simp [hq]⟩
    have nx : ∀ (_ : (decide (y.2 < l[y.1].cl) && mkB l[y.1]) = true), (y.1 + 1 ≤ l.length ∧ tabB 0 l = tabB l[y.1].cl (l.drop (y.1 + 1)) ∧ 0 ≤ l[y.1].cl) := fun e => by
      rw [e, Bool.true_and] at hq
      simp only [Bool.and_eq_true, decide_eq_true_eq] at e
      exact ⟨hk2, hq, by omega⟩
    refine ⟨b, o, rfl, by omega, _, _, _, _, _, _, _, by simpa using mk_at hc hk2, ifB_intro (fun h1 => bad ?_) (fun h1 => ifB_intro (fun h2 => bad ?_) (fun h2 => ifB_intro (fun h3 => bad ?_) (fun h3 => ifB_intro (fun h4 => bad ?_) (fun h4 => ifB_intro (fun h5 => ifB_intro (fun h6 => bad ?_) (fun h6 => ifB_intro (fun h7 => bad ?_) (fun h7 => ⟨⟨y.1 + 1, l[y.1].cl⟩, ⟨nx ?_, rfl, by simp [w1]⟩, by simp only; omega⟩))) (fun h5 => ⟨⟨y.1 + 1, l[y.1].cl⟩, ⟨nx ?_, rfl, by simp [w1]⟩, by simp only; omega⟩)))))⟩
    · simp at h1; simp; intro h; omega
    · simp at h2; simp [mkB]; omega
    · simp at h3; simp [mkB]; omega
    · simp at h4; simp [mkB]; omega
    · simp at h6; simp [mkB, h5]; omega
    · have e : ans0B l[y.1] = false := by
        simp only [Bool.not_eq_true', Bool.beq_eq_decide_eq, Bool.and_true] at h7
        simpa [ans0B, Bool.and_assoc] using h7
      simp [mkB, h5, e]
    · simp at h1 h2 h3 h4 h6
      have e : ans0B l[y.1] = true := by
        simp at h7
        simp [ans0B, h7]
      simp [mkB, h5, e]; omega
    · simp at h1 h2 h3 h4; simp [mkB, h5]; omega
  · have : y.1 = l.length := by simp at hb; omega
    rw [this] at hq
    simp [hq, tabB]

theorem rfind_q (a : Option Addr) (cp : Nat) (l : List Mk) (c : Int) (hn : l.length ≤ 9223372036854775807) (m : M) (h : Row m a (mks l)) : QSpec Try.prog 21 [.slice a l.length cp, I c] m (.tuple #[mkv ((findO l c).getD m0), .bool (findO l c).isSome]) := by
  refine QSpec.of_vc Try.func21 (ann := fun n _ => { A := Nat, inv := fun k => k ≤ l.length ∧ ∀ x ∈ l.take k, x.cl ≠ c, st := fun k => [(6, .val (I k)), (0, .val (.slice a l.length cp)), (1, .val (I c)), (4, .own 0 0)], own := fun _ => [(0, ⟨32, encMk m0⟩)], m := fun _ => { m with sz := n }, μ := fun k => l.length - k }) fun n hn' => ?_
  refine vc_by (X :=
      true = true ∧
      (∃ (a_1 : Nat),
      (a_1 ≤ l.length ∧ ∀ (x : Mk), x ∈ List.take a_1 l → x.cl ≠ c) ∧
      { π := m.π, sz := n, uf := m.uf : M } = { π := m.π, sz := n, uf := m.uf : M } ∧
      ((SV.val (Value.int IntKind.i64 (0 : Int)) = SV.val (Value.int IntKind.i64 (↑a_1 : Int)) ∧ true = true) ∧
      (SV.val (Value.slice a l.length cp) = SV.val (Value.slice a l.length cp) ∧ true = true) ∧
      (SV.val (Value.int IntKind.i64 c) = SV.val (Value.int IntKind.i64 c) ∧ true = true) ∧
      (SV.own ((0 : Nat) + (0 : Nat)) (0 : Nat) = SV.own (0 : Nat) (0 : Nat) ∧ true = true) ∧ True) ∧
      (some
      { ty := (32 : Nat), cs := [Value.int IntKind.i64 (0 : Int), Value.int IntKind.i64 (0 : Int), Value.bool false, Value.int IntKind.i64 (0 : Int), Value.int IntKind.i64 (0 : Int), Value.int IntKind.i64 (0 : Int), Value.int IntKind.i64 (0 : Int)] : Bx } =
      some
      { ty := (32 : TypeId), cs := [Value.int IntKind.i64 (0 : Int), Value.int IntKind.i64 (0 : Int), Value.bool false, Value.int IntKind.i64 (0 : Int), Value.int IntKind.i64 (0 : Int), Value.int IntKind.i64 (0 : Int), Value.int IntKind.i64 (0 : Int)] : Bx } ∧
      true = true) ∧
      True) ∧
      ∀ (a_1 : Nat),
      (a_1 ≤ l.length ∧ ∀ (x : Mk), x ∈ List.take a_1 l → x.cl ≠ c) →
      ∃ (b : Bool),
      QSpec Try.prog (16 : Nat) [Value.slice a l.length cp] { π := m.π, sz := n, uf := m.uf : M } (Value.bool b) ∧
      ifB b
      (ifB (decide ((↑a_1 : Int) < (↑l.length : Int)))
      (∃ (b : Nat),
      ∃ (off : Nat),
      a = some { block := b, off := off : Addr } ∧
      ((0 : Int) ≤ (↑a_1 : Int) ∧ (↑a_1 : Int) < (↑l.length : Int)) ∧
      ∃ (n_1 : Int),
      CellsAt { π := m.π, sz := n, uf := m.uf : M } b (off + (↑a_1 : Int).toNat * (7 : Nat) + (0 : Nat)) [Value.int IntKind.i64 n_1] ∧
      ifB (n_1 == c)
      (∃ (b : Nat),
      ∃ (off : Nat),
      a = some { block := b, off := off : Addr } ∧
      ((0 : Int) ≤ (↑a_1 : Int) ∧ (↑a_1 : Int) < (↑l.length : Int)) ∧
      ∃ (n_2 : Int),
      ∃ (n_3 : Int),
      ∃ (b_1 : Bool),
      ∃ (n_4 : Int),
      ∃ (n_5 : Int),
      ∃ (n_6 : Int),
      ∃ (n_7 : Int),
      CellsAt { π := m.π, sz := n, uf := m.uf : M } b (off + (↑a_1 : Int).toNat * (7 : Nat))
      [Value.int IntKind.i64 n_2, Value.int IntKind.i64 n_3, Value.bool b_1, Value.int IntKind.i64 n_4, Value.int IntKind.i64 n_5,
      Value.int IntKind.i64 n_6, Value.int IntKind.i64 n_7] ∧
      Done
      (Value.tuple
      #[Value.agg
      #[Value.int IntKind.i64 n_2, Value.int IntKind.i64 n_3, Value.bool b_1, Value.int IntKind.i64 n_4,
      Value.int IntKind.i64 n_5, Value.int IntKind.i64 n_6, Value.int IntKind.i64 n_7],
      Value.bool true] =
      Value.tuple
      #[Value.agg
      #[Value.int IntKind.i64 ((findO l c).getD m0).cl, Value.int IntKind.i64 ((findO l c).getD m0).sq,
      Value.bool ((findO l c).getD m0).op, Value.int IntKind.i64 ((findO l c).getD m0).an_er,
      Value.int IntKind.i64 ((findO l c).getD m0).an_va, Value.int IntKind.i64 ((findO l c).getD m0).an_le,
      Value.int IntKind.i64 ((findO l c).getD m0).an_mo],
      Value.bool (findO l c).isSome]))
      (∃ (a' : Nat),
      ((a' ≤ l.length ∧ ∀ (x : Mk), x ∈ List.take a' l → x.cl ≠ c) ∧
      { π := m.π, sz := n, uf := m.uf : M } = { π := m.π, sz := n, uf := m.uf : M } ∧
      ((SV.val (Value.int IntKind.i64 (IntKind.i64.wrap ((↑a_1 : Int) + (1 : Int)))) = SV.val (Value.int IntKind.i64 (↑a' : Int)) ∧ true = true) ∧
      (SV.val (Value.slice a l.length cp) = SV.val (Value.slice a l.length cp) ∧ true = true) ∧
      (SV.val (Value.int IntKind.i64 c) = SV.val (Value.int IntKind.i64 c) ∧ true = true) ∧
      (SV.own (0 : Nat) (0 : Nat) = SV.own (0 : Nat) (0 : Nat) ∧ true = true) ∧ True) ∧
      (some
      { ty := (32 : TypeId), cs := [Value.int IntKind.i64 (0 : Int), Value.int IntKind.i64 (0 : Int), Value.bool false, Value.int IntKind.i64 (0 : Int), Value.int IntKind.i64 (0 : Int), Value.int IntKind.i64 (0 : Int), Value.int IntKind.i64 (0 : Int)] : Bx } =
      some
      { ty := (32 : TypeId), cs := [Value.int IntKind.i64 (0 : Int), Value.int IntKind.i64 (0 : Int), Value.bool false, Value.int IntKind.i64 (0 : Int), Value.int IntKind.i64 (0 : Int), Value.int IntKind.i64 (0 : Int), Value.int IntKind.i64 (0 : Int)] : Bx } ∧
      true = true) ∧
      True) ∧
      l.length - a' < l.length - a_1))
      (Done
      (Value.tuple
      #[Value.agg
      #[Value.int IntKind.i64 (0 : Int), Value.int IntKind.i64 (0 : Int), Value.bool false, Value.int IntKind.i64 (0 : Int), Value.int IntKind.i64 (0 : Int),
      Value.int IntKind.i64 (0 : Int), Value.int IntKind.i64 (0 : Int)],
      Value.bool false] =
      Value.tuple
      #[Value.agg
      #[Value.int IntKind.i64 ((findO l c).getD m0).cl, Value.int IntKind.i64 ((findO l c).getD m0).sq, Value.bool ((findO l c).getD m0).op,
      Value.int IntKind.i64 ((findO l c).getD m0).an_er, Value.int IntKind.i64 ((findO l c).getD m0).an_va, Value.int IntKind.i64 ((findO l c).getD m0).an_le,
      Value.int IntKind.i64 ((findO l c).getD m0).an_mo],
      Value.bool (findO l c).isSome])))
      (Done
      (Value.tuple
      #[Value.agg
      #[Value.int IntKind.i64 (0 : Int), Value.int IntKind.i64 (0 : Int), Value.bool false, Value.int IntKind.i64 (0 : Int), Value.int IntKind.i64 (0 : Int),
      Value.int IntKind.i64 (0 : Int), Value.int IntKind.i64 (0 : Int)],
      Value.bool false] =
      Value.tuple
      #[Value.agg
      #[Value.int IntKind.i64 ((findO l c).getD m0).cl, Value.int IntKind.i64 ((findO l c).getD m0).sq, Value.bool ((findO l c).getD m0).op,
      Value.int IntKind.i64 ((findO l c).getD m0).an_er, Value.int IntKind.i64 ((findO l c).getD m0).an_va, Value.int IntKind.i64 ((findO l c).getD m0).an_le,
      Value.int IntKind.i64 ((findO l c).getD m0).an_mo],
      Value.bool (findO l c).isSome]))) (by kernel_rfl) ?_
  have h' := h.sz hn'
  refine ⟨rfl, ⟨0, by simp⟩, fun k ⟨hk, hq⟩ => ⟨_, rright_q a cp l hn _ h', ?_⟩⟩
  cases ht : tabB 0 l
  · exact ifB_false ⟨by simp [findO, ht, m0]⟩
  have hf : findO l c = ofM l c := by simp [findO, ht]
  rw [hf]
  have hd := ofM_drop hk hq
  refine ifB_true (ifB_intro (fun hb => ?_) (fun hb => ⟨?_⟩))
  · have hk2 : k < l.length := by simpa using hb
    obtain ⟨b, o, rfl, hc⟩ := h'.cells (by rw [mk_len]; omega)
    have w1 : IntKind.i64.wrap ((k : Int) + 1) = ((k + 1 : Nat) : Int) := by simp [IntKind.wrap_i64]; omega
    have c0 := CellsAt.field mk_k hc hk2 (p := []) (old := [I l[k].cl]) (q := [I l[k].sq, .bool l[k].op, I l[k].an_er, I l[k].an_va, I l[k].an_le, I l[k].an_mo]) rfl
    rw [List.drop_eq_getElem_cons hk2, ofM] at hd
    refine ⟨b, o, rfl, by omega, _, by simpa using c0, ifB_intro (fun h1 => ⟨b, o, rfl, by omega, _, _, _, _, _, _, _, by simpa using mk_at hc hk2, ⟨?_⟩⟩) (fun h1 => ⟨k + 1, ⟨⟨hk2, fun x hx => ?_⟩, by simp [w1]⟩, by omega⟩)⟩
    · have h1 : l[k].cl = c := by simpa using h1
      rw [if_pos h1] at hd
      rw [hd]
      simp
    · rw [List.take_succ_eq_append_getElem hk2, List.mem_append] at hx
      rcases hx with hx | hx
      · exact hq x hx
      · have hx : x = l[k] := by simpa using hx
        subst hx
        simpa using h1
  · have : k = l.length := by simp at hb; omega
    subst this
    simp [ofM] at hd
    rw [hd]
    simp [m0]

theorem rwith_s (a : Option Addr) (cp : Nat) (l : List Mk) (x : Mk) (ht : tabB 0 l = true) (hx : mkB x = true) (hc : 0 < x.cl) (m : M) (h : Row m a (mks l)) : Vc.Spec Try.prog 34 [.slice a l.length cp, mkv x] m (SlR (insM l x)) := by
  refine Vc.Spec.of_vc Try.func34 (ann := fun _ => { A := JoX, inv := fun y => y.k ≤ 8 ∧ NewR m.sz (fun _ => False) y.m 7 y.a (listM (withF l x) y.k 1).length y.c (mks (listM (withF l x) y.k 1)) ∧ Agree m.sz m y.m, st := fun y => [(6, .val (I ((y.k + 1 : Nat) : Int))), (0, .val (.slice a l.length cp)), (3, .own 0 0), (5, .val (.slice y.a (listM (withF l x) y.k 1).length y.c))], own := fun _ => [(0, ⟨32, encMk x⟩)], m := fun y => y.m, μ := fun y => 8 - y.k }) ?_
  refine vc_by (X :=
      true = true ∧
      (∃ (a_1 : JoX),
      (a_1.k ≤ (8 : Nat) ∧
      NewR m.sz (fun (x : Nat) => False) a_1.m (7 : Nat) a_1.a (listM (withF l x) a_1.k (1 : Int)).length a_1.c (mks (listM (withF l x) a_1.k (1 : Int))) ∧
      Agree m.sz m a_1.m) ∧
      m = a_1.m ∧
      ((SV.val (Value.int IntKind.i64 (1 : Int)) = SV.val (Value.int IntKind.i64 (↑(a_1.k + (1 : Nat)) : Int)) ∧ true = true) ∧
      (SV.val (Value.slice a l.length cp) = SV.val (Value.slice a l.length cp) ∧ true = true) ∧
      (SV.own ((0 : Nat) + (0 : Nat)) (0 : Nat) = SV.own (0 : Nat) (0 : Nat) ∧ true = true) ∧
      (SV.val (Value.slice none (0 : Nat) (0 : Nat)) = SV.val (Value.slice a_1.a (listM (withF l x) a_1.k (1 : Int)).length a_1.c) ∧ true = true) ∧ True) ∧
      (some
      { ty := (32 : Nat), cs := [Value.int IntKind.i64 x.cl, Value.int IntKind.i64 x.sq, Value.bool x.op, Value.int IntKind.i64 x.an_er, Value.int IntKind.i64 x.an_va, Value.int IntKind.i64 x.an_le, Value.int IntKind.i64 x.an_mo] : Bx } =
      some
      { ty := (32 : TypeId), cs := [Value.int IntKind.i64 x.cl, Value.int IntKind.i64 x.sq, Value.bool x.op, Value.int IntKind.i64 x.an_er, Value.int IntKind.i64 x.an_va, Value.int IntKind.i64 x.an_le, Value.int IntKind.i64 x.an_mo] : Bx } ∧
      true = true) ∧
      True) ∧
      ∀ (a_1 : JoX),
      a_1.k ≤ (8 : Nat) ∧
      NewR m.sz (fun (x : Nat) => False) a_1.m (7 : Nat) a_1.a (listM (withF l x) a_1.k (1 : Int)).length a_1.c (mks (listM (withF l x) a_1.k (1 : Int))) ∧ Agree m.sz m a_1.m →
      ifB (decide ((↑(a_1.k + (1 : Nat)) : Int) ≤ (8 : Int)))
      (∃ (n : Int),
      ∃ (n_1 : Int),
      ∃ (b : Bool),
      ∃ (n_2 : Int),
      ∃ (n_3 : Int),
      ∃ (n_4 : Int),
      ∃ (n_5 : Int),
      ∃ (b_1 : Bool),
      QSpec Try.prog (21 : Nat) [Value.slice a l.length cp, Value.int IntKind.i64 (↑(a_1.k + (1 : Nat)) : Int)] a_1.m
      (Value.tuple
      #[Value.agg
      #[Value.int IntKind.i64 n, Value.int IntKind.i64 n_1, Value.bool b, Value.int IntKind.i64 n_2, Value.int IntKind.i64 n_3,
      Value.int IntKind.i64 n_4, Value.int IntKind.i64 n_5],
      Value.bool b_1]) ∧
      ifB ((↑(a_1.k + (1 : Nat)) : Int) == x.cl)
      (true = true ∧
      ∀ (b : Nat),
      a_1.m.sz ≤ b →
      ∃ (old : List Value),
      ∃ (src : List Value),
      AppPre m.sz (fun (x : Nat) => False)
      (a_1.m.newBlock b
      [Value.int IntKind.i64 x.cl, Value.int IntKind.i64 x.sq, Value.bool x.op, Value.int IntKind.i64 x.an_er,
      Value.int IntKind.i64 x.an_va, Value.int IntKind.i64 x.an_le, Value.int IntKind.i64 x.an_mo])
      (7 : Nat) (56 : Nat) a_1.a (listM (withF l x) a_1.k (1 : Int)).length a_1.c (some { block := b, off := (0 : Nat) : Addr }) (1 : Nat) old
      src ∧
      ∀ (a' : Option Addr) (c' : Nat) (m' : M),
      AppPost Try.prog (32 : Nat)
      (a_1.m.newBlock b
      [Value.int IntKind.i64 x.cl, Value.int IntKind.i64 x.sq, Value.bool x.op, Value.int IntKind.i64 x.an_er,
      Value.int IntKind.i64 x.an_va, Value.int IntKind.i64 x.an_le, Value.int IntKind.i64 x.an_mo])
      (7 : Nat) a_1.a (listM (withF l x) a_1.k (1 : Int)).length a_1.c (1 : Nat) old src a' c' m' →
      ∃ (a'_1 : JoX),
      ((a'_1.k ≤ (8 : Nat) ∧
      NewR m.sz (fun (x : Nat) => False) a'_1.m (7 : Nat) a'_1.a (listM (withF l x) a'_1.k (1 : Int)).length a'_1.c
      (mks (listM (withF l x) a'_1.k (1 : Int))) ∧
      Agree m.sz m a'_1.m) ∧
      m' = a'_1.m ∧
      ((SV.val (Value.int IntKind.i64 (IntKind.i64.wrap ((↑(a_1.k + (1 : Nat)) : Int) + (1 : Int)))) =
      SV.val (Value.int IntKind.i64 (↑(a'_1.k + (1 : Nat)) : Int)) ∧
      true = true) ∧
      (SV.val (Value.slice a l.length cp) = SV.val (Value.slice a l.length cp) ∧ true = true) ∧
      (SV.own (0 : Nat) (0 : Nat) = SV.own (0 : Nat) (0 : Nat) ∧ true = true) ∧
      (SV.val (Value.slice a' ((listM (withF l x) a_1.k (1 : Int)).length + (1 : Nat)) c') =
      SV.val (Value.slice a'_1.a (listM (withF l x) a'_1.k (1 : Int)).length a'_1.c) ∧
      true = true) ∧
      True) ∧
      (some
      { ty := (32 : TypeId), cs := [Value.int IntKind.i64 x.cl, Value.int IntKind.i64 x.sq, Value.bool x.op, Value.int IntKind.i64 x.an_er, Value.int IntKind.i64 x.an_va, Value.int IntKind.i64 x.an_le, Value.int IntKind.i64 x.an_mo] : Bx } =
      some
      { ty := (32 : TypeId), cs := [Value.int IntKind.i64 x.cl, Value.int IntKind.i64 x.sq, Value.bool x.op, Value.int IntKind.i64 x.an_er, Value.int IntKind.i64 x.an_va, Value.int IntKind.i64 x.an_le, Value.int IntKind.i64 x.an_mo] : Bx } ∧
      true = true) ∧
      True) ∧
      (8 : Nat) - a'_1.k < (8 : Nat) - a_1.k)
      (ifB b_1
      (true = true ∧
      ∀ (b_2 : Nat),
      a_1.m.sz ≤ b_2 →
      ∃ (old : List Value),
      ∃ (src : List Value),
      AppPre m.sz (fun (x : Nat) => False)
      (a_1.m.newBlock b_2
      [Value.int IntKind.i64 n, Value.int IntKind.i64 n_1, Value.bool b, Value.int IntKind.i64 n_2, Value.int IntKind.i64 n_3,
      Value.int IntKind.i64 n_4, Value.int IntKind.i64 n_5])
      (7 : Nat) (56 : Nat) a_1.a (listM (withF l x) a_1.k (1 : Int)).length a_1.c (some { block := b_2, off := (0 : Nat) : Addr }) (1 : Nat)
      old src ∧
      ∀ (a' : Option Addr) (c' : Nat) (m' : M),
      AppPost Try.prog (32 : Nat)
      (a_1.m.newBlock b_2
      [Value.int IntKind.i64 n, Value.int IntKind.i64 n_1, Value.bool b, Value.int IntKind.i64 n_2, Value.int IntKind.i64 n_3,
      Value.int IntKind.i64 n_4, Value.int IntKind.i64 n_5])
      (7 : Nat) a_1.a (listM (withF l x) a_1.k (1 : Int)).length a_1.c (1 : Nat) old src a' c' m' →
      ∃ (a'_1 : JoX),
      ((a'_1.k ≤ (8 : Nat) ∧
      NewR m.sz (fun (x : Nat) => False) a'_1.m (7 : Nat) a'_1.a (listM (withF l x) a'_1.k (1 : Int)).length a'_1.c
      (mks (listM (withF l x) a'_1.k (1 : Int))) ∧
      Agree m.sz m a'_1.m) ∧
      m' = a'_1.m ∧
      ((SV.val (Value.int IntKind.i64 (IntKind.i64.wrap ((↑(a_1.k + (1 : Nat)) : Int) + (1 : Int)))) =
      SV.val (Value.int IntKind.i64 (↑(a'_1.k + (1 : Nat)) : Int)) ∧
      true = true) ∧
      (SV.val (Value.slice a l.length cp) = SV.val (Value.slice a l.length cp) ∧ true = true) ∧
      (SV.own (0 : Nat) (0 : Nat) = SV.own (0 : Nat) (0 : Nat) ∧ true = true) ∧
      (SV.val (Value.slice a' ((listM (withF l x) a_1.k (1 : Int)).length + (1 : Nat)) c') =
      SV.val (Value.slice a'_1.a (listM (withF l x) a'_1.k (1 : Int)).length a'_1.c) ∧
      true = true) ∧
      True) ∧
      (some
      { ty := (32 : TypeId), cs := [Value.int IntKind.i64 x.cl, Value.int IntKind.i64 x.sq, Value.bool x.op, Value.int IntKind.i64 x.an_er, Value.int IntKind.i64 x.an_va, Value.int IntKind.i64 x.an_le, Value.int IntKind.i64 x.an_mo] : Bx } =
      some
      { ty := (32 : TypeId), cs := [Value.int IntKind.i64 x.cl, Value.int IntKind.i64 x.sq, Value.bool x.op, Value.int IntKind.i64 x.an_er, Value.int IntKind.i64 x.an_va, Value.int IntKind.i64 x.an_le, Value.int IntKind.i64 x.an_mo] : Bx } ∧
      true = true) ∧
      True) ∧
      (8 : Nat) - a'_1.k < (8 : Nat) - a_1.k)
      (∃ (a' : JoX),
      ((a'.k ≤ (8 : Nat) ∧
      NewR m.sz (fun (x : Nat) => False) a'.m (7 : Nat) a'.a (listM (withF l x) a'.k (1 : Int)).length a'.c
      (mks (listM (withF l x) a'.k (1 : Int))) ∧
      Agree m.sz m a'.m) ∧
      a_1.m = a'.m ∧
      ((SV.val (Value.int IntKind.i64 (IntKind.i64.wrap ((↑(a_1.k + (1 : Nat)) : Int) + (1 : Int)))) =
      SV.val (Value.int IntKind.i64 (↑(a'.k + (1 : Nat)) : Int)) ∧
      true = true) ∧
      (SV.val (Value.slice a l.length cp) = SV.val (Value.slice a l.length cp) ∧ true = true) ∧
      (SV.own (0 : Nat) (0 : Nat) = SV.own (0 : Nat) (0 : Nat) ∧ true = true) ∧
      (SV.val (Value.slice a_1.a (listM (withF l x) a_1.k (1 : Int)).length a_1.c) =
      SV.val (Value.slice a'.a (listM (withF l x) a'.k (1 : Int)).length a'.c) ∧
      true = true) ∧
      True) ∧
      (some
      { ty := (32 : TypeId), cs := [Value.int IntKind.i64 x.cl, Value.int IntKind.i64 x.sq, Value.bool x.op, Value.int IntKind.i64 x.an_er, Value.int IntKind.i64 x.an_va, Value.int IntKind.i64 x.an_le, Value.int IntKind.i64 x.an_mo] : Bx } =
      some
      { ty := (32 : TypeId), cs := [Value.int IntKind.i64 x.cl, Value.int IntKind.i64 x.sq, Value.bool x.op, Value.int IntKind.i64 x.an_er, Value.int IntKind.i64 x.an_va, Value.int IntKind.i64 x.an_le, Value.int IntKind.i64 x.an_mo] : Bx } ∧
      true = true) ∧
      True) ∧
      (8 : Nat) - a'.k < (8 : Nat) - a_1.k)))
      (Done (SlR (insM l x) (Value.slice a_1.a (listM (withF l x) a_1.k (1 : Int)).length a_1.c) a_1.m))) (by kernel_rfl) ?_
  have h8 := tab8 ht
  refine ⟨rfl, ⟨⟨0, none, 0, m⟩, ⟨Nat.zero_le _, .nil _, Agree.refl _ _⟩, rfl, by simp [listM]⟩, fun y ⟨hk, Y, A⟩ => ifB_intro (fun h3 => ?_) (fun h3 => ?_)⟩
  · have hk2 : y.k < 8 := by simp at h3; omega
    have w1 : IntKind.i64.wrap (((y.k + 1 : Nat) : Int) + 1) = ((y.k + 1 + 1 : Nat) : Int) := by simp [IntKind.wrap_i64]; omega
    have hs := listM_succ (withF l x) y.k 1
    have hle := listM_len (withF l x) y.k 1
    have ek : (1 : Int) + (y.k : Int) = ((y.k + 1 : Nat) : Int) := by omega
    rw [ek] at hs
    have hf : findO l ((y.k + 1 : Nat) : Int) = ofM l ((y.k + 1 : Nat) : Int) := by simp [findO, ht]
    have push : ∀ (z : Mk) (b3 : Nat) (hb3 : y.m.sz ≤ b3) (hz : withF l x ((y.k + 1 : Nat) : Int) = some z), ∃ old src, AppPre m.sz (fun _ => False) (y.m.newBlock b3 (encMk z)) 7 56 y.a (listM (withF l x) y.k 1).length y.c (some ⟨b3, 0, none⟩) 1 old src ∧
        ∀ (a' : Option Addr) (c' : Nat) (m' : M), AppPost Try.prog 32 (y.m.newBlock b3 (encMk z)) 7 y.a (listM (withF l x) y.k 1).length y.c 1 old src a' c' m' →
          NewR m.sz (fun _ => False) m' 7 a' (listM (withF l x) (y.k + 1) 1).length c' (mks (listM (withF l x) (y.k + 1) 1)) ∧ Agree m.sz m m' ∧ (listM (withF l x) (y.k + 1) 1).length = (listM (withF l x) y.k 1).length + 1 := fun z b3 hb3 hz => by
      rw [hz] at hs
      obtain ⟨p1, p2⟩ := NewR.push (P := Try.prog) (e := 32) (bytes := 56) (src := encMk z) Y hb3 A.2.2 rfl rfl (by omega) mk_zr
      refine ⟨_, _, p1, fun a' c' m' hp => ?_⟩
      obtain ⟨g1, g2⟩ := p2 a' c' m' hp
      have e2 : mks (listM (withF l x) (y.k + 1) 1) = mks (listM (withF l x) y.k 1) ++ encMk z := by rw [hs]; simp [mks]
      have e3 : (listM (withF l x) (y.k + 1) 1).length = (listM (withF l x) y.k 1).length + 1 := by rw [hs]; simp
      exact ⟨by rw [e2, e3]; exact g1, A.trans g2, e3⟩
    refine ⟨_, _, _, _, _, _, _, _, rfind_q a cp l _ (by omega) _ (h.agree A), ?_⟩
    rw [hf]
    refine ifB_intro (fun h4 => ?_) (fun h4 => ?_)
    · have h4 : x.cl = ((y.k + 1 : Nat) : Int) := by have : ((y.k + 1 : Nat) : Int) = x.cl := by simpa using h4
                                                     exact this.symm
      refine ⟨rfl, fun b3 hb3 => ?_⟩
      obtain ⟨old, src, p1, p2⟩ := push x b3 hb3 (by simp [withF, h4])
      refine ⟨old, src, p1, fun a' c' m' hp => ?_⟩
      obtain ⟨g1, g2, g3⟩ := p2 a' c' m' hp
      exact ⟨⟨y.k + 1, a', c', m'⟩, ⟨⟨hk2, g1, g2⟩, rfl, by rw [w1]; simp [g3]⟩, by simp only; omega⟩
    · have h4 : ¬ x.cl = ((y.k + 1 : Nat) : Int) := fun e => by simp [← e] at h4
      have hw : withF l x ((y.k + 1 : Nat) : Int) = ofM l ((y.k + 1 : Nat) : Int) := by simp only [withF, if_neg h4]
      cases ho : ofM l ((y.k + 1 : Nat) : Int) with
      | none =>
        rw [hw, ho] at hs
        simp only [Option.toList, List.append_nil] at hs
        refine ifB_false ⟨⟨y.k + 1, y.a, y.c, y.m⟩, ⟨⟨hk2, by rw [hs]; exact Y, A⟩, rfl, by rw [w1]; simp [hs]⟩, by simp only; omega⟩
      | some z =>
        refine ifB_true ⟨rfl, fun b3 hb3 => ?_⟩
        obtain ⟨old, src, p1, p2⟩ := push z b3 hb3 (by rw [hw, ho])
        refine ⟨old, src, p1, fun a' c' m' hp => ?_⟩
        obtain ⟨g1, g2, g3⟩ := p2 a' c' m' hp
        exact ⟨⟨y.k + 1, a', c', m'⟩, ⟨⟨hk2, g1, g2⟩, rfl, by rw [w1]; simp [g3]⟩, by simp only; omega⟩
  · have : y.k = 8 := by simp at h3; omega
    rw [this] at Y ⊢
    rw [with_list ht hx hc]
    exact ⟨⟨_, _, rfl, Y.row⟩⟩

end Go.Proofs.Ytpfiodchlbofmaa
