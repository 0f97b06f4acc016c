/-
  Contracts of functions of this seat: what each hands back, and what it leaves of memory (deal15). Nothing here is trusted: Lean checks it.
-/
import Derived.Test.YtoilbbfidnhekaaDeal14
set_option linter.unusedVariables false
set_option linter.unusedSimpArgs false
namespace Go.Proofs.Ytoilbbfidnhekaa
open Go.Vc Go.RowKit
set_option maxRecDepth 100000

structure JoX where
  k : Nat
  a : Option Addr
  c : Nat
  m : M

structure JoI (m : M) (cur : List En) (y : JoX) : Prop where
  right : endsB 0 cur = true
  row : NewR m.sz (fun _ => False) y.m 2 y.a cur.length y.c (ens cur)
  ag : Agree m.sz m y.m

theorem ends8 {l : List En} (h : endsB 0 l = true) : l.length ≤ 8 := by
  rcases ends_len (Int.le_refl 0) h with e | e
  · subst e; simp
  · omega

theorem en_none {B : List En} {a : Option Addr} {m : M} (h : Row m a (ens B)) (e : a = none) : B = [] := by
  cases B with
  | nil => rfl
  | cons x xs =>
    obtain ⟨b, o, e2, -⟩ := h.cells (by rw [en_len]; simp)
    rw [e] at e2; simp at e2

theorem fold_succ (l b : List En) (k : Nat) (hk : k < b.length) : foldE l (b.take (k + 1)) = raised (foldE l (b.take k)) b[k].cl b[k].sq := by
  rw [raised_eq, List.take_succ_eq_append_getElem hk]
  unfold foldE
  rw [List.foldl_append]; rfl

set_option maxHeartbeats 1000000 in
theorem join_s (a ab : Option Addr) (cp cb : Nat) (l b : List En) (hn : l.length ≤ 1048576) (hb : b.length ≤ 1048576) (h0 : a = none → l = []) (m : M) (h : Row m a (ens l)) (h2 : Row m ab (ens b)) : Vc.Spec Try.prog 29 [.slice a l.length cp, .slice ab b.length cb] m (LeR m (joinE l b)) := by
  refine Vc.Spec.of_vc Try.func29 (ann := fun _ => { A := JoX, inv := fun y => y.k ≤ b.length ∧ JoI m (foldE l (b.take y.k)) y, st := fun y => [(21, .val (I y.k)), (20, .val (I b.length)), (19, .val (.slice ab b.length cb)), (6, .val (.slice y.a (foldE l (b.take y.k)).length y.c))], own := fun _ => [], m := fun y => y.m, μ := fun y => b.length - y.k }) ?_
  refine vc_by (X :=
      true = true ∧
      ∃ (n : Int),
      QSpec Try.prog (31 : Nat) [Value.slice a l.length cp] m (Value.int IntKind.i64 n) ∧
      ifB (n != (0 : Int)) (Done (LeR m (joinE l b) (Value.tuple #[Value.slice none (0 : Nat) (0 : Nat), Value.int IntKind.i64 (21 : Int)]) m))
      (∃ (n : Int),
      QSpec Try.prog (31 : Nat) [Value.slice ab b.length cb] m (Value.int IntKind.i64 n) ∧
      ifB (n != (0 : Int)) (Done (LeR m (joinE l b) (Value.tuple #[Value.slice none (0 : Nat) (0 : Nat), Value.int IntKind.i64 (21 : Int)]) m))
      (∃ (S' : Nat → Prop),
      (∀ (b : Nat), S' b → m.uf b ∧ (m.sz ≤ b ∨ False)) ∧
      ∀ (n : Nat),
      m.sz ≤ n →
      SpecW Try.prog (54 : Nat) [Value.slice a l.length cp] { π := m.π, sz := n, uf := m.uf : M } S' fun (v : Value) (m' : M) =>
      ∃ (a : Option Addr),
      ∃ (n : Nat),
      ∃ (c : Nat),
      v = Value.slice a n c ∧
      (∃ (a_2 : JoX),
      (a_2.k ≤ b.length ∧ JoI m (foldE l (List.take a_2.k b)) a_2) ∧
      m' = a_2.m ∧
      ((SV.val (Value.int IntKind.i64 (0 : Int)) = SV.val (Value.int IntKind.i64 (↑a_2.k : Int)) ∧ true = true) ∧
      (SV.val (Value.int IntKind.i64 (↑b.length : Int)) = SV.val (Value.int IntKind.i64 (↑b.length : Int)) ∧ true = true) ∧
      (SV.val (Value.slice ab b.length cb) = SV.val (Value.slice ab b.length cb) ∧ true = true) ∧
      (SV.val (Value.slice a n c) = SV.val (Value.slice a_2.a (foldE l (List.take a_2.k b)).length a_2.c) ∧ true = true) ∧ True) ∧
      True) ∧
      ∀ (a : JoX),
      a.k ≤ b.length ∧ JoI m (foldE l (List.take a.k b)) a →
      ifB (decide ((↑a.k : Int) < (↑b.length : Int)))
      (∃ (b_1 : Nat),
      ∃ (off : Nat),
      ab = some { block := b_1, off := off : Addr } ∧
      ((0 : Int) ≤ (↑a.k : Int) ∧ (↑a.k : Int) < (↑b.length : Int)) ∧
      ∃ (n : Int),
      ∃ (n_1 : Int),
      CellsAt a.m b_1 (off + (↑a.k : Int).toNat * (2 : Nat)) [Value.int IntKind.i64 n, Value.int IntKind.i64 n_1] ∧
      ∃ (S' : Nat → Prop),
      (∀ (b : Nat), S' b → a.m.uf b ∧ (m.sz ≤ b ∨ False)) ∧
      ∀ (n_2 : Nat),
      a.m.sz ≤ n_2 →
      SpecW Try.prog (27 : Nat)
      [Value.slice a.a (foldE l (List.take a.k b)).length a.c, Value.int IntKind.i64 n, Value.int IntKind.i64 n_1]
      { π := a.m.π, sz := n_2, uf := a.m.uf : M } S' fun (v : Value) (m' : M) =>
      ∃ (a_4 : Option Addr),
      ∃ (n : Nat),
      ∃ (c : Nat),
      ∃ (n_3 : Int),
      v = Value.tuple #[Value.slice a_4 n c, Value.int IntKind.i64 n_3] ∧
      ∃ (a' : JoX),
      ((a'.k ≤ b.length ∧ JoI m (foldE l (List.take a'.k b)) a') ∧
      m' = a'.m ∧
      ((SV.val (Value.int IntKind.i64 (IntKind.i64.wrap ((↑a.k : Int) + (1 : Int)))) =
      SV.val (Value.int IntKind.i64 (↑a'.k : Int)) ∧
      true = true) ∧
      (SV.val (Value.int IntKind.i64 (↑b.length : Int)) =
      SV.val (Value.int IntKind.i64 (↑b.length : Int)) ∧
      true = true) ∧
      (SV.val (Value.slice ab b.length cb) = SV.val (Value.slice ab b.length cb) ∧ true = true) ∧
      (SV.val (Value.slice a_4 n c) =
      SV.val (Value.slice a'.a (foldE l (List.take a'.k b)).length a'.c) ∧
      true = true) ∧
      True) ∧
      True) ∧
      b.length - a'.k < b.length - a.k)
      (Done (LeR m (joinE l b) (Value.tuple #[Value.slice a.a (foldE l (List.take a.k b)).length a.c, Value.int IntKind.i64 (0 : Int)]) a.m))))) (by kernel_rfl) ?_
  refine ⟨rfl, _, checkends_q a cp l (by omega) _ h, ?_⟩
  cases ha : endsB 0 l
  · exact ifB_true (le_fail (by simp [joinE, ha]))
  refine ifB_false ⟨_, checkends_q ab cb b (by omega) _ h2, ?_⟩
  cases hb2 : endsB 0 b
  · exact ifB_true (le_fail (by simp [joinE, hb2]))
  refine ifB_false ⟨_, noS, fun N hN => (en_clone l a cp hn h0 _ (h.sz hN)).monoW fun v m1 hag ⟨a1, c1, hv, hr⟩ => ⟨a1, _, c1, hv, ⟨⟨0, a1, c1, m1⟩, ⟨Nat.zero_le _, ⟨ha, hr.lower hN, (Agree.szl (B := m.sz) (m := m) hN).trans (hag.mono hN)⟩⟩, rfl, by simp [foldE], trivial⟩, fun y ⟨hk, Y⟩ => ifB_intro (fun h3 => ?_) (fun h3 => ?_)⟩⟩
  · have hk2 : y.k < b.length := by simpa using h3
    obtain ⟨b1, o, rfl, hc⟩ := (h2.agree Y.ag).cells (by rw [en_len]; omega)
    have w1 : IntKind.i64.wrap ((y.k : Int) + 1) = ((y.k + 1 : Nat) : Int) := by simp [IntKind.wrap_i64]; omega
    have h8 := ends8 Y.right
    have hym := Y.ag.2.2
    obtain ⟨hx1, hx2⟩ := ends_mem hb2 _ (List.getElem_mem hk2)
    have e := fold_succ l b y.k hk2
    have er : raiseE (foldE l (b.take y.k)) b[y.k].cl b[y.k].sq = (foldE l (b.take (y.k + 1)), 0) := by
      rw [e]; simp [raiseE, Y.right, hx2]
    have hri : endsB 0 (foldE l (b.take (y.k + 1))) = true := by
      rw [e, raised_eq]; exact ins_ends hx2 hx1 Y.right
    refine ⟨b1, o, rfl, by omega, _, _, by simpa using en_at hc hk2, _, noS, fun N2 hN2 => (raise_s y.a y.c (foldE l (b.take y.k)) b[y.k].cl b[y.k].sq (by omega) (en_none Y.row.row) { y.m with sz := N2 } (Y.row.row.sz hN2)).monoW fun v2 m2 hag2 hq2 => ?_⟩
    obtain ⟨a2, c2, hv2, hr2⟩ := hq2
    refine ⟨_, _, _, _, hv2, ?_⟩
    rw [er] at hr2 ⊢
    refine ⟨⟨y.k + 1, a2, c2, m2⟩, ⟨⟨hk2, ⟨hri, hr2.lower (by simp only; omega), Y.ag.trans ((Agree.szl (B := m.sz) (m := y.m) hN2).trans (hag2.mono (by simp only; omega)))⟩⟩, rfl, by simp [w1], trivial⟩, by simp only; omega⟩
  · have hkb : y.k = b.length := by simp at h3; omega
    have hrow := Y.row
    rw [hkb, List.take_length] at hrow ⊢
    exact le_ok (n := m.sz) (z := foldE l b) (by simp [joinE, ha, hb2]) rfl hrow (Nat.le_refl _)

end Go.Proofs.Ytoilbbfidnhekaa
