/-
  Contracts of functions of this seat: what each hands back, and what it leaves of memory (ses4). Nothing here is trusted: Lean checks it.
-/
import Derived.Test.YtpfiodchlbofmaaSes3
set_option linter.unusedVariables false
set_option linter.unusedSimpArgs false
namespace Go.Proofs.Ytpfiodchlbofmaa
open Go.Vc Go.RowKit
set_option maxRecDepth 100000

structure JoX where
  k : Nat
  a : Option Addr
  c : Nat
  m : M

structure JoI (m : M) (cur : List Mk) (y : JoX) : Prop where
  right : tabB 0 cur = true
  row : Row y.m y.a (mks cur)
  ag : Agree m.sz m y.m

theorem foldM_succ (l b : List Mk) (k : Nat) (hk : k < b.length) : foldM l (b.take (k + 1)) = stepM (foldM l (b.take k)) b[k] := by
  rw [List.take_succ_eq_append_getElem hk]
  unfold foldM
  rw [List.foldl_append]; rfl

set_option maxHeartbeats 1000000 in
theorem sjoin_s (a ab : Option Addr) (cp cb : Nat) (l b : List Mk) (hn : l.length ≤ 9223372036854775807) (hb : b.length ≤ 9223372036854775807) (m : M) (h : Row m a (mks l)) (h2 : Row m ab (mks b)) : Vc.Spec Try.prog 11 [.slice a l.length cp, .slice ab b.length cb] m (MeR (joinM l b)) := by
  refine Vc.Spec.of_vc Try.func11 (ann := fun _ => { A := JoX, inv := fun y => y.k ≤ b.length ∧ JoI m (foldM l (b.take y.k)) y, st := fun y => [(23, .val (I y.k)), (22, .val (I b.length)), (21, .val (.slice ab b.length cb)), (6, .val (.slice y.a (foldM l (b.take y.k)).length y.c))], own := fun _ => [], m := fun y => y.m, μ := fun y => b.length - y.k }) ?_
  refine vc_by (X :=
      true = true ∧
      ∃ (n : Int),
      QSpec Try.prog (25 : Nat) [Value.slice a l.length cp] m (Value.int IntKind.i64 n) ∧
      ifB (n != (0 : Int)) (Done (MeR (joinM l b) (Value.tuple #[Value.slice none (0 : Nat) (0 : Nat), Value.int IntKind.i64 (21 : Int)]) m))
      (∃ (n : Int),
      QSpec Try.prog (25 : Nat) [Value.slice ab b.length cb] m (Value.int IntKind.i64 n) ∧
      ifB (n != (0 : Int)) (Done (MeR (joinM l b) (Value.tuple #[Value.slice none (0 : Nat) (0 : Nat), Value.int IntKind.i64 (21 : Int)]) m))
      (∃ (S' : Nat → Prop),
      (∀ (b : Nat), S' b → m.uf b ∧ (m.sz ≤ b ∨ False)) ∧
      ∀ (n : Nat),
      m.sz ≤ n →
      SpecW Try.prog (27 : Nat) [Value.slice a l.length cp] { π := m.π, sz := n, uf := m.uf : M } S' fun (v : Value) (m' : M) =>
      ∃ (a : Option Addr),
      ∃ (n : Nat),
      ∃ (c : Nat),
      v = Value.slice a n c ∧
      (∃ (a_2 : JoX),
      (a_2.k ≤ b.length ∧ JoI m (foldM l (List.take a_2.k b)) a_2) ∧
      m' = a_2.m ∧
      ((SV.val (Value.int IntKind.i64 (0 : Int)) = SV.val (Value.int IntKind.i64 (↑a_2.k : Int)) ∧ true = true) ∧
      (SV.val (Value.int IntKind.i64 (↑b.length : Int)) = SV.val (Value.int IntKind.i64 (↑b.length : Int)) ∧ true = true) ∧
      (SV.val (Value.slice ab b.length cb) = SV.val (Value.slice ab b.length cb) ∧ true = true) ∧
      (SV.val (Value.slice a n c) = SV.val (Value.slice a_2.a (foldM l (List.take a_2.k b)).length a_2.c) ∧ true = true) ∧ True) ∧
      True) ∧
      ∀ (a : JoX),
      a.k ≤ b.length ∧ JoI m (foldM l (List.take a.k b)) a →
      ifB (decide ((↑a.k : Int) < (↑b.length : Int)))
      (∃ (b_1 : Nat),
      ∃ (off : Nat),
      ab = some { block := b_1, off := off : Addr } ∧
      ((0 : Int) ≤ (↑a.k : Int) ∧ (↑a.k : Int) < (↑b.length : Int)) ∧
      ∃ (n : Int),
      ∃ (n_1 : Int),
      ∃ (b_2 : Bool),
      ∃ (n_2 : Int),
      ∃ (n_3 : Int),
      ∃ (n_4 : Int),
      ∃ (n_5 : Int),
      CellsAt a.m b_1 (off + (↑a.k : Int).toNat * (7 : Nat))
      [Value.int IntKind.i64 n, Value.int IntKind.i64 n_1, Value.bool b_2, Value.int IntKind.i64 n_2,
      Value.int IntKind.i64 n_3, Value.int IntKind.i64 n_4, Value.int IntKind.i64 n_5] ∧
      ∃ (n_6 : Int),
      ∃ (n_7 : Int),
      ∃ (b_3 : Bool),
      ∃ (n_8 : Int),
      ∃ (n_9 : Int),
      ∃ (n_10 : Int),
      ∃ (n_11 : Int),
      ∃ (b_4 : Bool),
      QSpec Try.prog (17 : Nat)
      [Value.slice a.a (foldM l (List.take a.k b)).length a.c, Value.int IntKind.i64 n] a.m
      (Value.tuple
      #[Value.agg
      #[Value.int IntKind.i64 n_6, Value.int IntKind.i64 n_7, Value.bool b_3,
      Value.int IntKind.i64 n_8, Value.int IntKind.i64 n_9, Value.int IntKind.i64 n_10,
      Value.int IntKind.i64 n_11],
      Value.bool b_4]) ∧
      ifB (!b_4)
      (∃ (S' : Nat → Prop),
      (∀ (b : Nat), S' b → a.m.uf b ∧ (m.sz ≤ b ∨ False)) ∧
      ∀ (n_12 : Nat),
      a.m.sz ≤ n_12 →
      SpecW Try.prog (28 : Nat)
      [Value.slice a.a (foldM l (List.take a.k b)).length a.c,
      Value.agg
      #[Value.int IntKind.i64 n, Value.int IntKind.i64 n_1, Value.bool b_2,
      Value.int IntKind.i64 n_2, Value.int IntKind.i64 n_3, Value.int IntKind.i64 n_4,
      Value.int IntKind.i64 n_5]]
      { π := a.m.π, sz := n_12, uf := a.m.uf : M } S' fun (v : Value) (m' : M) =>
      ∃ (a_4 : Option Addr),
      ∃ (n : Nat),
      ∃ (c : Nat),
      v = Value.slice a_4 n c ∧
      ∃ (a' : JoX),
      ((a'.k ≤ b.length ∧ JoI m (foldM l (List.take a'.k b)) a') ∧
      m' = a'.m ∧
      ((SV.val
      (Value.int IntKind.i64
      (IntKind.i64.wrap ((↑a.k : Int) + (1 : Int)))) =
      SV.val (Value.int IntKind.i64 (↑a'.k : Int)) ∧
      true = true) ∧
      (SV.val (Value.int IntKind.i64 (↑b.length : Int)) =
      SV.val (Value.int IntKind.i64 (↑b.length : Int)) ∧
      true = true) ∧
      (SV.val (Value.slice ab b.length cb) =
      SV.val (Value.slice ab b.length cb) ∧
      true = true) ∧
      (SV.val (Value.slice a_4 n c) =
      SV.val
      (Value.slice a'.a (foldM l (List.take a'.k b)).length
      a'.c) ∧
      true = true) ∧
      True) ∧
      True) ∧
      b.length - a'.k < b.length - a.k)
      (ifB (decide (n_1 > n_7))
      (∃ (S' : Nat → Prop),
      (∀ (b : Nat), S' b → a.m.uf b ∧ (m.sz ≤ b ∨ False)) ∧
      ∀ (n_12 : Nat),
      a.m.sz ≤ n_12 →
      SpecW Try.prog (28 : Nat)
      [Value.slice a.a (foldM l (List.take a.k b)).length a.c,
      Value.agg
      #[Value.int IntKind.i64 n, Value.int IntKind.i64 n_1, Value.bool b_2,
      Value.int IntKind.i64 n_2, Value.int IntKind.i64 n_3,
      Value.int IntKind.i64 n_4, Value.int IntKind.i64 n_5]]
      { π := a.m.π, sz := n_12, uf := a.m.uf : M } S' fun (v : Value) (m' : M) =>
      ∃ (a_4 : Option Addr),
      ∃ (n : Nat),
      ∃ (c : Nat),
      v = Value.slice a_4 n c ∧
      ∃ (a' : JoX),
      ((a'.k ≤ b.length ∧ JoI m (foldM l (List.take a'.k b)) a') ∧
      m' = a'.m ∧
      ((SV.val
      (Value.int IntKind.i64
      (IntKind.i64.wrap ((↑a.k : Int) + (1 : Int)))) =
      SV.val (Value.int IntKind.i64 (↑a'.k : Int)) ∧
      true = true) ∧
      (SV.val (Value.int IntKind.i64 (↑b.length : Int)) =
      SV.val (Value.int IntKind.i64 (↑b.length : Int)) ∧
      true = true) ∧
      (SV.val (Value.slice ab b.length cb) =
      SV.val (Value.slice ab b.length cb) ∧
      true = true) ∧
      (SV.val (Value.slice a_4 n c) =
      SV.val
      (Value.slice a'.a
      (foldM l (List.take a'.k b)).length a'.c) ∧
      true = true) ∧
      True) ∧
      True) ∧
      b.length - a'.k < b.length - a.k)
      (ifB (n_1 == n_7)
      (ifB b_3
      (ifB (!b_2)
      (∃ (S' : Nat → Prop),
      (∀ (b : Nat), S' b → a.m.uf b ∧ (m.sz ≤ b ∨ False)) ∧
      ∀ (n_12 : Nat),
      a.m.sz ≤ n_12 →
      SpecW Try.prog (28 : Nat)
      [Value.slice a.a (foldM l (List.take a.k b)).length a.c,
      Value.agg
      #[Value.int IntKind.i64 n, Value.int IntKind.i64 n_1, Value.bool b_2,
      Value.int IntKind.i64 n_2, Value.int IntKind.i64 n_3,
      Value.int IntKind.i64 n_4, Value.int IntKind.i64 n_5]]
      { π := a.m.π, sz := n_12, uf := a.m.uf : M } S' fun (v : Value) (m' : M) =>
      ∃ (a_4 : Option Addr),
      ∃ (n : Nat),
      ∃ (c : Nat),
      v = Value.slice a_4 n c ∧
      ∃ (a' : JoX),
      ((a'.k ≤ b.length ∧ JoI m (foldM l (List.take a'.k b)) a') ∧
      m' = a'.m ∧
      ((SV.val
      (Value.int IntKind.i64
      (IntKind.i64.wrap ((↑a.k : Int) + (1 : Int)))) =
      SV.val (Value.int IntKind.i64 (↑a'.k : Int)) ∧
      true = true) ∧
      (SV.val (Value.int IntKind.i64 (↑b.length : Int)) =
      SV.val (Value.int IntKind.i64 (↑b.length : Int)) ∧
      true = true) ∧
      (SV.val (Value.slice ab b.length cb) =
      SV.val (Value.slice ab b.length cb) ∧
      true = true) ∧
      (SV.val (Value.slice a_4 n c) =
      SV.val
      (Value.slice a'.a
      (foldM l (List.take a'.k b)).length a'.c) ∧
      true = true) ∧
      True) ∧
      True) ∧
      b.length - a'.k < b.length - a.k)
      (∃ (a' : JoX),
      ((a'.k ≤ b.length ∧ JoI m (foldM l (List.take a'.k b)) a') ∧
      a.m = a'.m ∧
      ((SV.val (Value.int IntKind.i64 (IntKind.i64.wrap ((↑a.k : Int) + (1 : Int)))) =
      SV.val (Value.int IntKind.i64 (↑a'.k : Int)) ∧
      true = true) ∧
      (SV.val (Value.int IntKind.i64 (↑b.length : Int)) =
      SV.val (Value.int IntKind.i64 (↑b.length : Int)) ∧
      true = true) ∧
      (SV.val (Value.slice ab b.length cb) =
      SV.val (Value.slice ab b.length cb) ∧
      true = true) ∧
      (SV.val (Value.slice a.a (foldM l (List.take a.k b)).length a.c) =
      SV.val
      (Value.slice a'.a (foldM l (List.take a'.k b)).length a'.c) ∧
      true = true) ∧
      True) ∧
      True) ∧
      b.length - a'.k < b.length - a.k))
      (∃ (a' : JoX),
      ((a'.k ≤ b.length ∧ JoI m (foldM l (List.take a'.k b)) a') ∧
      a.m = a'.m ∧
      ((SV.val (Value.int IntKind.i64 (IntKind.i64.wrap ((↑a.k : Int) + (1 : Int)))) =
      SV.val (Value.int IntKind.i64 (↑a'.k : Int)) ∧
      true = true) ∧
      (SV.val (Value.int IntKind.i64 (↑b.length : Int)) =
      SV.val (Value.int IntKind.i64 (↑b.length : Int)) ∧
      true = true) ∧
      (SV.val (Value.slice ab b.length cb) = SV.val (Value.slice ab b.length cb) ∧
      true = true) ∧
      (SV.val (Value.slice a.a (foldM l (List.take a.k b)).length a.c) =
      SV.val (Value.slice a'.a (foldM l (List.take a'.k b)).length a'.c) ∧
      true = true) ∧
      True) ∧
      True) ∧
      b.length - a'.k < b.length - a.k))
      (∃ (a' : JoX),
      ((a'.k ≤ b.length ∧ JoI m (foldM l (List.take a'.k b)) a') ∧
      a.m = a'.m ∧
      ((SV.val (Value.int IntKind.i64 (IntKind.i64.wrap ((↑a.k : Int) + (1 : Int)))) =
      SV.val (Value.int IntKind.i64 (↑a'.k : Int)) ∧
      true = true) ∧
      (SV.val (Value.int IntKind.i64 (↑b.length : Int)) =
      SV.val (Value.int IntKind.i64 (↑b.length : Int)) ∧
      true = true) ∧
      (SV.val (Value.slice ab b.length cb) = SV.val (Value.slice ab b.length cb) ∧
      true = true) ∧
      (SV.val (Value.slice a.a (foldM l (List.take a.k b)).length a.c) =
      SV.val (Value.slice a'.a (foldM l (List.take a'.k b)).length a'.c) ∧
      true = true) ∧
      True) ∧
      True) ∧
      b.length - a'.k < b.length - a.k))))
      (Done (MeR (joinM l b) (Value.tuple #[Value.slice a.a (foldM l (List.take a.k b)).length a.c, Value.int IntKind.i64 (0 : Int)]) a.m))))) (by kernel_rfl) ?_
  refine ⟨rfl, _, scheck_q a cp l hn _ h, ?_⟩
  cases ha : tabB 0 l
  · exact ifB_true (me_fail (by simp [joinM, ha]))
  refine ifB_false ⟨_, scheck_q ab cb b hb _ h2, ?_⟩
  cases hb2 : tabB 0 b
  · exact ifB_true (me_fail (by simp [joinM, hb2]))
  have hl8 := tab8 ha
  have hb8 := tab8 hb2
  refine ifB_false ⟨_, noS, fun N hN => (mk_clone l a cp (by omega) (mk_none h) _ (h.sz hN)).monoW fun v m1 hag ⟨a1, c1, hv, hr⟩ => ⟨a1, _, c1, hv, ⟨⟨0, a1, c1, m1⟩, ⟨Nat.zero_le _, ⟨ha, hr.row, (Agree.szl (B := m.sz) (m := m) hN).trans (hag.mono hN)⟩⟩, rfl, by simp [foldM], trivial⟩, fun y ⟨hk, Y⟩ => ifB_intro (fun h3 => ?_) (fun h3 => ?_)⟩⟩
  · have hk2 : y.k < b.length := by simpa using h3
    obtain ⟨b1, o, rfl, hc⟩ := (h2.agree Y.ag).cells (by rw [mk_len]; omega)
    have w1 : IntKind.i64.wrap ((y.k : Int) + 1) = ((y.k + 1 : Nat) : Int) := by simp [IntKind.wrap_i64]; omega
    have h8 := tab8 Y.right
    have hym := Y.ag.2.2
    obtain ⟨hx1, hx2⟩ := tab_mem hb2 _ (List.getElem_mem hk2)
    have e := foldM_succ l b y.k hk2
    have hf : findO (foldM l (b.take y.k)) b[y.k].cl = ofM (foldM l (b.take y.k)) b[y.k].cl := by simp [findO, Y.right]
    have hri : tabB 0 (foldM l (b.take (y.k + 1))) = true := by rw [e]; exact step_tab Y.right hx2 hx1
    refine ⟨b1, o, rfl, by omega, _, _, _, _, _, _, _, by simpa using mk_at hc hk2, _, _, _, _, _, _, _, _, find_q y.a y.c _ b[y.k].cl (by omega) _ Y.row, ?_⟩
    rw [hf]
    cases ho : ofM (foldM l (b.take y.k)) b[y.k].cl with
    | none =>
      have es : stepM (foldM l (b.take y.k)) b[y.k] = insM (foldM l (b.take y.k)) b[y.k] := by simp [stepM, ho]
      rw [es] at e
      refine ifB_true ⟨_, noS, fun N2 hN2 => (with_s y.a y.c (foldM l (b.take y.k)) b[y.k] Y.right { y.m with sz := N2 } (Y.row.sz hN2)).monoW fun v2 m2 hag2 hq2 => ?_⟩
      obtain ⟨a2, c2, hv2, hr2⟩ := hq2
      refine ⟨_, _, _, hv2, ⟨y.k + 1, a2, c2, m2⟩, ⟨⟨hk2, ⟨hri, by rw [e]; exact hr2, Y.ag.trans ((Agree.szl (B := m.sz) (m := y.m) hN2).trans (hag2.mono (by simp only; omega)))⟩⟩, rfl, by simp [w1, e], trivial⟩, by simp only; omega⟩
    | some z =>
      refine ifB_false (ifB_intro (fun q1 => ⟨_, noS, fun N2 hN2 => (with_s y.a y.c (foldM l (b.take y.k)) b[y.k] Y.right { y.m with sz := N2 } (Y.row.sz hN2)).monoW fun v2 m2 hag2 hq2 => ?p1⟩) (fun q1 => ifB_intro (fun q2 => ifB_intro (fun q3 => ifB_intro (fun q4 => ⟨_, noS, fun N2 hN2 => (with_s y.a y.c (foldM l (b.take y.k)) b[y.k] Y.right { y.m with sz := N2 } (Y.row.sz hN2)).monoW fun v2 m2 hag2 hq2 => ?p2⟩) (fun q4 => ?s1)) (fun q3 => ?s2)) (fun q2 => ?s3)))
      case p1 | p2 =>
        have es : stepM (foldM l (b.take y.k)) b[y.k] = insM (foldM l (b.take y.k)) b[y.k] := by
          simp only [stepM, ho]
          simp at q1
          first
            | (rw [if_pos (.inl (by omega))]; done)
            | (simp at q2 q3 q4; rw [if_pos (.inr ⟨by omega, q3, q4⟩)])
        rw [es] at e
        obtain ⟨a2, c2, hv2, hr2⟩ := hq2
        refine ⟨_, _, _, hv2, ⟨y.k + 1, a2, c2, m2⟩, ⟨⟨hk2, ⟨hri, by rw [e]; exact hr2, Y.ag.trans ((Agree.szl (B := m.sz) (m := y.m) hN2).trans (hag2.mono (by simp only; omega)))⟩⟩, rfl, by simp [w1, e], trivial⟩, by simp only; omega⟩
      case s1 | s2 | s3 =>
        have es : stepM (foldM l (b.take y.k)) b[y.k] = foldM l (b.take y.k) := by
          simp only [stepM, ho]
          refine if_neg ?_
          simp at q1 q2
          rintro (h | ⟨h1, h2, h3⟩)
          · omega
          · first
              | (exact absurd h1.symm q2)
              | (simp [h2] at q3; done)
              | (simp [h3] at q4)
        rw [es] at e
        refine ⟨⟨y.k + 1, y.a, y.c, y.m⟩, ⟨⟨hk2, ⟨hri, by rw [e]; exact Y.row, Y.ag⟩⟩, rfl, by simp [w1, e], trivial⟩, by simp only; omega⟩
  · have hkb : y.k = b.length := by simp at h3; omega
    have hrow := Y.row
    rw [hkb, List.take_length] at hrow ⊢
    exact me_ok (z := foldM l b) (by simp [joinM, ha, hb2]) rfl hrow

end Go.Proofs.Ytpfiodchlbofmaa
