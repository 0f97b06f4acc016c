/-
  Contracts of functions of this seat: what each hands back, and what it leaves of memory (led2). Nothing here is trusted: Lean checks it.
-/
import Derived.Test.YtfkielfnceeedaaInsrt
set_option linter.unusedVariables false
set_option linter.unusedSimpArgs false
namespace Go.Proofs.Ytfkielfnceeedaa
open Go.Vc Go.RowKit
set_option maxRecDepth 100000

theorem rt_none {B : List Rt} {a : Option Addr} {m : M} (h : Row m a (rts B)) (e : a = none) : B = [] := by
  cases B with
  | nil => rfl
  | cons x xs =>
    obtain ⟨b, o, e2, -⟩ := h.cells (by rw [rt_len]; simp)
    rw [e] at e2; simp at e2

theorem group_q (g : Int) (m : M) : QSpec Try.prog 63 [I g] m (.bool (decide (1 ≤ g) && decide (g < 8))) := by
  refine QSpec.of_vc Try.func63 (ann := fun _ => noAnn) fun n hn => ?_
  refine vc_by (X :=
      true = true ∧
      ifB (decide (g ≥ (1 : Int))) (Done (Value.bool (decide (g < (8 : Int))) = Value.bool (decide ((1 : Int) ≤ g) && decide (g < (8 : Int)))))
      (Done (Value.bool false = Value.bool (decide ((1 : Int) ≤ g) && decide (g < (8 : Int)))))) (by kernel_rfl) ?_
  refine ⟨rfl, ifB_intro (fun h => ⟨?_⟩) (fun h => ⟨?_⟩)⟩
  · simp at h; simp [h]
  · simp at h; simp; omega

theorem rgroup_q (g : Int) (m : M) : QSpec Try.prog 64 [I g] m (.bool (decide (1 ≤ g) && decide (g < 8))) := by
  refine QSpec.of_vc Try.func64 (ann := fun _ => noAnn) fun n hn => ?_
  refine vc_by (X :=
      true = true ∧
      ifB (decide (g ≥ (1 : Int))) (Done (Value.bool (decide (g < (8 : Int))) = Value.bool (decide ((1 : Int) ≤ g) && decide (g < (8 : Int)))))
      (Done (Value.bool false = Value.bool (decide ((1 : Int) ≤ g) && decide (g < (8 : Int)))))) (by kernel_rfl) ?_
  refine ⟨rfl, ifB_intro (fun h => ⟨?_⟩) (fun h => ⟨?_⟩)⟩
  · simp at h; simp [h]
  · simp at h; simp; omega

theorem rmay_q (r : Rt) (m : M) : QSpec Try.prog 41 [rtv r] m (.bool (rmayB r)) := by
  refine QSpec.of_vc Try.func41 (ann := fun _ => noAnn) fun n hn => ?_
  refine vc_by (X :=
      true = true ∧
      ∃ (b : Bool),
      QSpec Try.prog (63 : Nat) [Value.int IntKind.i64 r.g] { π := m.π, sz := n, uf := m.uf : M } (Value.bool b) ∧
      ifB b
      (ifB (decide ((↑r.ky.size : Int) ≥ (1 : Int)))
      (ifB (decide ((↑r.ky.size : Int) ≤ (16 : Int))) (Done (Value.bool (decide (r.le ≥ (1 : Int))) = Value.bool (rmayB r))) (Done (Value.bool false = Value.bool (rmayB r))))
      (Done (Value.bool false = Value.bool (rmayB r))))
      (Done (Value.bool false = Value.bool (rmayB r)))) (by kernel_rfl) ?_
  refine ⟨rfl, _, group_q _ _, ?_⟩
  refine ifB_intro (fun h1 => ifB_intro (fun h2 => ifB_intro (fun h3 => ⟨?_⟩) (fun h3 => ⟨?_⟩)) (fun h2 => ⟨?_⟩)) (fun h1 => ⟨?_⟩)
  · have k : keyB r.ky = true := by simp at h2 h3; simp [keyB]; omega
    simp [rmayB, h1, k]
  · have k : keyB r.ky = false := by simp at h2 h3; simp [keyB]; omega
    simp [rmayB, k]
  · have k : keyB r.ky = false := by simp at h2; simp [keyB]; omega
    simp [rmayB, k]
  · simp [rmayB, h1]

theorem rrmay_q (r : Rt) (m : M) : QSpec Try.prog 39 [rtv r] m (.bool (rmayB r)) := by
  refine QSpec.of_vc Try.func39 (ann := fun _ => noAnn) fun n hn => ?_
  refine vc_by (X :=
      true = true ∧
      ∃ (b : Bool),
      QSpec Try.prog (64 : Nat) [Value.int IntKind.i64 r.g] { π := m.π, sz := n, uf := m.uf : M } (Value.bool b) ∧
      ifB b
      (∃ (b : Bool),
      QSpec Try.prog (67 : Nat) [Value.string r.ky] { π := m.π, sz := n, uf := m.uf : M } (Value.bool b) ∧
      ifB b (Done (Value.bool (decide (r.le ≥ (1 : Int))) = Value.bool (rmayB r))) (Done (Value.bool false = Value.bool (rmayB r))))
      (Done (Value.bool false = Value.bool (rmayB r)))) (by kernel_rfl) ?_
  refine ⟨rfl, _, rgroup_q _ _, ?_⟩
  refine ifB_intro (fun h1 => ⟨_, rkey_q _ _, ifB_intro (fun h2 => ⟨?_⟩) (fun h2 => ⟨?_⟩)⟩) (fun h1 => ⟨?_⟩)
  · simp [rmayB, h1, h2]
  · simp [rmayB, h2]
  · simp [rmayB, h1]

theorem rbel_q (a b : Rt) (m : M) : QSpec Try.prog 40 [rtv a, rtv b] m (.bool (bel a b)) := by
  refine QSpec.of_vc Try.func40 (ann := fun _ => noAnn) fun n hn => ?_
  refine vc_by (X :=
      true = true ∧
      ifB (decide (a.g < b.g)) (Done (Value.bool true = Value.bool (bel a b)))
      (ifB (a.g == b.g) (Done (Value.bool (Op.bytesLess a.ky.toList b.ky.toList) = Value.bool (bel a b))) (Done (Value.bool false = Value.bool (bel a b))))) (by kernel_rfl) ?_
  refine ⟨rfl, ifB_intro (fun h1 => ⟨?_⟩) (fun h1 => ifB_intro (fun h2 => ⟨?_⟩) (fun h2 => ⟨?_⟩))⟩
  · simp at h1; simp [bel, h1]
  · simp at h1 h2; simp [bel, h2, ltS]
  · simp at h1 h2; simp [bel, h2]; omega

theorem cmpstr (a b : ByteArray) : CallV Try.prog 109 [.string a, .string b] (I (cmpS a b)) := by
  refine ⟨?_⟩
  rw [← cmp_cmpS]
  show (Value.int .i64 (Extern.BytealgCompare.cmp a b)) = _
  rfl

theorem cmps_q (a b : ByteArray) (m : M) : QSpec Try.prog 98 [.string a, .string b] m (I (cmpS a b)) := by
  refine QSpec.of_vc Try.func98 (ann := fun _ => noAnn) fun n hn => ?_
  refine vc_by (X :=
      true = true ∧ ∃ (n : Int), CallV Try.prog (109 : Nat) [Value.string a, Value.string b] (Value.int IntKind.i64 n) ∧ Done (Value.int IntKind.i64 n = Value.int IntKind.i64 (cmpS a b))) (by kernel_rfl) ?_
  exact ⟨rfl, _, cmpstr a b, ⟨rfl⟩⟩

theorem compare_q (a b : ByteArray) (m : M) : QSpec Try.prog 78 [.string a, .string b] m (I (cmpS a b)) := by
  refine QSpec.of_vc Try.func78 (ann := fun _ => noAnn) fun n hn => ?_
  refine vc_by (X :=
      true = true ∧
      ∃ (n_1 : Int),
      QSpec Try.prog (98 : Nat) [Value.string a, Value.string b] { π := m.π, sz := n, uf := m.uf : M } (Value.int IntKind.i64 n_1) ∧
      Done (Value.int IntKind.i64 n_1 = Value.int IntKind.i64 (cmpS a b))) (by kernel_rfl) ?_
  exact ⟨rfl, _, cmps_q a b _, ⟨rfl⟩⟩

theorem order_q (a b : Rt) (m : M) : QSpec Try.prog 44 [rtv a, rtv b] m (I (ordR a b)) := by
  refine QSpec.of_vc Try.func44 (ann := fun _ => noAnn) fun n hn => ?_
  refine vc_by (X :=
      true = true ∧
      ifB (a.g != b.g)
      (ifB (decide (a.g < b.g)) (Done (Value.int IntKind.i64 (-1 : Int) = Value.int IntKind.i64 (ordR a b)))
      (Done (Value.int IntKind.i64 (1 : Int) = Value.int IntKind.i64 (ordR a b))))
      (∃ (n_1 : Int),
      QSpec Try.prog (78 : Nat) [Value.string a.ky, Value.string b.ky] { π := m.π, sz := n, uf := m.uf : M } (Value.int IntKind.i64 n_1) ∧
      Done (Value.int IntKind.i64 n_1 = Value.int IntKind.i64 (ordR a b)))) (by kernel_rfl) ?_
  refine ⟨rfl, ifB_intro (fun h1 => ifB_intro (fun h2 => ⟨?_⟩) (fun h2 => ⟨?_⟩)) (fun h1 => ⟨_, compare_q _ _ _, ⟨?_⟩⟩)⟩
  · simp at h1 h2; simp [ordR, h1, h2]
  · simp at h1 h2; simp [ordR, h1, show ¬ a.g < b.g by omega]
  · simp at h1; simp [ordR, h1]

/-- the one ahead -/
def prevR (l : List Rt) (k : Nat) : Option Rt := if k = 0 then none else l[k - 1]?

theorem lcheck_q (a : Option Addr) (cp : Nat) (l : List Rt) (hn : l.length ≤ 9223372036854775807) (m : M) (h : Row m a (rts l)) : QSpec Try.prog 14 [.slice a l.length cp] m (I (if ledB none l then 0 else 21)) := by
  refine QSpec.of_vc Try.func14 (ann := fun n _ => { A := Nat, inv := fun k => k ≤ l.length ∧ ledB none l = ledB (prevR l k) (l.drop k), st := fun k => [(7, .val (I k)), (6, .val (I l.length)), (5, .val (.slice a l.length cp)), (0, .val (.slice a l.length cp))], own := fun _ => [], m := fun _ => { m with sz := n }, μ := fun k => l.length - k }) fun n hn' => ?_
  refine vc_by (X :=
      true = true ∧
      (∃ (a_1 : Nat),
      (a_1 ≤ l.length ∧ ledB none l = ledB (prevR l a_1) (List.drop a_1 l)) ∧
      { π := m.π, sz := n, uf := m.uf : M } = { π := m.π, sz := n, uf := m.uf : M } ∧
      ((SV.val (Value.int IntKind.i64 (0 : Int)) = SV.val (Value.int IntKind.i64 (↑a_1 : Int)) ∧ true = true) ∧
      (SV.val (Value.int IntKind.i64 (↑l.length : Int)) = SV.val (Value.int IntKind.i64 (↑l.length : Int)) ∧ true = true) ∧
      (SV.val (Value.slice a l.length cp) = SV.val (Value.slice a l.length cp) ∧ true = true) ∧
      (SV.val (Value.slice a l.length cp) = SV.val (Value.slice a l.length cp) ∧ true = true) ∧ True) ∧
      True) ∧
      ∀ (a_1 : Nat),
      a_1 ≤ l.length ∧ ledB none l = ledB (prevR l a_1) (List.drop a_1 l) →
      ifB (decide ((↑a_1 : Int) < (↑l.length : Int)))
      (∃ (b : Nat),
      ∃ (off : Nat),
      a = some { block := b, off := off : Addr } ∧
      ((0 : Int) ≤ (↑a_1 : Int) ∧ (↑a_1 : Int) < (↑l.length : Int)) ∧
      ∃ (n_1 : Int),
      ∃ (s : ByteArray),
      ∃ (n_2 : Int),
      ∃ (n_3 : Int),
      CellsAt { π := m.π, sz := n, uf := m.uf : M } b (off + (↑a_1 : Int).toNat * (4 : Nat))
      [Value.int IntKind.i64 n_1, Value.string s, Value.int IntKind.i64 n_2, Value.int IntKind.i64 n_3] ∧
      true = true ∧
      ∃ (b : Bool),
      QSpec Try.prog (41 : Nat) [Value.agg #[Value.int IntKind.i64 n_1, Value.string s, Value.int IntKind.i64 n_2, Value.int IntKind.i64 n_3]]
      { π := m.π, sz := n, uf := m.uf : M } (Value.bool b) ∧
      ifB (!b) (Done (Value.int IntKind.i64 (21 : Int) = Value.int IntKind.i64 (if ledB none l = true then (0 : Int) else (21 : Int))))
      (ifB (decide ((↑a_1 : Int) > (0 : Int)))
      (∃ (b : Nat),
      ∃ (off : Nat),
      a = some { block := b, off := off : Addr } ∧
      ((0 : Int) ≤ IntKind.i64.wrap ((↑a_1 : Int) - (1 : Int)) ∧ IntKind.i64.wrap ((↑a_1 : Int) - (1 : Int)) < (↑l.length : Int)) ∧
      ∃ (n_4 : Int),
      ∃ (s_1 : ByteArray),
      ∃ (n_5 : Int),
      ∃ (n_6 : Int),
      CellsAt { π := m.π, sz := n, uf := m.uf : M } b (off + (IntKind.i64.wrap ((↑a_1 : Int) - (1 : Int))).toNat * (4 : Nat))
      [Value.int IntKind.i64 n_4, Value.string s_1, Value.int IntKind.i64 n_5, Value.int IntKind.i64 n_6] ∧
      ∃ (n_7 : Int),
      QSpec Try.prog (44 : Nat)
      [Value.agg #[Value.int IntKind.i64 n_4, Value.string s_1, Value.int IntKind.i64 n_5, Value.int IntKind.i64 n_6],
      Value.agg #[Value.int IntKind.i64 n_1, Value.string s, Value.int IntKind.i64 n_2, Value.int IntKind.i64 n_3]]
      { π := m.π, sz := n, uf := m.uf : M } (Value.int IntKind.i64 n_7) ∧
      ifB (decide (n_7 ≥ (0 : Int)))
      (Done
      (Value.int IntKind.i64 (21 : Int) = Value.int IntKind.i64 (if ledB none l = true then (0 : Int) else (21 : Int))))
      (∃ (a' : Nat),
      ((a' ≤ l.length ∧ ledB none l = ledB (prevR l a') (List.drop a' l)) ∧
      { π := m.π, sz := n, uf := m.uf : M } = { π := m.π, sz := n, uf := m.uf : M } ∧
      ((SV.val (Value.int IntKind.i64 (IntKind.i64.wrap ((↑a_1 : Int) + (1 : Int)))) =
      SV.val (Value.int IntKind.i64 (↑a' : Int)) ∧
      true = true) ∧
      (SV.val (Value.int IntKind.i64 (↑l.length : Int)) = SV.val (Value.int IntKind.i64 (↑l.length : Int)) ∧
      true = true) ∧
      (SV.val (Value.slice a l.length cp) = SV.val (Value.slice a l.length cp) ∧ true = true) ∧
      (SV.val (Value.slice a l.length cp) = SV.val (Value.slice a l.length cp) ∧ true = true) ∧ True) ∧
      True) ∧
      l.length - a' < l.length - a_1))
      (∃ (a' : Nat),
      ((a' ≤ l.length ∧ ledB none l = ledB (prevR l a') (List.drop a' l)) ∧
      { π := m.π, sz := n, uf := m.uf : M } = { π := m.π, sz := n, uf := m.uf : M } ∧
      ((SV.val (Value.int IntKind.i64 (IntKind.i64.wrap ((↑a_1 : Int) + (1 : Int)))) = SV.val (Value.int IntKind.i64 (↑a' : Int)) ∧
      true = true) ∧
      (SV.val (Value.int IntKind.i64 (↑l.length : Int)) = SV.val (Value.int IntKind.i64 (↑l.length : Int)) ∧ true = true) ∧
      (SV.val (Value.slice a l.length cp) = SV.val (Value.slice a l.length cp) ∧ true = true) ∧
      (SV.val (Value.slice a l.length cp) = SV.val (Value.slice a l.length cp) ∧ true = true) ∧ True) ∧
      True) ∧
      l.length - a' < l.length - a_1)))
      (Done (Value.int IntKind.i64 (0 : Int) = Value.int IntKind.i64 (if ledB none l = true then (0 : Int) else (21 : Int))))) (by kernel_rfl) ?_
  have h' := h.sz hn'
  refine ⟨rfl, ⟨0, by simp [prevR]⟩, fun k ⟨hk, hq⟩ => ifB_intro (fun hb => ?_) (fun hb => ⟨?_⟩)⟩
  · have hk2 : k < l.length := by simpa using hb
    obtain ⟨b, o, rfl, hc⟩ := h'.cells (by rw [rt_len]; omega)
    have w1 : IntKind.i64.wrap ((k : Int) + 1) = ((k + 1 : Nat) : Int) := by simp [IntKind.wrap_i64]; omega
    rw [List.drop_eq_getElem_cons hk2, ledB] at hq
    have hnx : prevR l (k + 1) = some l[k] := by simp [prevR, List.getElem?_eq_getElem hk2]
    have hp0 : k = 0 → okP (prevR l k) l[k] = true := fun e => by simp [prevR, e, okP]
    have hpk : ∀ (hk0 : 0 < k), okP (prevR l k) l[k] = bel (l[k - 1]'(by omega)) l[k] := fun hk0 => by
      have : k ≠ 0 := by omega
      simp [prevR, this, List.getElem?_eq_getElem (show k - 1 < l.length by omega), okP]
    have w2 : 0 < k → IntKind.i64.wrap ((k : Int) - 1) = ((k - 1 : Nat) : Int) := fun h => by simp [IntKind.wrap_i64]; omega
    have bad : (okP (prevR l k) l[k] && rmayB l[k]) = false → ledB none l = false := fun e => by rw [hq, e, Bool.false_and]
    have nx : (okP (prevR l k) l[k] && rmayB l[k]) = true → (k + 1 ≤ l.length ∧ ledB none l = ledB (prevR l (k + 1)) (l.drop (k + 1))) := fun e => ⟨hk2, by rw [hq, e, Bool.true_and, hnx]⟩
    refine ⟨b, o, rfl, by omega, _, _, _, _, by simpa using rt_at hc hk2, rfl, _, rmay_q l[k] _, ifB_intro (fun h1 => ⟨?_⟩) (fun h1 => ifB_intro (fun h2 => ?_) (fun h2 => ⟨k + 1, ⟨nx ?_, by simp [w1]⟩, by omega⟩))⟩
    · have h1 : rmayB l[k] = false := by simpa using h1
      simp [bad (by simp [h1])]
    · have h1 : rmayB l[k] = true := by simpa using h1
      have h2 : 0 < k := by simpa using h2
      have hk3 : k - 1 < l.length := by omega
      rw [w2 h2]
      refine ⟨b, o, rfl, by omega, _, _, _, _, by simpa using rt_at hc hk3, _, order_q l[k - 1] l[k] _, ifB_intro (fun h3 => ⟨?_⟩) (fun h3 => ⟨k + 1, ⟨nx ?_, by simp [w1]⟩, by omega⟩)⟩
      · have h3 : bel l[k - 1] l[k] = false := by
          cases h4 : bel l[k - 1] l[k] with
          | false => rfl
          | true => rw [ord_bel, h4] at h3; simp at h3
        simp [bad (by rw [hpk h2, h3]; rfl)]
      · have h3 : bel l[k - 1] l[k] = true := by
          cases h4 : bel l[k - 1] l[k] with
          | true => rfl
          | false =>
            rw [ord_bel, h4] at h3
            by_cases h5 : sameK l[k - 1] l[k] = true <;> simp [h5] at h3
        rw [hpk h2, h3, h1]; rfl
    · have h1 : rmayB l[k] = true := by simpa using h1
      have h2 : k = 0 := by simp at h2; omega
      rw [hp0 h2, h1]; rfl
  · have : k = l.length := by simp at hb; omega
    rw [this] at hq
    simp [hq, ledB]

theorem rright_l (a : Option Addr) (cp : Nat) (l : List Rt) (hn : l.length ≤ 9223372036854775807) (m : M) (h : Row m a (rts l)) : QSpec Try.prog 10 [.slice a l.length cp] m (.bool (ledB none l)) := by
  refine QSpec.of_vc Try.func10 (ann := fun n _ => { A := Nat, inv := fun k => k ≤ l.length ∧ ledB none l = ledB (prevR l k) (l.drop k), st := fun k => [(3, .val (I k)), (0, .val (.slice a l.length cp))], own := fun _ => [], m := fun _ => { m with sz := n }, μ := fun k => l.length - k }) fun n hn' => ?_
  refine vc_by (X :=
      true = true ∧
      (∃ (a_1 : Nat),
      (a_1 ≤ l.length ∧ ledB none l = ledB (prevR l a_1) (List.drop a_1 l)) ∧
      { π := m.π, sz := n, uf := m.uf : M } = { π := m.π, sz := n, uf := m.uf : M } ∧
      ((SV.val (Value.int IntKind.i64 (0 : Int)) = SV.val (Value.int IntKind.i64 (↑a_1 : Int)) ∧ true = true) ∧
      (SV.val (Value.slice a l.length cp) = SV.val (Value.slice a l.length cp) ∧ true = true) ∧ True) ∧
      True) ∧
      ∀ (a_1 : Nat),
      a_1 ≤ l.length ∧ ledB none l = ledB (prevR l a_1) (List.drop a_1 l) →
      ifB (decide ((↑a_1 : Int) < (↑l.length : Int)))
      (true = true ∧
      ∃ (b : Nat),
      ∃ (off : Nat),
      a = some { block := b, off := off : Addr } ∧
      ((0 : Int) ≤ (↑a_1 : Int) ∧ (↑a_1 : Int) < (↑l.length : Int)) ∧
      ∃ (n_1 : Int),
      ∃ (s : ByteArray),
      ∃ (n_2 : Int),
      ∃ (n_3 : Int),
      CellsAt { π := m.π, sz := n, uf := m.uf : M } b (off + (↑a_1 : Int).toNat * (4 : Nat))
      [Value.int IntKind.i64 n_1, Value.string s, Value.int IntKind.i64 n_2, Value.int IntKind.i64 n_3] ∧
      ∃ (b : Bool),
      QSpec Try.prog (39 : Nat) [Value.agg #[Value.int IntKind.i64 n_1, Value.string s, Value.int IntKind.i64 n_2, Value.int IntKind.i64 n_3]]
      { π := m.π, sz := n, uf := m.uf : M } (Value.bool b) ∧
      ifB (!b) (Done (Value.bool false = Value.bool (ledB none l)))
      (ifB (decide ((↑a_1 : Int) > (0 : Int)))
      (∃ (b : Nat),
      ∃ (off : Nat),
      a = some { block := b, off := off : Addr } ∧
      ((0 : Int) ≤ IntKind.i64.wrap ((↑a_1 : Int) - (1 : Int)) ∧ IntKind.i64.wrap ((↑a_1 : Int) - (1 : Int)) < (↑l.length : Int)) ∧
      ∃ (n_4 : Int),
      ∃ (s : ByteArray),
      ∃ (n_5 : Int),
      ∃ (n_6 : Int),
      CellsAt { π := m.π, sz := n, uf := m.uf : M } b (off + (IntKind.i64.wrap ((↑a_1 : Int) - (1 : Int))).toNat * (4 : Nat))
      [Value.int IntKind.i64 n_4, Value.string s, Value.int IntKind.i64 n_5, Value.int IntKind.i64 n_6] ∧
      ∃ (b : Nat),
      ∃ (off : Nat),
      a = some { block := b, off := off : Addr } ∧
      ((0 : Int) ≤ (↑a_1 : Int) ∧ (↑a_1 : Int) < (↑l.length : Int)) ∧
      ∃ (n_7 : Int),
      ∃ (s_1 : ByteArray),
      ∃ (n_8 : Int),
      ∃ (n_9 : Int),
      CellsAt { π := m.π, sz := n, uf := m.uf : M } b (off + (↑a_1 : Int).toNat * (4 : Nat))
      [Value.int IntKind.i64 n_7, Value.string s_1, Value.int IntKind.i64 n_8, Value.int IntKind.i64 n_9] ∧
      ∃ (b : Bool),
      QSpec Try.prog (40 : Nat)
      [Value.agg
      #[Value.int IntKind.i64 n_4, Value.string s, Value.int IntKind.i64 n_5,
      Value.int IntKind.i64 n_6],
      Value.agg
      #[Value.int IntKind.i64 n_7, Value.string s_1, Value.int IntKind.i64 n_8,
      Value.int IntKind.i64 n_9]]
      { π := m.π, sz := n, uf := m.uf : M } (Value.bool b) ∧
      ifB (!b) (Done (Value.bool false = Value.bool (ledB none l)))
      (∃ (a' : Nat),
      ((a' ≤ l.length ∧ ledB none l = ledB (prevR l a') (List.drop a' l)) ∧
      { π := m.π, sz := n, uf := m.uf : M } = { π := m.π, sz := n, uf := m.uf : M } ∧
      ((SV.val (Value.int IntKind.i64 (IntKind.i64.wrap ((↑a_1 : Int) + (1 : Int)))) =
      SV.val (Value.int IntKind.i64 (↑a' : Int)) ∧
      true = true) ∧
      (SV.val (Value.slice a l.length cp) = SV.val (Value.slice a l.length cp) ∧
      true = true) ∧
      True) ∧
      True) ∧
      l.length - a' < l.length - a_1))
      (∃ (a' : Nat),
      ((a' ≤ l.length ∧ ledB none l = ledB (prevR l a') (List.drop a' l)) ∧
      { π := m.π, sz := n, uf := m.uf : M } = { π := m.π, sz := n, uf := m.uf : M } ∧
      ((SV.val (Value.int IntKind.i64 (IntKind.i64.wrap ((↑a_1 : Int) + (1 : Int)))) = SV.val (Value.int IntKind.i64 (↑a' : Int)) ∧
      true = true) ∧
      (SV.val (Value.slice a l.length cp) = SV.val (Value.slice a l.length cp) ∧ true = true) ∧ True) ∧
      True) ∧
      l.length - a' < l.length - a_1)))
      (Done (Value.bool true = Value.bool (ledB none l)))) (by kernel_rfl) ?_
  have h' := h.sz hn'
  refine ⟨rfl, ⟨0, by simp [prevR]⟩, fun k ⟨hk, hq⟩ => ifB_intro (fun hb => ?_) (fun hb => ⟨?_⟩)⟩
  · have hk2 : k < l.length := by simpa using hb
    obtain ⟨b, o, rfl, hc⟩ := h'.cells (by rw [rt_len]; omega)
    have w1 : IntKind.i64.wrap ((k : Int) + 1) = ((k + 1 : Nat) : Int) := by simp [IntKind.wrap_i64]; omega
    rw [List.drop_eq_getElem_cons hk2, ledB] at hq
    have hnx : prevR l (k + 1) = some l[k] := by simp [prevR, List.getElem?_eq_getElem hk2]
    have hp0 : k = 0 → okP (prevR l k) l[k] = true := fun e => by simp [prevR, e, okP]
    have hpk : ∀ (hk0 : 0 < k), okP (prevR l k) l[k] = bel (l[k - 1]'(by omega)) l[k] := fun hk0 => by
      have : k ≠ 0 := by omega
      simp [prevR, this, List.getElem?_eq_getElem (show k - 1 < l.length by omega), okP]
    have w2 : 0 < k → IntKind.i64.wrap ((k : Int) - 1) = ((k - 1 : Nat) : Int) := fun h => by simp [IntKind.wrap_i64]; omega
    have bad : (okP (prevR l k) l[k] && rmayB l[k]) = false → ledB none l = false := fun e => by rw [hq, e, Bool.false_and]
    have nx : (okP (prevR l k) l[k] && rmayB l[k]) = true → (k + 1 ≤ l.length ∧ ledB none l = ledB (prevR l (k + 1)) (l.drop (k + 1))) := fun e => ⟨hk2, by rw [hq, e, Bool.true_and, hnx]⟩
    refine ⟨rfl, b, o, rfl, by omega, _, _, _, _, by simpa using rt_at hc hk2, _, rrmay_q l[k] _, ifB_intro (fun h1 => ⟨?_⟩) (fun h1 => ifB_intro (fun h2 => ?_) (fun h2 => ⟨k + 1, ⟨nx ?_, by simp [w1]⟩, by omega⟩))⟩
    · have h1 : rmayB l[k] = false := by simpa using h1
      simp [bad (by simp [h1])]
    · have h1 : rmayB l[k] = true := by simpa using h1
      have h2 : 0 < k := by simpa using h2
      have hk3 : k - 1 < l.length := by omega
      rw [w2 h2]
      refine ⟨b, o, rfl, by omega, _, _, _, _, by simpa using rt_at hc hk3, b, o, rfl, by omega, _, _, _, _, by simpa using rt_at hc hk2, _, rbel_q l[k - 1] l[k] _, ifB_intro (fun h3 => ⟨?_⟩) (fun h3 => ⟨k + 1, ⟨nx ?_, by simp [w1]⟩, by omega⟩)⟩
      · have h3 : bel l[k - 1] l[k] = false := by simpa using h3
        simp [bad (by rw [hpk h2, h3]; rfl)]
      · have h3 : bel l[k - 1] l[k] = true := by simpa using h3
        rw [hpk h2, h3, h1]; rfl
    · have h1 : rmayB l[k] = true := by simpa using h1
      have h2 : k = 0 := by simp at h2; omega
      rw [hp0 h2, h1]; rfl
  · have : k = l.length := by simp at hb; omega
    rw [this] at hq
    simp [hq, ledB]

end Go.Proofs.Ytfkielfnceeedaa
