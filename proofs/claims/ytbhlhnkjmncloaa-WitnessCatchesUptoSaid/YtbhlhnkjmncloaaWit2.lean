/-
  Contracts of functions of this seat: what each hands back, and what it leaves of memory (wit2). Nothing here is trusted: Lean checks it.
-/
import Derived.Test.YtbhlhnkjmncloaaWit1
import Derived.Test.YtbhlhnkjmncloaaLan
import Derived.Test.YtbhlhnkjmncloaaLoq
set_option linter.unusedVariables false
set_option linter.unusedSimpArgs false
namespace Go.Proofs.Ytbhlhnkjmncloaa
open Go.Vc Go.RowKit
set_option maxRecDepth 100000

theorem tt_none {B : List Tt} {a : Option Addr} {m : M} (h : Row m a (tts B)) (e : a = none) : B = [] := by
  cases B with
  | nil => rfl
  | cons x xs =>
    obtain ⟨b, o, e2, -⟩ := h.cells (by rw [tt_len]; simp)
    rw [e] at e2; simp at e2

/-- may an operation be? -/
def mayO (o : Oq) : Bool := keyB o.ky && decide (1 ≤ o.kd) && decide (o.kd ≤ 8) && (if o.kd = 1 ∨ o.kd = 2 then decide (1 ≤ o.n) else if o.kd = 6 then decide (1 ≤ o.n) && keyB o.ot && !decide (o.ot = o.ky) else true)

theorem keyed_q (k : ByteArray) (m : M) : QSpec Try.prog 43 [.string k] m (.bool (keyB k)) := by
  refine QSpec.of_vc Try.func43 (ann := fun _ => noAnn) fun n hn => ?_
  refine vc_by (X :=
      true = true ∧
      ifB (decide ((↑k.size : Int) ≥ (1 : Int))) (Done (Value.bool (decide ((↑k.size : Int) ≤ (16 : Int))) = Value.bool (keyB k))) (Done (Value.bool false = Value.bool (keyB k)))) (by kernel_rfl) ?_
  refine ⟨rfl, ifB_intro (fun h => ⟨?_⟩) (fun h => ⟨?_⟩)⟩
  · have h1 : 1 ≤ k.size := by simp at h; omega
    simp [keyB, h1]; omega
  · simp at h; simp [keyB]; omega

theorem rkey_q (k : ByteArray) (m : M) : QSpec Try.prog 31 [.string k] m (.bool (keyB k)) := by
  refine QSpec.of_vc Try.func31 (ann := fun _ => noAnn) fun n hn => ?_
  refine vc_by (X :=
      true = true ∧
      ifB (decide ((↑k.size : Int) ≥ (1 : Int))) (Done (Value.bool (decide ((↑k.size : Int) ≤ (16 : Int))) = Value.bool (keyB k))) (Done (Value.bool false = Value.bool (keyB k)))) (by kernel_rfl) ?_
  refine ⟨rfl, ifB_intro (fun h => ⟨?_⟩) (fun h => ⟨?_⟩)⟩
  · have h1 : 1 ≤ k.size := by simp at h; omega
    simp [keyB, h1]; omega
  · simp at h; simp [keyB]; omega

theorem beq_eq_dec (a b : Int) : (a == b) = decide (a = b) := rfl

theorem wplain_q (x : Tt) (m : M) : QSpec Try.prog 44 [ttv x] m (.bool (plainT x)) := by
  refine QSpec.of_vc Try.func44 (ann := fun _ => noAnn) fun n hn => ?_
  refine vc_by (X :=
      true = true ∧
      ifB (x.sp_lo == (0 : Int) && (x.sp_hi == (0 : Int) && true)) (Done (Value.bool (x.va == (0 : Int)) = Value.bool (plainT x))) (Done (Value.bool false = Value.bool (plainT x)))) (by kernel_rfl) ?_
  refine ⟨rfl, ifB_intro (fun h => ⟨?_⟩) (fun h => ⟨?_⟩)⟩
  · simp at h; simp [plainT, h, beq_eq_dec]
  · simp at h; simp [plainT]; intro h1 h2; exact absurd h2 (h h1)

theorem wmay_q (o : Oq) (m : M) : QSpec Try.prog 33 [oqv o] m (.bool (mayO o)) := by
  refine QSpec.of_vc Try.func33 (ann := fun _ => noAnn) fun n hn => ?_
  refine vc_by (X :=
      true = true ∧
      ∃ (b : Bool),
      QSpec Try.prog (43 : Nat) [Value.string o.ky] { π := m.π, sz := n, uf := m.uf : M } (Value.bool b) ∧
      ifB (!b) (Done (Value.bool false = Value.bool (mayO o)))
      (ifB (decide (o.kd < (1 : Int))) (Done (Value.bool false = Value.bool (mayO o)))
      (ifB (decide (o.kd > (8 : Int))) (Done (Value.bool false = Value.bool (mayO o)))
      (ifB (o.kd == (1 : Int)) (Done (Value.bool (decide (o.n ≥ (1 : Int))) = Value.bool (mayO o)))
      (ifB (o.kd == (2 : Int)) (Done (Value.bool (decide (o.n ≥ (1 : Int))) = Value.bool (mayO o)))
      (ifB (o.kd == (6 : Int))
      (ifB (decide (o.n ≥ (1 : Int)))
      (∃ (b : Bool),
      QSpec Try.prog (43 : Nat) [Value.string o.ot] { π := m.π, sz := n, uf := m.uf : M } (Value.bool b) ∧
      ifB b (Done ((Value.bool !o.ot.toList == o.ky.toList) = Value.bool (mayO o))) (Done (Value.bool false = Value.bool (mayO o))))
      (Done (Value.bool false = Value.bool (mayO o))))
      (Done (Value.bool true = Value.bool (mayO o))))))))) (by kernel_rfl) ?_
  refine ⟨rfl, _, keyed_q _ _, ?_⟩
  cases hk : keyB o.ky
  · exact ifB_true ⟨by simp [mayO, hk]⟩
  refine ifB_false (ifB_intro (fun h1 => ⟨?_⟩) (fun h1 => ifB_intro (fun h2 => ⟨?_⟩) (fun h2 => ifB_intro (fun h3 => ⟨?_⟩) (fun h3 => ifB_intro (fun h4 => ⟨?_⟩) (fun h4 => ifB_intro (fun h5 => ifB_intro (fun h6 => ⟨_, keyed_q _ _, ifB_intro (fun h7 => ⟨?_⟩) (fun h7 => ⟨?_⟩)⟩) (fun h6 => ⟨?_⟩)) (fun h5 => ⟨?_⟩))))))
  · simp at h1; simp [mayO, show ¬ 1 ≤ o.kd by omega]
  · simp at h2; simp [mayO, show ¬ o.kd ≤ 8 by omega]
  · simp at h3; simp [mayO, hk, h3]
  · simp at h3 h4; simp [mayO, hk, h4]
  · simp at h3 h4 h5 h6; simp [mayO, hk, h5, h6, h7, bytes_beq]
  · simp at h3 h4 h5 h6; simp [mayO, hk, h5, h6, h7]
  · simp at h3 h4 h5 h6; simp [mayO, hk, h5, show ¬ 1 ≤ o.n by omega]
  · simp at h1 h2 h3 h4 h5; simp [mayO, hk, h1, h2, h3, h4, h5]

theorem cmpstr (a b : ByteArray) : CallV Try.prog 74 [.string a, .string b] (I (cmpS a b)) := by
  refine ⟨?_⟩
  rw [← cmp_cmpS]
  show (Value.int .i64 (Extern.BytealgCompare.cmp a b)) = _
  rfl

theorem cmps_q (a b : ByteArray) (m : M) : QSpec Try.prog 70 [.string a, .string b] m (I (cmpS a b)) := by
  refine QSpec.of_vc Try.func70 (ann := fun _ => noAnn) fun n hn => ?_
  refine vc_by (X :=
      true = true ∧ ∃ (n : Int), CallV Try.prog (74 : Nat) [Value.string a, Value.string b] (Value.int IntKind.i64 n) ∧ Done (Value.int IntKind.i64 n = Value.int IntKind.i64 (cmpS a b))) (by kernel_rfl) ?_
  exact ⟨rfl, _, cmpstr a b, ⟨rfl⟩⟩

theorem compare_q (a b : ByteArray) (m : M) : QSpec Try.prog 65 [.string a, .string b] m (I (cmpS a b)) := by
  refine QSpec.of_vc Try.func65 (ann := fun _ => noAnn) fun n hn => ?_
  refine vc_by (X :=
      true = true ∧
      ∃ (n_1 : Int),
      QSpec Try.prog (70 : Nat) [Value.string a, Value.string b] { π := m.π, sz := n, uf := m.uf : M } (Value.int IntKind.i64 n_1) ∧
      Done (Value.int IntKind.i64 n_1 = Value.int IntKind.i64 (cmpS a b))) (by kernel_rfl) ?_
  exact ⟨rfl, _, cmps_q a b _, ⟨rfl⟩⟩

theorem wplace1_q (x : Tt) (k : ByteArray) (m : M) : QSpec Try.prog 64 [ttv x, .string k] m (I (cmpS x.ky k)) := by
  refine QSpec.of_vc Try.func64 (ann := fun _ => noAnn) fun n hn => ?_
  refine vc_by (X :=
      true = true ∧
      ∃ (n_1 : Int),
      QSpec Try.prog (65 : Nat) [Value.string x.ky, Value.string k] { π := m.π, sz := n, uf := m.uf : M } (Value.int IntKind.i64 n_1) ∧
      Done (Value.int IntKind.i64 n_1 = Value.int IntKind.i64 (cmpS x.ky k))) (by kernel_rfl) ?_
  exact ⟨rfl, _, compare_q _ _ _, ⟨rfl⟩⟩

/-- the one ahead -/
def prevT (l : List Tt) (k : Nat) : Option Tt := if k = 0 then none else l[k - 1]?

theorem ltS_nlt (a b : ByteArray) : (Op.bytesLess a.toList b.toList || a.toList == b.toList) = !ltS b a := ltS_leq a b

theorem wcheck_q (a : Option Addr) (cp : Nat) (l : List Tt) (hn : l.length ≤ 9223372036854775807) (m : M) (h : Row m a (tts l)) : QSpec Try.prog 15 [.slice a l.length cp] m (I (if totB none l then 0 else 21)) := by
  refine QSpec.of_vc Try.func15 (ann := fun n _ => { A := Nat, inv := fun k => k ≤ l.length ∧ totB none l = totB (prevT l k) (l.drop k), st := fun k => [(7, .val (I k)), (6, .val (I l.length)), (5, .val (.slice a l.length cp)), (0, .val (.slice a l.length cp))], own := fun _ => [], m := fun _ => { m with sz := n }, μ := fun k => l.length - k }) fun n hn' => ?_
  refine vc_by (X :=
      true = true ∧
      (∃ (a_1 : Nat),
      (a_1 ≤ l.length ∧ totB none l = totB (prevT l a_1) (List.drop a_1 l)) ∧
      { π := m.π, sz := n, uf := m.uf : M } = { π := m.π, sz := n, uf := m.uf : M } ∧
      ((SV.val (Value.int IntKind.i64 (0 : Int)) = SV.val (Value.int IntKind.i64 (↑a_1 : Int)) ∧ true = true) ∧
      (SV.val (Value.int IntKind.i64 (↑l.length : Int)) = SV.val (Value.int IntKind.i64 (↑l.length : Int)) ∧ true = true) ∧
      (SV.val (Value.slice a l.length cp) = SV.val (Value.slice a l.length cp) ∧ true = true) ∧
      (SV.val (Value.slice a l.length cp) = SV.val (Value.slice a l.length cp) ∧ true = true) ∧ True) ∧
      True) ∧
      ∀ (a_1 : Nat),
      a_1 ≤ l.length ∧ totB none l = totB (prevT l a_1) (List.drop a_1 l) →
      ifB (decide ((↑a_1 : Int) < (↑l.length : Int)))
      (∃ (b : Nat),
      ∃ (off : Nat),
      a = some { block := b, off := off : Addr } ∧
      ((0 : Int) ≤ (↑a_1 : Int) ∧ (↑a_1 : Int) < (↑l.length : Int)) ∧
      ∃ (s : ByteArray),
      ∃ (n_1 : Int),
      ∃ (n_2 : Int),
      ∃ (n_3 : Int),
      CellsAt { π := m.π, sz := n, uf := m.uf : M } b (off + (↑a_1 : Int).toNat * (4 : Nat))
      [Value.string s, Value.int IntKind.i64 n_1, Value.int IntKind.i64 n_2, Value.int IntKind.i64 n_3] ∧
      true = true ∧
      ∃ (b : Bool),
      QSpec Try.prog (43 : Nat) [Value.string s] { π := m.π, sz := n, uf := m.uf : M } (Value.bool b) ∧
      ifB (!b) (Done (Value.int IntKind.i64 (21 : Int) = Value.int IntKind.i64 (if totB none l = true then (0 : Int) else (21 : Int))))
      (∃ (b : Bool),
      QSpec Try.prog (38 : Nat) [Value.agg #[Value.int IntKind.i64 n_1, Value.int IntKind.i64 n_2], Value.int IntKind.i64 n_3]
      { π := m.π, sz := n, uf := m.uf : M } (Value.bool b) ∧
      ifB (!b) (Done (Value.int IntKind.i64 (21 : Int) = Value.int IntKind.i64 (if totB none l = true then (0 : Int) else (21 : Int))))
      (∃ (b : Bool),
      QSpec Try.prog (44 : Nat) [Value.agg #[Value.string s, Value.int IntKind.i64 n_1, Value.int IntKind.i64 n_2, Value.int IntKind.i64 n_3]]
      { π := m.π, sz := n, uf := m.uf : M } (Value.bool b) ∧
      ifB b (Done (Value.int IntKind.i64 (21 : Int) = Value.int IntKind.i64 (if totB none l = true then (0 : Int) else (21 : Int))))
      (ifB (decide ((↑a_1 : Int) > (0 : Int)))
      (∃ (b : Nat),
      ∃ (off : Nat),
      a = some { block := b, off := off : Addr } ∧
      ((0 : Int) ≤ IntKind.i64.wrap ((↑a_1 : Int) - (1 : Int)) ∧
      IntKind.i64.wrap ((↑a_1 : Int) - (1 : Int)) < (↑l.length : Int)) ∧
      ∃ (s_1 : ByteArray),
      CellsAt { π := m.π, sz := n, uf := m.uf : M } b
      (off + (IntKind.i64.wrap ((↑a_1 : Int) - (1 : Int))).toNat * (4 : Nat) + (0 : Nat)) [Value.string s_1] ∧
      ifB (Op.bytesLess s.toList s_1.toList || s.toList == s_1.toList)
      (Done
      (Value.int IntKind.i64 (21 : Int) = Value.int IntKind.i64 (if totB none l = true then (0 : Int) else (21 : Int))))
      (∃ (a' : Nat),
      ((a' ≤ l.length ∧ totB none l = totB (prevT l a') (List.drop a' l)) ∧
      { π := m.π, sz := n, uf := m.uf : M } = { π := m.π, sz := n, uf := m.uf : M } ∧
      ((SV.val (Value.int IntKind.i64 (IntKind.i64.wrap ((↑a_1 : Int) + (1 : Int)))) =
      SV.val (Value.int IntKind.i64 (↑a' : Int)) ∧
      true = true) ∧
      (SV.val (Value.int IntKind.i64 (↑l.length : Int)) = SV.val (Value.int IntKind.i64 (↑l.length : Int)) ∧
      true = true) ∧
      (SV.val (Value.slice a l.length cp) = SV.val (Value.slice a l.length cp) ∧ true = true) ∧
      (SV.val (Value.slice a l.length cp) = SV.val (Value.slice a l.length cp) ∧ true = true) ∧ True) ∧
      True) ∧
      l.length - a' < l.length - a_1))
      (∃ (a' : Nat),
      ((a' ≤ l.length ∧ totB none l = totB (prevT l a') (List.drop a' l)) ∧
      { π := m.π, sz := n, uf := m.uf : M } = { π := m.π, sz := n, uf := m.uf : M } ∧
      ((SV.val (Value.int IntKind.i64 (IntKind.i64.wrap ((↑a_1 : Int) + (1 : Int)))) =
      SV.val (Value.int IntKind.i64 (↑a' : Int)) ∧
      true = true) ∧
      (SV.val (Value.int IntKind.i64 (↑l.length : Int)) = SV.val (Value.int IntKind.i64 (↑l.length : Int)) ∧ true = true) ∧
      (SV.val (Value.slice a l.length cp) = SV.val (Value.slice a l.length cp) ∧ true = true) ∧
      (SV.val (Value.slice a l.length cp) = SV.val (Value.slice a l.length cp) ∧ true = true) ∧ True) ∧
      True) ∧
      l.length - a' < l.length - a_1)))))
      (Done (Value.int IntKind.i64 (0 : Int) = Value.int IntKind.i64 (if totB none l = true then (0 : Int) else (21 : Int))))) (by kernel_rfl) ?_
  have h' := h.sz hn'
  refine ⟨rfl, ⟨0, by simp [prevT]⟩, fun k ⟨hk, hq⟩ => ifB_intro (fun hb => ?_) (fun hb => ⟨?_⟩)⟩
  · have hk2 : k < l.length := by simpa using hb
    obtain ⟨b, o, rfl, hc⟩ := h'.cells (by rw [tt_len]; omega)
    have w1 : IntKind.i64.wrap ((k : Int) + 1) = ((k + 1 : Nat) : Int) := by simp [IntKind.wrap_i64]; omega
    rw [List.drop_eq_getElem_cons hk2, totB] at hq
    have hnx : prevT l (k + 1) = some l[k] := by simp [prevT, List.getElem?_eq_getElem hk2]
    have hp0 : k = 0 → okT0 (prevT l k) l[k] = true := fun e => by simp [prevT, e, okT0]
    have hpk : ∀ (hk0 : 0 < k), okT0 (prevT l k) l[k] = belT (l[k - 1]'(by omega)) l[k] := fun hk0 => by
      have : k ≠ 0 := by omega
      simp [prevT, this, List.getElem?_eq_getElem (show k - 1 < l.length by omega), okT0]
    have w2 : 0 < k → IntKind.i64.wrap ((k : Int) - 1) = ((k - 1 : Nat) : Int) := fun h => by simp [IntKind.wrap_i64]; omega
    have bad : (okT0 (prevT l k) l[k] && tmayB l[k]) = false → totB none l = false := fun e => by rw [hq, e, Bool.false_and]
    have nx : (okT0 (prevT l k) l[k] && tmayB l[k]) = true → (k + 1 ≤ l.length ∧ totB none l = totB (prevT l (k + 1)) (l.drop (k + 1))) := fun e => ⟨hk2, by rw [hq, e, Bool.true_and, hnx]⟩
    refine ⟨b, o, rfl, by omega, _, _, _, _, by simpa using tt_at hc hk2, rfl, _, keyed_q _ _, ifB_intro (fun h1 => ⟨?_⟩) (fun h1 => ⟨_, has_q _ _ _ _, ifB_intro (fun h2 => ⟨?_⟩) (fun h2 => ⟨_, wplain_q l[k] _, ifB_intro (fun h3 => ⟨?_⟩) (fun h3 => ?_)⟩)⟩)⟩
    · have h1 : keyB l[k].ky = false := by simpa using h1
      simp [bad (by simp [tmayB, h1])]
    · have h2 : hasT l[k] = false := by have e : (!hasT l[k]) = true := h2; simpa using e
      simp [bad (by simp [tmayB, h2])]
    · simp [bad (by simp [tmayB, h3])]
    · have h1 : keyB l[k].ky = true := by simpa using h1
      have h2 : hasT l[k] = true := by have e : (!hasT l[k]) = false := h2; simpa using e
      have ht : tmayB l[k] = true := by simp [tmayB, h1, h2, h3]
      refine ifB_intro (fun h4 => ?_) (fun h4 => ⟨k + 1, ⟨nx ?_, by simp [w1]⟩, by omega⟩)
      · have h4 : 0 < k := by simpa using h4
        have hk3 : k - 1 < l.length := by omega
        have hc0 := CellsAt.field tt_k hc hk3 (p := []) (old := [.string l[k - 1].ky]) (q := [I l[k - 1].sp_lo, I l[k - 1].sp_hi, I l[k - 1].va]) rfl
        rw [w2 h4]
        refine ⟨b, o, rfl, by omega, _, by simpa using hc0, ?_⟩
        rw [ltS_nlt]
        refine ifB_intro (fun h5 => ⟨?_⟩) (fun h5 => ⟨k + 1, ⟨nx ?_, by simp [w1]⟩, by omega⟩)
        · have h5 : belT l[k - 1] l[k] = false := by simpa [belT] using h5
          simp [bad (by rw [hpk h4, h5]; rfl)]
        · have h5 : belT l[k - 1] l[k] = true := by simpa [belT] using h5
          rw [hpk h4, h5, ht]; rfl
      · have h4 : k = 0 := by simp at h4; omega
        rw [hp0 h4, ht]; rfl
  · have : k = l.length := by simp at hb; omega
    rw [this] at hq
    simp [hq, totB]

theorem rtright_q (a : Option Addr) (cp : Nat) (l : List Tt) (hn : l.length ≤ 9223372036854775807) (m : M) (h : Row m a (tts l)) : QSpec Try.prog 11 [.slice a l.length cp] m (.bool (totB none l)) := by
  refine QSpec.of_vc Try.func11 (ann := fun n _ => { A := Nat, inv := fun k => k ≤ l.length ∧ totB none l = totB (prevT l k) (l.drop k), st := fun k => [(3, .val (I k)), (0, .val (.slice a l.length cp))], own := fun _ => [], m := fun _ => { m with sz := n }, μ := fun k => l.length - k }) fun n hn' => ?_
  refine vc_by (X :=
      true = true ∧
      (∃ (a_1 : Nat),
      (a_1 ≤ l.length ∧ totB none l = totB (prevT l a_1) (List.drop a_1 l)) ∧
      { π := m.π, sz := n, uf := m.uf : M } = { π := m.π, sz := n, uf := m.uf : M } ∧
      ((SV.val (Value.int IntKind.i64 (0 : Int)) = SV.val (Value.int IntKind.i64 (↑a_1 : Int)) ∧ true = true) ∧
      (SV.val (Value.slice a l.length cp) = SV.val (Value.slice a l.length cp) ∧ true = true) ∧ True) ∧
      True) ∧
      ∀ (a_1 : Nat),
      a_1 ≤ l.length ∧ totB none l = totB (prevT l a_1) (List.drop a_1 l) →
      ifB (decide ((↑a_1 : Int) < (↑l.length : Int)))
      (∃ (b : Nat),
      ∃ (off : Nat),
      a = some { block := b, off := off : Addr } ∧
      ((0 : Int) ≤ (↑a_1 : Int) ∧ (↑a_1 : Int) < (↑l.length : Int)) ∧
      ∃ (s : ByteArray),
      ∃ (n_1 : Int),
      ∃ (n_2 : Int),
      ∃ (n_3 : Int),
      CellsAt { π := m.π, sz := n, uf := m.uf : M } b (off + (↑a_1 : Int).toNat * (4 : Nat))
      [Value.string s, Value.int IntKind.i64 n_1, Value.int IntKind.i64 n_2, Value.int IntKind.i64 n_3] ∧
      true = true ∧
      ∃ (b : Bool),
      QSpec Try.prog (31 : Nat) [Value.string s] { π := m.π, sz := n, uf := m.uf : M } (Value.bool b) ∧
      ifB (!b) (Done (Value.bool false = Value.bool (totB none l)))
      (∃ (b : Bool),
      QSpec Try.prog (32 : Nat) [Value.agg #[Value.int IntKind.i64 n_1, Value.int IntKind.i64 n_2], Value.int IntKind.i64 n_3]
      { π := m.π, sz := n, uf := m.uf : M } (Value.bool b) ∧
      ifB (!b) (Done (Value.bool false = Value.bool (totB none l)))
      (ifB (s.toList == s.toList && (n_1 == (0 : Int) && (n_2 == (0 : Int) && true) && (n_3 == (0 : Int) && true)))
      (Done (Value.bool false = Value.bool (totB none l)))
      (ifB (decide ((↑a_1 : Int) > (0 : Int)))
      (∃ (b : Nat),
      ∃ (off : Nat),
      a = some { block := b, off := off : Addr } ∧
      ((0 : Int) ≤ IntKind.i64.wrap ((↑a_1 : Int) - (1 : Int)) ∧ IntKind.i64.wrap ((↑a_1 : Int) - (1 : Int)) < (↑l.length : Int)) ∧
      ∃ (s_1 : ByteArray),
      CellsAt { π := m.π, sz := n, uf := m.uf : M } b
      (off + (IntKind.i64.wrap ((↑a_1 : Int) - (1 : Int))).toNat * (4 : Nat) + (0 : Nat)) [Value.string s_1] ∧
      ifB (Op.bytesLess s.toList s_1.toList || s.toList == s_1.toList) (Done (Value.bool false = Value.bool (totB none l)))
      (∃ (a' : Nat),
      ((a' ≤ l.length ∧ totB none l = totB (prevT l a') (List.drop a' l)) ∧
      { π := m.π, sz := n, uf := m.uf : M } = { π := m.π, sz := n, uf := m.uf : M } ∧
      ((SV.val (Value.int IntKind.i64 (IntKind.i64.wrap ((↑a_1 : Int) + (1 : Int)))) =
      SV.val (Value.int IntKind.i64 (↑a' : Int)) ∧
      true = true) ∧
      (SV.val (Value.slice a l.length cp) = SV.val (Value.slice a l.length cp) ∧ true = true) ∧ True) ∧
      True) ∧
      l.length - a' < l.length - a_1))
      (∃ (a' : Nat),
      ((a' ≤ l.length ∧ totB none l = totB (prevT l a') (List.drop a' l)) ∧
      { π := m.π, sz := n, uf := m.uf : M } = { π := m.π, sz := n, uf := m.uf : M } ∧
      ((SV.val (Value.int IntKind.i64 (IntKind.i64.wrap ((↑a_1 : Int) + (1 : Int)))) = SV.val (Value.int IntKind.i64 (↑a' : Int)) ∧
      true = true) ∧
      (SV.val (Value.slice a l.length cp) = SV.val (Value.slice a l.length cp) ∧ true = true) ∧ True) ∧
      True) ∧
      l.length - a' < l.length - a_1)))))
      (Done (Value.bool true = Value.bool (totB none l)))) (by kernel_rfl) ?_
  have h' := h.sz hn'
  refine ⟨rfl, ⟨0, by simp [prevT]⟩, fun k ⟨hk, hq⟩ => ifB_intro (fun hb => ?_) (fun hb => ⟨?_⟩)⟩
  · have hk2 : k < l.length := by simpa using hb
    obtain ⟨b, o, rfl, hc⟩ := h'.cells (by rw [tt_len]; omega)
    have w1 : IntKind.i64.wrap ((k : Int) + 1) = ((k + 1 : Nat) : Int) := by simp [IntKind.wrap_i64]; omega
    rw [List.drop_eq_getElem_cons hk2, totB] at hq
    have hnx : prevT l (k + 1) = some l[k] := by simp [prevT, List.getElem?_eq_getElem hk2]
    have hp0 : k = 0 → okT0 (prevT l k) l[k] = true := fun e => by simp [prevT, e, okT0]
    have hpk : ∀ (hk0 : 0 < k), okT0 (prevT l k) l[k] = belT (l[k - 1]'(by omega)) l[k] := fun hk0 => by
      have : k ≠ 0 := by omega
      simp [prevT, this, List.getElem?_eq_getElem (show k - 1 < l.length by omega), okT0]
    have w2 : 0 < k → IntKind.i64.wrap ((k : Int) - 1) = ((k - 1 : Nat) : Int) := fun h => by simp [IntKind.wrap_i64]; omega
    have bad : (okT0 (prevT l k) l[k] && tmayB l[k]) = false → totB none l = false := fun e => by rw [hq, e, Bool.false_and]
    have nx : (okT0 (prevT l k) l[k] && tmayB l[k]) = true → (k + 1 ≤ l.length ∧ totB none l = totB (prevT l (k + 1)) (l.drop (k + 1))) := fun e => ⟨hk2, by rw [hq, e, Bool.true_and, hnx]⟩
    have ep : (l[k].ky.toList == l[k].ky.toList && (l[k].sp_lo == 0 && (l[k].sp_hi == 0 && true) && (l[k].va == 0 && true))) = plainT l[k] := by simp [plainT, beq_eq_dec]
    refine ⟨b, o, rfl, by omega, _, _, _, _, by simpa using tt_at hc hk2, rfl, _, rkey_q _ _, ifB_intro (fun h1 => ⟨?_⟩) (fun h1 => ⟨_, rhas_q _ _ _ _, ifB_intro (fun h2 => ⟨?_⟩) (fun h2 => ?_)⟩)⟩
    · have h1 : keyB l[k].ky = false := by simpa using h1
      simp [bad (by simp [tmayB, h1])]
    · have h2 : hasT l[k] = false := by have e : (!hasT l[k]) = true := h2; simpa using e
      simp [bad (by simp [tmayB, h2])]
    rw [ep]
    refine ifB_intro (fun h3 => ⟨?_⟩) (fun h3 => ?_)
    · simp [bad (by simp [tmayB, h3])]
    · have h1 : keyB l[k].ky = true := by simpa using h1
      have h2 : hasT l[k] = true := by have e : (!hasT l[k]) = false := h2; simpa using e
      have ht : tmayB l[k] = true := by simp [tmayB, h1, h2, h3]
      refine ifB_intro (fun h4 => ?_) (fun h4 => ⟨k + 1, ⟨nx ?_, by simp [w1]⟩, by omega⟩)
      · have h4 : 0 < k := by simpa using h4
        have hk3 : k - 1 < l.length := by omega
        have hc0 := CellsAt.field tt_k hc hk3 (p := []) (old := [.string l[k - 1].ky]) (q := [I l[k - 1].sp_lo, I l[k - 1].sp_hi, I l[k - 1].va]) rfl
        rw [w2 h4]
        refine ⟨b, o, rfl, by omega, _, by simpa using hc0, ?_⟩
        rw [ltS_nlt]
        refine ifB_intro (fun h5 => ⟨?_⟩) (fun h5 => ⟨k + 1, ⟨nx ?_, by simp [w1]⟩, by omega⟩)
        · have h5 : belT l[k - 1] l[k] = false := by simpa [belT] using h5
          simp [bad (by rw [hpk h4, h5]; rfl)]
        · have h5 : belT l[k - 1] l[k] = true := by simpa [belT] using h5
          rw [hpk h4, h5, ht]; rfl
      · have h4 : k = 0 := by simp at h4; omega
        rw [hp0 h4, ht]; rfl
  · have : k = l.length := by simp at hb; omega
    rw [this] at hq
    simp [hq, totB]

/-- a key's -/
def zT (k : ByteArray) : Tt := ⟨k, 0, 0, 0⟩

def fndT (l : List Tt) (k : ByteArray) : Tt := (ofT l (zT k)).getD (zT k)

end Go.Proofs.Ytbhlhnkjmncloaa
