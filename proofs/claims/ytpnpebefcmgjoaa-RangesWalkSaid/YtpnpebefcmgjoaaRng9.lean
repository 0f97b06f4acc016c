/-
  Contracts of functions of this seat: what each hands back, and what it leaves of memory (rng9). Nothing here is trusted: Lean checks it.
-/
import Derived.Test.YtpnpebefcmgjoaaRng8
set_option linter.unusedVariables false
set_option linter.unusedSimpArgs false
namespace Go.Proofs.Ytpnpebefcmgjoaa
open Go.Vc Go.RowKit
set_option maxRecDepth 100000

theorem pl_epc {m : M} {b o i : Nat} {l : List Pl} (h : CellsAt m b o (pls l)) (hi : i < l.length) : CellsAt m b (o + i * 3 + 2) [I l[i].ep] :=
  ⟨fun j hj => by
    have hj : j = 0 := by simpa using hj
    subst hj
    have := (pl_at h hi).out 2 (by simp [encPl])
    simpa [encPl] using this⟩

structure EqX where
  i : Nat
  e : Int

theorem rf_epoch (l : List Pl) (a : Option Addr) (c : Nat) (hl : l.length ≤ 9223372036854775807) (m : M) (h : Row m a (pls l)) :
    QSpec Try.prog 24 [.slice a l.length c] m (I (epochL l)) := by
  refine QSpec.of_vc Try.func24 (ann := fun n _ => { A := EqX, inv := fun x => x.i ≤ l.length ∧ (l.drop x.i).foldl (fun e p => max e p.ep) x.e = epochL l, st := fun x => [(4, .val (I x.i)), (3, .val (I x.e)), (0, .val (.slice a l.length c))], own := fun _ => [], m := fun _ => { m with sz := n }, μ := fun x => l.length - x.i }) fun n hn => ?_
  refine vc_by (X :=
      true = true ∧
      (∃ (a_1 : EqX),
      (a_1.i ≤ l.length ∧ List.foldl (fun (e : Int) (p : Pl) => max e p.ep) a_1.e (List.drop a_1.i l) = epochL l) ∧
      { π := m.π, sz := n, uf := m.uf : M } = { π := m.π, sz := n, uf := m.uf : M } ∧
      ((SV.val (Value.int IntKind.i64 (0 : Int)) = SV.val (Value.int IntKind.i64 (↑a_1.i : Int)) ∧ true = true) ∧
      (SV.val (Value.int IntKind.i64 (0 : Int)) = SV.val (Value.int IntKind.i64 a_1.e) ∧ true = true) ∧
      (SV.val (Value.slice a l.length c) = SV.val (Value.slice a l.length c) ∧ true = true) ∧ True) ∧
      True) ∧
      ∀ (a_1 : EqX),
      a_1.i ≤ l.length ∧ List.foldl (fun (e : Int) (p : Pl) => max e p.ep) a_1.e (List.drop a_1.i l) = epochL l →
      ifB (decide ((↑a_1.i : Int) < (↑l.length : Int)))
      (∃ (b : Nat),
      ∃ (off : Nat),
      a = some { block := b, off := off : Addr } ∧
      ((0 : Int) ≤ (↑a_1.i : Int) ∧ (↑a_1.i : Int) < (↑l.length : Int)) ∧
      ∃ (n_1 : Int),
      CellsAt { π := m.π, sz := n, uf := m.uf : M } b (off + (↑a_1.i : Int).toNat * (3 : Nat) + (2 : Nat)) [Value.int IntKind.i64 n_1] ∧
      ∃ (a' : EqX),
      ((a'.i ≤ l.length ∧ List.foldl (fun (e : Int) (p : Pl) => max e p.ep) a'.e (List.drop a'.i l) = epochL l) ∧
      { π := m.π, sz := n, uf := m.uf : M } = { π := m.π, sz := n, uf := m.uf : M } ∧
      ((SV.val (Value.int IntKind.i64 (IntKind.i64.wrap ((↑a_1.i : Int) + (1 : Int)))) = SV.val (Value.int IntKind.i64 (↑a'.i : Int)) ∧ true = true) ∧
      (SV.val (Value.int IntKind.i64 (if n_1 > a_1.e then n_1 else a_1.e)) = SV.val (Value.int IntKind.i64 a'.e) ∧ true = true) ∧
      (SV.val (Value.slice a l.length c) = SV.val (Value.slice a l.length c) ∧ true = true) ∧ True) ∧
      True) ∧
      l.length - a'.i < l.length - a_1.i)
      (Done (Value.int IntKind.i64 a_1.e = Value.int IntKind.i64 (epochL l)))) (by kernel_rfl) ?_
  refine ⟨rfl, ⟨⟨0, 0⟩, ⟨Nat.zero_le _, rfl⟩, by simp⟩, fun ⟨k, e⟩ ⟨hk, hf⟩ => ifB_intro (fun h1 => ?_) (fun h1 => ⟨?_⟩)⟩
  · have hlt : k < l.length := by simpa using h1
    simp only at hf ⊢
    obtain ⟨b, o, rfl, hc⟩ := (h.sz hn).cells (by rw [pl_len]; omega)
    rw [List.drop_eq_getElem_cons hlt, List.foldl_cons] at hf
    have hmx : (if l[k].ep > e then l[k].ep else e) = max e l[k].ep := by split <;> omega
    refine ⟨b, o, rfl, by omega, _, by simpa using pl_epc hc hlt, ?_⟩
    rw [hmx]
    exact ⟨⟨k + 1, max e l[k].ep⟩, ⟨⟨hlt, hf⟩, by simp [wrap1 hlt hl]⟩, by simp only; omega⟩
  · have hk : k ≤ l.length := hk
    have : k = l.length := by simp at h1; omega
    subst this
    simp only [List.drop_length, List.foldl_nil] at hf
    rw [hf]

def delS (l : List Pl) (i : Nat) (e : Int) : List Pl := ((l.take (i + 1)) ++ l.drop (i + 2)).set i { l[i]?.getD pl0 with ep := e }

def mergeL (l : List Pl) (i : Int) : List Pl × Int :=
  if rightB l = false then ([], 21) else if (decide (i < 0) || (decide (i ≥ (l.length : Int) - 1) || decide (epochL l ≥ 4611686018427387904))) = true then ([], 170) else (delS l i.toNat (epochL l + 1), 0)

theorem rg_merge (l : List Pl) (a : Option Addr) (c : Nat) (i : Int) (hi : In64 i) (hl : l.length ≤ 9223372036854775807) (m : M) (h : Row m a (pls l)) :
    Vc.Spec Try.prog 28 [.slice a l.length c, I i] m (fun v m' => ResR (mergeL l i) v m') := by
  refine Vc.Spec.of_vc Try.func28 (ann := noAnn) ?_
  refine vc_by (X :=
      true = true ∧
      ∃ (n : Int),
      QSpec Try.prog (19 : Nat) [Value.slice a l.length c] m (Value.int IntKind.i64 n) ∧
      ifB (n != (0 : Int)) (Done (ResR (mergeL l i) (Value.tuple #[Value.slice none (0 : Nat) (0 : Nat), Value.int IntKind.i64 (21 : Int)]) m))
      (∃ (n : Int),
      QSpec Try.prog (23 : Nat) [Value.slice a l.length c] m (Value.int IntKind.i64 n) ∧
      ifB (decide (i < (0 : Int))) (Done (ResR (mergeL l i) (Value.tuple #[Value.slice none (0 : Nat) (0 : Nat), Value.int IntKind.i64 (170 : Int)]) m))
      (ifB (decide (i ≥ IntKind.i64.wrap ((↑l.length : Int) - (1 : Int))))
      (Done (ResR (mergeL l i) (Value.tuple #[Value.slice none (0 : Nat) (0 : Nat), Value.int IntKind.i64 (170 : Int)]) m))
      (ifB (decide (n ≥ (4611686018427387904 : Int)))
      (Done (ResR (mergeL l i) (Value.tuple #[Value.slice none (0 : Nat) (0 : Nat), Value.int IntKind.i64 (170 : Int)]) m))
      (∃ (S' : Nat → Prop),
      (∀ (b : Nat), S' b → m.uf b ∧ (m.sz ≤ b ∨ False)) ∧
      ∀ (n_1 : Nat),
      m.sz ≤ n_1 →
      SpecW Try.prog (35 : Nat) [Value.slice a l.length c] { π := m.π, sz := n_1, uf := m.uf : M } S' fun (v : Value) (m' : M) =>
      ∃ (a : Option Addr),
      ∃ (n_2 : Nat),
      ∃ (c : Nat),
      v = Value.slice a n_2 c ∧
      ∃ (S' : Nat → Prop),
      (∀ (b : Nat), S' b → m'.uf b ∧ (m.sz ≤ b ∨ False)) ∧
      ∀ (n_3 : Nat),
      m'.sz ≤ n_3 →
      SpecW Try.prog (36 : Nat)
      [Value.slice a n_2 c, Value.int IntKind.i64 (IntKind.i64.wrap (i + (1 : Int))),
      Value.int IntKind.i64 (IntKind.i64.wrap (i + (2 : Int)))]
      { π := m'.π, sz := n_3, uf := m'.uf : M } S' fun (v : Value) (m' : M) =>
      ∃ (a : Option Addr),
      ∃ (n_4 : Nat),
      ∃ (c : Nat),
      v = Value.slice a n_4 c ∧
      ∃ (b : Nat),
      ∃ (off : Nat),
      a = some { block := b, off := off : Addr } ∧
      ((0 : Int) ≤ i ∧ i < (↑n_4 : Int)) ∧
      Wr m.sz (fun (x : Nat) => False) m' b (off + i.toNat * (3 : Nat) + (2 : Nat))
      #[Value.int IntKind.i64 (IntKind.i64.wrap (n + (1 : Int)))].size ∧
      Done
      (ResR (mergeL l i) (Value.tuple #[Value.slice a n_4 c, Value.int IntKind.i64 (0 : Int)])
      (m'.setCells b (off + i.toNat * (3 : Nat) + (2 : Nat))
      [Value.int IntKind.i64 (IntKind.i64.wrap (n + (1 : Int)))]))))))) (by kernel_rfl) ?_
  refine ⟨rfl, _, rg_check l a c hl m h, ifB_intro (fun h1 => ⟨?_⟩) (fun h1 => ?_)⟩
  · have : rightB l = false := by
      cases hq : rightB l with
      | false => rfl
      | true => simp [hq] at h1
    simp only [mergeL, this, if_true]
    exact res_no _ _
  have hR : rightB l = true := by
    cases hq : rightB l with
    | true => rfl
    | false => simp [hq] at h1
  have h7 := right_len hR
  have hp := right_pos hR
  have w0 : IntKind.i64.wrap ((l.length : Int) - 1) = (l.length : Int) - 1 := by rw [IntKind.wrap_i64]; omega
  rw [w0]
  refine ⟨_, rg_epoch l _ c (by omega) (row_h0 h) m h, ifB_intro (fun h2 => ⟨?_⟩) (fun h2 => ifB_intro (fun h3 => ⟨?_⟩) (fun h3 => ifB_intro (fun h4 => ⟨?_⟩) (fun h4 => ?_)))⟩
  · simp only [mergeL, hR, h2, Bool.true_or, if_true]
    exact res_no _ _
  · simp only [mergeL, hR, h3, Bool.true_or, Bool.or_true, if_true]
    exact res_no _ _
  · simp only [mergeL, hR, h4, Bool.or_true, if_true]
    exact res_no _ _
  have hsp : mergeL l i = (delS l i.toNat (epochL l + 1), 0) := by
    simp only [mergeL, hR, h2, h3, h4]
    rfl
  have h2' : 0 ≤ i := by simpa using h2
  have h3' : i < (l.length : Int) - 1 := by simpa using h3
  have hE : ¬ epochL l ≥ 4611686018427387904 := by simpa using h4
  have hE0 : 0 ≤ epochL l := epoch_nn l 0
  have w1 : IntKind.i64.wrap (epochL l + 1) = epochL l + 1 := by rw [IntKind.wrap_i64]; omega
  obtain ⟨j, hj⟩ : ∃ j : Nat, i = (j : Int) := ⟨i.toNat, by omega⟩
  subst hj
  have w2 : IntKind.i64.wrap ((j : Int) + 1) = ((j + 1 : Nat) : Int) := by rw [IntKind.wrap_i64]; omega
  have w3 : IntKind.i64.wrap ((j : Int) + 2) = ((j + 1 + 1 : Nat) : Int) := by rw [IntKind.wrap_i64]; omega
  rw [hsp, w1, w2, w3]
  simp only [Int.toNat_natCast]
  generalize he : epochL l + 1 = e at *
  refine ⟨_, noS, fun n hn => (pl_clone l _ c (by omega) (row_h0 h) _ (h.sz hn)).monoW fun v m' hag ⟨a', c', hv, hr⟩ => ⟨a', l.length, c', hv, ?_⟩⟩
  have hN : m.sz ≤ n := hn
  have hle : n ≤ m'.sz := hag.2.2
  have ho := hr.toOwn (by omega)
  have hs := pl_delete a' c' l (j + 1) (fun b' => ∃ o, a' = some ⟨b', o, none⟩ ∧ m'.uf b' ∧ m.sz ≤ b') (by omega) (by omega)
  refine ⟨fun b' => ∃ o, a' = some ⟨b', o, none⟩ ∧ m'.uf b' ∧ m.sz ≤ b', fun b' ⟨o, e, hu, hlo⟩ => ⟨hu, .inl hlo⟩, fun n5 hn5 => ?_⟩
  refine (hs { m' with sz := n5 } ((ho.sz hn5).re fun b' o e => .inr ⟨o, e, ho.uf e, by have := ho.lo e; rcases this with h | h; simp only at h; omega; exact h.elim⟩)).mono fun v3 m3 hag3 ⟨hv3, hr3⟩ => ?_
  obtain ⟨L, hL⟩ : ∃ L, L = l.take (j + 1) ++ l.drop (j + 1 + 1) := ⟨_, rfl⟩
  have hLl : L.length = l.length - 1 := by rw [hL]; simp; omega
  have hLi : j < L.length := by omega
  have hLg : L[j] = l[j] := by
    simp only [hL]
    rw [List.getElem_append_left (by simp; omega)]
    simp
  have hown : OwnB m.sz (fun _ => False) m3 3 a' (l.length - 1) c' (L.flatMap encPl) := by
    rw [hL]
    refine hr3.re fun b' o e => ?_
    have h1 := hr3.lo e
    rcases h1 with h1 | ⟨_, _, _, h1⟩
    · simp only at h1; omega
    · omega
  obtain ⟨b3, o3, rfl, -⟩ := hown.row.cells (by rw [pl_len]; omega)
  obtain ⟨g1, g2⟩ := OwnB.setField pl_k hown hLi { l[j] with ep := e } (p := [I l[j].gr, .string l[j].fr]) (old := [I l[j].ep]) (new := [I e]) (q := []) (by rw [hLg]; rfl) rfl rfl
  have e1 : delS l j e = L.set j { l[j] with ep := e } := by
    rw [delS, hL, List.getElem?_eq_getElem (by omega)]; rfl
  refine ⟨_, _, _, hv3, b3, o3, rfl, by omega, by simpa using g1, ⟨⟨some ⟨b3, o3, none⟩, c', ?_, ?_⟩⟩⟩
  · have : (delS l j e).length = l.length - 1 := by rw [e1]; simp [hLl]
    rw [this]
  · rw [e1]
    simpa using g2.row

end Go.Proofs.Ytpnpebefcmgjoaa
