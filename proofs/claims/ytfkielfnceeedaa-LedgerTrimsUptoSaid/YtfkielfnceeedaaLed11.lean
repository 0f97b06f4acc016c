/-
  Contracts of functions of this seat: what each hands back, and what it leaves of memory (led11). Nothing here is trusted: Lean checks it.
-/
import Derived.Test.YtfkielfnceeedaaLed10
set_option linter.unusedVariables false
set_option linter.unusedSimpArgs false
namespace Go.Proofs.Ytfkielfnceeedaa
open Go.Vc Go.RowKit
set_option maxRecDepth 100000

theorem same_axs (a a2 : Option Addr) (c c2 : Nat) (z z2 : List Ax) (hn : z.length ≤ 9223372036854775807) (hz : ∀ y ∈ z, y.x.wf) (hz2 : ∀ y ∈ z2, y.x.wf) (m : M) (h : AxR m a z) (h2 : AxR m a2 z2) :
    QSpec Try.prog 53 [.slice a z.length c, .slice a2 z2.length c2, .func (.func 31) #[] #[]] m (.bool (decide (z.map (·.x) = z2.map (·.x)))) := by
  refine QSpec.of_vc Try.func53 (ann := fun n _ => { A := Nat, inv := fun k => k ≤ z.length ∧ (z.map (·.x)).take k = (z2.map (·.x)).take k, st := fun k => [(7, .val (I k)), (0, .val (.slice a z.length c)), (1, .val (.slice a2 z2.length c2)), (2, .val (.func (.func 31) #[] #[]))], own := fun _ => [], m := fun _ => { m with sz := n }, μ := fun k => z.length - k }) fun n hn' => ?_
  refine vc_by (X :=
      true = true ∧
      ifB ((↑z.length : Int) != (↑z2.length : Int)) (Done (Value.bool false = Value.bool (decide (List.map (fun (x : Ax) => x.x) z = List.map (fun (x : Ax) => x.x) z2))))
      ((∃ (a_1 : Nat),
      (a_1 ≤ z.length ∧ List.take a_1 (List.map (fun (x : Ax) => x.x) z) = List.take a_1 (List.map (fun (x : Ax) => x.x) z2)) ∧
      { π := m.π, sz := n, uf := m.uf : M } = { π := m.π, sz := n, uf := m.uf : M } ∧
      ((SV.val (Value.int IntKind.i64 (0 : Int)) = SV.val (Value.int IntKind.i64 (↑a_1 : Int)) ∧ true = true) ∧
      (SV.val (Value.slice a z.length c) = SV.val (Value.slice a z.length c) ∧ true = true) ∧
      (SV.val (Value.slice a2 z2.length c2) = SV.val (Value.slice a2 z2.length c2) ∧ true = true) ∧
      (SV.val (Value.func (Fn.func (31 : FuncId)) #[] #[]) = SV.val (Value.func (Fn.func (31 : FuncId)) #[] #[]) ∧ true = true) ∧ True) ∧
      True) ∧
      ∀ (a_1 : Nat),
      a_1 ≤ z.length ∧ List.take a_1 (List.map (fun (x : Ax) => x.x) z) = List.take a_1 (List.map (fun (x : Ax) => x.x) z2) →
      ifB (decide ((↑a_1 : Int) < (↑z.length : Int)))
      (true = true ∧
      ∃ (b : Nat),
      ∃ (off : Nat),
      a = some { block := b, off := off : Addr } ∧
      ((0 : Int) ≤ (↑a_1 : Int) ∧ (↑a_1 : Int) < (↑z.length : Int)) ∧
      ∃ (s : ByteArray),
      ∃ (n_1 : Int),
      ∃ (n_2 : Int),
      ∃ (n_3 : Int),
      ∃ (n_4 : Int),
      ∃ (a_3 : Option Addr),
      ∃ (n_5 : Nat),
      ∃ (c_1 : Nat),
      ∃ (n_6 : Int),
      ∃ (n_7 : Int),
      ∃ (n_8 : Int),
      ∃ (n_9 : Int),
      CellsAt { π := m.π, sz := n, uf := m.uf : M } b (off + (↑a_1 : Int).toNat * (10 : Nat))
      [Value.string s, Value.int IntKind.i64 n_1, Value.int IntKind.i64 n_2, Value.int IntKind.i64 n_3, Value.int IntKind.i64 n_4,
      Value.slice a_3 n_5 c_1, Value.int IntKind.i64 n_6, Value.int IntKind.i64 n_7, Value.int IntKind.i64 n_8,
      Value.int IntKind.i64 n_9] ∧
      ∃ (b : Nat),
      ∃ (off : Nat),
      a2 = some { block := b, off := off : Addr } ∧
      ((0 : Int) ≤ (↑a_1 : Int) ∧ (↑a_1 : Int) < (↑z2.length : Int)) ∧
      ∃ (s_1 : ByteArray),
      ∃ (n_10 : Int),
      ∃ (n_11 : Int),
      ∃ (n_12 : Int),
      ∃ (n_13 : Int),
      ∃ (a_4 : Option Addr),
      ∃ (n_14 : Nat),
      ∃ (c_2 : Nat),
      ∃ (n_15 : Int),
      ∃ (n_16 : Int),
      ∃ (n_17 : Int),
      ∃ (n_18 : Int),
      CellsAt { π := m.π, sz := n, uf := m.uf : M } b (off + (↑a_1 : Int).toNat * (10 : Nat))
      [Value.string s_1, Value.int IntKind.i64 n_10, Value.int IntKind.i64 n_11,
      Value.int IntKind.i64 n_12, Value.int IntKind.i64 n_13, Value.slice a_4 n_14 c_2,
      Value.int IntKind.i64 n_15, Value.int IntKind.i64 n_16, Value.int IntKind.i64 n_17,
      Value.int IntKind.i64 n_18] ∧
      ∃ (b : Bool),
      QSpec Try.prog (31 : FuncId)
      [Value.agg
      #[Value.string s, Value.int IntKind.i64 n_1, Value.int IntKind.i64 n_2,
      Value.int IntKind.i64 n_3, Value.int IntKind.i64 n_4, Value.slice a_3 n_5 c_1,
      Value.int IntKind.i64 n_6, Value.int IntKind.i64 n_7, Value.int IntKind.i64 n_8,
      Value.int IntKind.i64 n_9],
      Value.agg
      #[Value.string s_1, Value.int IntKind.i64 n_10, Value.int IntKind.i64 n_11,
      Value.int IntKind.i64 n_12, Value.int IntKind.i64 n_13, Value.slice a_4 n_14 c_2,
      Value.int IntKind.i64 n_15, Value.int IntKind.i64 n_16, Value.int IntKind.i64 n_17,
      Value.int IntKind.i64 n_18]]
      { π := m.π, sz := n, uf := m.uf : M } (Value.bool b) ∧
      ifB (!b)
      (Done
      (Value.bool false =
      Value.bool
      (decide (List.map (fun (x : Ax) => x.x) z = List.map (fun (x : Ax) => x.x) z2))))
      (∃ (a' : Nat),
      ((a' ≤ z.length ∧
      List.take a' (List.map (fun (x : Ax) => x.x) z) =
      List.take a' (List.map (fun (x : Ax) => x.x) z2)) ∧
      { π := m.π, sz := n, uf := m.uf : M } = { π := m.π, sz := n, uf := m.uf : M } ∧
      ((SV.val (Value.int IntKind.i64 (IntKind.i64.wrap ((↑a_1 : Int) + (1 : Int)))) =
      SV.val (Value.int IntKind.i64 (↑a' : Int)) ∧
      true = true) ∧
      (SV.val (Value.slice a z.length c) = SV.val (Value.slice a z.length c) ∧
      true = true) ∧
      (SV.val (Value.slice a2 z2.length c2) = SV.val (Value.slice a2 z2.length c2) ∧
      true = true) ∧
      (SV.val (Value.func (Fn.func (31 : FuncId)) #[] #[]) =
      SV.val (Value.func (Fn.func (31 : FuncId)) #[] #[]) ∧
      true = true) ∧
      True) ∧
      True) ∧
      z.length - a' < z.length - a_1))
      (Done (Value.bool true = Value.bool (decide (List.map (fun (x : Ax) => x.x) z = List.map (fun (x : Ax) => x.x) z2)))))) (by kernel_rfl) ?_
  have h' := h.sz hn'
  have h2' := h2.sz hn'
  refine ⟨rfl, ifB_intro (fun hb => ⟨?_⟩) (fun hb => ⟨⟨0, by simp⟩, fun k hk => ifB_intro (fun hb2 => ?_) (fun hb2 => ⟨?_⟩)⟩)⟩
  · have : z.map (·.x) ≠ z2.map (·.x) := fun e => by have := congrArg List.length e; simp at this; simp [this] at hb
    simp [this]
  · have hlen : z.length = z2.length := by simp at hb; omega
    have hk2 : k < z.length := by simpa using hb2
    have hk3 : k < z2.length := by omega
    obtain ⟨b, o, rfl, hc⟩ := h'.row.cells (by rw [axs_len]; omega)
    obtain ⟨b2, o2, rfl, hc2⟩ := h2'.row.cells (by rw [axs_len]; omega)
    have w1 : IntKind.i64.wrap ((k : Int) + 1) = ((k + 1 : Nat) : Int) := by simp [IntKind.wrap_i64]; omega
    have m1 := List.getElem_mem hk2
    have m2 := List.getElem_mem hk3
    refine ⟨rfl, b, o, rfl, by omega, _, _, _, _, _, _, _, _, _, _, _, _, by simpa using ax_at hc hk2, b2, o2, rfl, by omega, _, _, _, _, _, _, _, _, _, _, _, _, by simpa using ax_at hc2 hk3, _, saccount_q z[k].x z2[k].x z[k].a z2[k].a z[k].c z2[k].c (hz _ m1) (hz2 _ m2) _ (h'.hs _ m1) (h2'.hs _ m2), ifB_intro (fun h3 => ⟨?_⟩) (fun h3 => ⟨k + 1, ⟨⟨hk2, ?_⟩, by simp [w1]⟩, by omega⟩)⟩
    · have h3 : z[k].x ≠ z2[k].x := by simpa using h3
      have : z.map (·.x) ≠ z2.map (·.x) := fun e => h3 (by
        have e1 : (z.map (·.x))[k]? = (z2.map (·.x))[k]? := by rw [e]
        simpa [List.getElem?_eq_getElem hk2, List.getElem?_eq_getElem hk3] using e1)
      simp [this]
    · have h3 : z[k].x = z2[k].x := by simpa using h3
      rw [List.take_succ_eq_append_getElem (by simpa using hk2), List.take_succ_eq_append_getElem (by simpa using hk3), hk.2]
      simp [h3]
  · have hlen : z.length = z2.length := by simp at hb; omega
    have : k = z.length := by simp at hb2; omega
    have e := hk.2
    rw [List.take_of_length_le (by simp; omega), List.take_of_length_le (by simp; omega)] at e
    simp [e]

/-- the node holds that lease of it -/
def leaB (nd : Int) (r : Rt) (x : Ac) : Bool := findB x nd && (decide (x.key = r.ky) && decide ((findH x nd).le = r.le))

theorem trim11_q (y : Ax) (b : Nat) (nd : Int) (b2 : Nat) (r : Rt) (hy : y.x.wf) (m : M) (hr : Row m y.a (hds y.x.hs)) (h1 : CellsAt m b 0 [I nd]) (h2 : CellsAt m b2 0 (encRt r)) : QSpec Try.prog 50 [acv y.x y.a y.c, .pointer (some ⟨b, 0, none⟩), .pointer (some ⟨b2, 0, none⟩)] m (.bool (leaB nd r y.x)) := by
  refine QSpec.of_vc Try.func50 (ann := fun _ => noAnn) fun n hn' => ?_
  refine vc_by (X :=
      true = true ∧
      ∃ (n_1 : Int),
      CellsAt { π := m.π, sz := n, uf := m.uf : M } b (0 : Nat) [Value.int IntKind.i64 n_1] ∧
      ∃ (n_2 : Int),
      ∃ (n_3 : Int),
      ∃ (n_4 : Int),
      ∃ (n_5 : Int),
      ∃ (b : Bool),
      QSpec Try.prog (33 : Nat)
      [Value.agg
      #[Value.string y.x.key, Value.int IntKind.i64 y.x.lo, Value.int IntKind.i64 y.x.hi, Value.int IntKind.i64 y.x.base, Value.int IntKind.i64 y.x.round,
      Value.slice y.a y.x.hs.length y.c, Value.int IntKind.i64 y.x.lk.cl, Value.int IntKind.i64 y.x.lk.sq, Value.int IntKind.i64 y.x.lk.hm,
      Value.int IntKind.i64 y.x.lk.n],
      Value.int IntKind.i64 n_1]
      { π := m.π, sz := n, uf := m.uf : M }
      (Value.tuple #[Value.agg #[Value.int IntKind.i64 n_2, Value.int IntKind.i64 n_3, Value.int IntKind.i64 n_4, Value.int IntKind.i64 n_5], Value.bool b]) ∧
      ifB b
      (∃ (s : ByteArray),
      CellsAt { π := m.π, sz := n, uf := m.uf : M } b2 (1 : Nat) [Value.string s] ∧
      ifB (y.x.key.toList == s.toList)
      (∃ (n_6 : Int),
      CellsAt { π := m.π, sz := n, uf := m.uf : M } b2 (2 : Nat) [Value.int IntKind.i64 n_6] ∧ Done (Value.bool (n_3 == n_6) = Value.bool (leaB nd r y.x)))
      (Done (Value.bool false = Value.bool (leaB nd r y.x))))
      (Done (Value.bool false = Value.bool (leaB nd r y.x)))) (by kernel_rfl) ?_
  have k1 : CellsAt { m with sz := n } b2 1 [.string r.ky] := CellsAt.take (ds := [I r.le, I r.ne]) (CellsAt.drop (cs := [I r.g]) (ds := [.string r.ky, I r.le, I r.ne]) ⟨h2.out⟩)
  have k2 : CellsAt { m with sz := n } b2 2 [I r.le] := CellsAt.take (ds := [I r.ne]) (CellsAt.drop (cs := [I r.g, .string r.ky]) (ds := [I r.le, I r.ne]) ⟨h2.out⟩)
  refine ⟨rfl, nd, ⟨h1.out⟩, _, _, _, _, _, find_q y.x y.a y.c nd hy _ (hr.sz hn'), ?_⟩
  cases hf : findB y.x nd
  · exact ifB_false ⟨by simp [leaB, hf]⟩
  refine ifB_true ⟨_, k1, ?_⟩
  rw [bytes_beq]
  refine ifB_intro (fun h3 => ⟨_, k2, ⟨?_⟩⟩) (fun h3 => ⟨?_⟩)
  · simp only [leaB, hf, h3, Bool.true_and]; rfl
  · simp only [leaB, hf, h3, Bool.true_and, Bool.false_and]

def idxG {α : Type} (p : α → Bool) (l : List α) : Int := match l.findIdx? p with | some i => i | none => -1

theorem idxG_found {α : Type} {p : α → Bool} {l : List α} {k : Nat} (hk : k < l.length) (h1 : ∀ h ∈ l.take k, p h = false) (h2 : p l[k] = true) : idxG p l = k := by
  have : l.findIdx? p = some k := by
    rw [List.findIdx?_eq_some_iff_getElem]
    refine ⟨hk, h2, fun j hj => ?_⟩
    have := h1 l[j] (by rw [List.mem_take_iff_getElem]; exact ⟨j, by omega, rfl⟩)
    simp [this]
  simp [idxG, this]

theorem idxG_none {α : Type} {p : α → Bool} {l : List α} (h1 : ∀ h ∈ l, p h = false) : idxG p l = -1 := by
  have : l.findIdx? p = none := by rw [List.findIdx?_eq_none_iff]; exact h1
  simp [idxG, this]

theorem idxG_cases {α : Type} (p : α → Bool) (l : List α) : (idxG p l = -1 ∧ ∀ h ∈ l, p h = false) ∨ ∃ k, ∃ hk : k < l.length, idxG p l = k ∧ p l[k] = true ∧ ∀ h ∈ l.take k, p h = false := by
  cases hf : l.findIdx? p with
  | none => left; refine ⟨by simp [idxG, hf], ?_⟩; rw [List.findIdx?_eq_none_iff] at hf; exact hf
  | some k =>
    right
    rw [List.findIdx?_eq_some_iff_getElem] at hf
    obtain ⟨hk, h2, h3⟩ := hf
    refine ⟨k, hk, by simp [idxG, List.findIdx?_eq_some_iff_getElem.2 ⟨hk, h2, h3⟩], h2, fun h hm => ?_⟩
    rw [List.mem_take_iff_getElem] at hm
    obtain ⟨j, hj, rfl⟩ := hm
    have := h3 j (by omega)
    simpa using this

theorem idxG_any {α : Type} (p : α → Bool) (l : List α) : decide (idxG p l ≥ 0) = l.any p := by
  rcases idxG_cases p l with ⟨e, h⟩ | ⟨k, hk, e, h, -⟩
  · rw [e]; symm; simpa using h
  · rw [e]
    have : l.any p = true := List.any_eq_true.2 ⟨_, List.getElem_mem hk, h⟩
    rw [this]; simp

theorem idxA_q (a : Option Addr) (c : Nat) (z : List Ax) (b b2 : Nat) (nd : Int) (r : Rt) (hn : z.length ≤ 9223372036854775807) (hz : ∀ y ∈ z, y.x.wf) (m : M) (h : AxR m a z) (h1 : CellsAt m b 0 [I nd]) (h2 : CellsAt m b2 0 (encRt r)) :
    QSpec Try.prog 81 [.slice a z.length c, .func (.func 50) #[] #[.pointer (some ⟨b, 0, none⟩), .pointer (some ⟨b2, 0, none⟩)]] m (I (idxG (fun y => leaB nd r y.x) z)) := by
  refine QSpec.of_vc Try.func81 (ann := fun n _ => { A := Nat, inv := fun k => k ≤ z.length ∧ ∀ y ∈ z.take k, leaB nd r y.x = false, st := fun k => [(8, .val (I k)), (7, .val (I z.length)), (0, .val (.slice a z.length c)), (1, .val (.func (.func 50) #[] #[.pointer (some ⟨b, 0, none⟩), .pointer (some ⟨b2, 0, none⟩)]))], own := fun _ => [], m := fun _ => { m with sz := n }, μ := fun k => z.length - k }) fun n hn' => ?_
  refine vc_by (X :=
      true = true ∧
      (∃ (a_1 : Nat),
      (a_1 ≤ z.length ∧ ∀ (y : Ax), y ∈ List.take a_1 z → leaB nd r y.x = false) ∧
      { π := m.π, sz := n, uf := m.uf : M } = { π := m.π, sz := n, uf := m.uf : M } ∧
      ((SV.val (Value.int IntKind.i64 (0 : Int)) = SV.val (Value.int IntKind.i64 (↑a_1 : Int)) ∧ true = true) ∧
      (SV.val (Value.int IntKind.i64 (↑z.length : Int)) = SV.val (Value.int IntKind.i64 (↑z.length : Int)) ∧ true = true) ∧
      (SV.val (Value.slice a z.length c) = SV.val (Value.slice a z.length c) ∧ true = true) ∧
      (SV.val
      (Value.func (Fn.func (50 : FuncId)) #[]
      #[Value.pointer (some { block := b, off := (0 : Nat) : Addr }), Value.pointer (some { block := b2, off := (0 : Nat) : Addr })]) =
      SV.val
      (Value.func (Fn.func (50 : FuncId)) #[]
      #[Value.pointer (some { block := b, off := (0 : Nat) : Addr }), Value.pointer (some { block := b2, off := (0 : Nat) : Addr })]) ∧
      true = true) ∧
      True) ∧
      True) ∧
      ∀ (a_1 : Nat),
      (a_1 ≤ z.length ∧ ∀ (y : Ax), y ∈ List.take a_1 z → leaB nd r y.x = false) →
      ifB (decide ((↑a_1 : Int) < (↑z.length : Int)))
      (∃ (b_1 : Nat),
      ∃ (off : Nat),
      a = some { block := b_1, off := off : Addr } ∧
      ((0 : Int) ≤ (↑a_1 : Int) ∧ (↑a_1 : Int) < (↑z.length : Int)) ∧
      ∃ (s : ByteArray),
      ∃ (n_1 : Int),
      ∃ (n_2 : Int),
      ∃ (n_3 : Int),
      ∃ (n_4 : Int),
      ∃ (a_3 : Option Addr),
      ∃ (n_5 : Nat),
      ∃ (c_1 : Nat),
      ∃ (n_6 : Int),
      ∃ (n_7 : Int),
      ∃ (n_8 : Int),
      ∃ (n_9 : Int),
      CellsAt { π := m.π, sz := n, uf := m.uf : M } b_1 (off + (↑a_1 : Int).toNat * (10 : Nat))
      [Value.string s, Value.int IntKind.i64 n_1, Value.int IntKind.i64 n_2, Value.int IntKind.i64 n_3, Value.int IntKind.i64 n_4,
      Value.slice a_3 n_5 c_1, Value.int IntKind.i64 n_6, Value.int IntKind.i64 n_7, Value.int IntKind.i64 n_8,
      Value.int IntKind.i64 n_9] ∧
      ∃ (b_2 : Bool),
      QSpec Try.prog (50 : FuncId)
      [Value.agg
      #[Value.string s, Value.int IntKind.i64 n_1, Value.int IntKind.i64 n_2, Value.int IntKind.i64 n_3, Value.int IntKind.i64 n_4,
      Value.slice a_3 n_5 c_1, Value.int IntKind.i64 n_6, Value.int IntKind.i64 n_7, Value.int IntKind.i64 n_8,
      Value.int IntKind.i64 n_9],
      Value.pointer (some { block := b, off := (0 : Nat) : Addr }), Value.pointer (some { block := b2, off := (0 : Nat) : Addr })]
      { π := m.π, sz := n, uf := m.uf : M } (Value.bool b_2) ∧
      ifB b_2 (Done (Value.int IntKind.i64 (↑a_1 : Int) = Value.int IntKind.i64 (idxG (fun (y : Ax) => leaB nd r y.x) z)))
      (∃ (a' : Nat),
      ((a' ≤ z.length ∧ ∀ (y : Ax), y ∈ List.take a' z → leaB nd r y.x = false) ∧
      { π := m.π, sz := n, uf := m.uf : M } = { π := m.π, sz := n, uf := m.uf : M } ∧
      ((SV.val (Value.int IntKind.i64 (IntKind.i64.wrap ((↑a_1 : Int) + (1 : Int)))) =
      SV.val (Value.int IntKind.i64 (↑a' : Int)) ∧
      true = true) ∧
      (SV.val (Value.int IntKind.i64 (↑z.length : Int)) = SV.val (Value.int IntKind.i64 (↑z.length : Int)) ∧ true = true) ∧
      (SV.val (Value.slice a z.length c) = SV.val (Value.slice a z.length c) ∧ true = true) ∧
      (SV.val
      (Value.func (Fn.func (50 : FuncId)) #[]
      #[Value.pointer (some { block := b, off := (0 : Nat) : Addr }),
      Value.pointer (some { block := b2, off := (0 : Nat) : Addr })]) =
      SV.val
      (Value.func (Fn.func (50 : FuncId)) #[]
      #[Value.pointer (some { block := b, off := (0 : Nat) : Addr }),
      Value.pointer (some { block := b2, off := (0 : Nat) : Addr })]) ∧
      true = true) ∧
      True) ∧
      True) ∧
      z.length - a' < z.length - a_1))
      (Done (Value.int IntKind.i64 (-1 : Int) = Value.int IntKind.i64 (idxG (fun (y : Ax) => leaB nd r y.x) z)))) (by kernel_rfl) ?_
  have h' := h.sz hn'
  refine ⟨rfl, ⟨0, by simp⟩, fun k ⟨hk, hq⟩ => ifB_intro (fun hb => ?_) (fun hb => ⟨?_⟩)⟩
  · have hk2 : k < z.length := by simpa using hb
    obtain ⟨b9, o9, rfl, hc⟩ := h'.row.cells (by rw [axs_len]; omega)
    have w1 : IntKind.i64.wrap ((k : Int) + 1) = ((k + 1 : Nat) : Int) := by simp [IntKind.wrap_i64]; omega
    have m1 := List.getElem_mem hk2
    refine ⟨b9, o9, rfl, by omega, _, _, _, _, _, _, _, _, _, _, _, _, by simpa using ax_at hc hk2, _, trim11_q z[k] b nd b2 r (hz _ m1) _ (h'.hs _ m1) ⟨h1.out⟩ ⟨h2.out⟩, ifB_intro (fun h3 => ⟨?_⟩) (fun h3 => ⟨k + 1, ⟨⟨hk2, fun y hy => ?_⟩, by simp [w1]⟩, by omega⟩)⟩
    · rw [idxG_found hk2 hq h3]
    · rw [List.take_succ_eq_append_getElem hk2, List.mem_append] at hy
      rcases hy with hy | hy
      · exact hq y hy
      · have hy : y = z[k] := by simpa using hy
        subst hy; exact h3
  · have : k = z.length := by simp at hb; omega
    rw [this, List.take_length] at hq
    rw [idxG_none hq]

theorem contains_q (a : Option Addr) (c : Nat) (z : List Ax) (b b2 : Nat) (nd : Int) (r : Rt) (hn : z.length ≤ 9223372036854775807) (hz : ∀ y ∈ z, y.x.wf) (m : M) (h : AxR m a z) (h1 : CellsAt m b 0 [I nd]) (h2 : CellsAt m b2 0 (encRt r)) :
    QSpec Try.prog 49 [.slice a z.length c, .func (.func 50) #[] #[.pointer (some ⟨b, 0, none⟩), .pointer (some ⟨b2, 0, none⟩)]] m (.bool (z.any fun y => leaB nd r y.x)) := by
  refine QSpec.of_vc Try.func49 (ann := fun _ => noAnn) fun n hn' => ?_
  refine vc_by (X :=
      true = true ∧
      ∃ (n_1 : Int),
      QSpec Try.prog (81 : Nat)
      [Value.slice a z.length c,
      Value.func (Fn.func (50 : FuncId)) #[] #[Value.pointer (some { block := b, off := (0 : Nat) : Addr }), Value.pointer (some { block := b2, off := (0 : Nat) : Addr })]]
      { π := m.π, sz := n, uf := m.uf : M } (Value.int IntKind.i64 n_1) ∧
      Done (Value.bool (decide (n_1 ≥ (0 : Int))) = Value.bool (z.any fun (y : Ax) => leaB nd r y.x))) (by kernel_rfl) ?_
  refine ⟨rfl, _, idxA_q a c z b b2 nd r hn hz _ (h.sz hn') ⟨h1.out⟩ ⟨h2.out⟩, ⟨?_⟩⟩
  rw [idxG_any]

/-- what the closure looks at -/
structure EnvT (b1 b2 b3 : Nat) (g nd : Int) (a : Option Addr) (c : Nat) (z : List Ax) (m : M) : Prop where
  c1 : CellsAt m b1 0 [I g]
  c2 : CellsAt m b2 0 [.slice a z.length c]
  c3 : CellsAt m b3 0 [I nd]
  ax : AxR m a z

theorem EnvT.sz {b1 b2 b3 : Nat} {g nd : Int} {a : Option Addr} {c : Nat} {z : List Ax} {m : M} (E : EnvT b1 b2 b3 g nd a c z m) {n : Nat} (hn : m.sz ≤ n) : EnvT b1 b2 b3 g nd a c z { m with sz := n } := ⟨⟨E.c1.out⟩, ⟨E.c2.out⟩, ⟨E.c3.out⟩, E.ax.sz hn⟩

def goneB (g nd : Int) (z : List Ax) (r : Rt) : Bool := decide (r.g = g) && !z.any fun y => leaB nd r y.x

theorem trim1_q (r : Rt) (b1 b2 b3 : Nat) (g nd : Int) (a : Option Addr) (c : Nat) (z : List Ax) (hn : z.length ≤ 9223372036854775807) (hz : ∀ y ∈ z, y.x.wf) (m : M) (E : EnvT b1 b2 b3 g nd a c z m) :
    QSpec Try.prog 48 [rtv r, .pointer (some ⟨b1, 0, none⟩), .pointer (some ⟨b2, 0, none⟩), .pointer (some ⟨b3, 0, none⟩)] m (.bool (goneB g nd z r)) := by
  refine QSpec.of_vc Try.func48 (ann := fun _ => noAnn) fun n hn' => ?_
  refine vc_by (X :=
      true = true ∧
      ∃ (n_1 : Int),
      CellsAt { π := m.π, sz := n, uf := m.uf : M } b1 (0 : Nat) [Value.int IntKind.i64 n_1] ∧
      ifB (r.g == n_1)
      (∃ (a : Option Addr),
      ∃ (n_2 : Nat),
      ∃ (c : Nat),
      CellsAt { π := m.π, sz := n, uf := m.uf : M } b2 (0 : Nat) [Value.slice a n_2 c] ∧
      ∀ (b : Nat),
      Fresh n { π := m.π, sz := n, uf := m.uf : M } b →
      ∃ (b_1 : Bool),
      QSpec Try.prog (49 : Nat)
      [Value.slice a n_2 c,
      Value.func (Fn.func (50 : Nat)) #[]
      #[Value.pointer (some { block := b3, off := (0 : Nat) : Addr }), Value.pointer (some { block := b, off := (0 : Nat) : Addr })]]
      ({ π := m.π, sz := n, uf := m.uf : M }.newBlock b [Value.int IntKind.i64 r.g, Value.string r.ky, Value.int IntKind.i64 r.le, Value.int IntKind.i64 r.ne])
      (Value.bool b_1) ∧
      Done ((Value.bool !b_1) = Value.bool (goneB g nd z r)))
      (Done (Value.bool false = Value.bool (goneB g nd z r)))) (by kernel_rfl) ?_
  refine ⟨rfl, g, ⟨E.c1.out⟩, ifB_intro (fun h1 => ⟨a, _, c, ⟨E.c2.out⟩, fun b hb => ?_⟩) (fun h1 => ⟨?_⟩)⟩
  · have n3 : b3 ≠ b := fun e => by
      subst e
      have h1 := hb.cells 0
      have h2 := E.c3.out 0 (by simp)
      rw [show (0 : Nat) + 0 = 0 from rfl] at h2
      simp only at h1
      rw [h1] at h2; simp at h2
    have fr : ∀ a cs, Row m a cs → Row (({ m with sz := n } : M).newBlock b (encRt r)) a cs := fun a cs h => (h.sz hn').fresh hb fun hc b' o e => Nat.lt_of_lt_of_le (h.lt hc e) hn'
    have E2 : AxR (({ m with sz := n } : M).newBlock b (encRt r)) a z := E.ax.of fr
    refine ⟨_, contains_q a c z b3 b nd r hn hz _ E2 (CellsAt.of (m := m) E.c3 (newBlock_other (m := { m with sz := n }) n3)) cellsAt_new, ⟨?_⟩⟩
    simp at h1
    simp [goneB, h1]
  · simp at h1; simp [goneB, h1]

theorem idxR_q (a : Option Addr) (cp : Nat) (l : List Rt) (b1 b2 b3 : Nat) (g nd : Int) (aa : Option Addr) (c : Nat) (z : List Ax) (hl : l.length ≤ 9223372036854775807) (hn : z.length ≤ 9223372036854775807) (hz : ∀ y ∈ z, y.x.wf) (m : M) (h : Row m a (rts l)) (E : EnvT b1 b2 b3 g nd aa c z m) :
    QSpec Try.prog 82 [.slice a l.length cp, .func (.func 48) #[] #[.pointer (some ⟨b1, 0, none⟩), .pointer (some ⟨b2, 0, none⟩), .pointer (some ⟨b3, 0, none⟩)]] m (I (idxG (goneB g nd z) l)) := by
  refine QSpec.of_vc Try.func82 (ann := fun n _ => { A := Nat, inv := fun k => k ≤ l.length ∧ ∀ y ∈ l.take k, goneB g nd z y = false, st := fun k => [(8, .val (I k)), (7, .val (I l.length)), (0, .val (.slice a l.length cp)), (1, .val (.func (.func 48) #[] #[.pointer (some ⟨b1, 0, none⟩), .pointer (some ⟨b2, 0, none⟩), .pointer (some ⟨b3, 0, none⟩)]))], own := fun _ => [], m := fun _ => { m with sz := n }, μ := fun k => l.length - k }) fun n hn' => ?_
  refine vc_by (X :=
      true = true ∧
      (∃ (a_1 : Nat),
      (a_1 ≤ l.length ∧ ∀ (y : Rt), y ∈ List.take a_1 l → goneB g nd z y = false) ∧
      { π := m.π, sz := n, uf := m.uf : M } = { π := m.π, sz := n, uf := m.uf : M } ∧
      ((SV.val (Value.int IntKind.i64 (0 : Int)) = SV.val (Value.int IntKind.i64 (↑a_1 : Int)) ∧ true = true) ∧
      (SV.val (Value.int IntKind.i64 (↑l.length : Int)) = SV.val (Value.int IntKind.i64 (↑l.length : Int)) ∧ true = true) ∧
      (SV.val (Value.slice a l.length cp) = SV.val (Value.slice a l.length cp) ∧ true = true) ∧
      (SV.val
      (Value.func (Fn.func (48 : FuncId)) #[]
      #[Value.pointer (some { block := b1, off := (0 : Nat) : Addr }), Value.pointer (some { block := b2, off := (0 : Nat) : Addr }),
      Value.pointer (some { block := b3, off := (0 : Nat) : Addr })]) =
      SV.val
      (Value.func (Fn.func (48 : FuncId)) #[]
      #[Value.pointer (some { block := b1, off := (0 : Nat) : Addr }), Value.pointer (some { block := b2, off := (0 : Nat) : Addr }),
      Value.pointer (some { block := b3, off := (0 : Nat) : Addr })]) ∧
      true = true) ∧
      True) ∧
      True) ∧
      ∀ (a_1 : Nat),
      (a_1 ≤ l.length ∧ ∀ (y : Rt), y ∈ List.take a_1 l → goneB g nd z y = false) →
      ifB (decide ((↑a_1 : Int) < (↑l.length : Int)))
      (∃ (b : Nat),
      ∃ (off : Nat),
      a = some { block := b, off := off : Addr } ∧
      ((0 : Int) ≤ (↑a_1 : Int) ∧ (↑a_1 : Int) < (↑l.length : Int)) ∧
      ∃ (n_1 : Int),
      ∃ (s : ByteArray),
      ∃ (n_2 : Int),
      ∃ (n_3 : Int),
      CellsAt { π := m.π, sz := n, uf := m.uf : M } b (off + (↑a_1 : Int).toNat * (4 : Nat))
      [Value.int IntKind.i64 n_1, Value.string s, Value.int IntKind.i64 n_2, Value.int IntKind.i64 n_3] ∧
      ∃ (b : Bool),
      QSpec Try.prog (48 : FuncId)
      [Value.agg #[Value.int IntKind.i64 n_1, Value.string s, Value.int IntKind.i64 n_2, Value.int IntKind.i64 n_3],
      Value.pointer (some { block := b1, off := (0 : Nat) : Addr }), Value.pointer (some { block := b2, off := (0 : Nat) : Addr }),
      Value.pointer (some { block := b3, off := (0 : Nat) : Addr })]
      { π := m.π, sz := n, uf := m.uf : M } (Value.bool b) ∧
      ifB b (Done (Value.int IntKind.i64 (↑a_1 : Int) = Value.int IntKind.i64 (idxG (goneB g nd z) l)))
      (∃ (a' : Nat),
      ((a' ≤ l.length ∧ ∀ (y : Rt), y ∈ List.take a' l → goneB g nd z y = false) ∧
      { π := m.π, sz := n, uf := m.uf : M } = { π := m.π, sz := n, uf := m.uf : M } ∧
      ((SV.val (Value.int IntKind.i64 (IntKind.i64.wrap ((↑a_1 : Int) + (1 : Int)))) = SV.val (Value.int IntKind.i64 (↑a' : Int)) ∧
      true = true) ∧
      (SV.val (Value.int IntKind.i64 (↑l.length : Int)) = SV.val (Value.int IntKind.i64 (↑l.length : Int)) ∧ true = true) ∧
      (SV.val (Value.slice a l.length cp) = SV.val (Value.slice a l.length cp) ∧ true = true) ∧
      (SV.val
      (Value.func (Fn.func (48 : FuncId)) #[]
      #[Value.pointer (some { block := b1, off := (0 : Nat) : Addr }),
      Value.pointer (some { block := b2, off := (0 : Nat) : Addr }),
      Value.pointer (some { block := b3, off := (0 : Nat) : Addr })]) =
      SV.val
      (Value.func (Fn.func (48 : FuncId)) #[]
      #[Value.pointer (some { block := b1, off := (0 : Nat) : Addr }),
      Value.pointer (some { block := b2, off := (0 : Nat) : Addr }),
      Value.pointer (some { block := b3, off := (0 : Nat) : Addr })]) ∧
      true = true) ∧
      True) ∧
      True) ∧
      l.length - a' < l.length - a_1))
      (Done (Value.int IntKind.i64 (-1 : Int) = Value.int IntKind.i64 (idxG (goneB g nd z) l)))) (by kernel_rfl) ?_
  have h' := h.sz hn'
  refine ⟨rfl, ⟨0, by simp⟩, fun k ⟨hk, hq⟩ => ifB_intro (fun hb => ?_) (fun hb => ⟨?_⟩)⟩
  · have hk2 : k < l.length := by simpa using hb
    obtain ⟨b9, o9, rfl, hc⟩ := h'.cells (by rw [rt_len]; omega)
    have w1 : IntKind.i64.wrap ((k : Int) + 1) = ((k + 1 : Nat) : Int) := by simp [IntKind.wrap_i64]; omega
    have m1 := List.getElem_mem hk2
    refine ⟨b9, o9, rfl, by omega, _, _, _, _, by simpa using rt_at hc hk2, _, trim1_q l[k] b1 b2 b3 g nd aa c z hn hz _ (E.sz hn'), ifB_intro (fun h3 => ⟨?_⟩) (fun h3 => ⟨k + 1, ⟨⟨hk2, fun y hy => ?_⟩, by simp [w1]⟩, by omega⟩)⟩
    · rw [idxG_found hk2 hq h3]
    · rw [List.take_succ_eq_append_getElem hk2, List.mem_append] at hy
      rcases hy with hy | hy
      · exact hq y hy
      · have hy : y = l[k] := by simpa using hy
        subst hy; exact h3
  · have : k = l.length := by simp at hb; omega
    rw [this, List.take_length] at hq
    rw [idxG_none hq]

/-- block b is none of those that the closure looks at -/
def AwayT (b b1 b2 b3 : Nat) (a : Option Addr) (z : List Ax) : Prop := b ≠ b1 ∧ b ≠ b2 ∧ b ≠ b3 ∧ (∀ o, z ≠ [] → a ≠ some ⟨b, o, none⟩) ∧ ∀ y ∈ z, ∀ o, y.x.hs ≠ [] → y.a ≠ some ⟨b, o, none⟩

theorem EnvT.set {b1 b2 b3 b o : Nat} {g nd : Int} {a : Option Addr} {c : Nat} {z : List Ax} {m : M} {cs : List Value} (E : EnvT b1 b2 b3 g nd a c z m) (h : AwayT b b1 b2 b3 a z) : EnvT b1 b2 b3 g nd a c z (m.setCells b o cs) := by
  obtain ⟨n1, n2, n3, n4, n5⟩ := h
  refine ⟨E.c1.of (setCells_other (Ne.symm n1)), E.c2.of (setCells_other (Ne.symm n2)), E.c3.of (setCells_other (Ne.symm n3)), ⟨?_, fun y hy => ?_⟩⟩
  · by_cases hz : z = []
    · subst hz; exact .nil _
    · exact E.ax.row.of (Nat.le_refl _) fun b' o' e _ => setCells_other (fun e2 => by subst e2; exact n4 _ hz e)
  · by_cases hh : y.x.hs = []
    · rw [hh]; exact .nil _
    · exact (E.ax.hs y hy).of (Nat.le_refl _) fun b' o' e _ => setCells_other (fun e2 => by subst e2; exact n5 y hy _ hh e)

abbrev gonF (b1 b2 b3 : Nat) : Value := .func (.func 48) #[] #[.pointer (some ⟨b1, 0, none⟩), .pointer (some ⟨b2, 0, none⟩), .pointer (some ⟨b3, 0, none⟩)]

structure DrX where
  i : Nat
  j : Nat
  cur : List Rt
  m : M

structure DrI (l : List Rt) (p : Rt → Bool) (a : Option Addr) (c : Nat) (S : Nat → Prop) (env : M → Prop) (m : M) (y : DrX) : Prop where
  ij : y.i < y.j
  jl : y.j ≤ l.length
  len : y.cur.length = l.length
  done : y.cur.take y.i = (l.take y.j).filter p
  left : y.cur.drop y.j = l.drop y.j
  own : OwnB m.sz S y.m 4 a l.length c (rts y.cur)
  env : env y.m
  sz : m.sz ≤ y.m.sz

theorem delfR_s (a : Option Addr) (c : Nat) (l : List Rt) (b1 b2 b3 : Nat) (g nd : Int) (aa : Option Addr) (ca : Nat) (z : List Ax) (S : Nat → Prop) (hl : l.length ≤ 4194304) (hn : z.length ≤ 9223372036854775807) (hz : ∀ y ∈ z, y.x.wf) (m : M) (hS : ∀ b o, a = some ⟨b, o, none⟩ → S b ∧ AwayT b b1 b2 b3 aa z) (h : OwnB m.sz S m 4 a l.length c (rts l)) (E : EnvT b1 b2 b3 g nd aa ca z m) :
    SpecW Try.prog 51 [.slice a l.length c, gonF b1 b2 b3] m S fun v m' => v = .slice a (l.filter fun r => !goneB g nd z r).length c ∧ OwnB m.sz S m' 4 a (l.filter fun r => !goneB g nd z r).length c (rts (l.filter fun r => !goneB g nd z r)) := by
  refine SpecW.of_vc Try.func51 (ann := fun _ => { A := DrX, inv := DrI l (fun r => !goneB g nd z r) a c S (EnvT b1 b2 b3 g nd aa ca z) m, st := fun y => [(5, .val (I y.i)), (6, .val (I y.j)), (0, .val (.slice a l.length c)), (1, .val (gonF b1 b2 b3))], own := fun _ => [], m := fun y => y.m, μ := fun y => l.length - y.j }) ?_
  refine vc_by (X :=
      true = true ∧
      ∃ (n : Int),
      QSpec Try.prog (82 : Nat)
      [Value.slice a l.length c,
      Value.func (Fn.func (48 : FuncId)) #[]
      #[Value.pointer (some { block := b1, off := (0 : Nat) : Addr }), Value.pointer (some { block := b2, off := (0 : Nat) : Addr }),
      Value.pointer (some { block := b3, off := (0 : Nat) : Addr })]]
      m (Value.int IntKind.i64 n) ∧
      ifB (n == (-1 : Int))
      (Done
      (Value.slice a l.length c = Value.slice a (List.filter (fun (r : Rt) => !goneB g nd z r) l).length c ∧
      OwnB m.sz S m (4 : Nat) a (List.filter (fun (r : Rt) => !goneB g nd z r) l).length c (rts (List.filter (fun (r : Rt) => !goneB g nd z r) l))))
      ((∃ (a_1 : DrX),
      DrI l (fun (r : Rt) => !goneB g nd z r) a c S (EnvT b1 b2 b3 g nd aa ca z) m a_1 ∧
      m = a_1.m ∧
      ((SV.val (Value.int IntKind.i64 n) = SV.val (Value.int IntKind.i64 (↑a_1.i : Int)) ∧ true = true) ∧
      (SV.val (Value.int IntKind.i64 (IntKind.i64.wrap (n + (1 : Int)))) = SV.val (Value.int IntKind.i64 (↑a_1.j : Int)) ∧ true = true) ∧
      (SV.val (Value.slice a l.length c) = SV.val (Value.slice a l.length c) ∧ true = true) ∧
      (SV.val
      (Value.func (Fn.func (48 : FuncId)) #[]
      #[Value.pointer (some { block := b1, off := (0 : Nat) : Addr }), Value.pointer (some { block := b2, off := (0 : Nat) : Addr }),
      Value.pointer (some { block := b3, off := (0 : Nat) : Addr })]) =
      SV.val
      (Value.func (Fn.func (48 : FuncId)) #[]
      #[Value.pointer (some { block := b1, off := (0 : Nat) : Addr }), Value.pointer (some { block := b2, off := (0 : Nat) : Addr }),
      Value.pointer (some { block := b3, off := (0 : Nat) : Addr })]) ∧
      true = true) ∧
      True) ∧
      True) ∧
      ∀ (a_1 : DrX),
      DrI l (fun (r : Rt) => !goneB g nd z r) a c S (EnvT b1 b2 b3 g nd aa ca z) m a_1 →
      ifB (decide ((↑a_1.j : Int) < (↑l.length : Int)))
      (∃ (b : Nat),
      ∃ (off : Nat),
      a = some { block := b, off := off : Addr } ∧
      ((0 : Int) ≤ (↑a_1.j : Int) ∧ (↑a_1.j : Int) < (↑l.length : Int)) ∧
      ∃ (n : Int),
      ∃ (s : ByteArray),
      ∃ (n_1 : Int),
      ∃ (n_2 : Int),
      CellsAt a_1.m b (off + (↑a_1.j : Int).toNat * (4 : Nat))
      [Value.int IntKind.i64 n, Value.string s, Value.int IntKind.i64 n_1, Value.int IntKind.i64 n_2] ∧
      ∃ (b : Bool),
      QSpec Try.prog (48 : FuncId)
      [Value.agg #[Value.int IntKind.i64 n, Value.string s, Value.int IntKind.i64 n_1, Value.int IntKind.i64 n_2],
      Value.pointer (some { block := b1, off := (0 : Nat) : Addr }), Value.pointer (some { block := b2, off := (0 : Nat) : Addr }),
      Value.pointer (some { block := b3, off := (0 : Nat) : Addr })]
      a_1.m (Value.bool b) ∧
      ifB (!b)
      (∃ (b : Nat),
      ∃ (off : Nat),
      a = some { block := b, off := off : Addr } ∧
      ((0 : Int) ≤ (↑a_1.i : Int) ∧ (↑a_1.i : Int) < (↑l.length : Int)) ∧
      Wr m.sz S a_1.m b (off + (↑a_1.i : Int).toNat * (4 : Nat))
      #[Value.int IntKind.i64 n, Value.string s, Value.int IntKind.i64 n_1, Value.int IntKind.i64 n_2].size ∧
      ∃ (a' : DrX),
      (DrI l (fun (r : Rt) => !goneB g nd z r) a c S (EnvT b1 b2 b3 g nd aa ca z) m a' ∧
      a_1.m.setCells b (off + (↑a_1.i : Int).toNat * (4 : Nat))
      [Value.int IntKind.i64 n, Value.string s, Value.int IntKind.i64 n_1, Value.int IntKind.i64 n_2] =
      a'.m ∧
      ((SV.val (Value.int IntKind.i64 (IntKind.i64.wrap ((↑a_1.i : Int) + (1 : Int)))) =
      SV.val (Value.int IntKind.i64 (↑a'.i : Int)) ∧
      true = true) ∧
      (SV.val (Value.int IntKind.i64 (IntKind.i64.wrap ((↑a_1.j : Int) + (1 : Int)))) =
      SV.val (Value.int IntKind.i64 (↑a'.j : Int)) ∧
      true = true) ∧
      (SV.val (Value.slice a l.length c) = SV.val (Value.slice a l.length c) ∧ true = true) ∧
      (SV.val
      (Value.func (Fn.func (48 : FuncId)) #[]
      #[Value.pointer (some { block := b1, off := (0 : Nat) : Addr }),
      Value.pointer (some { block := b2, off := (0 : Nat) : Addr }),
      Value.pointer (some { block := b3, off := (0 : Nat) : Addr })]) =
      SV.val
      (Value.func (Fn.func (48 : FuncId)) #[]
      #[Value.pointer (some { block := b1, off := (0 : Nat) : Addr }),
      Value.pointer (some { block := b2, off := (0 : Nat) : Addr }),
      Value.pointer (some { block := b3, off := (0 : Nat) : Addr })]) ∧
      true = true) ∧
      True) ∧
      True) ∧
      l.length - a'.j < l.length - a_1.j)
      (∃ (a' : DrX),
      (DrI l (fun (r : Rt) => !goneB g nd z r) a c S (EnvT b1 b2 b3 g nd aa ca z) m a' ∧
      a_1.m = a'.m ∧
      ((SV.val (Value.int IntKind.i64 (↑a_1.i : Int)) = SV.val (Value.int IntKind.i64 (↑a'.i : Int)) ∧ true = true) ∧
      (SV.val (Value.int IntKind.i64 (IntKind.i64.wrap ((↑a_1.j : Int) + (1 : Int)))) = SV.val (Value.int IntKind.i64 (↑a'.j : Int)) ∧
      true = true) ∧
      (SV.val (Value.slice a l.length c) = SV.val (Value.slice a l.length c) ∧ true = true) ∧
      (SV.val
      (Value.func (Fn.func (48 : FuncId)) #[]
      #[Value.pointer (some { block := b1, off := (0 : Nat) : Addr }),
      Value.pointer (some { block := b2, off := (0 : Nat) : Addr }),
      Value.pointer (some { block := b3, off := (0 : Nat) : Addr })]) =
      SV.val
      (Value.func (Fn.func (48 : FuncId)) #[]
      #[Value.pointer (some { block := b1, off := (0 : Nat) : Addr }),
      Value.pointer (some { block := b2, off := (0 : Nat) : Addr }),
      Value.pointer (some { block := b3, off := (0 : Nat) : Addr })]) ∧
      true = true) ∧
      True) ∧
      True) ∧
      l.length - a'.j < l.length - a_1.j))
      ((true = true ∧ (0 : Int) ≤ (↑a_1.i : Int) ∧ (↑a_1.i : Int) ≤ (↑l.length : Int) ∧ True ∧ True) ∧
      true = true ∧
      ((↑l.length : Int).toNat - (↑a_1.i : Int).toNat ≠ (0 : Nat) →
      ∃ (b : Nat),
      ∃ (o : Nat),
      (if (↑c : Int).toNat = (↑a_1.i : Int).toNat then a
      else Option.map (fun (x : Addr) => x.add ((↑a_1.i : Int).toNat * Try.prog.types[(24 : Nat)].size)) a) =
      some { block := b, off := o : Addr } ∧
      Wr m.sz S a_1.m b o (((↑l.length : Int).toNat - (↑a_1.i : Int).toNat) * (4 : Nat))) ∧
      ∀ (m' : M),
      CopyPost a_1.m
      (if (↑c : Int).toNat = (↑a_1.i : Int).toNat then a else Option.map (fun (x : Addr) => x.add ((↑a_1.i : Int).toNat * Try.prog.types[(24 : Nat)].size)) a)
      (zeroRow Try.prog (24 : Nat) ((↑l.length : Int).toNat - (↑a_1.i : Int).toNat)) m' →
      (true = true ∧ (0 : Int) ≤ (0 : Int) ∧ (0 : Int) ≤ (↑a_1.i : Int) ∧ (↑a_1.i : Int) ≤ (↑c : Int) ∧ True) ∧
      Done
      (Value.slice (if (↑c : Int).toNat = (0 : Nat) then a else Option.map (fun (x : Addr) => x) a) ((↑a_1.i : Int).toNat - (0 : Nat))
      ((↑c : Int).toNat - (0 : Nat)) =
      Value.slice a (List.filter (fun (r : Rt) => !goneB g nd z r) l).length c ∧
      OwnB m.sz S m' (4 : Nat) a (List.filter (fun (r : Rt) => !goneB g nd z r) l).length c (rts (List.filter (fun (r : Rt) => !goneB g nd z r) l)))))) (by kernel_rfl) ?_
  have zl : ∀ k, (zeroRow Try.prog 24 k).length = k * 4 := rt_zr
  refine ⟨rfl, _, idxR_q a c l b1 b2 b3 g nd aa ca z (by omega) hn hz m h.row E, ?_⟩
  generalize hp0 : goneB g nd z = p0
  have hpq : ∀ r m', EnvT b1 b2 b3 g nd aa ca z m' → QSpec Try.prog 48 [rtv r, .pointer (some ⟨b1, 0, none⟩), .pointer (some ⟨b2, 0, none⟩), .pointer (some ⟨b3, 0, none⟩)] m' (.bool (p0 r)) := fun r m' E' => by rw [← hp0]; exact trim1_q r b1 b2 b3 g nd aa ca z hn hz m' E'
  rcases idxG_cases p0 l with ⟨e, hall⟩ | ⟨k, hk, e, hp, hq⟩
  · rw [e]
    have ef : (l.filter fun r => !p0 r) = l := List.filter_eq_self.2 fun h hm => by have := hall h hm; simpa using this
    rw [ef]
    exact ifB_true ⟨rfl, h⟩
  rw [e]
  have hkn : ((k : Int) == -1) = false := by simp
  have w1 : IntKind.i64.wrap ((k : Int) + 1) = ((k + 1 : Nat) : Int) := by simp [IntKind.wrap_i64]; omega
  rw [hkn, w1]
  have ft : (l.take (k + 1)).filter (fun r => !p0 r) = l.take k := by
    rw [List.take_succ_eq_append_getElem hk, List.filter_append]
    have e1 : (l.take k).filter (fun r => !p0 r) = l.take k := List.filter_eq_self.2 fun h hm => by have := hq h hm; simpa using this
    rw [e1]; simp [hp]
  refine ifB_false ⟨⟨⟨k, k + 1, l, m⟩, ⟨by simp, by simp only; omega, rfl, ft.symm, rfl, h, E, Nat.le_refl _⟩, by simp⟩, fun y hy => ?_⟩
  have hij := hy.ij
  have hjl := hy.jl
  have hlen := hy.len
  have ho := hy.own
  have hne : y.cur.length ≠ 0 := by omega
  obtain ⟨b, o, rfl, hcell⟩ := ho.row.cells (by rw [rt_len]; omega)
  obtain ⟨hSb, hbn⟩ := hS b o rfl
  refine ifB_intro (fun hb => ?_) (fun hb => ?_)
  · have hj2 : y.j < l.length := by simpa using hb
    have ecur : y.cur[y.j]'(by omega) = l[y.j] := by
      have h1 : (y.cur.drop y.j)[0]'(by simp; omega) = (l.drop y.j)[0]'(by simp; omega) := by simp only [hy.left]
      simpa using h1
    have wi : IntKind.i64.wrap ((y.i : Int) + 1) = ((y.i + 1 : Nat) : Int) := by simp [IntKind.wrap_i64]; omega
    have wj : IntKind.i64.wrap ((y.j : Int) + 1) = ((y.j + 1 : Nat) : Int) := by simp [IntKind.wrap_i64]; omega
    have hcj := rt_at hcell (by omega : y.j < y.cur.length)
    rw [ecur] at hcj
    have ts : l.take (y.j + 1) = l.take y.j ++ [l[y.j]] := List.take_succ_eq_append_getElem hj2
    have ld : y.cur.drop (y.j + 1) = l.drop (y.j + 1) := by
      have := congrArg (List.drop 1) hy.left
      simpa [List.drop_drop, Nat.add_comm] using this
    refine ⟨b, o, rfl, by omega, _, _, _, _, by simpa using hcj, _, hpq l[y.j] _ hy.env, ifB_intro (fun h1 => ?_) (fun h1 => ?_)⟩
    · have h1 : p0 l[y.j] = false := by simpa using h1
      obtain ⟨g1, g2⟩ := OwnB.setAt (enc := encRt) (fun _ => rfl) ho (by omega : y.i < y.cur.length) l[y.j]
      refine ⟨b, o, rfl, by omega, by simpa using g1, ⟨y.i + 1, y.j + 1, y.cur.set y.i l[y.j], y.m.setCells b (o + y.i * 4) (encRt l[y.j])⟩, ⟨⟨by simp only; omega, hj2, by simp [hlen], ?_, ?_, g2, hy.env.set hbn, hy.sz⟩, by simp [wi, wj]⟩, by simp only; omega⟩
      · simp only [ts, List.filter_append]
        rw [List.take_succ_eq_append_getElem (by simp; omega), List.take_set_of_le (Nat.le_refl _), hy.done]
        simp [h1]
      · simp only
        rw [List.drop_set_of_lt (by omega), ld]
    · have h1 : p0 l[y.j] = true := by simpa using h1
      refine ⟨⟨y.i, y.j + 1, y.cur, y.m⟩, ⟨⟨by simp only; omega, hj2, hlen, ?_, ld, ho, hy.env, hy.sz⟩, by simp [wj]⟩, by simp only; omega⟩
      simp only [ts, List.filter_append]
      rw [hy.done]
      simp [h1]
  · have hjl2 : y.j = l.length := by simp at hb; omega
    have hd := hy.done
    rw [hjl2, List.take_length] at hd
    have hfl : (l.filter fun r => !p0 r).length = y.i := by rw [← hd, List.length_take]; omega
    have hlc : l.length ≤ c := by cases ho with | «at» b o len cap cs rest lo lt uf h h1 h2 hc => exact hc
    have hci : ¬ c = y.i := by omega
    have ec : rts y.cur = rts (y.cur.take y.i) ++ rts (y.cur.drop y.i) := flat_cut _ _
    rw [ec] at ho
    obtain ⟨g1, g2⟩ := ho.overTail (i := y.i) (new := zeroRow Try.prog 24 (l.length - y.i)) (by rw [rt_len, List.length_take]; congr 1; omega) (by omega) (by rw [zl, rt_len, List.length_drop, hlen])
    rw [zl] at g1
    have es : Try.prog.types[24].size = 4 := by kernel_rfl
    have ea : (if (c : Int).toNat = (y.i : Int).toNat then some (⟨b, o, none⟩ : Addr) else Option.map (fun x : Addr => x.add ((y.i : Int).toNat * Try.prog.types[24].size)) (some (⟨b, o, none⟩ : Addr))) = some ⟨b, o + y.i * 4, none⟩ := by
      rw [if_neg (by simpa using hci)]
      show some (Addr.add _ (y.i * Try.prog.types[24].size)) = _
      rw [es, add_none]
    refine ⟨⟨rfl, by omega, by omega, trivial, trivial⟩, rfl, fun _ => ⟨b, o + y.i * 4, ea, by simpa using g1⟩, fun m' hp => ⟨⟨rfl, by omega, by omega, by omega, trivial⟩, ⟨?_, ?_⟩⟩⟩
    · rw [hfl]; simp
    · have hp' : m' = y.m.setCells b (o + y.i * 4) (zeroRow Try.prog 24 (l.length - y.i)) := by
        rcases hp with ⟨hz, -⟩ | ⟨b', o', he, rfl⟩
        · exfalso
          have := congrArg List.length hz
          rw [zl] at this
          simp at this; omega
        · rw [ea] at he
          cases he
          simp
      rw [hfl, ← hd, hp']
      exact g2

end Go.Proofs.Ytfkielfnceeedaa
