/-
  Contracts of functions of this seat: what each hands back, and what it leaves of memory (acc11). Nothing here is trusted: Lean checks it.
-/
import Derived.Test.YtfkielfnceeedaaAcc9
import Derived.Test.YtfkielfnceeedaaVcList
set_option linter.unusedVariables false
set_option linter.unusedSimpArgs false
namespace Go.Proofs.Ytfkielfnceeedaa
open Go.Vc Go.RowKit
set_option maxRecDepth 100000

def idxF (p : Hd → Bool) (l : List Hd) : Int := match l.findIdx? p with | some i => i | none => -1

theorem idxF_found {p : Hd → Bool} {l : List Hd} {k : Nat} (hk : k < l.length) (h1 : ∀ h ∈ l.take k, p h = false) (h2 : p l[k] = true) : idxF p l = k := by
  have : l.findIdx? p = some k := by
    rw [List.findIdx?_eq_some_iff_getElem]
    refine ⟨hk, h2, fun j hj => ?_⟩
    have := h1 l[j] (by rw [List.mem_take_iff_getElem]; exact ⟨j, by omega, rfl⟩)
    simp [this]
  simp [idxF, this]

theorem idxF_none {p : Hd → Bool} {l : List Hd} (h1 : ∀ h ∈ l, p h = false) : idxF p l = -1 := by
  have : l.findIdx? p = none := by rw [List.findIdx?_eq_none_iff]; exact h1
  simp [idxF, this]

theorem idxF_cases (p : Hd → Bool) (l : List Hd) : (idxF p l = -1 ∧ ∀ h ∈ l, p h = false) ∨ ∃ k, ∃ hk : k < l.length, idxF p l = k ∧ p l[k] = true ∧ ∀ h ∈ l.take k, p h = false := by
  cases hf : l.findIdx? p with
  | none => left; refine ⟨by simp [idxF, hf], ?_⟩; rw [List.findIdx?_eq_none_iff] at hf; exact hf
  | some k =>
    right
    rw [List.findIdx?_eq_some_iff_getElem] at hf
    obtain ⟨hk, h2, h3⟩ := hf
    refine ⟨k, hk, by simp [idxF, List.findIdx?_eq_some_iff_getElem.2 ⟨hk, h2, h3⟩], h2, fun h hm => ?_⟩
    rw [List.mem_take_iff_getElem] at hm
    obtain ⟨j, hj, rfl⟩ := hm
    have := h3 j (by omega)
    simpa using this

theorem del_q (h : Hd) (b o : Nat) (nd : Int) (m : M) (hc : CellsAt m b o [I nd]) : QSpec Try.prog 75 [hdv h, .pointer (some ⟨b, o, none⟩)] m (.bool (decide (h.nd = nd))) := by
  refine QSpec.of_vc Try.func75 (ann := fun _ => noAnn) fun n hn => ?_
  refine vc_by (X :=
      true = true ∧ ∃ (n_1 : Int), CellsAt { π := m.π, sz := n, uf := m.uf : M } b o [Value.int IntKind.i64 n_1] ∧ Done (Value.bool (h.nd == n_1) = Value.bool (decide (h.nd = nd)))) (by kernel_rfl) ?_
  exact ⟨rfl, nd, ⟨hc.out⟩, ⟨rfl⟩⟩

abbrev delF (b o : Nat) : Value := .func (.func 75) #[] #[.pointer (some ⟨b, o, none⟩)]

theorem idx_q (a : Option Addr) (c : Nat) (l : List Hd) (b o : Nat) (nd : Int) (hn : l.length ≤ 9223372036854775807) (m : M) (h : Row m a (hds l)) (hc : CellsAt m b o [I nd]) :
    QSpec Try.prog 92 [.slice a l.length c, delF b o] m (I (idxF (fun h => decide (h.nd = nd)) l)) := by
  refine QSpec.of_vc Try.func92 (ann := fun n _ => { A := Nat, inv := fun k => k ≤ l.length ∧ ∀ h ∈ l.take k, h.nd ≠ nd, st := fun k => [(8, .val (I k)), (7, .val (I l.length)), (0, .val (.slice a l.length c)), (1, .val (delF b o))], own := fun _ => [], m := fun _ => { m with sz := n }, μ := fun k => l.length - k }) fun n hn => ?_
  refine vc_by (X :=
      true = true ∧
      (∃ (a_1 : Nat),
      (a_1 ≤ l.length ∧ ∀ (h : Hd), h ∈ List.take a_1 l → h.nd ≠ nd) ∧
      { π := m.π, sz := n, uf := m.uf : M } = { π := m.π, sz := n, uf := m.uf : M } ∧
      ((SV.val (Value.int IntKind.i64 (0 : Int)) = SV.val (Value.int IntKind.i64 (↑a_1 : Int)) ∧ true = true) ∧
      (SV.val (Value.int IntKind.i64 (↑l.length : Int)) = SV.val (Value.int IntKind.i64 (↑l.length : Int)) ∧ true = true) ∧
      (SV.val (Value.slice a l.length c) = SV.val (Value.slice a l.length c) ∧ true = true) ∧
      (SV.val (Value.func (Fn.func (75 : FuncId)) #[] #[Value.pointer (some { block := b, off := o : Addr })]) =
      SV.val (Value.func (Fn.func (75 : FuncId)) #[] #[Value.pointer (some { block := b, off := o : Addr })]) ∧
      true = true) ∧
      True) ∧
      True) ∧
      ∀ (a_1 : Nat),
      (a_1 ≤ l.length ∧ ∀ (h : Hd), h ∈ List.take a_1 l → h.nd ≠ nd) →
      ifB (decide ((↑a_1 : Int) < (↑l.length : Int)))
      (∃ (b_1 : Nat),
      ∃ (off : Nat),
      a = some { block := b_1, off := off : Addr } ∧
      ((0 : Int) ≤ (↑a_1 : Int) ∧ (↑a_1 : Int) < (↑l.length : Int)) ∧
      ∃ (n_1 : Int),
      ∃ (n_2 : Int),
      ∃ (n_3 : Int),
      ∃ (n_4 : Int),
      CellsAt { π := m.π, sz := n, uf := m.uf : M } b_1 (off + (↑a_1 : Int).toNat * (4 : Nat))
      [Value.int IntKind.i64 n_1, Value.int IntKind.i64 n_2, Value.int IntKind.i64 n_3, Value.int IntKind.i64 n_4] ∧
      ∃ (b_2 : Bool),
      QSpec Try.prog (75 : FuncId)
      [Value.agg #[Value.int IntKind.i64 n_1, Value.int IntKind.i64 n_2, Value.int IntKind.i64 n_3, Value.int IntKind.i64 n_4],
      Value.pointer (some { block := b, off := o : Addr })]
      { π := m.π, sz := n, uf := m.uf : M } (Value.bool b_2) ∧
      ifB b_2 (Done (Value.int IntKind.i64 (↑a_1 : Int) = Value.int IntKind.i64 (idxF (fun (h : Hd) => decide (h.nd = nd)) l)))
      (∃ (a' : Nat),
      ((a' ≤ l.length ∧ ∀ (h : Hd), h ∈ List.take a' l → h.nd ≠ nd) ∧
      { π := m.π, sz := n, uf := m.uf : M } = { π := m.π, sz := n, uf := m.uf : M } ∧
      ((SV.val (Value.int IntKind.i64 (IntKind.i64.wrap ((↑a_1 : Int) + (1 : Int)))) = SV.val (Value.int IntKind.i64 (↑a' : Int)) ∧
      true = true) ∧
      (SV.val (Value.int IntKind.i64 (↑l.length : Int)) = SV.val (Value.int IntKind.i64 (↑l.length : Int)) ∧ true = true) ∧
      (SV.val (Value.slice a l.length c) = SV.val (Value.slice a l.length c) ∧ true = true) ∧
      (SV.val (Value.func (Fn.func (75 : FuncId)) #[] #[Value.pointer (some { block := b, off := o : Addr })]) =
      SV.val (Value.func (Fn.func (75 : FuncId)) #[] #[Value.pointer (some { block := b, off := o : Addr })]) ∧
      true = true) ∧
      True) ∧
      True) ∧
      l.length - a' < l.length - a_1))
      (Done (Value.int IntKind.i64 (-1 : Int) = Value.int IntKind.i64 (idxF (fun (h : Hd) => decide (h.nd = nd)) l)))) (by kernel_rfl) ?_
  have h' := h.sz hn
  refine ⟨rfl, ⟨0, by simp⟩, fun k ⟨hk, hq⟩ => ifB_intro (fun hb => ?_) (fun hb => ⟨?_⟩)⟩
  · have hk2 : k < l.length := by simpa using hb
    obtain ⟨b1, o1, rfl, hcell⟩ := h'.cells (by rw [hds_len]; omega)
    have w1 : IntKind.i64.wrap ((k : Int) + 1) = ((k + 1 : Nat) : Int) := by simp [IntKind.wrap_i64]; omega
    refine ⟨b1, o1, rfl, by omega, _, _, _, _, by simpa using hd_at hcell hk2, _, del_q _ b o nd _ ⟨hc.out⟩, ifB_intro (fun h1 => ⟨?_⟩) (fun h1 => ⟨k + 1, ⟨⟨hk2, ?_⟩, by simp [w1]⟩, by omega⟩)⟩
    · rw [idxF_found hk2 (fun h hm => by simpa using hq h hm) (by simpa using h1)]
    · intro h hm
      rw [List.take_succ_eq_append_getElem hk2, List.mem_append] at hm
      rcases hm with hm | hm
      · exact hq h hm
      · have hm : h = l[k] := by simpa using hm
        subst hm
        simpa using h1
  · have : k = l.length := by simp at hb; omega
    subst this
    rw [idxF_none fun h hm => by simpa using hq h (by simpa using hm)]

structure DelX where
  i : Nat
  j : Nat
  cur : List Hd
  m : M

structure DelI (l : List Hd) (p : Hd → Bool) (a : Option Addr) (c : Nat) (S : Nat → Prop) (bn on : Nat) (nd : Int) (m : M) (y : DelX) : Prop where
  ij : y.i < y.j
  jl : y.j ≤ l.length
  len : y.cur.length = l.length
  done : y.cur.take y.i = (l.take y.j).filter p
  left : y.cur.drop y.j = l.drop y.j
  own : OwnB m.sz S y.m 4 a l.length c (hds y.cur)
  cap : CellsAt y.m bn on [I nd]
  sz : m.sz ≤ y.m.sz

theorem delfunc_s (a : Option Addr) (c : Nat) (l : List Hd) (bn on : Nat) (nd : Int) (S : Nat → Prop) (hn : l.length ≤ 1048576) (m : M) (hS : ∀ b o, a = some ⟨b, o, none⟩ → S b ∧ b ≠ bn) (h : OwnB m.sz S m 4 a l.length c (hds l)) (hc : CellsAt m bn on [I nd]) :
    SpecW Try.prog 74 [.slice a l.length c, delF bn on] m S fun v m' => v = .slice a (l.filter fun h => decide (h.nd ≠ nd)).length c ∧ OwnB m.sz S m' 4 a (l.filter fun h => decide (h.nd ≠ nd)).length c (hds (l.filter fun h => decide (h.nd ≠ nd))) := by
  refine SpecW.of_vc Try.func74 (ann := fun _ => { A := DelX, inv := DelI l (fun h => decide (h.nd ≠ nd)) a c S bn on nd m, st := fun y => [(5, .val (I y.i)), (6, .val (I y.j)), (0, .val (.slice a l.length c)), (1, .val (delF bn on))], own := fun _ => [], m := fun y => y.m, μ := fun y => l.length - y.j }) ?_
  refine vc_by (X :=
      true = true ∧
      ∃ (n : Int),
      QSpec Try.prog (92 : Nat) [Value.slice a l.length c, Value.func (Fn.func (75 : FuncId)) #[] #[Value.pointer (some { block := bn, off := on : Addr })]] m
      (Value.int IntKind.i64 n) ∧
      ifB (n == (-1 : Int))
      (Done
      (Value.slice a l.length c = Value.slice a (List.filter (fun (h : Hd) => decide (h.nd ≠ nd)) l).length c ∧
      OwnB m.sz S m (4 : Nat) a (List.filter (fun (h : Hd) => decide (h.nd ≠ nd)) l).length c (hds (List.filter (fun (h : Hd) => decide (h.nd ≠ nd)) l))))
      ((∃ (a_1 : DelX),
      DelI l (fun (h : Hd) => decide (h.nd ≠ nd)) a c S bn on nd m a_1 ∧
      m = a_1.m ∧
      ((SV.val (Value.int IntKind.i64 n) = SV.val (Value.int IntKind.i64 (↑a_1.i : Int)) ∧ true = true) ∧
      (SV.val (Value.int IntKind.i64 (IntKind.i64.wrap (n + (1 : Int)))) = SV.val (Value.int IntKind.i64 (↑a_1.j : Int)) ∧ true = true) ∧
      (SV.val (Value.slice a l.length c) = SV.val (Value.slice a l.length c) ∧ true = true) ∧
      (SV.val (Value.func (Fn.func (75 : FuncId)) #[] #[Value.pointer (some { block := bn, off := on : Addr })]) =
      SV.val (Value.func (Fn.func (75 : FuncId)) #[] #[Value.pointer (some { block := bn, off := on : Addr })]) ∧
      true = true) ∧
      True) ∧
      True) ∧
      ∀ (a_1 : DelX),
      DelI l (fun (h : Hd) => decide (h.nd ≠ nd)) a c S bn on nd m a_1 →
      ifB (decide ((↑a_1.j : Int) < (↑l.length : Int)))
      (∃ (b : Nat),
      ∃ (off : Nat),
      a = some { block := b, off := off : Addr } ∧
      ((0 : Int) ≤ (↑a_1.j : Int) ∧ (↑a_1.j : Int) < (↑l.length : Int)) ∧
      ∃ (n : Int),
      ∃ (n_1 : Int),
      ∃ (n_2 : Int),
      ∃ (n_3 : Int),
      CellsAt a_1.m b (off + (↑a_1.j : Int).toNat * (4 : Nat))
      [Value.int IntKind.i64 n, Value.int IntKind.i64 n_1, Value.int IntKind.i64 n_2, Value.int IntKind.i64 n_3] ∧
      ∃ (b : Bool),
      QSpec Try.prog (75 : FuncId)
      [Value.agg #[Value.int IntKind.i64 n, Value.int IntKind.i64 n_1, Value.int IntKind.i64 n_2, Value.int IntKind.i64 n_3],
      Value.pointer (some { block := bn, off := on : Addr })]
      a_1.m (Value.bool b) ∧
      ifB (!b)
      (∃ (b : Nat),
      ∃ (off : Nat),
      a = some { block := b, off := off : Addr } ∧
      ((0 : Int) ≤ (↑a_1.i : Int) ∧ (↑a_1.i : Int) < (↑l.length : Int)) ∧
      Wr m.sz S a_1.m b (off + (↑a_1.i : Int).toNat * (4 : Nat))
      #[Value.int IntKind.i64 n, Value.int IntKind.i64 n_1, Value.int IntKind.i64 n_2, Value.int IntKind.i64 n_3].size ∧
      ∃ (a' : DelX),
      (DelI l (fun (h : Hd) => decide (h.nd ≠ nd)) a c S bn on nd m a' ∧
      a_1.m.setCells b (off + (↑a_1.i : Int).toNat * (4 : Nat))
      [Value.int IntKind.i64 n, Value.int IntKind.i64 n_1, Value.int IntKind.i64 n_2, Value.int IntKind.i64 n_3] =
      a'.m ∧
      ((SV.val (Value.int IntKind.i64 (IntKind.i64.wrap ((↑a_1.i : Int) + (1 : Int)))) =
      SV.val (Value.int IntKind.i64 (↑a'.i : Int)) ∧
      true = true) ∧
      (SV.val (Value.int IntKind.i64 (IntKind.i64.wrap ((↑a_1.j : Int) + (1 : Int)))) =
      SV.val (Value.int IntKind.i64 (↑a'.j : Int)) ∧
      true = true) ∧
      (SV.val (Value.slice a l.length c) = SV.val (Value.slice a l.length c) ∧ true = true) ∧
      (SV.val (Value.func (Fn.func (75 : FuncId)) #[] #[Value.pointer (some { block := bn, off := on : Addr })]) =
      SV.val (Value.func (Fn.func (75 : FuncId)) #[] #[Value.pointer (some { block := bn, off := on : Addr })]) ∧
      true = true) ∧
      True) ∧
      True) ∧
      l.length - a'.j < l.length - a_1.j)
      (∃ (a' : DelX),
      (DelI l (fun (h : Hd) => decide (h.nd ≠ nd)) a c S bn on nd m a' ∧
      a_1.m = a'.m ∧
      ((SV.val (Value.int IntKind.i64 (↑a_1.i : Int)) = SV.val (Value.int IntKind.i64 (↑a'.i : Int)) ∧ true = true) ∧
      (SV.val (Value.int IntKind.i64 (IntKind.i64.wrap ((↑a_1.j : Int) + (1 : Int)))) = SV.val (Value.int IntKind.i64 (↑a'.j : Int)) ∧
      true = true) ∧
      (SV.val (Value.slice a l.length c) = SV.val (Value.slice a l.length c) ∧ true = true) ∧
      (SV.val (Value.func (Fn.func (75 : FuncId)) #[] #[Value.pointer (some { block := bn, off := on : Addr })]) =
      SV.val (Value.func (Fn.func (75 : FuncId)) #[] #[Value.pointer (some { block := bn, off := on : Addr })]) ∧
      true = true) ∧
      True) ∧
      True) ∧
      l.length - a'.j < l.length - a_1.j))
      ((true = true ∧ (0 : Int) ≤ (↑a_1.i : Int) ∧ (↑a_1.i : Int) ≤ (↑l.length : Int) ∧ True ∧ True) ∧
      true = true ∧
      ((↑l.length : Int).toNat - (↑a_1.i : Int).toNat ≠ (0 : Nat) →
      ∃ (b : Nat),
      ∃ (o : Nat),
      (if (↑c : Int).toNat = (↑a_1.i : Int).toNat then a
      else Option.map (fun (x : Addr) => x.add ((↑a_1.i : Int).toNat * Try.prog.types[(67 : Nat)].size)) a) =
      some { block := b, off := o : Addr } ∧
      Wr m.sz S a_1.m b o (((↑l.length : Int).toNat - (↑a_1.i : Int).toNat) * (4 : Nat))) ∧
      ∀ (m' : M),
      CopyPost a_1.m
      (if (↑c : Int).toNat = (↑a_1.i : Int).toNat then a else Option.map (fun (x : Addr) => x.add ((↑a_1.i : Int).toNat * Try.prog.types[(67 : Nat)].size)) a)
      (zeroRow Try.prog (67 : Nat) ((↑l.length : Int).toNat - (↑a_1.i : Int).toNat)) m' →
      (true = true ∧ (0 : Int) ≤ (0 : Int) ∧ (0 : Int) ≤ (↑a_1.i : Int) ∧ (↑a_1.i : Int) ≤ (↑c : Int) ∧ True) ∧
      Done
      (Value.slice (if (↑c : Int).toNat = (0 : Nat) then a else Option.map (fun (x : Addr) => x) a) ((↑a_1.i : Int).toNat - (0 : Nat))
      ((↑c : Int).toNat - (0 : Nat)) =
      Value.slice a (List.filter (fun (h : Hd) => decide (h.nd ≠ nd)) l).length c ∧
      OwnB m.sz S m' (4 : Nat) a (List.filter (fun (h : Hd) => decide (h.nd ≠ nd)) l).length c
      (hds (List.filter (fun (h : Hd) => decide (h.nd ≠ nd)) l)))))) (by kernel_rfl) ?_
  have zl : ∀ k, (zeroRow Try.prog 67 k).length = k * 4 := zr_hd
  refine ⟨rfl, _, idx_q a c l bn on nd (by omega) m h.row hc, ?_⟩
  rcases idxF_cases (fun h => decide (h.nd = nd)) l with ⟨e, hall⟩ | ⟨k, hk, e, hp, hq⟩
  · rw [e]
    have ef : (l.filter fun h => decide (h.nd ≠ nd)) = l := List.filter_eq_self.2 fun h hm => by have := hall h hm; simpa using this
    rw [ef]
    exact ifB_true ⟨rfl, h⟩
  rw [e]
  have hkn : ((k : Int) == -1) = false := by simp
  have w1 : IntKind.i64.wrap ((k : Int) + 1) = ((k + 1 : Nat) : Int) := by simp [IntKind.wrap_i64]; omega
  rw [hkn, w1]
  have ft : (l.take (k + 1)).filter (fun h => decide (h.nd ≠ nd)) = l.take k := by
    rw [List.take_succ_eq_append_getElem hk, List.filter_append]
    have e1 : (l.take k).filter (fun h => decide (h.nd ≠ nd)) = l.take k := List.filter_eq_self.2 fun h hm => by have := hq h hm; simpa using this
    have hp' : l[k].nd = nd := by simpa using hp
    rw [e1]; simp [hp']
  refine ifB_false ⟨⟨⟨k, k + 1, l, m⟩, ⟨by simp, by simp only; omega, rfl, ft.symm, rfl, h, hc, Nat.le_refl _⟩, by simp⟩, fun y hy => ?_⟩
  have hij := hy.ij
  have hjl := hy.jl
  have hlen := hy.len
  have ho := hy.own
  have hne : y.cur.length ≠ 0 := by omega
  obtain ⟨b, o, rfl, hcell⟩ := ho.row.cells (by rw [hds_len]; omega)
  obtain ⟨hSb, hbn⟩ := hS b o rfl
  refine ifB_intro (fun hb => ?_) (fun hb => ?_)
  · have hj2 : y.j < l.length := by simpa using hb
    have ecur : y.cur[y.j]'(by omega) = l[y.j] := by
      have h1 : (y.cur.drop y.j)[0]'(by simp; omega) = (l.drop y.j)[0]'(by simp; omega) := by simp only [hy.left]
      simpa using h1
    have wi : IntKind.i64.wrap ((y.i : Int) + 1) = ((y.i + 1 : Nat) : Int) := by simp [IntKind.wrap_i64]; omega
    have wj : IntKind.i64.wrap ((y.j : Int) + 1) = ((y.j + 1 : Nat) : Int) := by simp [IntKind.wrap_i64]; omega
    have hcj := hd_at hcell (by omega : y.j < y.cur.length)
    rw [ecur] at hcj
    have ts : l.take (y.j + 1) = l.take y.j ++ [l[y.j]] := List.take_succ_eq_append_getElem hj2
    have ld : y.cur.drop (y.j + 1) = l.drop (y.j + 1) := by
      have := congrArg (List.drop 1) hy.left
      simpa [List.drop_drop, Nat.add_comm] using this
    refine ⟨b, o, rfl, by omega, _, _, _, _, by simpa using hcj, _, del_q l[y.j] bn on nd _ hy.cap, ifB_intro (fun h1 => ?_) (fun h1 => ?_)⟩
    · have h1 : l[y.j].nd ≠ nd := by simpa using h1
      obtain ⟨g1, g2⟩ := OwnB.setAt (enc := encH) (fun _ => rfl) ho (by omega : y.i < y.cur.length) l[y.j]
      refine ⟨b, o, rfl, by omega, by simpa using g1, ⟨y.i + 1, y.j + 1, y.cur.set y.i l[y.j], y.m.setCells b (o + y.i * 4) (encH l[y.j])⟩, ⟨⟨by simp only; omega, hj2, by simp [hlen], ?_, ?_, g2, ?_, hy.sz⟩, by simp [wi, wj]⟩, by simp only; omega⟩
      · simp only [ts, List.filter_append]
        rw [List.take_succ_eq_append_getElem (by simp; omega), List.take_set_of_le (Nat.le_refl _), hy.done]
        simp [h1]
      · simp only
        rw [List.drop_set_of_lt (by omega), ld]
      · exact hy.cap.of (setCells_other (Ne.symm hbn))
    · have h1 : l[y.j].nd = nd := by simpa using h1
      refine ⟨⟨y.i, y.j + 1, y.cur, y.m⟩, ⟨⟨by simp only; omega, hj2, hlen, ?_, ld, ho, hy.cap, hy.sz⟩, by simp [wj]⟩, by simp only; omega⟩
      simp only [ts, List.filter_append]
      rw [hy.done]
      simp [h1]
  · have hjl2 : y.j = l.length := by simp at hb; omega
    have hd := hy.done
    rw [hjl2, List.take_length] at hd
    have hfl : (l.filter fun h => decide (h.nd ≠ nd)).length = y.i := by rw [← hd, List.length_take]; omega
    have hlc : l.length ≤ c := by cases ho with | «at» b o len cap cs rest lo lt uf h h1 h2 hc => exact hc
    have hci : ¬ c = y.i := by omega
    have ec : hds y.cur = hds (y.cur.take y.i) ++ hds (y.cur.drop y.i) := flat_cut _ _
    rw [ec] at ho
    obtain ⟨g1, g2⟩ := ho.overTail (i := y.i) (new := zeroRow Try.prog 67 (l.length - y.i)) (by rw [hds_len, List.length_take]; congr 1; omega) (by omega) (by rw [zl, hds_len, List.length_drop, hlen])
    rw [zl] at g1
    have es : Try.prog.types[67].size = 4 := by kernel_rfl
    have ea : (if (c : Int).toNat = (y.i : Int).toNat then some (⟨b, o, none⟩ : Addr) else Option.map (fun x : Addr => x.add ((y.i : Int).toNat * Try.prog.types[67].size)) (some (⟨b, o, none⟩ : Addr))) = some ⟨b, o + y.i * 4, none⟩ := by
      rw [if_neg (by simpa using hci)]
      show some (Addr.add _ (y.i * Try.prog.types[67].size)) = _
      rw [es, add_none]
    refine ⟨⟨rfl, by omega, by omega, trivial, trivial⟩, rfl, fun _ => ⟨b, o + y.i * 4, ea, by simpa using g1⟩, fun m' hp => ⟨⟨rfl, by omega, by omega, by omega, trivial⟩, ⟨?_, ?_⟩⟩⟩
    · rw [hfl]; simp
    · have hp' : m' = y.m.setCells b (o + y.i * 4) (zeroRow Try.prog 67 (l.length - y.i)) := by
        rcases hp with ⟨hz, -⟩ | ⟨b', o', he, rfl⟩
        · exfalso
          have := congrArg List.length hz
          rw [zl] at this
          simp at this; omega
        · rw [ea] at he
          cases he
          simp
      rw [hfl, ← hd, hp']
      exact g2

def aReport (x : Ac) (nd le ro net : Int) : Ac × Int :=
  if rightB x = false then (ac0, 21) else if findB x nd = false ∨ (findH x nd).le ≠ le then (ac0, 151) else if x.round = 0 ∨ x.round ≠ ro then (ac0, 152) else
  if (findH x nd).up < net ∨ net < -(findH x nd).dn then (ac0, 150) else ({ x with base := x.base + net, hs := x.hs.filter fun h => decide (h.nd ≠ nd) }, 0)

theorem sumI_mem : ∀ (l : List Int) (y : Int), y ∈ l → (∀ z ∈ l, 0 ≤ z) → y ≤ sumI l
  | x :: r, y, hm, h => by
    rw [sumI_cons]
    have h1 := sumI_nonneg r fun z hz => h z (by simp [hz])
    have h2 := h x (by simp)
    rcases List.mem_cons.1 hm with rfl | hm
    · omega
    · have := sumI_mem r y hm fun z hz => h z (by simp [hz])
      omega

theorem sumI_neg (l : List Hd) (f : Hd → Int) : sumI (l.map fun h => - f h) = - sumI (l.map f) := by
  induction l with
  | nil => rfl
  | cons x r ih => simp only [List.map_cons, sumI_cons, ih]; omega

/-- what one holder has lies in the room of all -/
theorem hold_room {x : Ac} (hr : rightB x = true) {h : Hd} (hm : h ∈ x.hs) : 0 ≤ h.up ∧ 0 ≤ h.dn ∧ x.base + h.up ≤ x.hi ∧ x.lo ≤ x.base - h.dn := by
  have hp := (right_iff x).1 hr
  have hmm := hold_mem _ _ hp.hold
  have h0 := hmm h hm
  have h1 := sumI_mem (x.hs.map (·.up)) h.up (List.mem_map.2 ⟨h, hm, rfl⟩) fun z hz => by obtain ⟨w, hw, rfl⟩ := List.mem_map.1 hz; exact (hmm w hw).2.2.2.1
  have h2 := sumI_mem (x.hs.map (·.dn)) h.dn (List.mem_map.2 ⟨h, hm, rfl⟩) fun z hz => by obtain ⟨w, hw, rfl⟩ := List.mem_map.1 hz; exact (hmm w hw).2.2.2.2
  have h3 := hp.up
  have h4 := hp.dn
  have h5 := sumI_neg x.hs (·.dn)
  simp only [upsL, dnsL, sumI_cons] at h3 h4
  omega

theorem find_mem {x : Ac} {nd : Int} (h : findB x nd = true) : rightB x = true ∧ findH x nd ∈ x.hs ∧ (findH x nd).nd = nd := by
  simp only [findB, Bool.and_eq_true] at h
  obtain ⟨h1, h2⟩ := h
  obtain ⟨z, hz⟩ := Option.isSome_iff_exists.1 h2
  simp only [findH, h1, hz, if_true, Option.getD_some]
  unfold fndH at hz
  exact ⟨trivial, List.mem_of_find?_eq_some hz, by simpa using List.find?_some hz⟩

theorem areport_s (x : Ac) (a : Option Addr) (c : Nat) (nd le ro net : Int) (hx : x.wf) (hn : In64 net) (h0 : a = none → x.hs = []) (m : M) (h : Row m a (hds x.hs)) : Vc.Spec Try.prog 35 [acv x a c, I nd, I le, I ro, I net] m (AcR m (aReport x nd le ro net)) := by
  refine Vc.Spec.of_vc Try.func35 (ann := noAnn) ?_
  refine vc_by (X :=
      true = true ∧
      ∃ (b : Bool),
      QSpec Try.prog (72 : Nat)
      [Value.agg
      #[Value.string x.key, Value.int IntKind.i64 x.lo, Value.int IntKind.i64 x.hi, Value.int IntKind.i64 x.base, Value.int IntKind.i64 x.round, Value.slice a x.hs.length c,
      Value.int IntKind.i64 x.lk.cl, Value.int IntKind.i64 x.lk.sq, Value.int IntKind.i64 x.lk.hm, Value.int IntKind.i64 x.lk.n]]
      m (Value.bool b) ∧
      ifB (!b)
      (Done
      (AcR m (aReport x nd le ro net)
      (Value.tuple
      #[Value.agg
      #[Value.string { data := #[] : ByteArray }, Value.int IntKind.i64 (0 : Int), Value.int IntKind.i64 (0 : Int), Value.int IntKind.i64 (0 : Int),
      Value.int IntKind.i64 (0 : Int), Value.slice none (0 : Nat) (0 : Nat), Value.int IntKind.i64 (0 : Int), Value.int IntKind.i64 (0 : Int),
      Value.int IntKind.i64 (0 : Int), Value.int IntKind.i64 (0 : Int)],
      Value.int IntKind.i64 (21 : Int)])
      m))
      (∃ (n : Int),
      ∃ (n_1 : Int),
      ∃ (n_2 : Int),
      ∃ (n_3 : Int),
      ∃ (b : Bool),
      QSpec Try.prog (33 : Nat)
      [Value.agg
      #[Value.string x.key, Value.int IntKind.i64 x.lo, Value.int IntKind.i64 x.hi, Value.int IntKind.i64 x.base, Value.int IntKind.i64 x.round,
      Value.slice a x.hs.length c, Value.int IntKind.i64 x.lk.cl, Value.int IntKind.i64 x.lk.sq, Value.int IntKind.i64 x.lk.hm, Value.int IntKind.i64 x.lk.n],
      Value.int IntKind.i64 nd]
      m (Value.tuple #[Value.agg #[Value.int IntKind.i64 n, Value.int IntKind.i64 n_1, Value.int IntKind.i64 n_2, Value.int IntKind.i64 n_3], Value.bool b]) ∧
      ifB (!b)
      (Done
      (AcR m (aReport x nd le ro net)
      (Value.tuple
      #[Value.agg
      #[Value.string { data := #[] : ByteArray }, Value.int IntKind.i64 (0 : Int), Value.int IntKind.i64 (0 : Int), Value.int IntKind.i64 (0 : Int),
      Value.int IntKind.i64 (0 : Int), Value.slice none (0 : Nat) (0 : Nat), Value.int IntKind.i64 (0 : Int), Value.int IntKind.i64 (0 : Int),
      Value.int IntKind.i64 (0 : Int), Value.int IntKind.i64 (0 : Int)],
      Value.int IntKind.i64 (151 : Int)])
      m))
      (ifB (n_1 != le)
      (Done
      (AcR m (aReport x nd le ro net)
      (Value.tuple
      #[Value.agg
      #[Value.string { data := #[] : ByteArray }, Value.int IntKind.i64 (0 : Int), Value.int IntKind.i64 (0 : Int), Value.int IntKind.i64 (0 : Int),
      Value.int IntKind.i64 (0 : Int), Value.slice none (0 : Nat) (0 : Nat), Value.int IntKind.i64 (0 : Int), Value.int IntKind.i64 (0 : Int),
      Value.int IntKind.i64 (0 : Int), Value.int IntKind.i64 (0 : Int)],
      Value.int IntKind.i64 (151 : Int)])
      m))
      (ifB (x.round == (0 : Int))
      (Done
      (AcR m (aReport x nd le ro net)
      (Value.tuple
      #[Value.agg
      #[Value.string { data := #[] : ByteArray }, Value.int IntKind.i64 (0 : Int), Value.int IntKind.i64 (0 : Int), Value.int IntKind.i64 (0 : Int),
      Value.int IntKind.i64 (0 : Int), Value.slice none (0 : Nat) (0 : Nat), Value.int IntKind.i64 (0 : Int), Value.int IntKind.i64 (0 : Int),
      Value.int IntKind.i64 (0 : Int), Value.int IntKind.i64 (0 : Int)],
      Value.int IntKind.i64 (152 : Int)])
      m))
      (ifB (x.round != ro)
      (Done
      (AcR m (aReport x nd le ro net)
      (Value.tuple
      #[Value.agg
      #[Value.string { data := #[] : ByteArray }, Value.int IntKind.i64 (0 : Int), Value.int IntKind.i64 (0 : Int), Value.int IntKind.i64 (0 : Int),
      Value.int IntKind.i64 (0 : Int), Value.slice none (0 : Nat) (0 : Nat), Value.int IntKind.i64 (0 : Int), Value.int IntKind.i64 (0 : Int),
      Value.int IntKind.i64 (0 : Int), Value.int IntKind.i64 (0 : Int)],
      Value.int IntKind.i64 (152 : Int)])
      m))
      (ifB (decide (net > n_2))
      (Done
      (AcR m (aReport x nd le ro net)
      (Value.tuple
      #[Value.agg
      #[Value.string { data := #[] : ByteArray }, Value.int IntKind.i64 (0 : Int), Value.int IntKind.i64 (0 : Int),
      Value.int IntKind.i64 (0 : Int), Value.int IntKind.i64 (0 : Int), Value.slice none (0 : Nat) (0 : Nat), Value.int IntKind.i64 (0 : Int),
      Value.int IntKind.i64 (0 : Int), Value.int IntKind.i64 (0 : Int), Value.int IntKind.i64 (0 : Int)],
      Value.int IntKind.i64 (150 : Int)])
      m))
      (ifB (decide (net < IntKind.i64.wrap ((0 : Int) - n_3)))
      (Done
      (AcR m (aReport x nd le ro net)
      (Value.tuple
      #[Value.agg
      #[Value.string { data := #[] : ByteArray }, Value.int IntKind.i64 (0 : Int), Value.int IntKind.i64 (0 : Int),
      Value.int IntKind.i64 (0 : Int), Value.int IntKind.i64 (0 : Int), Value.slice none (0 : Nat) (0 : Nat), Value.int IntKind.i64 (0 : Int),
      Value.int IntKind.i64 (0 : Int), Value.int IntKind.i64 (0 : Int), Value.int IntKind.i64 (0 : Int)],
      Value.int IntKind.i64 (150 : Int)])
      m))
      (∀ (n : Nat),
      m.sz ≤ n →
      Vc.Spec Try.prog (73 : Nat)
      [Value.agg
      #[Value.string x.key, Value.int IntKind.i64 x.lo, Value.int IntKind.i64 x.hi, Value.int IntKind.i64 x.base, Value.int IntKind.i64 x.round,
      Value.slice a x.hs.length c, Value.int IntKind.i64 x.lk.cl, Value.int IntKind.i64 x.lk.sq, Value.int IntKind.i64 x.lk.hm,
      Value.int IntKind.i64 x.lk.n]]
      { π := m.π, sz := n, uf := m.uf : M } fun (v : Value) (m' : M) =>
      ∃ (s : ByteArray),
      ∃ (n : Int),
      ∃ (n_4 : Int),
      ∃ (n_5 : Int),
      ∃ (n_6 : Int),
      ∃ (a : Option Addr),
      ∃ (n_7 : Nat),
      ∃ (c : Nat),
      ∃ (n_8 : Int),
      ∃ (n_9 : Int),
      ∃ (n_10 : Int),
      ∃ (n_11 : Int),
      v =
      Value.agg
      #[Value.string s, Value.int IntKind.i64 n, Value.int IntKind.i64 n_4, Value.int IntKind.i64 n_5,
      Value.int IntKind.i64 n_6, Value.slice a n_7 c, Value.int IntKind.i64 n_8, Value.int IntKind.i64 n_9,
      Value.int IntKind.i64 n_10, Value.int IntKind.i64 n_11] ∧
      ∀ (b : Nat),
      Fresh m.sz m' b →
      ∃ (S' : Nat → Prop),
      (∀ (b_1 : Nat), S' b_1 → (m'.newBlock b [Value.int IntKind.i64 nd]).uf b_1 ∧ (m.sz ≤ b_1 ∨ False)) ∧
      ∀ (n_12 : Nat),
      max m'.sz (b + (1 : Nat)) ≤ n_12 →
      SpecW Try.prog (74 : Nat)
      [Value.slice a n_7 c,
      Value.func (Fn.func (75 : Nat)) #[] #[Value.pointer (some { block := b, off := (0 : Nat) : Addr })]]
      { π := (m'.newBlock b [Value.int IntKind.i64 nd]).π, sz := n_12, uf := (m'.newBlock b [Value.int IntKind.i64 nd]).uf : M }
      S' fun (v : Value) (m' : M) =>
      ∃ (a : Option Addr),
      ∃ (n_13 : Nat),
      ∃ (c : Nat),
      v = Value.slice a n_13 c ∧
      Done
      (AcR m (aReport x nd le ro net)
      (Value.tuple
      #[Value.agg
      #[Value.string s, Value.int IntKind.i64 n, Value.int IntKind.i64 n_4,
      Value.int IntKind.i64 (IntKind.i64.wrap (n_5 + net)), Value.int IntKind.i64 n_6,
      Value.slice a n_13 c, Value.int IntKind.i64 n_8, Value.int IntKind.i64 n_9,
      Value.int IntKind.i64 n_10, Value.int IntKind.i64 n_11],
      Value.int IntKind.i64 (0 : Int)])
      m'))))))))) (by kernel_rfl) ?_
  refine ⟨rfl, _, right_q x a c hx _ h, ?_⟩
  cases hr : rightB x
  · exact ifB_true (fail_d (by simp [aReport, hr]))
  refine ifB_false ⟨_, _, _, _, _, find_q x a c nd hx _ h, ifB_intro (fun h1 => fail_d ?_) (fun h1 => ifB_intro (fun h2 => fail_d ?_) (fun h2 => ifB_intro (fun h3 => fail_d ?_) (fun h3 => ifB_intro (fun h4 => fail_d ?_) (fun h4 => ?_))))⟩
  · simp at h1; simp [aReport, hr, h1]
  · simp at h1 h2; simp [aReport, hr, h2]
  · simp at h1 h2 h3; simp [aReport, hr, h1, h2, h3]
  · simp at h1 h2 h3 h4; simp [aReport, hr, h1, h2, h4]
  have h1 : findB x nd = true := by simpa using h1
  obtain ⟨-, hmem, hnd⟩ := find_mem h1
  have hroom := hold_room hr hmem
  have hlo := hx.lo
  have hhi := hx.hi
  have hdn := (hx.hs _ hmem).2.2.2
  have wd : IntKind.i64.wrap (0 - (findH x nd).dn) = -(findH x nd).dn := by unfold In64 at *; simp [IntKind.wrap_i64]; omega
  simp at h2 h3 h4
  refine ifB_intro (fun h5 => fail_d ?_) (fun h5 => ifB_intro (fun h6 => fail_d ?_) (fun h6 N hN => ?_))
  · simp at h5; simp [aReport, hr, h1, h2, ← h4, h3, h5]
  · rw [wd] at h6; simp at h6; simp [aReport, hr, h1, h2, ← h4, h3, h6]
  rw [wd] at h6
  simp at h5 h6
  have hne : x.hs.length ≠ 0 := fun e => by rw [List.eq_nil_of_length_eq_zero e] at hmem; simp at hmem
  have w1 : IntKind.i64.wrap (x.base + net) = x.base + net := by unfold In64 at *; simp [IntKind.wrap_i64]; omega
  refine (copied_q x a c (by have := right_len hr; omega) h0 _ (h.sz hN)).mono fun v m' hag ⟨a', c', hv, hr'⟩ => ⟨_, _, _, _, _, _, _, _, _, _, _, _, hv, ?_⟩
  intro b hf
  have ho := (hr'.toOwn hne).newFresh (ds := [I nd]) hf
  refine ⟨fun b' => ∃ o, a' = some ⟨b', o, none⟩, fun b' ⟨o, e⟩ => ⟨ho.uf e, by rcases ho.lo e with h | h; left; simp only at h; omega; exact h.elim⟩, fun n hn => ?_⟩
  have hs := delfunc_s a' c' x.hs b 0 nd (fun b' => ∃ o, a' = some ⟨b', o, none⟩) (by have := right_len hr; omega) { m'.newBlock b [I nd] with sz := n }
    (fun b' o e => ⟨⟨o, e⟩, fresh_other hf ((hr'.toOwn hne).uf e)⟩) ((ho.sz hn).re fun b' o e => .inr ⟨o, e⟩) ⟨(cellsAt_new (m := m') (b := b) (cs := [I nd])).out⟩
  refine hs.mono fun v2 m2 hag2 ⟨hv2, ho2⟩ => ⟨_, _, _, hv2, ?_⟩
  rw [w1]
  refine ok_d (z := { x with base := x.base + net, hs := x.hs.filter fun h => decide (h.nd ≠ nd) }) ?_ (.own (ho2.re fun b' o e => ?_)) (Nat.le_refl _)
  · have hnb : ¬ ((findH x nd).up < net ∨ net < -(findH x nd).dn) := by omega
    simp [aReport, hr, h1, h2, ← h4, h3, hnb]
  · rcases ho2.lo e with h | ⟨o', h⟩
    · left; have h3 := hf.lo; simp only at h; omega
    · rcases (hr'.toOwn hne).lo h with h | h
      · left; simp only at h; omega
      · exact h.elim

end Go.Proofs.Ytfkielfnceeedaa
