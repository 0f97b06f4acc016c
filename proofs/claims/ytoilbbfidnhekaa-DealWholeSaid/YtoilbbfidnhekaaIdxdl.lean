/-
  Contracts of functions of this seat: what each hands back, and what it leaves of memory (idx_dl). Nothing here is trusted: Lean checks it.
-/
import Derived.Test.YtoilbbfidnhekaaLdl
import Derived.Test.YtoilbbfidnhekaaVcOver
set_option linter.unusedVariables false
set_option linter.unusedSimpArgs false
namespace Go.Proofs.Ytoilbbfidnhekaa
open Go.Vc Go.RowKit
set_option maxRecDepth 100000

theorem dl_idx (a : Option Addr) (c : Nat) (l : List Dl) (b1 b2 : Nat) (f : Dl → Bool) (hn : l.length ≤ 9223372036854775807) (m : M) (h : Row m a (l.flatMap encDl))
    (hf : ∀ x ∈ l, ∀ n, m.sz ≤ n → QSpec Try.prog 75 ([.agg (encDl x).toArray] ++ [.pointer (some ⟨b1, 0, none⟩), .pointer (some ⟨b2, 0, none⟩)]) { m with sz := n } (.bool (f x))) :
    QSpec Try.prog 74 [.slice a l.length c, .func (.func 75) #[] ([.pointer (some ⟨b1, 0, none⟩), .pointer (some ⟨b2, 0, none⟩)]).toArray] m (I (idxF f l)) := by
  refine QSpec.of_vc Try.func74 (ann := fun n _ => { A := Nat, inv := fun k => k ≤ l.length ∧ ∀ h ∈ l.take k, f h = false, st := fun k => [(8, .val (I k)), (7, .val (I l.length)), (0, .val (.slice a l.length c)), (1, .val (.func (.func 75) #[] ([.pointer (some ⟨b1, 0, none⟩), .pointer (some ⟨b2, 0, none⟩)]).toArray))], own := fun _ => [], m := fun _ => { m with sz := n }, μ := fun k => l.length - k }) fun n hn' => ?_
  refine vc_by (X :=
      true = true ∧
      (∃ (a_1 : Nat),
      (a_1 ≤ l.length ∧ ∀ (h : Dl), h ∈ List.take a_1 l → f h = false) ∧
      { π := m.π, sz := n, uf := m.uf : M } = { π := m.π, sz := n, uf := m.uf : M } ∧
      ((SV.val (Value.int IntKind.i64 (0 : Int)) = SV.val (Value.int IntKind.i64 (↑a_1 : Int)) ∧ true = true) ∧
      (SV.val (Value.int IntKind.i64 (↑l.length : Int)) = SV.val (Value.int IntKind.i64 (↑l.length : Int)) ∧ true = true) ∧
      (SV.val (Value.slice a l.length c) = SV.val (Value.slice a l.length c) ∧ true = true) ∧
      (SV.val
      (Value.func (Fn.func (75 : FuncId)) #[]
      #[Value.pointer (some { block := b1, off := (0 : Nat) : Addr }), Value.pointer (some { block := b2, off := (0 : Nat) : Addr })]) =
      SV.val
      (Value.func (Fn.func (75 : FuncId)) #[]
      #[Value.pointer (some { block := b1, off := (0 : Nat) : Addr }), Value.pointer (some { block := b2, off := (0 : Nat) : Addr })]) ∧
      true = true) ∧
      True) ∧
      True) ∧
      ∀ (a_1 : Nat),
      (a_1 ≤ l.length ∧ ∀ (h : Dl), h ∈ List.take a_1 l → f h = false) →
      ifB (decide ((↑a_1 : Int) < (↑l.length : Int)))
      (∃ (b : Nat),
      ∃ (off : Nat),
      a = some { block := b, off := off : Addr } ∧
      ((0 : Int) ≤ (↑a_1 : Int) ∧ (↑a_1 : Int) < (↑l.length : Int)) ∧
      ∃ (n_1 : Int),
      ∃ (n_2 : Int),
      ∃ (s : ByteArray),
      ∃ (s_1 : ByteArray),
      ∃ (n_3 : Int),
      ∃ (n_4 : Int),
      ∃ (n_5 : Int),
      ∃ (n_6 : Int),
      CellsAt { π := m.π, sz := n, uf := m.uf : M } b (off + (↑a_1 : Int).toNat * (8 : Nat))
      [Value.int IntKind.i64 n_1, Value.int IntKind.i64 n_2, Value.string s, Value.string s_1, Value.int IntKind.i64 n_3, Value.int IntKind.i64 n_4,
      Value.int IntKind.i64 n_5, Value.int IntKind.i64 n_6] ∧
      ∃ (b : Bool),
      QSpec Try.prog (75 : FuncId)
      [Value.agg
      #[Value.int IntKind.i64 n_1, Value.int IntKind.i64 n_2, Value.string s, Value.string s_1, Value.int IntKind.i64 n_3,
      Value.int IntKind.i64 n_4, Value.int IntKind.i64 n_5, Value.int IntKind.i64 n_6],
      Value.pointer (some { block := b1, off := (0 : Nat) : Addr }), Value.pointer (some { block := b2, off := (0 : Nat) : Addr })]
      { π := m.π, sz := n, uf := m.uf : M } (Value.bool b) ∧
      ifB b (Done (Value.int IntKind.i64 (↑a_1 : Int) = Value.int IntKind.i64 (idxF f l)))
      (∃ (a' : Nat),
      ((a' ≤ l.length ∧ ∀ (h : Dl), h ∈ List.take a' l → f h = false) ∧
      { π := m.π, sz := n, uf := m.uf : M } = { π := m.π, sz := n, uf := m.uf : M } ∧
      ((SV.val (Value.int IntKind.i64 (IntKind.i64.wrap ((↑a_1 : Int) + (1 : Int)))) = SV.val (Value.int IntKind.i64 (↑a' : Int)) ∧
      true = true) ∧
      (SV.val (Value.int IntKind.i64 (↑l.length : Int)) = SV.val (Value.int IntKind.i64 (↑l.length : Int)) ∧ true = true) ∧
      (SV.val (Value.slice a l.length c) = SV.val (Value.slice a l.length c) ∧ true = true) ∧
      (SV.val
      (Value.func (Fn.func (75 : FuncId)) #[]
      #[Value.pointer (some { block := b1, off := (0 : Nat) : Addr }),
      Value.pointer (some { block := b2, off := (0 : Nat) : Addr })]) =
      SV.val
      (Value.func (Fn.func (75 : FuncId)) #[]
      #[Value.pointer (some { block := b1, off := (0 : Nat) : Addr }),
      Value.pointer (some { block := b2, off := (0 : Nat) : Addr })]) ∧
      true = true) ∧
      True) ∧
      True) ∧
      l.length - a' < l.length - a_1))
      (Done (Value.int IntKind.i64 (-1 : Int) = Value.int IntKind.i64 (idxF f l)))) (by kernel_rfl) ?_
  have h' := h.sz hn'
  refine ⟨rfl, ⟨0, by simp⟩, fun k ⟨hk, hq⟩ => ifB_intro (fun hb => ?_) (fun hb => ⟨?_⟩)⟩
  · have hk2 : k < l.length := by simpa using hb
    obtain ⟨b1, o1, rfl, hcell⟩ := h'.cells (by rw [flat_len (k := 8) (fun _ => rfl)]; omega)
    have w1 : IntKind.i64.wrap ((k : Int) + 1) = ((k + 1 : Nat) : Int) := by simp [IntKind.wrap_i64]; omega
    refine ⟨b1, o1, rfl, by omega, _,_,_,_,_,_,_,_, by simpa using CellsAt.elem (k := 8) (enc := encDl) (fun _ => rfl) l o1 k hk2 hcell, _, hf _ (List.getElem_mem hk2) n hn', ifB_intro (fun h1 => ⟨?_⟩) (fun h1 => ⟨k + 1, ⟨⟨hk2, ?_⟩, by simp [w1]⟩, by omega⟩)⟩
    · rw [idxF_found hk2 hq h1]
    · intro h hm
      rw [List.take_succ_eq_append_getElem hk2, List.mem_append] at hm
      rcases hm with hm | hm
      · exact hq h hm
      · have hm : h = l[k] := by simpa using hm
        subst hm
        exact h1
  · have : k = l.length := by simp at hb; omega
    subst this
    rw [idxF_none fun h hm => hq h (by simpa using hm)]

end Go.Proofs.Ytoilbbfidnhekaa
