/-
  What the reading of an argument tells of its cells, by its size. Nothing here is trusted: Lean checks it. It names no program.
-/
import Derived.Test.YtlifpjllhibdpaaVcWorld
import Derived.ProofKit
import Derived.ChangeArms
set_option linter.unusedVariables false
set_option linter.unusedSimpArgs false
namespace Go.Vc
open Go.RowKit

def fieldsD (R : TypeId → List Value → Prop) (sz : TypeId → Nat) (cs : List Value) : List Field → Prop
  | [] => True
  | f :: r => R f.type ((cs.drop f.offset).take (sz f.type)) ∧ fieldsD R sz cs r

/-- cells that stand for a value of type t: so deep as is asked; no list longer than N -/
def Rd (P : Program) (m : M) (N : Nat) : Nat → TypeId → List Value → Prop
  | 0, _, _ => True
  | d + 1, t, cs =>
    match P.underlying t with
    | some .bool => ∃ b, cs = [.bool b]
    | some (.int k) => ∃ n, cs = [.int k n] ∧ k.min ≤ n ∧ n ≤ k.max
    | some .string => ∃ s : ByteArray, cs = [.string s] ∧ s.size ≤ N
    | some (.slice e) => ∃ (a : Option Addr) (cap : Nat) (rows : List (List Value)), cs = [.slice a rows.length cap] ∧ rows.length ≤ cap ∧ cap ≤ N ∧ (a = none → cap = 0) ∧
        (∀ r ∈ rows, r.length = P.cellsOf e ∧ Rd P m N d e r) ∧ Row m a rows.flatten
    | some (.struct fs) => cs.length = P.cellsOf t ∧ fieldsD (Rd P m N d) P.cellsOf cs fs.toList
    | _ => True

/-- what bounds a datum bounds its parts -/
structure Bound {H : Type} (N : Nat) (Bd : DataW H → Prop) : Prop where
  str : ∀ l, Bd (.lit (.string l)) → l.length ≤ maxLen → l.length ≤ N
  sl : ∀ el sp, Bd (.slice el sp) → (el.length + sp.length ≤ maxLen → el.length + sp.length ≤ N) ∧ ∀ x, x ∈ el ∨ x ∈ sp → Bd x
  agg : ∀ ps, Bd (.agg ps) → ∀ x, x ∈ ps → Bd x

theorem rows_cells {m : M} {b c : Nat} : ∀ (rows : List (List Value)) (o : Nat), (∀ r ∈ rows, r.length = c) → (∀ i (h : i < rows.length), CellsAt m b (o + i * c) rows[i]) → CellsAt m b o rows.flatten
  | [], o, _, _ => ⟨fun j hj => by simp at hj⟩
  | r :: rs, o, hl, h => by
    rw [List.flatten_cons]
    refine CellsAt.append (by have := h 0 (by simp); rw [Nat.zero_mul, Nat.add_zero] at this; exact this) (rows_cells rs _ (fun r hr => hl r (by simp [hr])) fun i hi => ?_)
    have := h (i + 1) (by simpa using hi)
    rw [hl r (by simp)]
    rw [show o + c + i * c = o + (i + 1) * c by rw [Nat.add_mul]; omega]
    simpa using this

theorem list_of {α : Type} {Q : Nat → α → Prop} : ∀ (n : Nat), (∀ i, i < n → ∃ x, Q i x) → ∃ l : List α, l.length = n ∧ ∀ i (h : i < l.length), Q i l[i]
  | 0, _ => ⟨[], rfl, fun i h => by simp at h⟩
  | n + 1, h => by
    obtain ⟨l, hl, hq⟩ := list_of n fun i hi => h i (by omega)
    obtain ⟨x, hx⟩ := h n (by omega)
    refine ⟨l ++ [x], by simp [hl], fun i hi => ?_⟩
    by_cases hin : i < l.length
    · rw [List.getElem_append_left hin]; exact hq i hin
    · have : i = n := by simp at hi; omega
      subst this
      rw [List.getElem_append_right (by omega)]
      simpa [hl] using hx

theorem fieldsD_of {R : TypeId → List Value → Prop} {sz : TypeId → Nat} {cs : List Value} : ∀ (fs : List Field), (∀ f ∈ fs, R f.type ((cs.drop f.offset).take (sz f.type))) → fieldsD R sz cs fs
  | [], _ => trivial
  | f :: r, h => ⟨h f (by simp), fieldsD_of r fun f hf => h f (by simp [hf])⟩

theorem add_add (a : Addr) (i j : Nat) (h : a.spot = none) : (a.add i).add j = ⟨a.block, a.off + i + j, none⟩ := by
  obtain ⟨b, o, s⟩ := a
  simp only at h
  subst h
  unfold Addr.add
  split <;> split <;> simp_all

theorem rd_of_trod {H : Type} {enc : TypeId × Value → H} {P : Program} {W : World} {N : Nat} {Bd : DataW H → Prop} (B : Bound N Bd) :
    ∀ (d fuel : Nat) (t : TypeId) (cs : List Value) (x : DataW H × List MemPlace), DataW.trod enc P W 0 (fun _ => true) true fuel t cs = some x → Bd x.1 → Rd P (M.all W) N d t cs
  | 0, _, _, _, _, _, _ => trivial
  | d + 1, fuel, t, cs, x, h, hb => by
    simp only [Rd]
    split
    · rename_i hu
      obtain ⟨b, rfl, -⟩ := DataW.trod_bool hu h
      exact ⟨b, rfl⟩
    · rename_i k hu
      obtain ⟨n, rfl, -, hw⟩ := DataW.trod_int hu h
      exact ⟨n, rfl, by simpa [Lit.wf] using hw⟩
    · rename_i hu
      obtain ⟨s, rfl, rfl, hs⟩ := DataW.trod_string hu h
      exact ⟨s, rfl, by simpa using B.str _ hb (by simpa using hs)⟩
    · rename_i e hu
      rcases DataW.trod_slice hu h with ⟨rfl, -⟩ | ⟨a, len, cap, elems, rest, n, -, rfl, rfl, -, hl, hm, hlen, hel, hsp, -⟩
      · exact ⟨none, 0, [], rfl, by simp, by simp, fun _ => rfl, fun r hr => by simp at hr, .nil _⟩
      · obtain ⟨hrl, -⟩ := hsp rfl
        obtain ⟨hn, hparts⟩ := B.sl _ _ hb
        have hcap : cap ≤ N := by simp at hn; omega
        have hrow : ∀ i, i < len → ∃ r : List Value, r.length = P.cellsOf e ∧ (∀ j, j < r.length → W.cell? ((a.add (i * P.cellsOf e)).add j) = r[j]?) ∧ Rd P (M.all W) N d e r := fun i hi => by
          have := hel i hi
          rw [List.getElem?_eq_getElem (by omega)] at this
          obtain ⟨r, hr, ht⟩ := Option.bind_eq_some_iff.1 this
          obtain ⟨-, h2, h3⟩ := World.cells?_some hr
          refine ⟨r, h2, fun j hj => h3 j (by omega), rd_of_trod B d n e r _ ht (hparts _ (.inl (List.mem_map.2 ⟨_, List.getElem_mem _, rfl⟩)))⟩
        obtain ⟨rows, hrl2, hrows⟩ := list_of len hrow
        subst hrl2
        have hlens : ∀ r ∈ rows, r.length = P.cellsOf e := fun r hr => by
          obtain ⟨i, hi, rfl⟩ := List.mem_iff_getElem.1 hr
          exact (hrows i hi).1
        refine ⟨some a, cap, rows, rfl, hl, hcap, (fun e => by cases e), fun r hr => ?_, ?_⟩
        · obtain ⟨i, hi, rfl⟩ := List.mem_iff_getElem.1 hr
          exact ⟨(hrows i hi).1, (hrows i hi).2.2⟩
        · by_cases hemp : rows.flatten = []
          · rw [hemp]; exact .nil _
          · have hex : ∃ i, ∃ hi : i < rows.length, 0 < rows[i].length := by
              rcases Classical.em (∃ i, ∃ hi : i < rows.length, 0 < rows[i].length) with h | h
              · exact h
              · refine absurd (List.flatten_eq_nil_iff.2 fun r hr => ?_) hemp
                obtain ⟨i, hi, rfl⟩ := List.mem_iff_getElem.1 hr
                rcases Nat.eq_zero_or_pos rows[i].length with h0 | h0
                · exact List.eq_nil_of_length_eq_zero h0
                · exact absurd ⟨i, hi, h0⟩ h
            obtain ⟨i, hi, h0⟩ := hex
            have hp : 0 < rows.length := by omega
            have hc0 : 0 < rows[0].length := by rw [(hrows 0 hp).1, ← (hrows i hi).1]; exact h0
            have hcell := (hrows 0 hp).2.1 0 hc0
            rw [Nat.zero_mul, List.getElem?_eq_getElem hc0, show (a.add 0).add 0 = a from rfl] at hcell
            have hspot : a.spot = none := by
              unfold World.cell? at hcell
              split at hcell
              · split at hcell
                · cases hcell
                · rename_i h; simpa using h
              · cases hcell
            obtain ⟨b, o, s⟩ := a
            simp only at hspot
            subst hspot
            refine .at b o _ (cell_lt hcell) (rows_cells rows o hlens fun i hi => ⟨fun j hj => ?_⟩)
            have := (hrows i hi).2.1 j hj
            rw [add_add _ _ _ rfl] at this
            exact this
    · rename_i fs hu
      obtain ⟨xs, n, -, rfl, hl, hlen, hf⟩ := DataW.trod_struct hu h
      refine ⟨hl, fieldsD_of _ fun f hfm => ?_⟩
      obtain ⟨i, hi, rfl⟩ := List.mem_iff_getElem.1 hfm
      have := hf i _ (by simpa using Array.getElem?_eq_getElem (by simpa using hi))
      rw [List.getElem?_eq_getElem (by simpa [hlen] using hi)] at this
      exact rd_of_trod B d n _ _ _ this (B.agg _ hb _ (List.mem_map.2 ⟨_, List.getElem_mem _, rfl⟩))
    · trivial
end Go.Vc
