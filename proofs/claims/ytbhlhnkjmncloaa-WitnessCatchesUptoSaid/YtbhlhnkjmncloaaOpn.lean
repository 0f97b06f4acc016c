/-
  Contracts of functions of this seat: what each hands back, and what it leaves of memory (opn). Nothing here is trusted: Lean checks it.
-/
import Derived.Test.YtbhlhnkjmncloaaNum
import Derived.Test.YtbhlhnkjmncloaaVcOpen
set_option linter.unusedVariables false
set_option linter.unusedSimpArgs false
namespace Go.Proofs.Ytbhlhnkjmncloaa
open Go.Vc Go.RowKit Go.ChangeShapes Go.WideShapes Go.ChangeAt
set_option maxRecDepth 100000

theorem bulk_mem {H : Type} {d : DataW H} : ∀ {l : List (DataW H)}, d ∈ l → Rows.uptoBulk d ≤ Rows.uptoBulkAll l
  | x :: r, h => by
    simp only [Rows.uptoBulkAll]
    rcases List.mem_cons.1 h with e | e
    · subst e; omega
    · have := bulk_mem e; omega

theorem bulk_pos {H : Type} (d : DataW H) : 1 ≤ Rows.uptoBulk d := by
  cases d with
  | lit l => cases l <;> simp [Rows.uptoBulk]
  | _ => simp [Rows.uptoBulk]

theorem bulk_len {H : Type} : ∀ (l : List (DataW H)), l.length ≤ Rows.uptoBulkAll l
  | [] => by simp
  | x :: r => by have := bulk_pos x; have := bulk_len r; simp only [Rows.uptoBulkAll, List.length_cons]; omega

theorem bound_upto (H : Type) : Bound (H := H) 1048576 (fun d => Rows.uptoBulk d ≤ 1048576) where
  str l h _ := by simp [Rows.uptoBulk] at h; omega
  sl el sp h := by
    simp only [Rows.uptoBulk] at h
    have h1 := bulk_len el
    have h2 := bulk_len sp
    refine ⟨fun _ => by omega, fun x hx => ?_⟩
    rcases hx with hx | hx
    · have := bulk_mem hx; omega
    · have := bulk_mem hx; omega
  agg ps h x hx := by simp only [Rows.uptoBulk] at h; have := bulk_mem hx; omega

theorem bound_any (H : Type) : Bound (H := H) 9223372036854775807 (fun _ => True) where
  str l _ h := h
  sl el sp _ := ⟨fun h => h, fun _ _ => trivial⟩
  agg ps _ x _ := trivial

variable {H : Type} {enc : TypeId × Value → H} {W : World} {r : Reach} {b0 : Nat} {v : Value} {d : DataW H} {p : List MemPlace} {N : Nat} {Bd : DataW H → Prop}

theorem in64_of {n : Int} (h : IntKind.min .i64 ≤ n ∧ n ≤ IntKind.max .i64) : In64 n := by
  simpa [In64, IntKind.min, IntKind.max, IntKind.signed, IntKind.bits] using h

theorem open_i (hv : Value.okWide Try.prog W r b0 3 v) (h : DataW.Trod enc Try.prog W 0 (fun _ => true) true 3 v d p) : ∃ n : Int, v = I n ∧ In64 n := by
  obtain ⟨n, rfl⟩ := okWide_int Try.underlying3 hv
  obtain ⟨fuel, hf⟩ := h
  obtain ⟨n', hn, -, hw⟩ := DataW.trod_int Try.underlying3 hf
  cases hn
  exact ⟨n, rfl, in64_of (by simpa [Lit.wf] using hw)⟩

theorem open_b (hv : Value.okWide Try.prog W r b0 4 v) : ∃ b : Bool, v = .bool b := okWide_bool Try.underlying4 hv

theorem open_s (B : Bound N Bd) (hv : Value.okWide Try.prog W r b0 9 v) (h : DataW.Trod enc Try.prog W 0 (fun _ => true) true 9 v d p) (hb : Bd d) : ∃ s : ByteArray, v = .string s ∧ s.size ≤ N := by
  obtain ⟨s, rfl⟩ := okWide_string Try.underlying9 hv
  obtain ⟨fuel, hf⟩ := h
  have hr := rd_of_trod B 1 fuel 9 _ _ hf hb
  have e := Try.underlying9
  simp only [Rd, e] at hr
  obtain ⟨s', hs, hl⟩ := hr
  simp [Value.cells] at hs
  subst hs
  exact ⟨s, rfl, hl⟩

/-- a struct's cells -/
theorem open_agg {fs : Array Field} {t : TypeId} {k : Nat} (ht : Try.prog.underlying t = some (.struct fs)) (hk : Try.prog.cellsOf t = k) (hv : Value.okWide Try.prog W r b0 t v) : ∃ cs : List Value, v = .agg cs.toArray ∧ cs.length = k := by
  obtain ⟨cs, rfl, hs⟩ := okWide_struct ht hv
  exact ⟨cs.toList, by simp, by simpa using hs.trans hk⟩

/-- the rows of a list, one by one -/
theorem rows_list {α : Type} {e : α → List Value} {p : α → Prop} : ∀ (rows : List (List Value)), (∀ r ∈ rows, ∃ x : α, r = e x ∧ p x) → ∃ z : List α, z.length = rows.length ∧ rows.flatten = z.flatMap e ∧ ∀ x ∈ z, p x
  | [], _ => ⟨[], rfl, rfl, fun x hx => by simp at hx⟩
  | r :: rs, h => by
    obtain ⟨z, h1, h2, h3⟩ := rows_list rs fun r hr => h r (by simp [hr])
    obtain ⟨n, rfl, hn⟩ := h r (by simp)
    refine ⟨n :: z, by simp [h1], by simp only [List.flatten_cons, h2, List.flatMap_cons], fun x hx => ?_⟩
    rcases List.mem_cons.1 hx with e | e
    · subst e; exact hn
    · exact h3 x e

theorem open_ints (B : Bound N Bd) (hv : Value.okWide Try.prog W r b0 75 v) (h : DataW.Trod enc Try.prog W 0 (fun _ => true) true 75 v d p) (hb : Bd d) :
    ∃ (a : Option Addr) (c : Nat) (z : List Int), v = .slice a z.length c ∧ z.length ≤ N ∧ (∀ x ∈ z, In64 x) ∧ Row (M.all W) a (ints z) := by
  obtain ⟨a, len, cap, rfl⟩ := okWide_slice Try.underlying75 hv
  obtain ⟨fuel, hf⟩ := h
  have hr := rd_of_trod B 2 fuel 75 _ _ hf hb
  simp only [Rd, Try.underlying75, Try.underlying3] at hr
  obtain ⟨a', cap', rows, hcs, h1, h2, h3, h4, h5⟩ := hr
  obtain ⟨z, hz, he, hi⟩ := rows_list (α := Int) (e := fun n => [I n]) (p := In64) rows fun r hr => by
    obtain ⟨-, n, hn, hw⟩ := h4 r hr
    exact ⟨n, hn, in64_of hw⟩
  simp [Value.cells] at hcs
  obtain ⟨rfl, rfl, rfl⟩ := hcs
  rw [he] at h5
  exact ⟨a, cap, z, by rw [hz], by omega, hi, h5⟩

end Go.Proofs.Ytbhlhnkjmncloaa
