/-
  Contracts of functions of package num, its reference and its laws: what each hands back. Nothing here is trusted: Lean checks it.
-/
import Derived.Test.YtfagpihpelgmiaaNum5
import Derived.Test.YtfagpihpelgmiaaVcRead
namespace Go.Proofs.Ytfagpihpelgmiaa
open Go.Vc Go.RowKit Go.ChangeShapes Go.WideShapes Go.ChangeAt
theorem bulk_mem {H : Type} {d : DataW H} : ∀ {l : List (DataW H)}, d ∈ l → Rows.uptoBulk d ≤ Rows.uptoBulkAll l
  | x :: r, h => by
    simp only [Rows.uptoBulkAll]
    rcases List.mem_cons.1 h with e | e
    · subst e; omega
    · have := bulk_mem e; omega
theorem bulk_pos {H : Type} (d : DataW H) : 1 ≤ Rows.uptoBulk d := by
  cases d with
  | lit l => cases l <;> simp [Rows.uptoBulk]
  | _ => simp [Rows.uptoBulk]
theorem bulk_len {H : Type} : ∀ (l : List (DataW H)), l.length ≤ Rows.uptoBulkAll l
  | [] => by simp
  | x :: r => by have := bulk_pos x; have := bulk_len r; simp only [Rows.uptoBulkAll, List.length_cons]; omega
theorem bound (H : Type) : Bound (H := H) 1048576 (fun d => Rows.uptoBulk d ≤ 1048576) where
  str l h := by simp [Rows.uptoBulk] at h; omega
  sl el sp h := by
    simp only [Rows.uptoBulk] at h
    have h1 := bulk_len el
    have h2 := bulk_len sp
    refine ⟨by omega, fun x hx => ?_⟩
    rcases hx with hx | hx
    · have := bulk_mem hx; omega
    · have := bulk_mem hx; omega
  agg ps h x hx := by simp only [Rows.uptoBulk] at h; have := bulk_mem hx; omega

theorem ints_rows : ∀ (rows : List (List Value)), (∀ r ∈ rows, ∃ n, r = [I n] ∧ In64 n) → ∃ z : List Int, z.length = rows.length ∧ rows.flatten = ints z ∧ ∀ x ∈ z, In64 x
  | [], _ => ⟨[], rfl, rfl, fun x hx => by simp at hx⟩
  | r :: rs, h => by
    obtain ⟨z, h1, h2, h3⟩ := ints_rows rs fun r hr => h r (by simp [hr])
    obtain ⟨n, rfl, hn⟩ := h r (by simp)
    refine ⟨n :: z, by simp [h1], by simp only [List.flatten_cons, h2, ints, List.flatMap_cons], fun x hx => ?_⟩
    rcases List.mem_cons.1 hx with e | e
    · subst e; exact hn
    · exact h3 x e

theorem open_list {H : Type} {enc : TypeId × Value → H} {W : World} {r : Reach} {b0 : Nat} {v : Value} {d : DataW H} {p : List MemPlace} (hv : Value.okWide Try.prog W r b0 41 v)
    (h : DataW.Trod enc Try.prog W 0 (fun _ => true) true 41 v d p) (hb : Rows.uptoBulk d ≤ 1048576) :
    ∃ (a : Option Addr) (c : Nat) (z : List Int), v = .slice a z.length c ∧ z.length ≤ c ∧ z.length ≤ 1048576 ∧ (∀ x ∈ z, In64 x) ∧ Row (M.all W) a (ints z) := by
  obtain ⟨a, len, cap, rfl⟩ := okWide_slice Try.underlying41 hv
  obtain ⟨fuel, hf⟩ := h
  have hr := rd_of_trod (bound H) 2 fuel 41 _ _ hf hb
  simp only [Rd, Try.underlying41, Try.underlying3] at hr
  obtain ⟨a', cap', rows, hcs, h1, h2, h3, h4, h5⟩ := hr
  obtain ⟨z, hz, he, hi⟩ := ints_rows rows fun r hr => by
    obtain ⟨-, n, hn, hlo, hhi⟩ := h4 r hr
    exact ⟨n, hn, by simpa [In64, IntKind.min, IntKind.max, IntKind.signed, IntKind.bits] using And.intro hlo hhi⟩
  simp [Value.cells] at hcs
  obtain ⟨rfl, rfl, rfl⟩ := hcs
  rw [he] at h5
  exact ⟨a, cap, z, by rw [hz], by omega, by omega, hi, h5⟩
end Go.Proofs.Ytfagpihpelgmiaa
