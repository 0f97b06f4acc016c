/-
  Contracts of functions of package num, its reference and its laws: what each hands back. Nothing here is trusted: Lean checks it.
-/
import Derived.Test.YtfagpihpelgmiaaNum2
import Derived.Test.YtfagpihpelgmiaaVcWorld
import Derived.Lib.SmallJoins
namespace Go.Proofs.Ytfagpihpelgmiaa
open Go.Vc Go.RowKit Go.ChangeShapes
theorem cells28 : Try.prog.cellsOf 28 = 2 := by kernel_rfl
theorem open_span {H : Type} {enc : TypeId × Value → H} {w : World} {r : Reach} {b0 base : Nat} {spare : Nat → Bool} {held : Bool} {v : Value} {d : DataW H} {p : List MemPlace} (hv : Value.okWide Try.prog w r b0 28 v)
    (h : DataW.Trod enc Try.prog w base spare held 28 v d p) : ∃ a b : Int, v = .agg #[.int .i64 a, .int .i64 b] ∧ (-9223372036854775808 ≤ a ∧ a ≤ 9223372036854775807) ∧ (-9223372036854775808 ≤ b ∧ b ≤ 9223372036854775807) := by
  obtain ⟨c0, c1, y0, y1, m, rfl, rfl, rfl, hy0, hy1⟩ := Joins.open_agg2 Try.underlying28 (by kernel_rfl) cells28 hv h
  obtain ⟨a, ha, -, hwa⟩ := DataW.trod_int Try.underlying3 hy0
  obtain ⟨b, hb, -, hwb⟩ := DataW.trod_int Try.underlying3 hy1
  cases ha
  cases hb
  exact ⟨a, b, rfl, by simpa [Lit.wf, IntKind.min, IntKind.max, IntKind.signed, IntKind.bits] using hwa, by simpa [Lit.wf, IntKind.min, IntKind.max, IntKind.signed, IntKind.bits] using hwb⟩
end Go.Proofs.Ytfagpihpelgmiaa
