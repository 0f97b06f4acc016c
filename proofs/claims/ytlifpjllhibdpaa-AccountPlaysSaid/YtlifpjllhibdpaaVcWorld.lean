/-
  A world whose memory is all known. Nothing here is trusted: Lean checks it. It names no program.
-/
import Derived.Test.YtlifpjllhibdpaaVcLem
set_option linter.unusedVariables false
set_option linter.unusedSimpArgs false
namespace Go.Vc
open Go.RowKit

/-- all the cells of a world, as knowledge -/
def M.all (W : World) : M := { π := fun b o => W.cell? ⟨b, o, none⟩, sz := W.heap.size, uf := fun _ => False }

theorem cell_lt {W : World} {b o : Nat} {v : Value} (h : W.cell? ⟨b, o, none⟩ = some v) : b < W.heap.size := by
  rcases Nat.lt_or_ge b W.heap.size with hb | hb
  · exact hb
  · have : W.cell? ⟨b, o, none⟩ = none := by unfold World.cell?; simp [Array.getElem?_eq_none hb]
    rw [this] at h
    cases h

theorem M.all_ok (W : World) : (M.all W).ok W :=
  ⟨Nat.le_refl _, fun b o v h => ⟨cell_lt h, h⟩, fun b h => h.elim⟩

/-- what a contract says in a world whose memory is all known -/
theorem QSpec.all {P : Program} {f : FuncId} {args : List Value} {W : World} {v : Value} (h : QSpec P f args (M.all W) v) : Calls P f args.toArray W fun e W' => e = .returned v ∧ Below W.heap.size W W' :=
  h.out W (M.all_ok W)
end Go.Vc
