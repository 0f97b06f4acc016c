/-
  Rows in two blocks do not overlap. Nothing here is trusted: Lean checks it. It names no program.
-/
import Derived.Test.YtlifpjllhibdpaaVcList
import Derived.Lib.Overlaps
set_option linter.unusedVariables false
set_option linter.unusedSimpArgs false
namespace Go.Vc
open Go.RowKit
/-- rows in two blocks of the call's own do not overlap -/
theorem over_run {P : Program} {f : FuncId} {fn : Func} {t tR e : TypeId} {i : TypeInfo} (hf : P.funcs[f]? = some fn) (hname : (fn.name == "runtime.NumGoroutine") = false) (hb : fn.body.isNone = true) (hn : Extern.findNext fn = none)
    (he : Extern.find fn = some (Extern.SlicesOverlaps.overlaps #[t, t] #[tR])) (ht : P.underlying t = some (.slice e)) (hi : P.info? e = some i) {m : M} {vb vo b o la ca lb cb : Nat} (hne : vb ≠ b) (hu : m.uf vb) (hu2 : m.uf b) (hc : ∃ o v, m.π b o = some v) :
    RunV P f [.slice (some ⟨vb, vo, none⟩) la ca, .slice (some ⟨b, o, none⟩) lb cb] m (.bool false) := by
  refine ⟨fun w hm => ?_⟩
  obtain ⟨-, c1, t1, h1⟩ := hm.2.2 vb hu
  obtain ⟨-, c2, t2, h2⟩ := hm.2.2 b hu2
  obtain ⟨o', v', hv⟩ := hc
  have hcell := (hm.2.1 b o' v' hv).2
  have hz : c2.size ≠ 0 := fun h0 => by
    unfold World.cell? at hcell
    simp only [h2] at hcell
    have : c2 = #[] := Array.eq_empty_of_size_eq_zero h0
    subst this
    simp at hcell
  rw [run_callFunc_extern hf hname hb hn he]
  rw [Lib.run_overlaps_apart w t tR e ht i.size (fun w => by simp [Go.sizeOf, typeInfo, hi]) ⟨vb, vo, none⟩ ⟨b, o, none⟩ la ca lb cb hne t1 t2 c1.size c2.size
    (by simp [World.shape?, h1]) (by simp [World.shape?, h2]) hz (by simp [World.frozen?, h1]) (by simp [World.frozen?, h1])]
  rfl
end Go.Vc
