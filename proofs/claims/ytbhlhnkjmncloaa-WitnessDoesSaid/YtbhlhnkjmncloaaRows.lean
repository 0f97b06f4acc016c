/-
  No cell of these rows narrows 'for every input' (looked for: loops, veiled, ifaces, maps, wideKeys, modest, calm, conditions, laid).
  DERIVED. THE GIVEN ROWS OF THIS SEAT. 7 by the template 'for every input the law returns true; each argument reads behind the call as it read before'; 0 by the template 'total and deterministic' (their statements: YtbhlhnkjmncloaaTotals.lean).
  GIVEN WITH THE SEED: the statements are not yours to turn. If you find one false, say at which input.
  Laid BY PROGRAM, IN A SANDBOX (cutbox-rows.mjs): the forced cells as the released guide's own fill.sh prints them over the translation 7ee4be6f451ce552… (all of the seat's roots in one cut). By AI agents, Wed Nov 11 2026. No macro, syntax, notation, axiom, sorry.
-/
import Derived.Test.YtbhlhnkjmncloaaChecked
import GoSem.Claim
import GoSem.ClaimJoined
import GoSem.ClaimMapViews
import Derived.JoinedTies
import Derived.KernelRfl
namespace Go.Proofs.Ytbhlhnkjmncloaa
/- THE CELL 'sum', in the pinned program and in every row, IS THE sha256 OF THE DUMP (.gsa) THAT YtbhlhnkjmncloaaProg.lean LOADS. Nothing in Lean hashes anything: it is a label: what it is worth is what the hold of that sum in a sandbox is worth. -/
noncomputable def Try.pinned : Pinned := { name := "ytbhlhnkjmncloaa", sum := "7ee4be6f451ce552bd6c11423d99f806a7eb213d85c2888b8c0542aa73e9839e", checked := Try.checked }
namespace Rows
def none {H : Type} : Left H := { results := [], args := [] }

/-- 'purselaw24.WitnessDoes': WHATEVER THE INPUT: true; the input reads as it did. -/
def witnessDoesSpec : ChangeSpec := { name := "witnessDoes", fn := fun _ => fun
  | [d1, d2] => { results := [.lit (.bool true)], args := [d1, d2] }
  | _ => none }
def witnessDoesRow : OpenClaim := { program := "ytbhlhnkjmncloaa", sum := "7ee4be6f451ce552bd6c11423d99f806a7eb213d85c2888b8c0542aa73e9839e", func := "purse/purselaw24.WitnessDoes", spec := "witnessDoes", inPlace := ["internal/bytealg.abigen_runtime_cmpstring", "slices.overlaps[purse/api.Total]", "math/bits.Add64"], unfollowed := true, recurses := true, apart := false }
def WitnessDoesSaid : Prop := witnessDoesRow.holds Try.pinned (OpenSpec.ofChange witnessDoesSpec)

/-- ITS FALSE NEIGHBOUR: 'it returns false'. Refute it at one input. -/
def witnessDoesWrong : ChangeSpec := { name := "witnessDoes", fn := fun _ => fun
  | [d1, d2] => { results := [.lit (.bool false)], args := [d1, d2] }
  | _ => none }
def WitnessDoesWrongFalsely : Prop := witnessDoesRow.holds Try.pinned (OpenSpec.ofChange witnessDoesWrong)

/-- 'purselaw24.WitnessBounds': WHATEVER THE INPUT: true; the input reads as it did. -/
def witnessBoundsSpec : ChangeSpec := { name := "witnessBounds", fn := fun _ => fun
  | [d1, d2] => { results := [.lit (.bool true)], args := [d1, d2] }
  | _ => none }
def witnessBoundsRow : OpenClaim := { program := "ytbhlhnkjmncloaa", sum := "7ee4be6f451ce552bd6c11423d99f806a7eb213d85c2888b8c0542aa73e9839e", func := "purse/purselaw24.WitnessBounds", spec := "witnessBounds", inPlace := ["internal/bytealg.abigen_runtime_cmpstring", "slices.overlaps[purse/api.Total]", "math/bits.Add64"], unfollowed := true, recurses := true, apart := false }
def WitnessBoundsSaid : Prop := witnessBoundsRow.holds Try.pinned (OpenSpec.ofChange witnessBoundsSpec)

/-- ITS FALSE NEIGHBOUR: 'it returns false'. Refute it at one input. -/
def witnessBoundsWrong : ChangeSpec := { name := "witnessBounds", fn := fun _ => fun
  | [d1, d2] => { results := [.lit (.bool false)], args := [d1, d2] }
  | _ => none }
def WitnessBoundsWrongFalsely : Prop := witnessBoundsRow.holds Try.pinned (OpenSpec.ofChange witnessBoundsWrong)

/-- 'purselaw24.WitnessRuns': WHATEVER THE INPUT: true; the input reads as it did. -/
def witnessRunsSpec : ChangeSpec := { name := "witnessRuns", fn := fun _ => fun
  | [d] => { results := [.lit (.bool true)], args := [d] }
  | _ => none }
def witnessRunsRow : OpenClaim := { program := "ytbhlhnkjmncloaa", sum := "7ee4be6f451ce552bd6c11423d99f806a7eb213d85c2888b8c0542aa73e9839e", func := "purse/purselaw24.WitnessRuns", spec := "witnessRuns", inPlace := ["internal/bytealg.abigen_runtime_cmpstring", "slices.overlaps[purse/api.Total]"], unfollowed := true, recurses := true, apart := false }
def WitnessRunsSaid : Prop := witnessRunsRow.holds Try.pinned (OpenSpec.ofChange witnessRunsSpec)

/-- ITS FALSE NEIGHBOUR: 'it returns false'. Refute it at one input. -/
def witnessRunsWrong : ChangeSpec := { name := "witnessRuns", fn := fun _ => fun
  | [d] => { results := [.lit (.bool false)], args := [d] }
  | _ => none }
def WitnessRunsWrongFalsely : Prop := witnessRunsRow.holds Try.pinned (OpenSpec.ofChange witnessRunsWrong)

/-- 'purselaw24.WitnessCatches': WHATEVER THE INPUT: true; the input reads as it did. -/
def witnessCatchesSpec : ChangeSpec := { name := "witnessCatches", fn := fun _ => fun
  | [d1, d2, d3] => { results := [.lit (.bool true)], args := [d1, d2, d3] }
  | _ => none }
def witnessCatchesRow : OpenClaim := { program := "ytbhlhnkjmncloaa", sum := "7ee4be6f451ce552bd6c11423d99f806a7eb213d85c2888b8c0542aa73e9839e", func := "purse/purselaw24.WitnessCatches", spec := "witnessCatches", inPlace := ["internal/bytealg.abigen_runtime_cmpstring", "slices.overlaps[purse/api.Total]"], unfollowed := true, recurses := true, apart := false }
def WitnessCatchesSaid : Prop := witnessCatchesRow.holds Try.pinned (OpenSpec.ofChange witnessCatchesSpec)

/-- ITS FALSE NEIGHBOUR: 'it returns false'. Refute it at one input. -/
def witnessCatchesWrong : ChangeSpec := { name := "witnessCatches", fn := fun _ => fun
  | [d1, d2, d3] => { results := [.lit (.bool false)], args := [d1, d2, d3] }
  | _ => none }
def WitnessCatchesWrongFalsely : Prop := witnessCatchesRow.holds Try.pinned (OpenSpec.ofChange witnessCatchesWrong)

/-- 'purselaw24.WitnessCut': WHATEVER THE INPUT: true; the input reads as it did. -/
def witnessCutSpec : ChangeSpec := { name := "witnessCut", fn := fun _ => fun
  | [d1, d2] => { results := [.lit (.bool true)], args := [d1, d2] }
  | _ => none }
def witnessCutRow : OpenClaim := { program := "ytbhlhnkjmncloaa", sum := "7ee4be6f451ce552bd6c11423d99f806a7eb213d85c2888b8c0542aa73e9839e", func := "purse/purselaw24.WitnessCut", spec := "witnessCut", inPlace := ["internal/bytealg.abigen_runtime_cmpstring", "slices.overlaps[purse/api.Total]"], unfollowed := true, recurses := true, apart := false }
def WitnessCutSaid : Prop := witnessCutRow.holds Try.pinned (OpenSpec.ofChange witnessCutSpec)

/-- ITS FALSE NEIGHBOUR: 'it returns false'. Refute it at one input. -/
def witnessCutWrong : ChangeSpec := { name := "witnessCut", fn := fun _ => fun
  | [d1, d2] => { results := [.lit (.bool false)], args := [d1, d2] }
  | _ => none }
def WitnessCutWrongFalsely : Prop := witnessCutRow.holds Try.pinned (OpenSpec.ofChange witnessCutWrong)

/-- 'purselaw24.WitnessOrder': WHATEVER THE INPUT: true; the input reads as it did. -/
def witnessOrderSpec : ChangeSpec := { name := "witnessOrder", fn := fun _ => fun
  | [d] => { results := [.lit (.bool true)], args := [d] }
  | _ => none }
def witnessOrderRow : OpenClaim := { program := "ytbhlhnkjmncloaa", sum := "7ee4be6f451ce552bd6c11423d99f806a7eb213d85c2888b8c0542aa73e9839e", func := "purse/purselaw24.WitnessOrder", spec := "witnessOrder", inPlace := ["internal/bytealg.abigen_runtime_cmpstring", "slices.overlaps[purse/api.Total]"], unfollowed := true, recurses := true, apart := false }
def WitnessOrderSaid : Prop := witnessOrderRow.holds Try.pinned (OpenSpec.ofChange witnessOrderSpec)

/-- ITS FALSE NEIGHBOUR: 'it returns false'. Refute it at one input. -/
def witnessOrderWrong : ChangeSpec := { name := "witnessOrder", fn := fun _ => fun
  | [d] => { results := [.lit (.bool false)], args := [d] }
  | _ => none }
def WitnessOrderWrongFalsely : Prop := witnessOrderRow.holds Try.pinned (OpenSpec.ofChange witnessOrderWrong)

/-- 'purselaw24.WitnessLegal': WHATEVER THE INPUT: true; the input reads as it did. -/
def witnessLegalSpec : ChangeSpec := { name := "witnessLegal", fn := fun _ => fun
  | [d] => { results := [.lit (.bool true)], args := [d] }
  | _ => none }
def witnessLegalRow : OpenClaim := { program := "ytbhlhnkjmncloaa", sum := "7ee4be6f451ce552bd6c11423d99f806a7eb213d85c2888b8c0542aa73e9839e", func := "purse/purselaw24.WitnessLegal", spec := "witnessLegal", inPlace := ["internal/bytealg.abigen_runtime_cmpstring", "slices.overlaps[purse/api.Total]", "math/bits.Add64"], unfollowed := true, recurses := true, apart := false }
def WitnessLegalSaid : Prop := witnessLegalRow.holds Try.pinned (OpenSpec.ofChange witnessLegalSpec)

/-- ITS FALSE NEIGHBOUR: 'it returns false'. Refute it at one input. -/
def witnessLegalWrong : ChangeSpec := { name := "witnessLegal", fn := fun _ => fun
  | [d] => { results := [.lit (.bool false)], args := [d] }
  | _ => none }
def WitnessLegalWrongFalsely : Prop := witnessLegalRow.holds Try.pinned (OpenSpec.ofChange witnessLegalWrong)

/- THE SECOND FORM. 'bulk': how many values and letters a reading holds, each counted each time it is reached (what is shared counts as often as it is met; a slice's spare places count too). A statement '..UptoSaid' is the law's where the arguments, and the package variables that the reading takes, are together of bulk at most 1048576: NARROWER than '..Said'. Prove '..Said' where nothing that the law and all that it calls make is longer than what came in: it says more and counts as full. Else prove '..UptoSaid'. A law counts once. -/
mutual
def uptoBulk {H : Type} : DataW H → Nat
  | .lit (.string bytes) => bytes.length + 1
  | .lit _ => 1
  | .nil => 1
  | .ptr d => uptoBulk d + 1
  | .slice elems spare => uptoBulkAll elems + uptoBulkAll spare + 1
  | .agg parts => uptoBulkAll parts + 1
  | .iface _ d => uptoBulk d + 1
  | .map entries => uptoBulkEntries entries + 1
  | .held _ => 1
def uptoBulkAll {H : Type} : List (DataW H) → Nat
  | [] => 0
  | d :: r => uptoBulk d + uptoBulkAll r
def uptoBulkEntries {H : Type} : List (Lit × DataW H) → Nat
  | [] => 0
  | x :: r => uptoBulkEntry x + uptoBulkEntries r
def uptoBulkEntry {H : Type} : Lit × DataW H → Nat
  | (.string bytes, d) => bytes.length + uptoBulk d + 1
  | (_, d) => uptoBulk d + 1
 end
def uptoSmall : (H : Type) → List (DataW H) → Bool := fun _ ds => decide (uptoBulkAll ds ≤ 1048576)
def OpenSpec.upto (s : _root_.Go.ChangeSpec) : _root_.Go.OpenSpec := { _root_.Go.OpenSpec.ofChange s with cond := some uptoSmall }

/-- 'purselaw24.WitnessDoes', WHERE WHAT IT READS IS OF BULK AT MOST 1048576: true; the input reads as it did. -/
def witnessDoesUptoRow : OpenClaim := { program := "ytbhlhnkjmncloaa", sum := "7ee4be6f451ce552bd6c11423d99f806a7eb213d85c2888b8c0542aa73e9839e", func := "purse/purselaw24.WitnessDoes", spec := "witnessDoes", inPlace := ["internal/bytealg.abigen_runtime_cmpstring", "slices.overlaps[purse/api.Total]", "math/bits.Add64"], unfollowed := true, recurses := true, apart := false, narrowed := true }
def WitnessDoesUptoSaid : Prop := witnessDoesUptoRow.holds Try.pinned (OpenSpec.upto witnessDoesSpec)

/-- 'purselaw24.WitnessBounds', WHERE WHAT IT READS IS OF BULK AT MOST 1048576: true; the input reads as it did. -/
def witnessBoundsUptoRow : OpenClaim := { program := "ytbhlhnkjmncloaa", sum := "7ee4be6f451ce552bd6c11423d99f806a7eb213d85c2888b8c0542aa73e9839e", func := "purse/purselaw24.WitnessBounds", spec := "witnessBounds", inPlace := ["internal/bytealg.abigen_runtime_cmpstring", "slices.overlaps[purse/api.Total]", "math/bits.Add64"], unfollowed := true, recurses := true, apart := false, narrowed := true }
def WitnessBoundsUptoSaid : Prop := witnessBoundsUptoRow.holds Try.pinned (OpenSpec.upto witnessBoundsSpec)

/-- 'purselaw24.WitnessRuns', WHERE WHAT IT READS IS OF BULK AT MOST 1048576: true; the input reads as it did. -/
def witnessRunsUptoRow : OpenClaim := { program := "ytbhlhnkjmncloaa", sum := "7ee4be6f451ce552bd6c11423d99f806a7eb213d85c2888b8c0542aa73e9839e", func := "purse/purselaw24.WitnessRuns", spec := "witnessRuns", inPlace := ["internal/bytealg.abigen_runtime_cmpstring", "slices.overlaps[purse/api.Total]"], unfollowed := true, recurses := true, apart := false, narrowed := true }
def WitnessRunsUptoSaid : Prop := witnessRunsUptoRow.holds Try.pinned (OpenSpec.upto witnessRunsSpec)

/-- 'purselaw24.WitnessCatches', WHERE WHAT IT READS IS OF BULK AT MOST 1048576: true; the input reads as it did. -/
def witnessCatchesUptoRow : OpenClaim := { program := "ytbhlhnkjmncloaa", sum := "7ee4be6f451ce552bd6c11423d99f806a7eb213d85c2888b8c0542aa73e9839e", func := "purse/purselaw24.WitnessCatches", spec := "witnessCatches", inPlace := ["internal/bytealg.abigen_runtime_cmpstring", "slices.overlaps[purse/api.Total]"], unfollowed := true, recurses := true, apart := false, narrowed := true }
def WitnessCatchesUptoSaid : Prop := witnessCatchesUptoRow.holds Try.pinned (OpenSpec.upto witnessCatchesSpec)

/-- 'purselaw24.WitnessCut', WHERE WHAT IT READS IS OF BULK AT MOST 1048576: true; the input reads as it did. -/
def witnessCutUptoRow : OpenClaim := { program := "ytbhlhnkjmncloaa", sum := "7ee4be6f451ce552bd6c11423d99f806a7eb213d85c2888b8c0542aa73e9839e", func := "purse/purselaw24.WitnessCut", spec := "witnessCut", inPlace := ["internal/bytealg.abigen_runtime_cmpstring", "slices.overlaps[purse/api.Total]"], unfollowed := true, recurses := true, apart := false, narrowed := true }
def WitnessCutUptoSaid : Prop := witnessCutUptoRow.holds Try.pinned (OpenSpec.upto witnessCutSpec)

/-- 'purselaw24.WitnessOrder', WHERE WHAT IT READS IS OF BULK AT MOST 1048576: true; the input reads as it did. -/
def witnessOrderUptoRow : OpenClaim := { program := "ytbhlhnkjmncloaa", sum := "7ee4be6f451ce552bd6c11423d99f806a7eb213d85c2888b8c0542aa73e9839e", func := "purse/purselaw24.WitnessOrder", spec := "witnessOrder", inPlace := ["internal/bytealg.abigen_runtime_cmpstring", "slices.overlaps[purse/api.Total]"], unfollowed := true, recurses := true, apart := false, narrowed := true }
def WitnessOrderUptoSaid : Prop := witnessOrderUptoRow.holds Try.pinned (OpenSpec.upto witnessOrderSpec)

/-- 'purselaw24.WitnessLegal', WHERE WHAT IT READS IS OF BULK AT MOST 1048576: true; the input reads as it did. -/
def witnessLegalUptoRow : OpenClaim := { program := "ytbhlhnkjmncloaa", sum := "7ee4be6f451ce552bd6c11423d99f806a7eb213d85c2888b8c0542aa73e9839e", func := "purse/purselaw24.WitnessLegal", spec := "witnessLegal", inPlace := ["internal/bytealg.abigen_runtime_cmpstring", "slices.overlaps[purse/api.Total]", "math/bits.Add64"], unfollowed := true, recurses := true, apart := false, narrowed := true }
def WitnessLegalUptoSaid : Prop := witnessLegalUptoRow.holds Try.pinned (OpenSpec.upto witnessLegalSpec)

end Rows
end Go.Proofs.Ytbhlhnkjmncloaa
