/-
  No cell of these rows narrows 'for every input' (looked for: loops, veiled, ifaces, maps, wideKeys, modest, calm, conditions, laid).
  DERIVED. THE GIVEN ROWS OF THIS SEAT. 5 by the template 'for every input the law returns true; each argument reads behind the call as it read before'; 0 by the template 'total and deterministic' (their statements: YtjjfcaigonomiaaTotals.lean).
  GIVEN WITH THE SEED: the statements are not yours to turn. If you find one false, say at which input.
  Laid BY PROGRAM, IN A SANDBOX (cutbox-rows.mjs): the forced cells as the released guide's own fill.sh prints them over the translation e18ecd1a0c2fbf7f… (all of the seat's roots in one cut). By AI agents, Wed Nov 11 2026. No macro, syntax, notation, axiom, sorry.
-/
import Derived.Test.YtjjfcaigonomiaaChecked
import GoSem.Claim
import GoSem.ClaimJoined
import GoSem.ClaimMapViews
import Derived.JoinedTies
import Derived.KernelRfl
namespace Go.Proofs.Ytjjfcaigonomiaa
/- THE CELL 'sum', in the pinned program and in every row, IS THE sha256 OF THE DUMP (.gsa) THAT YtjjfcaigonomiaaProg.lean LOADS. Nothing in Lean hashes anything: it is a label: what it is worth is what the hold of that sum in a sandbox is worth. -/
noncomputable def Try.pinned : Pinned := { name := "ytjjfcaigonomiaa", sum := "e18ecd1a0c2fbf7ffb56a8eca6ef9c7b8c6c13b2af305a7061a48150bdfd2303", checked := Try.checked }
namespace Rows
def none {H : Type} : Left H := { results := [], args := [] }

/-- 'purselaw20.PlanRuns': WHATEVER THE INPUT: true; the input reads as it did. -/
def planRunsSpec : ChangeSpec := { name := "planRuns", fn := fun _ => fun
  | [d] => { results := [.lit (.bool true)], args := [d] }
  | _ => none }
def planRunsRow : OpenClaim := { program := "ytjjfcaigonomiaa", sum := "e18ecd1a0c2fbf7ffb56a8eca6ef9c7b8c6c13b2af305a7061a48150bdfd2303", func := "purse/purselaw20.PlanRuns", spec := "planRuns", inPlace := ["slices.overlaps[purse/api.Mark]", "slices.overlaps[purse/api.Place]"], unfollowed := true, recurses := true, apart := false }
def PlanRunsSaid : Prop := planRunsRow.holds Try.pinned (OpenSpec.ofChange planRunsSpec)

/-- ITS FALSE NEIGHBOUR: 'it returns false'. Refute it at one input. -/
def planRunsWrong : ChangeSpec := { name := "planRuns", fn := fun _ => fun
  | [d] => { results := [.lit (.bool false)], args := [d] }
  | _ => none }
def PlanRunsWrongFalsely : Prop := planRunsRow.holds Try.pinned (OpenSpec.ofChange planRunsWrong)

/-- 'purselaw20.PlanStays': WHATEVER THE INPUT: true; the input reads as it did. -/
def planStaysSpec : ChangeSpec := { name := "planStays", fn := fun _ => fun
  | [d1, d2] => { results := [.lit (.bool true)], args := [d1, d2] }
  | _ => none }
def planStaysRow : OpenClaim := { program := "ytjjfcaigonomiaa", sum := "e18ecd1a0c2fbf7ffb56a8eca6ef9c7b8c6c13b2af305a7061a48150bdfd2303", func := "purse/purselaw20.PlanStays", spec := "planStays", inPlace := ["slices.overlaps[purse/api.Mark]", "slices.overlaps[purse/api.Place]"], unfollowed := true, recurses := true, apart := false }
def PlanStaysSaid : Prop := planStaysRow.holds Try.pinned (OpenSpec.ofChange planStaysSpec)

/-- ITS FALSE NEIGHBOUR: 'it returns false'. Refute it at one input. -/
def planStaysWrong : ChangeSpec := { name := "planStays", fn := fun _ => fun
  | [d1, d2] => { results := [.lit (.bool false)], args := [d1, d2] }
  | _ => none }
def PlanStaysWrongFalsely : Prop := planStaysRow.holds Try.pinned (OpenSpec.ofChange planStaysWrong)

/-- 'purselaw20.PlanOne': WHATEVER THE INPUT: true; the input reads as it did. -/
def planOneSpec : ChangeSpec := { name := "planOne", fn := fun _ => fun
  | [d1, d2, d3, d4, d5] => { results := [.lit (.bool true)], args := [d1, d2, d3, d4, d5] }
  | _ => none }
def planOneRow : OpenClaim := { program := "ytjjfcaigonomiaa", sum := "e18ecd1a0c2fbf7ffb56a8eca6ef9c7b8c6c13b2af305a7061a48150bdfd2303", func := "purse/purselaw20.PlanOne", spec := "planOne", inPlace := ["slices.overlaps[purse/api.Mark]", "slices.overlaps[purse/api.Place]"], unfollowed := true, recurses := true, apart := false }
def PlanOneSaid : Prop := planOneRow.holds Try.pinned (OpenSpec.ofChange planOneSpec)

/-- ITS FALSE NEIGHBOUR: 'it returns false'. Refute it at one input. -/
def planOneWrong : ChangeSpec := { name := "planOne", fn := fun _ => fun
  | [d1, d2, d3, d4, d5] => { results := [.lit (.bool false)], args := [d1, d2, d3, d4, d5] }
  | _ => none }
def PlanOneWrongFalsely : Prop := planOneRow.holds Try.pinned (OpenSpec.ofChange planOneWrong)

/-- 'purselaw20.PlanPlays': WHATEVER THE INPUT: true; the input reads as it did. -/
def planPlaysSpec : ChangeSpec := { name := "planPlays", fn := fun _ => fun
  | [d1, d2, d3] => { results := [.lit (.bool true)], args := [d1, d2, d3] }
  | _ => none }
def planPlaysRow : OpenClaim := { program := "ytjjfcaigonomiaa", sum := "e18ecd1a0c2fbf7ffb56a8eca6ef9c7b8c6c13b2af305a7061a48150bdfd2303", func := "purse/purselaw20.PlanPlays", spec := "planPlays", inPlace := ["slices.overlaps[purse/api.Mark]", "slices.overlaps[purse/api.Place]"], unfollowed := true, recurses := true, apart := false }
def PlanPlaysSaid : Prop := planPlaysRow.holds Try.pinned (OpenSpec.ofChange planPlaysSpec)

/-- ITS FALSE NEIGHBOUR: 'it returns false'. Refute it at one input. -/
def planPlaysWrong : ChangeSpec := { name := "planPlays", fn := fun _ => fun
  | [d1, d2, d3] => { results := [.lit (.bool false)], args := [d1, d2, d3] }
  | _ => none }
def PlanPlaysWrongFalsely : Prop := planPlaysRow.holds Try.pinned (OpenSpec.ofChange planPlaysWrong)

/-- 'purselaw20.PlanWalks': WHATEVER THE INPUT: true; the input reads as it did. -/
def planWalksSpec : ChangeSpec := { name := "planWalks", fn := fun _ => fun
  | [d] => { results := [.lit (.bool true)], args := [d] }
  | _ => none }
def planWalksRow : OpenClaim := { program := "ytjjfcaigonomiaa", sum := "e18ecd1a0c2fbf7ffb56a8eca6ef9c7b8c6c13b2af305a7061a48150bdfd2303", func := "purse/purselaw20.PlanWalks", spec := "planWalks", inPlace := ["slices.overlaps[purse/api.Place]", "slices.overlaps[purse/api.Mark]"], unfollowed := true, recurses := true, apart := false }
def PlanWalksSaid : Prop := planWalksRow.holds Try.pinned (OpenSpec.ofChange planWalksSpec)

/-- ITS FALSE NEIGHBOUR: 'it returns false'. Refute it at one input. -/
def planWalksWrong : ChangeSpec := { name := "planWalks", fn := fun _ => fun
  | [d] => { results := [.lit (.bool false)], args := [d] }
  | _ => none }
def PlanWalksWrongFalsely : Prop := planWalksRow.holds Try.pinned (OpenSpec.ofChange planWalksWrong)

/- THE SECOND FORM. 'bulk': how many values and letters a reading holds, each counted each time it is reached (what is shared counts as often as it is met; a slice's spare places count too). A statement '..UptoSaid' is the law's where the arguments, and the package variables that the reading takes, are together of bulk at most 1048576: NARROWER than '..Said'. Prove '..Said' where nothing that the law and all that it calls make is longer than what came in: it says more and counts as full. Else prove '..UptoSaid'. A law counts once. -/
mutual
def uptoBulk {H : Type} : DataW H → Nat
  | .lit (.string bytes) => bytes.length + 1
  | .lit _ => 1
  | .nil => 1
  | .ptr d => uptoBulk d + 1
  | .slice elems spare => uptoBulkAll elems + uptoBulkAll spare + 1
  | .agg parts => uptoBulkAll parts + 1
  | .iface _ d => uptoBulk d + 1
  | .map entries => uptoBulkEntries entries + 1
  | .held _ => 1
def uptoBulkAll {H : Type} : List (DataW H) → Nat
  | [] => 0
  | d :: r => uptoBulk d + uptoBulkAll r
def uptoBulkEntries {H : Type} : List (Lit × DataW H) → Nat
  | [] => 0
  | x :: r => uptoBulkEntry x + uptoBulkEntries r
def uptoBulkEntry {H : Type} : Lit × DataW H → Nat
  | (.string bytes, d) => bytes.length + uptoBulk d + 1
  | (_, d) => uptoBulk d + 1
 end
def uptoSmall : (H : Type) → List (DataW H) → Bool := fun _ ds => decide (uptoBulkAll ds ≤ 1048576)
def OpenSpec.upto (s : _root_.Go.ChangeSpec) : _root_.Go.OpenSpec := { _root_.Go.OpenSpec.ofChange s with cond := some uptoSmall }

/-- 'purselaw20.PlanRuns', WHERE WHAT IT READS IS OF BULK AT MOST 1048576: true; the input reads as it did. -/
def planRunsUptoRow : OpenClaim := { program := "ytjjfcaigonomiaa", sum := "e18ecd1a0c2fbf7ffb56a8eca6ef9c7b8c6c13b2af305a7061a48150bdfd2303", func := "purse/purselaw20.PlanRuns", spec := "planRuns", inPlace := ["slices.overlaps[purse/api.Mark]", "slices.overlaps[purse/api.Place]"], unfollowed := true, recurses := true, apart := false, narrowed := true }
def PlanRunsUptoSaid : Prop := planRunsUptoRow.holds Try.pinned (OpenSpec.upto planRunsSpec)

/-- 'purselaw20.PlanStays', WHERE WHAT IT READS IS OF BULK AT MOST 1048576: true; the input reads as it did. -/
def planStaysUptoRow : OpenClaim := { program := "ytjjfcaigonomiaa", sum := "e18ecd1a0c2fbf7ffb56a8eca6ef9c7b8c6c13b2af305a7061a48150bdfd2303", func := "purse/purselaw20.PlanStays", spec := "planStays", inPlace := ["slices.overlaps[purse/api.Mark]", "slices.overlaps[purse/api.Place]"], unfollowed := true, recurses := true, apart := false, narrowed := true }
def PlanStaysUptoSaid : Prop := planStaysUptoRow.holds Try.pinned (OpenSpec.upto planStaysSpec)

/-- 'purselaw20.PlanOne', WHERE WHAT IT READS IS OF BULK AT MOST 1048576: true; the input reads as it did. -/
def planOneUptoRow : OpenClaim := { program := "ytjjfcaigonomiaa", sum := "e18ecd1a0c2fbf7ffb56a8eca6ef9c7b8c6c13b2af305a7061a48150bdfd2303", func := "purse/purselaw20.PlanOne", spec := "planOne", inPlace := ["slices.overlaps[purse/api.Mark]", "slices.overlaps[purse/api.Place]"], unfollowed := true, recurses := true, apart := false, narrowed := true }
def PlanOneUptoSaid : Prop := planOneUptoRow.holds Try.pinned (OpenSpec.upto planOneSpec)

/-- 'purselaw20.PlanPlays', WHERE WHAT IT READS IS OF BULK AT MOST 1048576: true; the input reads as it did. -/
def planPlaysUptoRow : OpenClaim := { program := "ytjjfcaigonomiaa", sum := "e18ecd1a0c2fbf7ffb56a8eca6ef9c7b8c6c13b2af305a7061a48150bdfd2303", func := "purse/purselaw20.PlanPlays", spec := "planPlays", inPlace := ["slices.overlaps[purse/api.Mark]", "slices.overlaps[purse/api.Place]"], unfollowed := true, recurses := true, apart := false, narrowed := true }
def PlanPlaysUptoSaid : Prop := planPlaysUptoRow.holds Try.pinned (OpenSpec.upto planPlaysSpec)

/-- 'purselaw20.PlanWalks', WHERE WHAT IT READS IS OF BULK AT MOST 1048576: true; the input reads as it did. -/
def planWalksUptoRow : OpenClaim := { program := "ytjjfcaigonomiaa", sum := "e18ecd1a0c2fbf7ffb56a8eca6ef9c7b8c6c13b2af305a7061a48150bdfd2303", func := "purse/purselaw20.PlanWalks", spec := "planWalks", inPlace := ["slices.overlaps[purse/api.Place]", "slices.overlaps[purse/api.Mark]"], unfollowed := true, recurses := true, apart := false, narrowed := true }
def PlanWalksUptoSaid : Prop := planWalksUptoRow.holds Try.pinned (OpenSpec.upto planWalksSpec)

end Rows
end Go.Proofs.Ytjjfcaigonomiaa
