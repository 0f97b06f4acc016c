/-
  No cell of these rows narrows 'for every input' (looked for: loops, veiled, ifaces, maps, wideKeys, modest, calm, conditions, laid).
  DERIVED. THE GIVEN ROWS OF THIS SEAT. 6 by the template 'for every input the law returns true; each argument reads behind the call as it read before'; 0 by the template 'total and deterministic' (their statements: YtpnpebefcmgjoaaTotals.lean).
  GIVEN WITH THE SEED: the statements are not yours to turn. If you find one false, say at which input.
  Laid BY PROGRAM, IN A SANDBOX (cutbox-rows.mjs): the forced cells as the released guide's own fill.sh prints them over the translation 61b0bf50a4a52e33… (all of the seat's roots in one cut). By AI agents, Wed Nov 11 2026. No macro, syntax, notation, axiom, sorry.
-/
import Derived.Test.YtpnpebefcmgjoaaChecked
import GoSem.Claim
import GoSem.ClaimJoined
import GoSem.ClaimMapViews
import Derived.JoinedTies
import Derived.KernelRfl
namespace Go.Proofs.Ytpnpebefcmgjoaa
/- THE CELL 'sum', in the pinned program and in every row, IS THE sha256 OF THE DUMP (.gsa) THAT YtpnpebefcmgjoaaProg.lean LOADS. Nothing in Lean hashes anything: it is a label: what it is worth is what the hold of that sum in a sandbox is worth. -/
noncomputable def Try.pinned : Pinned := { name := "ytpnpebefcmgjoaa", sum := "61b0bf50a4a52e33b18d817afb43209887fe02449d5c945b7d4449536db30c3c", checked := Try.checked }
namespace Rows
def none {H : Type} : Left H := { results := [], args := [] }

/-- 'purselaw17.RangesLooks': WHATEVER THE INPUT: true; the input reads as it did. -/
def rangesLooksSpec : ChangeSpec := { name := "rangesLooks", fn := fun _ => fun
  | [d1, d2, d3, d4, d5, d6] => { results := [.lit (.bool true)], args := [d1, d2, d3, d4, d5, d6] }
  | _ => none }
def rangesLooksRow : OpenClaim := { program := "ytpnpebefcmgjoaa", sum := "61b0bf50a4a52e33b18d817afb43209887fe02449d5c945b7d4449536db30c3c", func := "purse/purselaw17.RangesLooks", spec := "rangesLooks", inPlace := ["slices.overlaps[purse/api.Place]"], unfollowed := true, recurses := true, apart := false }
def RangesLooksSaid : Prop := rangesLooksRow.holds Try.pinned (OpenSpec.ofChange rangesLooksSpec)

/-- ITS FALSE NEIGHBOUR: 'it returns false'. Refute it at one input. -/
def rangesLooksWrong : ChangeSpec := { name := "rangesLooks", fn := fun _ => fun
  | [d1, d2, d3, d4, d5, d6] => { results := [.lit (.bool false)], args := [d1, d2, d3, d4, d5, d6] }
  | _ => none }
def RangesLooksWrongFalsely : Prop := rangesLooksRow.holds Try.pinned (OpenSpec.ofChange rangesLooksWrong)

/-- 'purselaw17.RangesOne': WHATEVER THE INPUT: true; the input reads as it did. -/
def rangesOneSpec : ChangeSpec := { name := "rangesOne", fn := fun _ => fun
  | [d1, d2] => { results := [.lit (.bool true)], args := [d1, d2] }
  | _ => none }
def rangesOneRow : OpenClaim := { program := "ytpnpebefcmgjoaa", sum := "61b0bf50a4a52e33b18d817afb43209887fe02449d5c945b7d4449536db30c3c", func := "purse/purselaw17.RangesOne", spec := "rangesOne", inPlace := ["slices.overlaps[purse/api.Place]"], unfollowed := true, recurses := true, apart := false }
def RangesOneSaid : Prop := rangesOneRow.holds Try.pinned (OpenSpec.ofChange rangesOneSpec)

/-- ITS FALSE NEIGHBOUR: 'it returns false'. Refute it at one input. -/
def rangesOneWrong : ChangeSpec := { name := "rangesOne", fn := fun _ => fun
  | [d1, d2] => { results := [.lit (.bool false)], args := [d1, d2] }
  | _ => none }
def RangesOneWrongFalsely : Prop := rangesOneRow.holds Try.pinned (OpenSpec.ofChange rangesOneWrong)

/-- 'purselaw17.RangesSplits': WHATEVER THE INPUT: true; the input reads as it did. -/
def rangesSplitsSpec : ChangeSpec := { name := "rangesSplits", fn := fun _ => fun
  | [d1, d2, d3, d4] => { results := [.lit (.bool true)], args := [d1, d2, d3, d4] }
  | _ => none }
def rangesSplitsRow : OpenClaim := { program := "ytpnpebefcmgjoaa", sum := "61b0bf50a4a52e33b18d817afb43209887fe02449d5c945b7d4449536db30c3c", func := "purse/purselaw17.RangesSplits", spec := "rangesSplits", inPlace := ["slices.overlaps[purse/api.Place]"], unfollowed := true, recurses := true, apart := false }
def RangesSplitsSaid : Prop := rangesSplitsRow.holds Try.pinned (OpenSpec.ofChange rangesSplitsSpec)

/-- ITS FALSE NEIGHBOUR: 'it returns false'. Refute it at one input. -/
def rangesSplitsWrong : ChangeSpec := { name := "rangesSplits", fn := fun _ => fun
  | [d1, d2, d3, d4] => { results := [.lit (.bool false)], args := [d1, d2, d3, d4] }
  | _ => none }
def RangesSplitsWrongFalsely : Prop := rangesSplitsRow.holds Try.pinned (OpenSpec.ofChange rangesSplitsWrong)

/-- 'purselaw17.RangesMoves': WHATEVER THE INPUT: true; the input reads as it did. -/
def rangesMovesSpec : ChangeSpec := { name := "rangesMoves", fn := fun _ => fun
  | [d1, d2, d3, d4] => { results := [.lit (.bool true)], args := [d1, d2, d3, d4] }
  | _ => none }
def rangesMovesRow : OpenClaim := { program := "ytpnpebefcmgjoaa", sum := "61b0bf50a4a52e33b18d817afb43209887fe02449d5c945b7d4449536db30c3c", func := "purse/purselaw17.RangesMoves", spec := "rangesMoves", inPlace := ["slices.overlaps[purse/api.Place]"], unfollowed := true, recurses := true, apart := false }
def RangesMovesSaid : Prop := rangesMovesRow.holds Try.pinned (OpenSpec.ofChange rangesMovesSpec)

/-- ITS FALSE NEIGHBOUR: 'it returns false'. Refute it at one input. -/
def rangesMovesWrong : ChangeSpec := { name := "rangesMoves", fn := fun _ => fun
  | [d1, d2, d3, d4] => { results := [.lit (.bool false)], args := [d1, d2, d3, d4] }
  | _ => none }
def RangesMovesWrongFalsely : Prop := rangesMovesRow.holds Try.pinned (OpenSpec.ofChange rangesMovesWrong)

/-- 'purselaw17.RangesWalk': WHATEVER THE INPUT: true; the input reads as it did. -/
def rangesWalkSpec : ChangeSpec := { name := "rangesWalk", fn := fun _ => fun
  | [d1, d2] => { results := [.lit (.bool true)], args := [d1, d2] }
  | _ => none }
def rangesWalkRow : OpenClaim := { program := "ytpnpebefcmgjoaa", sum := "61b0bf50a4a52e33b18d817afb43209887fe02449d5c945b7d4449536db30c3c", func := "purse/purselaw17.RangesWalk", spec := "rangesWalk", inPlace := ["slices.overlaps[purse/api.Place]"], unfollowed := true, recurses := true, apart := false }
def RangesWalkSaid : Prop := rangesWalkRow.holds Try.pinned (OpenSpec.ofChange rangesWalkSpec)

/-- ITS FALSE NEIGHBOUR: 'it returns false'. Refute it at one input. -/
def rangesWalkWrong : ChangeSpec := { name := "rangesWalk", fn := fun _ => fun
  | [d1, d2] => { results := [.lit (.bool false)], args := [d1, d2] }
  | _ => none }
def RangesWalkWrongFalsely : Prop := rangesWalkRow.holds Try.pinned (OpenSpec.ofChange rangesWalkWrong)

/-- 'purselaw17.RangesMerges': WHATEVER THE INPUT: true; the input reads as it did. -/
def rangesMergesSpec : ChangeSpec := { name := "rangesMerges", fn := fun _ => fun
  | [d1, d2, d3, d4, d5] => { results := [.lit (.bool true)], args := [d1, d2, d3, d4, d5] }
  | _ => none }
def rangesMergesRow : OpenClaim := { program := "ytpnpebefcmgjoaa", sum := "61b0bf50a4a52e33b18d817afb43209887fe02449d5c945b7d4449536db30c3c", func := "purse/purselaw17.RangesMerges", spec := "rangesMerges", inPlace := ["slices.overlaps[purse/api.Place]"], unfollowed := true, recurses := true, apart := false }
def RangesMergesSaid : Prop := rangesMergesRow.holds Try.pinned (OpenSpec.ofChange rangesMergesSpec)

/-- ITS FALSE NEIGHBOUR: 'it returns false'. Refute it at one input. -/
def rangesMergesWrong : ChangeSpec := { name := "rangesMerges", fn := fun _ => fun
  | [d1, d2, d3, d4, d5] => { results := [.lit (.bool false)], args := [d1, d2, d3, d4, d5] }
  | _ => none }
def RangesMergesWrongFalsely : Prop := rangesMergesRow.holds Try.pinned (OpenSpec.ofChange rangesMergesWrong)

/- THE SECOND FORM. 'bulk': how many values and letters a reading holds, each counted each time it is reached (what is shared counts as often as it is met; a slice's spare places count too). A statement '..UptoSaid' is the law's where the arguments, and the package variables that the reading takes, are together of bulk at most 1048576: NARROWER than '..Said'. Prove '..Said' where nothing that the law and all that it calls make is longer than what came in: it says more and counts as full. Else prove '..UptoSaid'. A law counts once. -/
mutual
def uptoBulk {H : Type} : DataW H → Nat
  | .lit (.string bytes) => bytes.length + 1
  | .lit _ => 1
  | .nil => 1
  | .ptr d => uptoBulk d + 1
  | .slice elems spare => uptoBulkAll elems + uptoBulkAll spare + 1
  | .agg parts => uptoBulkAll parts + 1
  | .iface _ d => uptoBulk d + 1
  | .map entries => uptoBulkEntries entries + 1
  | .held _ => 1
def uptoBulkAll {H : Type} : List (DataW H) → Nat
  | [] => 0
  | d :: r => uptoBulk d + uptoBulkAll r
def uptoBulkEntries {H : Type} : List (Lit × DataW H) → Nat
  | [] => 0
  | x :: r => uptoBulkEntry x + uptoBulkEntries r
def uptoBulkEntry {H : Type} : Lit × DataW H → Nat
  | (.string bytes, d) => bytes.length + uptoBulk d + 1
  | (_, d) => uptoBulk d + 1
 end
def uptoSmall : (H : Type) → List (DataW H) → Bool := fun _ ds => decide (uptoBulkAll ds ≤ 1048576)
def OpenSpec.upto (s : _root_.Go.ChangeSpec) : _root_.Go.OpenSpec := { _root_.Go.OpenSpec.ofChange s with cond := some uptoSmall }

/-- 'purselaw17.RangesLooks', WHERE WHAT IT READS IS OF BULK AT MOST 1048576: true; the input reads as it did. -/
def rangesLooksUptoRow : OpenClaim := { program := "ytpnpebefcmgjoaa", sum := "61b0bf50a4a52e33b18d817afb43209887fe02449d5c945b7d4449536db30c3c", func := "purse/purselaw17.RangesLooks", spec := "rangesLooks", inPlace := ["slices.overlaps[purse/api.Place]"], unfollowed := true, recurses := true, apart := false, narrowed := true }
def RangesLooksUptoSaid : Prop := rangesLooksUptoRow.holds Try.pinned (OpenSpec.upto rangesLooksSpec)

/-- 'purselaw17.RangesOne', WHERE WHAT IT READS IS OF BULK AT MOST 1048576: true; the input reads as it did. -/
def rangesOneUptoRow : OpenClaim := { program := "ytpnpebefcmgjoaa", sum := "61b0bf50a4a52e33b18d817afb43209887fe02449d5c945b7d4449536db30c3c", func := "purse/purselaw17.RangesOne", spec := "rangesOne", inPlace := ["slices.overlaps[purse/api.Place]"], unfollowed := true, recurses := true, apart := false, narrowed := true }
def RangesOneUptoSaid : Prop := rangesOneUptoRow.holds Try.pinned (OpenSpec.upto rangesOneSpec)

/-- 'purselaw17.RangesSplits', WHERE WHAT IT READS IS OF BULK AT MOST 1048576: true; the input reads as it did. -/
def rangesSplitsUptoRow : OpenClaim := { program := "ytpnpebefcmgjoaa", sum := "61b0bf50a4a52e33b18d817afb43209887fe02449d5c945b7d4449536db30c3c", func := "purse/purselaw17.RangesSplits", spec := "rangesSplits", inPlace := ["slices.overlaps[purse/api.Place]"], unfollowed := true, recurses := true, apart := false, narrowed := true }
def RangesSplitsUptoSaid : Prop := rangesSplitsUptoRow.holds Try.pinned (OpenSpec.upto rangesSplitsSpec)

/-- 'purselaw17.RangesMoves', WHERE WHAT IT READS IS OF BULK AT MOST 1048576: true; the input reads as it did. -/
def rangesMovesUptoRow : OpenClaim := { program := "ytpnpebefcmgjoaa", sum := "61b0bf50a4a52e33b18d817afb43209887fe02449d5c945b7d4449536db30c3c", func := "purse/purselaw17.RangesMoves", spec := "rangesMoves", inPlace := ["slices.overlaps[purse/api.Place]"], unfollowed := true, recurses := true, apart := false, narrowed := true }
def RangesMovesUptoSaid : Prop := rangesMovesUptoRow.holds Try.pinned (OpenSpec.upto rangesMovesSpec)

/-- 'purselaw17.RangesWalk', WHERE WHAT IT READS IS OF BULK AT MOST 1048576: true; the input reads as it did. -/
def rangesWalkUptoRow : OpenClaim := { program := "ytpnpebefcmgjoaa", sum := "61b0bf50a4a52e33b18d817afb43209887fe02449d5c945b7d4449536db30c3c", func := "purse/purselaw17.RangesWalk", spec := "rangesWalk", inPlace := ["slices.overlaps[purse/api.Place]"], unfollowed := true, recurses := true, apart := false, narrowed := true }
def RangesWalkUptoSaid : Prop := rangesWalkUptoRow.holds Try.pinned (OpenSpec.upto rangesWalkSpec)

/-- 'purselaw17.RangesMerges', WHERE WHAT IT READS IS OF BULK AT MOST 1048576: true; the input reads as it did. -/
def rangesMergesUptoRow : OpenClaim := { program := "ytpnpebefcmgjoaa", sum := "61b0bf50a4a52e33b18d817afb43209887fe02449d5c945b7d4449536db30c3c", func := "purse/purselaw17.RangesMerges", spec := "rangesMerges", inPlace := ["slices.overlaps[purse/api.Place]"], unfollowed := true, recurses := true, apart := false, narrowed := true }
def RangesMergesUptoSaid : Prop := rangesMergesUptoRow.holds Try.pinned (OpenSpec.upto rangesMergesSpec)

end Rows
end Go.Proofs.Ytpnpebefcmgjoaa
