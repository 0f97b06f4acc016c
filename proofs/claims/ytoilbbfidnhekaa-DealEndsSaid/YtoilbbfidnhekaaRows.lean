/-
  No cell of these rows narrows 'for every input' (looked for: loops, veiled, ifaces, maps, wideKeys, modest, calm, conditions, laid).
  DERIVED. THE GIVEN ROWS OF THIS SEAT. 6 by the template 'for every input the law returns true; each argument reads behind the call as it read before'; 0 by the template 'total and deterministic' (their statements: YtoilbbfidnhekaaTotals.lean).
  GIVEN WITH THE SEED: the statements are not yours to turn. If you find one false, say at which input.
  Laid BY PROGRAM, IN A SANDBOX (cutbox-rows.mjs): the forced cells as the released guide's own fill.sh prints them over the translation 68492150559124df… (all of the seat's roots in one cut). By AI agents, Wed Nov 11 2026. No macro, syntax, notation, axiom, sorry.
-/
import Derived.Test.YtoilbbfidnhekaaChecked
import GoSem.Claim
import GoSem.ClaimJoined
import GoSem.ClaimMapViews
import Derived.JoinedTies
import Derived.KernelRfl
namespace Go.Proofs.Ytoilbbfidnhekaa
/- THE CELL 'sum', in the pinned program and in every row, IS THE sha256 OF THE DUMP (.gsa) THAT YtoilbbfidnhekaaProg.lean LOADS. Nothing in Lean hashes anything: it is a label: what it is worth is what the hold of that sum in a sandbox is worth. -/
noncomputable def Try.pinned : Pinned := { name := "ytoilbbfidnhekaa", sum := "68492150559124df4a98f7dda42170f73f5d41a313a7a5afe85efc57f2f20a38", checked := Try.checked }
namespace Rows
def none {H : Type} : Left H := { results := [], args := [] }

/-- 'purselaw18.DealPlays': WHATEVER THE INPUT: true; the input reads as it did. -/
def dealPlaysSpec : ChangeSpec := { name := "dealPlays", fn := fun _ => fun
  | [d1, d2, d3, d4, d5, d6] => { results := [.lit (.bool true)], args := [d1, d2, d3, d4, d5, d6] }
  | _ => none }
def dealPlaysRow : OpenClaim := { program := "ytoilbbfidnhekaa", sum := "68492150559124df4a98f7dda42170f73f5d41a313a7a5afe85efc57f2f20a38", func := "purse/purselaw18.DealPlays", spec := "dealPlays", unfollowed := true, recurses := true, apart := false }
def DealPlaysSaid : Prop := dealPlaysRow.holds Try.pinned (OpenSpec.ofChange dealPlaysSpec)

/-- ITS FALSE NEIGHBOUR: 'it returns false'. Refute it at one input. -/
def dealPlaysWrong : ChangeSpec := { name := "dealPlays", fn := fun _ => fun
  | [d1, d2, d3, d4, d5, d6] => { results := [.lit (.bool false)], args := [d1, d2, d3, d4, d5, d6] }
  | _ => none }
def DealPlaysWrongFalsely : Prop := dealPlaysRow.holds Try.pinned (OpenSpec.ofChange dealPlaysWrong)

/-- 'purselaw18.DealOnce': WHATEVER THE INPUT: true; the input reads as it did. -/
def dealOnceSpec : ChangeSpec := { name := "dealOnce", fn := fun _ => fun
  | [d1, d2, d3] => { results := [.lit (.bool true)], args := [d1, d2, d3] }
  | _ => none }
def dealOnceRow : OpenClaim := { program := "ytoilbbfidnhekaa", sum := "68492150559124df4a98f7dda42170f73f5d41a313a7a5afe85efc57f2f20a38", func := "purse/purselaw18.DealOnce", spec := "dealOnce", unfollowed := true, recurses := true, apart := false }
def DealOnceSaid : Prop := dealOnceRow.holds Try.pinned (OpenSpec.ofChange dealOnceSpec)

/-- ITS FALSE NEIGHBOUR: 'it returns false'. Refute it at one input. -/
def dealOnceWrong : ChangeSpec := { name := "dealOnce", fn := fun _ => fun
  | [d1, d2, d3] => { results := [.lit (.bool false)], args := [d1, d2, d3] }
  | _ => none }
def DealOnceWrongFalsely : Prop := dealOnceRow.holds Try.pinned (OpenSpec.ofChange dealOnceWrong)

/-- 'purselaw18.DealOthers': WHATEVER THE INPUT: true; the input reads as it did. -/
def dealOthersSpec : ChangeSpec := { name := "dealOthers", fn := fun _ => fun
  | [d1, d2, d3, d4, d5, d6, d7] => { results := [.lit (.bool true)], args := [d1, d2, d3, d4, d5, d6, d7] }
  | _ => none }
def dealOthersRow : OpenClaim := { program := "ytoilbbfidnhekaa", sum := "68492150559124df4a98f7dda42170f73f5d41a313a7a5afe85efc57f2f20a38", func := "purse/purselaw18.DealOthers", spec := "dealOthers", unfollowed := true, recurses := true, apart := false }
def DealOthersSaid : Prop := dealOthersRow.holds Try.pinned (OpenSpec.ofChange dealOthersSpec)

/-- ITS FALSE NEIGHBOUR: 'it returns false'. Refute it at one input. -/
def dealOthersWrong : ChangeSpec := { name := "dealOthers", fn := fun _ => fun
  | [d1, d2, d3, d4, d5, d6, d7] => { results := [.lit (.bool false)], args := [d1, d2, d3, d4, d5, d6, d7] }
  | _ => none }
def DealOthersWrongFalsely : Prop := dealOthersRow.holds Try.pinned (OpenSpec.ofChange dealOthersWrong)

/-- 'purselaw18.DealEnds': WHATEVER THE INPUT: true; the input reads as it did. -/
def dealEndsSpec : ChangeSpec := { name := "dealEnds", fn := fun _ => fun
  | [d1, d2, d3, d4] => { results := [.lit (.bool true)], args := [d1, d2, d3, d4] }
  | _ => none }
def dealEndsRow : OpenClaim := { program := "ytoilbbfidnhekaa", sum := "68492150559124df4a98f7dda42170f73f5d41a313a7a5afe85efc57f2f20a38", func := "purse/purselaw18.DealEnds", spec := "dealEnds", inPlace := ["slices.overlaps[purse/api.End]"], unfollowed := true, recurses := true, apart := false }
def DealEndsSaid : Prop := dealEndsRow.holds Try.pinned (OpenSpec.ofChange dealEndsSpec)

/-- ITS FALSE NEIGHBOUR: 'it returns false'. Refute it at one input. -/
def dealEndsWrong : ChangeSpec := { name := "dealEnds", fn := fun _ => fun
  | [d1, d2, d3, d4] => { results := [.lit (.bool false)], args := [d1, d2, d3, d4] }
  | _ => none }
def DealEndsWrongFalsely : Prop := dealEndsRow.holds Try.pinned (OpenSpec.ofChange dealEndsWrong)

/-- 'purselaw18.DealLattice': WHATEVER THE INPUT: true; the input reads as it did. -/
def dealLatticeSpec : ChangeSpec := { name := "dealLattice", fn := fun _ => fun
  | [d1, d2, d3, d4, d5] => { results := [.lit (.bool true)], args := [d1, d2, d3, d4, d5] }
  | _ => none }
def dealLatticeRow : OpenClaim := { program := "ytoilbbfidnhekaa", sum := "68492150559124df4a98f7dda42170f73f5d41a313a7a5afe85efc57f2f20a38", func := "purse/purselaw18.DealLattice", spec := "dealLattice", inPlace := ["slices.overlaps[purse/api.End]"], unfollowed := true, recurses := true, apart := false }
def DealLatticeSaid : Prop := dealLatticeRow.holds Try.pinned (OpenSpec.ofChange dealLatticeSpec)

/-- ITS FALSE NEIGHBOUR: 'it returns false'. Refute it at one input. -/
def dealLatticeWrong : ChangeSpec := { name := "dealLattice", fn := fun _ => fun
  | [d1, d2, d3, d4, d5] => { results := [.lit (.bool false)], args := [d1, d2, d3, d4, d5] }
  | _ => none }
def DealLatticeWrongFalsely : Prop := dealLatticeRow.holds Try.pinned (OpenSpec.ofChange dealLatticeWrong)

/-- 'purselaw18.DealWhole': WHATEVER THE INPUT: true; the input reads as it did. -/
def dealWholeSpec : ChangeSpec := { name := "dealWhole", fn := fun _ => fun
  | [d1, d2, d3, d4] => { results := [.lit (.bool true)], args := [d1, d2, d3, d4] }
  | _ => none }
def dealWholeRow : OpenClaim := { program := "ytoilbbfidnhekaa", sum := "68492150559124df4a98f7dda42170f73f5d41a313a7a5afe85efc57f2f20a38", func := "purse/purselaw18.DealWhole", spec := "dealWhole", inPlace := ["math/bits.Add64"], unfollowed := true, recurses := true, apart := false }
def DealWholeSaid : Prop := dealWholeRow.holds Try.pinned (OpenSpec.ofChange dealWholeSpec)

/-- ITS FALSE NEIGHBOUR: 'it returns false'. Refute it at one input. -/
def dealWholeWrong : ChangeSpec := { name := "dealWhole", fn := fun _ => fun
  | [d1, d2, d3, d4] => { results := [.lit (.bool false)], args := [d1, d2, d3, d4] }
  | _ => none }
def DealWholeWrongFalsely : Prop := dealWholeRow.holds Try.pinned (OpenSpec.ofChange dealWholeWrong)

/- THE SECOND FORM. 'bulk': how many values and letters a reading holds, each counted each time it is reached (what is shared counts as often as it is met; a slice's spare places count too). A statement '..UptoSaid' is the law's where the arguments, and the package variables that the reading takes, are together of bulk at most 1048576: NARROWER than '..Said'. Prove '..Said' where nothing that the law and all that it calls make is longer than what came in: it says more and counts as full. Else prove '..UptoSaid'. A law counts once. -/
mutual
def uptoBulk {H : Type} : DataW H → Nat
  | .lit (.string bytes) => bytes.length + 1
  | .lit _ => 1
  | .nil => 1
  | .ptr d => uptoBulk d + 1
  | .slice elems spare => uptoBulkAll elems + uptoBulkAll spare + 1
  | .agg parts => uptoBulkAll parts + 1
  | .iface _ d => uptoBulk d + 1
  | .map entries => uptoBulkEntries entries + 1
  | .held _ => 1
def uptoBulkAll {H : Type} : List (DataW H) → Nat
  | [] => 0
  | d :: r => uptoBulk d + uptoBulkAll r
def uptoBulkEntries {H : Type} : List (Lit × DataW H) → Nat
  | [] => 0
  | x :: r => uptoBulkEntry x + uptoBulkEntries r
def uptoBulkEntry {H : Type} : Lit × DataW H → Nat
  | (.string bytes, d) => bytes.length + uptoBulk d + 1
  | (_, d) => uptoBulk d + 1
 end
def uptoSmall : (H : Type) → List (DataW H) → Bool := fun _ ds => decide (uptoBulkAll ds ≤ 1048576)
def OpenSpec.upto (s : _root_.Go.ChangeSpec) : _root_.Go.OpenSpec := { _root_.Go.OpenSpec.ofChange s with cond := some uptoSmall }

/-- 'purselaw18.DealPlays', WHERE WHAT IT READS IS OF BULK AT MOST 1048576: true; the input reads as it did. -/
def dealPlaysUptoRow : OpenClaim := { program := "ytoilbbfidnhekaa", sum := "68492150559124df4a98f7dda42170f73f5d41a313a7a5afe85efc57f2f20a38", func := "purse/purselaw18.DealPlays", spec := "dealPlays", unfollowed := true, recurses := true, apart := false, narrowed := true }
def DealPlaysUptoSaid : Prop := dealPlaysUptoRow.holds Try.pinned (OpenSpec.upto dealPlaysSpec)

/-- 'purselaw18.DealOnce', WHERE WHAT IT READS IS OF BULK AT MOST 1048576: true; the input reads as it did. -/
def dealOnceUptoRow : OpenClaim := { program := "ytoilbbfidnhekaa", sum := "68492150559124df4a98f7dda42170f73f5d41a313a7a5afe85efc57f2f20a38", func := "purse/purselaw18.DealOnce", spec := "dealOnce", unfollowed := true, recurses := true, apart := false, narrowed := true }
def DealOnceUptoSaid : Prop := dealOnceUptoRow.holds Try.pinned (OpenSpec.upto dealOnceSpec)

/-- 'purselaw18.DealOthers', WHERE WHAT IT READS IS OF BULK AT MOST 1048576: true; the input reads as it did. -/
def dealOthersUptoRow : OpenClaim := { program := "ytoilbbfidnhekaa", sum := "68492150559124df4a98f7dda42170f73f5d41a313a7a5afe85efc57f2f20a38", func := "purse/purselaw18.DealOthers", spec := "dealOthers", unfollowed := true, recurses := true, apart := false, narrowed := true }
def DealOthersUptoSaid : Prop := dealOthersUptoRow.holds Try.pinned (OpenSpec.upto dealOthersSpec)

/-- 'purselaw18.DealEnds', WHERE WHAT IT READS IS OF BULK AT MOST 1048576: true; the input reads as it did. -/
def dealEndsUptoRow : OpenClaim := { program := "ytoilbbfidnhekaa", sum := "68492150559124df4a98f7dda42170f73f5d41a313a7a5afe85efc57f2f20a38", func := "purse/purselaw18.DealEnds", spec := "dealEnds", inPlace := ["slices.overlaps[purse/api.End]"], unfollowed := true, recurses := true, apart := false, narrowed := true }
def DealEndsUptoSaid : Prop := dealEndsUptoRow.holds Try.pinned (OpenSpec.upto dealEndsSpec)

/-- 'purselaw18.DealLattice', WHERE WHAT IT READS IS OF BULK AT MOST 1048576: true; the input reads as it did. -/
def dealLatticeUptoRow : OpenClaim := { program := "ytoilbbfidnhekaa", sum := "68492150559124df4a98f7dda42170f73f5d41a313a7a5afe85efc57f2f20a38", func := "purse/purselaw18.DealLattice", spec := "dealLattice", inPlace := ["slices.overlaps[purse/api.End]"], unfollowed := true, recurses := true, apart := false, narrowed := true }
def DealLatticeUptoSaid : Prop := dealLatticeUptoRow.holds Try.pinned (OpenSpec.upto dealLatticeSpec)

/-- 'purselaw18.DealWhole', WHERE WHAT IT READS IS OF BULK AT MOST 1048576: true; the input reads as it did. -/
def dealWholeUptoRow : OpenClaim := { program := "ytoilbbfidnhekaa", sum := "68492150559124df4a98f7dda42170f73f5d41a313a7a5afe85efc57f2f20a38", func := "purse/purselaw18.DealWhole", spec := "dealWhole", inPlace := ["math/bits.Add64"], unfollowed := true, recurses := true, apart := false, narrowed := true }
def DealWholeUptoSaid : Prop := dealWholeUptoRow.holds Try.pinned (OpenSpec.upto dealWholeSpec)

end Rows
end Go.Proofs.Ytoilbbfidnhekaa
