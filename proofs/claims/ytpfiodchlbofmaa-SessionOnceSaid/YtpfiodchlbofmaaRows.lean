/-
  No cell of these rows narrows 'for every input' (looked for: loops, veiled, ifaces, maps, wideKeys, modest, calm, conditions, laid).
  DERIVED. THE GIVEN ROWS OF THIS SEAT. 7 by the template 'for every input the law returns true; each argument reads behind the call as it read before'; 0 by the template 'total and deterministic' (their statements: YtpfiodchlbofmaaTotals.lean).
  GIVEN WITH THE SEED: the statements are not yours to turn. If you find one false, say at which input.
  Laid BY PROGRAM, IN A SANDBOX (cutbox-rows.mjs): the forced cells as the released guide's own fill.sh prints them over the translation 006b55cc5772bb4a… (all of the seat's roots in one cut). By AI agents, Wed Nov 11 2026. No macro, syntax, notation, axiom, sorry.
-/
import Derived.Test.YtpfiodchlbofmaaChecked
import GoSem.Claim
import GoSem.ClaimJoined
import GoSem.ClaimMapViews
import Derived.JoinedTies
import Derived.KernelRfl
namespace Go.Proofs.Ytpfiodchlbofmaa
/- THE CELL 'sum', in the pinned program and in every row, IS THE sha256 OF THE DUMP (.gsa) THAT YtpfiodchlbofmaaProg.lean LOADS. Nothing in Lean hashes anything: it is a label: what it is worth is what the hold of that sum in a sandbox is worth. -/
noncomputable def Try.pinned : Pinned := { name := "ytpfiodchlbofmaa", sum := "006b55cc5772bb4a1ee4cee13a24fee636686987283938b1e5795365acbbd6e6", checked := Try.checked }
namespace Rows
def none {H : Type} : Left H := { results := [], args := [] }

/-- 'purselaw14.SessionJoins': WHATEVER THE INPUT: true; the input reads as it did. -/
def sessionJoinsSpec : ChangeSpec := { name := "sessionJoins", fn := fun _ => fun
  | [d1, d2] => { results := [.lit (.bool true)], args := [d1, d2] }
  | _ => none }
def sessionJoinsRow : OpenClaim := { program := "ytpfiodchlbofmaa", sum := "006b55cc5772bb4a1ee4cee13a24fee636686987283938b1e5795365acbbd6e6", func := "purse/purselaw14.SessionJoins", spec := "sessionJoins", inPlace := ["slices.overlaps[purse/api.Mark]"], unfollowed := true, recurses := true, apart := false }
def SessionJoinsSaid : Prop := sessionJoinsRow.holds Try.pinned (OpenSpec.ofChange sessionJoinsSpec)

/-- ITS FALSE NEIGHBOUR: 'it returns false'. Refute it at one input. -/
def sessionJoinsWrong : ChangeSpec := { name := "sessionJoins", fn := fun _ => fun
  | [d1, d2] => { results := [.lit (.bool false)], args := [d1, d2] }
  | _ => none }
def SessionJoinsWrongFalsely : Prop := sessionJoinsRow.holds Try.pinned (OpenSpec.ofChange sessionJoinsWrong)

/-- 'purselaw14.SessionLattice': WHATEVER THE INPUT: true; the input reads as it did. -/
def sessionLatticeSpec : ChangeSpec := { name := "sessionLattice", fn := fun _ => fun
  | [d1, d2, d3] => { results := [.lit (.bool true)], args := [d1, d2, d3] }
  | _ => none }
def sessionLatticeRow : OpenClaim := { program := "ytpfiodchlbofmaa", sum := "006b55cc5772bb4a1ee4cee13a24fee636686987283938b1e5795365acbbd6e6", func := "purse/purselaw14.SessionLattice", spec := "sessionLattice", inPlace := ["slices.overlaps[purse/api.Mark]"], unfollowed := true, recurses := true, apart := false }
def SessionLatticeSaid : Prop := sessionLatticeRow.holds Try.pinned (OpenSpec.ofChange sessionLatticeSpec)

/-- ITS FALSE NEIGHBOUR: 'it returns false'. Refute it at one input. -/
def sessionLatticeWrong : ChangeSpec := { name := "sessionLattice", fn := fun _ => fun
  | [d1, d2, d3] => { results := [.lit (.bool false)], args := [d1, d2, d3] }
  | _ => none }
def SessionLatticeWrongFalsely : Prop := sessionLatticeRow.holds Try.pinned (OpenSpec.ofChange sessionLatticeWrong)

/-- 'purselaw14.SessionLoses': WHATEVER THE INPUT: true; the input reads as it did. -/
def sessionLosesSpec : ChangeSpec := { name := "sessionLoses", fn := fun _ => fun
  | [d1, d2, d3, d4] => { results := [.lit (.bool true)], args := [d1, d2, d3, d4] }
  | _ => none }
def sessionLosesRow : OpenClaim := { program := "ytpfiodchlbofmaa", sum := "006b55cc5772bb4a1ee4cee13a24fee636686987283938b1e5795365acbbd6e6", func := "purse/purselaw14.SessionLoses", spec := "sessionLoses", inPlace := ["slices.overlaps[purse/api.Mark]"], unfollowed := true, recurses := true, apart := false }
def SessionLosesSaid : Prop := sessionLosesRow.holds Try.pinned (OpenSpec.ofChange sessionLosesSpec)

/-- ITS FALSE NEIGHBOUR: 'it returns false'. Refute it at one input. -/
def sessionLosesWrong : ChangeSpec := { name := "sessionLoses", fn := fun _ => fun
  | [d1, d2, d3, d4] => { results := [.lit (.bool false)], args := [d1, d2, d3, d4] }
  | _ => none }
def SessionLosesWrongFalsely : Prop := sessionLosesRow.holds Try.pinned (OpenSpec.ofChange sessionLosesWrong)

/-- 'purselaw14.SessionOthers': WHATEVER THE INPUT: true; the input reads as it did. -/
def sessionOthersSpec : ChangeSpec := { name := "sessionOthers", fn := fun _ => fun
  | [d1, d2, d3, d4, d5] => { results := [.lit (.bool true)], args := [d1, d2, d3, d4, d5] }
  | _ => none }
def sessionOthersRow : OpenClaim := { program := "ytpfiodchlbofmaa", sum := "006b55cc5772bb4a1ee4cee13a24fee636686987283938b1e5795365acbbd6e6", func := "purse/purselaw14.SessionOthers", spec := "sessionOthers", inPlace := ["slices.overlaps[purse/api.Mark]"], unfollowed := true, recurses := true, apart := false }
def SessionOthersSaid : Prop := sessionOthersRow.holds Try.pinned (OpenSpec.ofChange sessionOthersSpec)

/-- ITS FALSE NEIGHBOUR: 'it returns false'. Refute it at one input. -/
def sessionOthersWrong : ChangeSpec := { name := "sessionOthers", fn := fun _ => fun
  | [d1, d2, d3, d4, d5] => { results := [.lit (.bool false)], args := [d1, d2, d3, d4, d5] }
  | _ => none }
def SessionOthersWrongFalsely : Prop := sessionOthersRow.holds Try.pinned (OpenSpec.ofChange sessionOthersWrong)

/-- 'purselaw14.SessionPlays': WHATEVER THE INPUT: true; the input reads as it did. -/
def sessionPlaysSpec : ChangeSpec := { name := "sessionPlays", fn := fun _ => fun
  | [d1, d2, d3, d4] => { results := [.lit (.bool true)], args := [d1, d2, d3, d4] }
  | _ => none }
def sessionPlaysRow : OpenClaim := { program := "ytpfiodchlbofmaa", sum := "006b55cc5772bb4a1ee4cee13a24fee636686987283938b1e5795365acbbd6e6", func := "purse/purselaw14.SessionPlays", spec := "sessionPlays", inPlace := ["slices.overlaps[purse/api.Mark]"], unfollowed := true, recurses := true, apart := false }
def SessionPlaysSaid : Prop := sessionPlaysRow.holds Try.pinned (OpenSpec.ofChange sessionPlaysSpec)

/-- ITS FALSE NEIGHBOUR: 'it returns false'. Refute it at one input. -/
def sessionPlaysWrong : ChangeSpec := { name := "sessionPlays", fn := fun _ => fun
  | [d1, d2, d3, d4] => { results := [.lit (.bool false)], args := [d1, d2, d3, d4] }
  | _ => none }
def SessionPlaysWrongFalsely : Prop := sessionPlaysRow.holds Try.pinned (OpenSpec.ofChange sessionPlaysWrong)

/-- 'purselaw14.SessionWalks': WHATEVER THE INPUT: true; the input reads as it did. -/
def sessionWalksSpec : ChangeSpec := { name := "sessionWalks", fn := fun _ => fun
  | [d1, d2, d3] => { results := [.lit (.bool true)], args := [d1, d2, d3] }
  | _ => none }
def sessionWalksRow : OpenClaim := { program := "ytpfiodchlbofmaa", sum := "006b55cc5772bb4a1ee4cee13a24fee636686987283938b1e5795365acbbd6e6", func := "purse/purselaw14.SessionWalks", spec := "sessionWalks", inPlace := ["slices.overlaps[purse/api.Mark]"], unfollowed := true, recurses := true, apart := false }
def SessionWalksSaid : Prop := sessionWalksRow.holds Try.pinned (OpenSpec.ofChange sessionWalksSpec)

/-- ITS FALSE NEIGHBOUR: 'it returns false'. Refute it at one input. -/
def sessionWalksWrong : ChangeSpec := { name := "sessionWalks", fn := fun _ => fun
  | [d1, d2, d3] => { results := [.lit (.bool false)], args := [d1, d2, d3] }
  | _ => none }
def SessionWalksWrongFalsely : Prop := sessionWalksRow.holds Try.pinned (OpenSpec.ofChange sessionWalksWrong)

/-- 'purselaw14.SessionOnce': WHATEVER THE INPUT: true; the input reads as it did. -/
def sessionOnceSpec : ChangeSpec := { name := "sessionOnce", fn := fun _ => fun
  | [d1, d2, d3, d4, d5] => { results := [.lit (.bool true)], args := [d1, d2, d3, d4, d5] }
  | _ => none }
def sessionOnceRow : OpenClaim := { program := "ytpfiodchlbofmaa", sum := "006b55cc5772bb4a1ee4cee13a24fee636686987283938b1e5795365acbbd6e6", func := "purse/purselaw14.SessionOnce", spec := "sessionOnce", inPlace := ["slices.overlaps[purse/api.Mark]"], unfollowed := true, recurses := true, apart := false }
def SessionOnceSaid : Prop := sessionOnceRow.holds Try.pinned (OpenSpec.ofChange sessionOnceSpec)

/-- ITS FALSE NEIGHBOUR: 'it returns false'. Refute it at one input. -/
def sessionOnceWrong : ChangeSpec := { name := "sessionOnce", fn := fun _ => fun
  | [d1, d2, d3, d4, d5] => { results := [.lit (.bool false)], args := [d1, d2, d3, d4, d5] }
  | _ => none }
def SessionOnceWrongFalsely : Prop := sessionOnceRow.holds Try.pinned (OpenSpec.ofChange sessionOnceWrong)

/- THE SECOND FORM. 'bulk': how many values and letters a reading holds, each counted each time it is reached (what is shared counts as often as it is met; a slice's spare places count too). A statement '..UptoSaid' is the law's where the arguments, and the package variables that the reading takes, are together of bulk at most 1048576: NARROWER than '..Said'. Prove '..Said' where nothing that the law and all that it calls make is longer than what came in: it says more and counts as full. Else prove '..UptoSaid'. A law counts once. -/
mutual
def uptoBulk {H : Type} : DataW H → Nat
  | .lit (.string bytes) => bytes.length + 1
  | .lit _ => 1
  | .nil => 1
  | .ptr d => uptoBulk d + 1
  | .slice elems spare => uptoBulkAll elems + uptoBulkAll spare + 1
  | .agg parts => uptoBulkAll parts + 1
  | .iface _ d => uptoBulk d + 1
  | .map entries => uptoBulkEntries entries + 1
  | .held _ => 1
def uptoBulkAll {H : Type} : List (DataW H) → Nat
  | [] => 0
  | d :: r => uptoBulk d + uptoBulkAll r
def uptoBulkEntries {H : Type} : List (Lit × DataW H) → Nat
  | [] => 0
  | x :: r => uptoBulkEntry x + uptoBulkEntries r
def uptoBulkEntry {H : Type} : Lit × DataW H → Nat
  | (.string bytes, d) => bytes.length + uptoBulk d + 1
  | (_, d) => uptoBulk d + 1
 end
def uptoSmall : (H : Type) → List (DataW H) → Bool := fun _ ds => decide (uptoBulkAll ds ≤ 1048576)
def OpenSpec.upto (s : _root_.Go.ChangeSpec) : _root_.Go.OpenSpec := { _root_.Go.OpenSpec.ofChange s with cond := some uptoSmall }

/-- 'purselaw14.SessionJoins', WHERE WHAT IT READS IS OF BULK AT MOST 1048576: true; the input reads as it did. -/
def sessionJoinsUptoRow : OpenClaim := { program := "ytpfiodchlbofmaa", sum := "006b55cc5772bb4a1ee4cee13a24fee636686987283938b1e5795365acbbd6e6", func := "purse/purselaw14.SessionJoins", spec := "sessionJoins", inPlace := ["slices.overlaps[purse/api.Mark]"], unfollowed := true, recurses := true, apart := false, narrowed := true }
def SessionJoinsUptoSaid : Prop := sessionJoinsUptoRow.holds Try.pinned (OpenSpec.upto sessionJoinsSpec)

/-- 'purselaw14.SessionLattice', WHERE WHAT IT READS IS OF BULK AT MOST 1048576: true; the input reads as it did. -/
def sessionLatticeUptoRow : OpenClaim := { program := "ytpfiodchlbofmaa", sum := "006b55cc5772bb4a1ee4cee13a24fee636686987283938b1e5795365acbbd6e6", func := "purse/purselaw14.SessionLattice", spec := "sessionLattice", inPlace := ["slices.overlaps[purse/api.Mark]"], unfollowed := true, recurses := true, apart := false, narrowed := true }
def SessionLatticeUptoSaid : Prop := sessionLatticeUptoRow.holds Try.pinned (OpenSpec.upto sessionLatticeSpec)

/-- 'purselaw14.SessionLoses', WHERE WHAT IT READS IS OF BULK AT MOST 1048576: true; the input reads as it did. -/
def sessionLosesUptoRow : OpenClaim := { program := "ytpfiodchlbofmaa", sum := "006b55cc5772bb4a1ee4cee13a24fee636686987283938b1e5795365acbbd6e6", func := "purse/purselaw14.SessionLoses", spec := "sessionLoses", inPlace := ["slices.overlaps[purse/api.Mark]"], unfollowed := true, recurses := true, apart := false, narrowed := true }
def SessionLosesUptoSaid : Prop := sessionLosesUptoRow.holds Try.pinned (OpenSpec.upto sessionLosesSpec)

/-- 'purselaw14.SessionOthers', WHERE WHAT IT READS IS OF BULK AT MOST 1048576: true; the input reads as it did. -/
def sessionOthersUptoRow : OpenClaim := { program := "ytpfiodchlbofmaa", sum := "006b55cc5772bb4a1ee4cee13a24fee636686987283938b1e5795365acbbd6e6", func := "purse/purselaw14.SessionOthers", spec := "sessionOthers", inPlace := ["slices.overlaps[purse/api.Mark]"], unfollowed := true, recurses := true, apart := false, narrowed := true }
def SessionOthersUptoSaid : Prop := sessionOthersUptoRow.holds Try.pinned (OpenSpec.upto sessionOthersSpec)

/-- 'purselaw14.SessionPlays', WHERE WHAT IT READS IS OF BULK AT MOST 1048576: true; the input reads as it did. -/
def sessionPlaysUptoRow : OpenClaim := { program := "ytpfiodchlbofmaa", sum := "006b55cc5772bb4a1ee4cee13a24fee636686987283938b1e5795365acbbd6e6", func := "purse/purselaw14.SessionPlays", spec := "sessionPlays", inPlace := ["slices.overlaps[purse/api.Mark]"], unfollowed := true, recurses := true, apart := false, narrowed := true }
def SessionPlaysUptoSaid : Prop := sessionPlaysUptoRow.holds Try.pinned (OpenSpec.upto sessionPlaysSpec)

/-- 'purselaw14.SessionWalks', WHERE WHAT IT READS IS OF BULK AT MOST 1048576: true; the input reads as it did. -/
def sessionWalksUptoRow : OpenClaim := { program := "ytpfiodchlbofmaa", sum := "006b55cc5772bb4a1ee4cee13a24fee636686987283938b1e5795365acbbd6e6", func := "purse/purselaw14.SessionWalks", spec := "sessionWalks", inPlace := ["slices.overlaps[purse/api.Mark]"], unfollowed := true, recurses := true, apart := false, narrowed := true }
def SessionWalksUptoSaid : Prop := sessionWalksUptoRow.holds Try.pinned (OpenSpec.upto sessionWalksSpec)

/-- 'purselaw14.SessionOnce', WHERE WHAT IT READS IS OF BULK AT MOST 1048576: true; the input reads as it did. -/
def sessionOnceUptoRow : OpenClaim := { program := "ytpfiodchlbofmaa", sum := "006b55cc5772bb4a1ee4cee13a24fee636686987283938b1e5795365acbbd6e6", func := "purse/purselaw14.SessionOnce", spec := "sessionOnce", inPlace := ["slices.overlaps[purse/api.Mark]"], unfollowed := true, recurses := true, apart := false, narrowed := true }
def SessionOnceUptoSaid : Prop := sessionOnceUptoRow.holds Try.pinned (OpenSpec.upto sessionOnceSpec)

end Rows
end Go.Proofs.Ytpfiodchlbofmaa
