/-
  No cell of these rows narrows 'for every input' (looked for: loops, veiled, ifaces, maps, wideKeys, modest, calm, conditions, laid).
  DERIVED. THE GIVEN ROWS OF THIS SEAT. 8 by the template 'for every input the law returns true; each argument reads behind the call as it read before'; 0 by the template 'total and deterministic' (their statements: YtlifpjllhibdpaaTotals.lean).
  GIVEN WITH THE SEED: the statements are not yours to turn. If you find one false, say at which input.
  Laid BY PROGRAM, IN A SANDBOX (cutbox-rows.mjs): the forced cells as the released guide's own fill.sh prints them over the translation 6ff54073c6bb6578… (all of the seat's roots in one cut). By AI agents, Wed Nov 11 2026. No macro, syntax, notation, axiom, sorry.
-/
import Derived.Test.YtlifpjllhibdpaaChecked
import GoSem.Claim
import GoSem.ClaimJoined
import GoSem.ClaimMapViews
import Derived.JoinedTies
import Derived.KernelRfl
namespace Go.Proofs.Ytlifpjllhibdpaa
/- THE CELL 'sum', in the pinned program and in every row, IS THE sha256 OF THE DUMP (.gsa) THAT YtlifpjllhibdpaaProg.lean LOADS. Nothing in Lean hashes anything: it is a label: what it is worth is what the hold of that sum in a sandbox is worth. -/
noncomputable def Try.pinned : Pinned := { name := "ytlifpjllhibdpaa", sum := "6ff54073c6bb657808786bdbbce3453f23e08f22a0f928ab07b9748593184462", checked := Try.checked }
namespace Rows
def none {H : Type} : Left H := { results := [], args := [] }

/-- 'purselaw15.AccountLooks': WHATEVER THE INPUT: true; the input reads as it did. -/
def accountLooksSpec : ChangeSpec := { name := "accountLooks", fn := fun _ => fun
  | [d1, d2, d3] => { results := [.lit (.bool true)], args := [d1, d2, d3] }
  | _ => none }
def accountLooksRow : OpenClaim := { program := "ytlifpjllhibdpaa", sum := "6ff54073c6bb657808786bdbbce3453f23e08f22a0f928ab07b9748593184462", func := "purse/purselaw15.AccountLooks", spec := "accountLooks", inPlace := ["math/bits.Add64"], apart := false }
def AccountLooksSaid : Prop := accountLooksRow.holds Try.pinned (OpenSpec.ofChange accountLooksSpec)

/-- ITS FALSE NEIGHBOUR: 'it returns false'. Refute it at one input. -/
def accountLooksWrong : ChangeSpec := { name := "accountLooks", fn := fun _ => fun
  | [d1, d2, d3] => { results := [.lit (.bool false)], args := [d1, d2, d3] }
  | _ => none }
def AccountLooksWrongFalsely : Prop := accountLooksRow.holds Try.pinned (OpenSpec.ofChange accountLooksWrong)

/-- 'purselaw15.AccountAdds': WHATEVER THE INPUT: true; the input reads as it did. -/
def accountAddsSpec : ChangeSpec := { name := "accountAdds", fn := fun _ => fun
  | [d1, d2] => { results := [.lit (.bool true)], args := [d1, d2] }
  | _ => none }
def accountAddsRow : OpenClaim := { program := "ytlifpjllhibdpaa", sum := "6ff54073c6bb657808786bdbbce3453f23e08f22a0f928ab07b9748593184462", func := "purse/purselaw15.AccountAdds", spec := "accountAdds", inPlace := ["math/bits.Add64"], apart := false }
def AccountAddsSaid : Prop := accountAddsRow.holds Try.pinned (OpenSpec.ofChange accountAddsSpec)

/-- ITS FALSE NEIGHBOUR: 'it returns false'. Refute it at one input. -/
def accountAddsWrong : ChangeSpec := { name := "accountAdds", fn := fun _ => fun
  | [d1, d2] => { results := [.lit (.bool false)], args := [d1, d2] }
  | _ => none }
def AccountAddsWrongFalsely : Prop := accountAddsRow.holds Try.pinned (OpenSpec.ofChange accountAddsWrong)

/-- 'purselaw15.AccountRounds': WHATEVER THE INPUT: true; the input reads as it did. -/
def accountRoundsSpec : ChangeSpec := { name := "accountRounds", fn := fun _ => fun
  | [d1, d2, d3] => { results := [.lit (.bool true)], args := [d1, d2, d3] }
  | _ => none }
def accountRoundsRow : OpenClaim := { program := "ytlifpjllhibdpaa", sum := "6ff54073c6bb657808786bdbbce3453f23e08f22a0f928ab07b9748593184462", func := "purse/purselaw15.AccountRounds", spec := "accountRounds", inPlace := ["math/bits.Add64"], unfollowed := true, recurses := true, apart := false }
def AccountRoundsSaid : Prop := accountRoundsRow.holds Try.pinned (OpenSpec.ofChange accountRoundsSpec)

/-- ITS FALSE NEIGHBOUR: 'it returns false'. Refute it at one input. -/
def accountRoundsWrong : ChangeSpec := { name := "accountRounds", fn := fun _ => fun
  | [d1, d2, d3] => { results := [.lit (.bool false)], args := [d1, d2, d3] }
  | _ => none }
def AccountRoundsWrongFalsely : Prop := accountRoundsRow.holds Try.pinned (OpenSpec.ofChange accountRoundsWrong)

/-- 'purselaw15.AccountGrants': WHATEVER THE INPUT: true; the input reads as it did. -/
def accountGrantsSpec : ChangeSpec := { name := "accountGrants", fn := fun _ => fun
  | [d1, d2, d3, d4] => { results := [.lit (.bool true)], args := [d1, d2, d3, d4] }
  | _ => none }
def accountGrantsRow : OpenClaim := { program := "ytlifpjllhibdpaa", sum := "6ff54073c6bb657808786bdbbce3453f23e08f22a0f928ab07b9748593184462", func := "purse/purselaw15.AccountGrants", spec := "accountGrants", inPlace := ["math/bits.Add64", "slices.overlaps[purse/api.Holder]"], unfollowed := true, recurses := true, apart := false }
def AccountGrantsSaid : Prop := accountGrantsRow.holds Try.pinned (OpenSpec.ofChange accountGrantsSpec)

/-- ITS FALSE NEIGHBOUR: 'it returns false'. Refute it at one input. -/
def accountGrantsWrong : ChangeSpec := { name := "accountGrants", fn := fun _ => fun
  | [d1, d2, d3, d4] => { results := [.lit (.bool false)], args := [d1, d2, d3, d4] }
  | _ => none }
def AccountGrantsWrongFalsely : Prop := accountGrantsRow.holds Try.pinned (OpenSpec.ofChange accountGrantsWrong)

/-- 'purselaw15.AccountLocks': WHATEVER THE INPUT: true; the input reads as it did. -/
def accountLocksSpec : ChangeSpec := { name := "accountLocks", fn := fun _ => fun
  | [d1, d2, d3, d4, d5] => { results := [.lit (.bool true)], args := [d1, d2, d3, d4, d5] }
  | _ => none }
def accountLocksRow : OpenClaim := { program := "ytlifpjllhibdpaa", sum := "6ff54073c6bb657808786bdbbce3453f23e08f22a0f928ab07b9748593184462", func := "purse/purselaw15.AccountLocks", spec := "accountLocks", inPlace := ["math/bits.Add64", "slices.overlaps[purse/api.Holder]"], unfollowed := true, recurses := true, apart := false }
def AccountLocksSaid : Prop := accountLocksRow.holds Try.pinned (OpenSpec.ofChange accountLocksSpec)

/-- ITS FALSE NEIGHBOUR: 'it returns false'. Refute it at one input. -/
def accountLocksWrong : ChangeSpec := { name := "accountLocks", fn := fun _ => fun
  | [d1, d2, d3, d4, d5] => { results := [.lit (.bool false)], args := [d1, d2, d3, d4, d5] }
  | _ => none }
def AccountLocksWrongFalsely : Prop := accountLocksRow.holds Try.pinned (OpenSpec.ofChange accountLocksWrong)

/-- 'purselaw15.AccountPlays': WHATEVER THE INPUT: true; the input reads as it did. -/
def accountPlaysSpec : ChangeSpec := { name := "accountPlays", fn := fun _ => fun
  | [d1, d2, d3] => { results := [.lit (.bool true)], args := [d1, d2, d3] }
  | _ => none }
def accountPlaysRow : OpenClaim := { program := "ytlifpjllhibdpaa", sum := "6ff54073c6bb657808786bdbbce3453f23e08f22a0f928ab07b9748593184462", func := "purse/purselaw15.AccountPlays", spec := "accountPlays", inPlace := ["math/bits.Add64", "slices.overlaps[purse/api.Holder]"], unfollowed := true, recurses := true, apart := false }
def AccountPlaysSaid : Prop := accountPlaysRow.holds Try.pinned (OpenSpec.ofChange accountPlaysSpec)

/-- ITS FALSE NEIGHBOUR: 'it returns false'. Refute it at one input. -/
def accountPlaysWrong : ChangeSpec := { name := "accountPlays", fn := fun _ => fun
  | [d1, d2, d3] => { results := [.lit (.bool false)], args := [d1, d2, d3] }
  | _ => none }
def AccountPlaysWrongFalsely : Prop := accountPlaysRow.holds Try.pinned (OpenSpec.ofChange accountPlaysWrong)

/-- 'purselaw15.AccountStays': WHATEVER THE INPUT: true; the input reads as it did. -/
def accountStaysSpec : ChangeSpec := { name := "accountStays", fn := fun _ => fun
  | [d1, d2, d3] => { results := [.lit (.bool true)], args := [d1, d2, d3] }
  | _ => none }
def accountStaysRow : OpenClaim := { program := "ytlifpjllhibdpaa", sum := "6ff54073c6bb657808786bdbbce3453f23e08f22a0f928ab07b9748593184462", func := "purse/purselaw15.AccountStays", spec := "accountStays", inPlace := ["math/bits.Add64", "slices.overlaps[purse/api.Holder]"], unfollowed := true, recurses := true, apart := false }
def AccountStaysSaid : Prop := accountStaysRow.holds Try.pinned (OpenSpec.ofChange accountStaysSpec)

/-- ITS FALSE NEIGHBOUR: 'it returns false'. Refute it at one input. -/
def accountStaysWrong : ChangeSpec := { name := "accountStays", fn := fun _ => fun
  | [d1, d2, d3] => { results := [.lit (.bool false)], args := [d1, d2, d3] }
  | _ => none }
def AccountStaysWrongFalsely : Prop := accountStaysRow.holds Try.pinned (OpenSpec.ofChange accountStaysWrong)

/-- 'purselaw15.AccountLent': WHATEVER THE INPUT: true; the input reads as it did. -/
def accountLentSpec : ChangeSpec := { name := "accountLent", fn := fun _ => fun
  | [d1, d2, d3, d4, d5, d6] => { results := [.lit (.bool true)], args := [d1, d2, d3, d4, d5, d6] }
  | _ => none }
def accountLentRow : OpenClaim := { program := "ytlifpjllhibdpaa", sum := "6ff54073c6bb657808786bdbbce3453f23e08f22a0f928ab07b9748593184462", func := "purse/purselaw15.AccountLent", spec := "accountLent", inPlace := ["math/bits.Add64", "slices.overlaps[purse/api.Holder]"], unfollowed := true, recurses := true, apart := false }
def AccountLentSaid : Prop := accountLentRow.holds Try.pinned (OpenSpec.ofChange accountLentSpec)

/-- ITS FALSE NEIGHBOUR: 'it returns false'. Refute it at one input. -/
def accountLentWrong : ChangeSpec := { name := "accountLent", fn := fun _ => fun
  | [d1, d2, d3, d4, d5, d6] => { results := [.lit (.bool false)], args := [d1, d2, d3, d4, d5, d6] }
  | _ => none }
def AccountLentWrongFalsely : Prop := accountLentRow.holds Try.pinned (OpenSpec.ofChange accountLentWrong)

/- THE SECOND FORM. 'bulk': how many values and letters a reading holds, each counted each time it is reached (what is shared counts as often as it is met; a slice's spare places count too). A statement '..UptoSaid' is the law's where the arguments, and the package variables that the reading takes, are together of bulk at most 1048576: NARROWER than '..Said'. Prove '..Said' where nothing that the law and all that it calls make is longer than what came in: it says more and counts as full. Else prove '..UptoSaid'. A law counts once. -/
mutual
def uptoBulk {H : Type} : DataW H → Nat
  | .lit (.string bytes) => bytes.length + 1
  | .lit _ => 1
  | .nil => 1
  | .ptr d => uptoBulk d + 1
  | .slice elems spare => uptoBulkAll elems + uptoBulkAll spare + 1
  | .agg parts => uptoBulkAll parts + 1
  | .iface _ d => uptoBulk d + 1
  | .map entries => uptoBulkEntries entries + 1
  | .held _ => 1
def uptoBulkAll {H : Type} : List (DataW H) → Nat
  | [] => 0
  | d :: r => uptoBulk d + uptoBulkAll r
def uptoBulkEntries {H : Type} : List (Lit × DataW H) → Nat
  | [] => 0
  | x :: r => uptoBulkEntry x + uptoBulkEntries r
def uptoBulkEntry {H : Type} : Lit × DataW H → Nat
  | (.string bytes, d) => bytes.length + uptoBulk d + 1
  | (_, d) => uptoBulk d + 1
 end
def uptoSmall : (H : Type) → List (DataW H) → Bool := fun _ ds => decide (uptoBulkAll ds ≤ 1048576)
def OpenSpec.upto (s : _root_.Go.ChangeSpec) : _root_.Go.OpenSpec := { _root_.Go.OpenSpec.ofChange s with cond := some uptoSmall }

/-- 'purselaw15.AccountLooks', WHERE WHAT IT READS IS OF BULK AT MOST 1048576: true; the input reads as it did. -/
def accountLooksUptoRow : OpenClaim := { program := "ytlifpjllhibdpaa", sum := "6ff54073c6bb657808786bdbbce3453f23e08f22a0f928ab07b9748593184462", func := "purse/purselaw15.AccountLooks", spec := "accountLooks", inPlace := ["math/bits.Add64"], apart := false, narrowed := true }
def AccountLooksUptoSaid : Prop := accountLooksUptoRow.holds Try.pinned (OpenSpec.upto accountLooksSpec)

/-- 'purselaw15.AccountAdds', WHERE WHAT IT READS IS OF BULK AT MOST 1048576: true; the input reads as it did. -/
def accountAddsUptoRow : OpenClaim := { program := "ytlifpjllhibdpaa", sum := "6ff54073c6bb657808786bdbbce3453f23e08f22a0f928ab07b9748593184462", func := "purse/purselaw15.AccountAdds", spec := "accountAdds", inPlace := ["math/bits.Add64"], apart := false, narrowed := true }
def AccountAddsUptoSaid : Prop := accountAddsUptoRow.holds Try.pinned (OpenSpec.upto accountAddsSpec)

/-- 'purselaw15.AccountRounds', WHERE WHAT IT READS IS OF BULK AT MOST 1048576: true; the input reads as it did. -/
def accountRoundsUptoRow : OpenClaim := { program := "ytlifpjllhibdpaa", sum := "6ff54073c6bb657808786bdbbce3453f23e08f22a0f928ab07b9748593184462", func := "purse/purselaw15.AccountRounds", spec := "accountRounds", inPlace := ["math/bits.Add64"], unfollowed := true, recurses := true, apart := false, narrowed := true }
def AccountRoundsUptoSaid : Prop := accountRoundsUptoRow.holds Try.pinned (OpenSpec.upto accountRoundsSpec)

/-- 'purselaw15.AccountGrants', WHERE WHAT IT READS IS OF BULK AT MOST 1048576: true; the input reads as it did. -/
def accountGrantsUptoRow : OpenClaim := { program := "ytlifpjllhibdpaa", sum := "6ff54073c6bb657808786bdbbce3453f23e08f22a0f928ab07b9748593184462", func := "purse/purselaw15.AccountGrants", spec := "accountGrants", inPlace := ["math/bits.Add64", "slices.overlaps[purse/api.Holder]"], unfollowed := true, recurses := true, apart := false, narrowed := true }
def AccountGrantsUptoSaid : Prop := accountGrantsUptoRow.holds Try.pinned (OpenSpec.upto accountGrantsSpec)

/-- 'purselaw15.AccountLocks', WHERE WHAT IT READS IS OF BULK AT MOST 1048576: true; the input reads as it did. -/
def accountLocksUptoRow : OpenClaim := { program := "ytlifpjllhibdpaa", sum := "6ff54073c6bb657808786bdbbce3453f23e08f22a0f928ab07b9748593184462", func := "purse/purselaw15.AccountLocks", spec := "accountLocks", inPlace := ["math/bits.Add64", "slices.overlaps[purse/api.Holder]"], unfollowed := true, recurses := true, apart := false, narrowed := true }
def AccountLocksUptoSaid : Prop := accountLocksUptoRow.holds Try.pinned (OpenSpec.upto accountLocksSpec)

/-- 'purselaw15.AccountPlays', WHERE WHAT IT READS IS OF BULK AT MOST 1048576: true; the input reads as it did. -/
def accountPlaysUptoRow : OpenClaim := { program := "ytlifpjllhibdpaa", sum := "6ff54073c6bb657808786bdbbce3453f23e08f22a0f928ab07b9748593184462", func := "purse/purselaw15.AccountPlays", spec := "accountPlays", inPlace := ["math/bits.Add64", "slices.overlaps[purse/api.Holder]"], unfollowed := true, recurses := true, apart := false, narrowed := true }
def AccountPlaysUptoSaid : Prop := accountPlaysUptoRow.holds Try.pinned (OpenSpec.upto accountPlaysSpec)

/-- 'purselaw15.AccountStays', WHERE WHAT IT READS IS OF BULK AT MOST 1048576: true; the input reads as it did. -/
def accountStaysUptoRow : OpenClaim := { program := "ytlifpjllhibdpaa", sum := "6ff54073c6bb657808786bdbbce3453f23e08f22a0f928ab07b9748593184462", func := "purse/purselaw15.AccountStays", spec := "accountStays", inPlace := ["math/bits.Add64", "slices.overlaps[purse/api.Holder]"], unfollowed := true, recurses := true, apart := false, narrowed := true }
def AccountStaysUptoSaid : Prop := accountStaysUptoRow.holds Try.pinned (OpenSpec.upto accountStaysSpec)

/-- 'purselaw15.AccountLent', WHERE WHAT IT READS IS OF BULK AT MOST 1048576: true; the input reads as it did. -/
def accountLentUptoRow : OpenClaim := { program := "ytlifpjllhibdpaa", sum := "6ff54073c6bb657808786bdbbce3453f23e08f22a0f928ab07b9748593184462", func := "purse/purselaw15.AccountLent", spec := "accountLent", inPlace := ["math/bits.Add64", "slices.overlaps[purse/api.Holder]"], unfollowed := true, recurses := true, apart := false, narrowed := true }
def AccountLentUptoSaid : Prop := accountLentUptoRow.holds Try.pinned (OpenSpec.upto accountLentSpec)

end Rows
end Go.Proofs.Ytlifpjllhibdpaa
