/-
  No cell of these rows narrows 'for every input' (looked for: loops, veiled, ifaces, maps, wideKeys, modest, calm, conditions, laid).
  DERIVED. THE GIVEN ROWS OF THIS SEAT. 9 by the template 'for every input the law returns true; each argument reads behind the call as it read before'; 0 by the template 'total and deterministic' (their statements: YtfagpihpelgmiaaTotals.lean).
  GIVEN WITH THE SEED: the statements are not yours to turn. If you find one false, say at which input.
  Laid BY PROGRAM, IN A SANDBOX (cutbox-rows.mjs): the forced cells as the released guide's own fill.sh prints them over the translation 6a174010a9fca7e4… (all of the seat's roots in one cut). By AI agents, Wed Nov 11 2026. No macro, syntax, notation, axiom, sorry.
-/
import Derived.Test.YtfagpihpelgmiaaChecked
import GoSem.Claim
import GoSem.ClaimJoined
import GoSem.ClaimMapViews
import Derived.JoinedTies
import Derived.KernelRfl
namespace Go.Proofs.Ytfagpihpelgmiaa
/- THE CELL 'sum', in the pinned program and in every row, IS THE sha256 OF THE DUMP (.gsa) THAT YtfagpihpelgmiaaProg.lean LOADS. Nothing in Lean hashes anything: it is a label: what it is worth is what the hold of that sum in a sandbox is worth. -/
noncomputable def Try.pinned : Pinned := { name := "ytfagpihpelgmiaa", sum := "6a174010a9fca7e4585adf00c06d6f7bbae4ba918dbf5af6fe2b7dcd07e87501", checked := Try.checked }
namespace Rows
def none {H : Type} : Left H := { results := [], args := [] }

/-- 'purselaw01.NumBack': WHATEVER THE INPUT: true; the input reads as it did. -/
def numBackSpec : ChangeSpec := { name := "numBack", fn := fun _ => fun
  | [d1, d2] => { results := [.lit (.bool true)], args := [d1, d2] }
  | _ => none }
def numBackRow : OpenClaim := { program := "ytfagpihpelgmiaa", sum := "6a174010a9fca7e4585adf00c06d6f7bbae4ba918dbf5af6fe2b7dcd07e87501", func := "purse/purselaw01.NumBack", spec := "numBack", apart := false }
def NumBackSaid : Prop := numBackRow.holds Try.pinned (OpenSpec.ofChange numBackSpec)

/-- ITS FALSE NEIGHBOUR: 'it returns false'. Refute it at one input. -/
def numBackWrong : ChangeSpec := { name := "numBack", fn := fun _ => fun
  | [d1, d2] => { results := [.lit (.bool false)], args := [d1, d2] }
  | _ => none }
def NumBackWrongFalsely : Prop := numBackRow.holds Try.pinned (OpenSpec.ofChange numBackWrong)

/-- 'purselaw01.NumRooms': WHATEVER THE INPUT: true; the input reads as it did. -/
def numRoomsSpec : ChangeSpec := { name := "numRooms", fn := fun _ => fun
  | [d1, d2] => { results := [.lit (.bool true)], args := [d1, d2] }
  | _ => none }
def numRoomsRow : OpenClaim := { program := "ytfagpihpelgmiaa", sum := "6a174010a9fca7e4585adf00c06d6f7bbae4ba918dbf5af6fe2b7dcd07e87501", func := "purse/purselaw01.NumRooms", spec := "numRooms", apart := false }
def NumRoomsSaid : Prop := numRoomsRow.holds Try.pinned (OpenSpec.ofChange numRoomsSpec)

/-- ITS FALSE NEIGHBOUR: 'it returns false'. Refute it at one input. -/
def numRoomsWrong : ChangeSpec := { name := "numRooms", fn := fun _ => fun
  | [d1, d2] => { results := [.lit (.bool false)], args := [d1, d2] }
  | _ => none }
def NumRoomsWrongFalsely : Prop := numRoomsRow.holds Try.pinned (OpenSpec.ofChange numRoomsWrong)

/-- 'purselaw01.NumMeets': WHATEVER THE INPUT: true; the input reads as it did. -/
def numMeetsSpec : ChangeSpec := { name := "numMeets", fn := fun _ => fun
  | [d1, d2, d3] => { results := [.lit (.bool true)], args := [d1, d2, d3] }
  | _ => none }
def numMeetsRow : OpenClaim := { program := "ytfagpihpelgmiaa", sum := "6a174010a9fca7e4585adf00c06d6f7bbae4ba918dbf5af6fe2b7dcd07e87501", func := "purse/purselaw01.NumMeets", spec := "numMeets", apart := false }
def NumMeetsSaid : Prop := numMeetsRow.holds Try.pinned (OpenSpec.ofChange numMeetsSpec)

/-- ITS FALSE NEIGHBOUR: 'it returns false'. Refute it at one input. -/
def numMeetsWrong : ChangeSpec := { name := "numMeets", fn := fun _ => fun
  | [d1, d2, d3] => { results := [.lit (.bool false)], args := [d1, d2, d3] }
  | _ => none }
def NumMeetsWrongFalsely : Prop := numMeetsRow.holds Try.pinned (OpenSpec.ofChange numMeetsWrong)

/-- 'purselaw01.NumParts': WHATEVER THE INPUT: true; the input reads as it did. -/
def numPartsSpec : ChangeSpec := { name := "numParts", fn := fun _ => fun
  | [d1, d2] => { results := [.lit (.bool true)], args := [d1, d2] }
  | _ => none }
def numPartsRow : OpenClaim := { program := "ytfagpihpelgmiaa", sum := "6a174010a9fca7e4585adf00c06d6f7bbae4ba918dbf5af6fe2b7dcd07e87501", func := "purse/purselaw01.NumParts", spec := "numParts", apart := false }
def NumPartsSaid : Prop := numPartsRow.holds Try.pinned (OpenSpec.ofChange numPartsSpec)

/-- ITS FALSE NEIGHBOUR: 'it returns false'. Refute it at one input. -/
def numPartsWrong : ChangeSpec := { name := "numParts", fn := fun _ => fun
  | [d1, d2] => { results := [.lit (.bool false)], args := [d1, d2] }
  | _ => none }
def NumPartsWrongFalsely : Prop := numPartsRow.holds Try.pinned (OpenSpec.ofChange numPartsWrong)

/-- 'purselaw01.NumShares': WHATEVER THE INPUT: true; the input reads as it did. -/
def numSharesSpec : ChangeSpec := { name := "numShares", fn := fun _ => fun
  | [d1, d2, d3] => { results := [.lit (.bool true)], args := [d1, d2, d3] }
  | _ => none }
def numSharesRow : OpenClaim := { program := "ytfagpihpelgmiaa", sum := "6a174010a9fca7e4585adf00c06d6f7bbae4ba918dbf5af6fe2b7dcd07e87501", func := "purse/purselaw01.NumShares", spec := "numShares", apart := false }
def NumSharesSaid : Prop := numSharesRow.holds Try.pinned (OpenSpec.ofChange numSharesSpec)

/-- ITS FALSE NEIGHBOUR: 'it returns false'. Refute it at one input. -/
def numSharesWrong : ChangeSpec := { name := "numShares", fn := fun _ => fun
  | [d1, d2, d3] => { results := [.lit (.bool false)], args := [d1, d2, d3] }
  | _ => none }
def NumSharesWrongFalsely : Prop := numSharesRow.holds Try.pinned (OpenSpec.ofChange numSharesWrong)

/-- 'purselaw01.NumAdds': WHATEVER THE INPUT: true; the input reads as it did. -/
def numAddsSpec : ChangeSpec := { name := "numAdds", fn := fun _ => fun
  | [d1, d2] => { results := [.lit (.bool true)], args := [d1, d2] }
  | _ => none }
def numAddsRow : OpenClaim := { program := "ytfagpihpelgmiaa", sum := "6a174010a9fca7e4585adf00c06d6f7bbae4ba918dbf5af6fe2b7dcd07e87501", func := "purse/purselaw01.NumAdds", spec := "numAdds", inPlace := ["math/bits.Add64"], apart := false }
def NumAddsSaid : Prop := numAddsRow.holds Try.pinned (OpenSpec.ofChange numAddsSpec)

/-- ITS FALSE NEIGHBOUR: 'it returns false'. Refute it at one input. -/
def numAddsWrong : ChangeSpec := { name := "numAdds", fn := fun _ => fun
  | [d1, d2] => { results := [.lit (.bool false)], args := [d1, d2] }
  | _ => none }
def NumAddsWrongFalsely : Prop := numAddsRow.holds Try.pinned (OpenSpec.ofChange numAddsWrong)

/-- 'purselaw01.NumSums': WHATEVER THE INPUT: true; the input reads as it did. -/
def numSumsSpec : ChangeSpec := { name := "numSums", fn := fun _ => fun
  | [d] => { results := [.lit (.bool true)], args := [d] }
  | _ => none }
def numSumsRow : OpenClaim := { program := "ytfagpihpelgmiaa", sum := "6a174010a9fca7e4585adf00c06d6f7bbae4ba918dbf5af6fe2b7dcd07e87501", func := "purse/purselaw01.NumSums", spec := "numSums", inPlace := ["math/bits.Add64"], apart := false }
def NumSumsSaid : Prop := numSumsRow.holds Try.pinned (OpenSpec.ofChange numSumsSpec)

/-- ITS FALSE NEIGHBOUR: 'it returns false'. Refute it at one input. -/
def numSumsWrong : ChangeSpec := { name := "numSums", fn := fun _ => fun
  | [d] => { results := [.lit (.bool false)], args := [d] }
  | _ => none }
def NumSumsWrongFalsely : Prop := numSumsRow.holds Try.pinned (OpenSpec.ofChange numSumsWrong)

/-- 'purselaw01.NumOrder': WHATEVER THE INPUT: true; the input reads as it did. -/
def numOrderSpec : ChangeSpec := { name := "numOrder", fn := fun _ => fun
  | [d1, d2] => { results := [.lit (.bool true)], args := [d1, d2] }
  | _ => none }
def numOrderRow : OpenClaim := { program := "ytfagpihpelgmiaa", sum := "6a174010a9fca7e4585adf00c06d6f7bbae4ba918dbf5af6fe2b7dcd07e87501", func := "purse/purselaw01.NumOrder", spec := "numOrder", inPlace := ["math/bits.Add64"], apart := false }
def NumOrderSaid : Prop := numOrderRow.holds Try.pinned (OpenSpec.ofChange numOrderSpec)

/-- ITS FALSE NEIGHBOUR: 'it returns false'. Refute it at one input. -/
def numOrderWrong : ChangeSpec := { name := "numOrder", fn := fun _ => fun
  | [d1, d2] => { results := [.lit (.bool false)], args := [d1, d2] }
  | _ => none }
def NumOrderWrongFalsely : Prop := numOrderRow.holds Try.pinned (OpenSpec.ofChange numOrderWrong)

/-- 'purselaw01.NumSpans': WHATEVER THE INPUT: true; the input reads as it did. -/
def numSpansSpec : ChangeSpec := { name := "numSpans", fn := fun _ => fun
  | [d1, d2, d3, d4] => { results := [.lit (.bool true)], args := [d1, d2, d3, d4] }
  | _ => none }
def numSpansRow : OpenClaim := { program := "ytfagpihpelgmiaa", sum := "6a174010a9fca7e4585adf00c06d6f7bbae4ba918dbf5af6fe2b7dcd07e87501", func := "purse/purselaw01.NumSpans", spec := "numSpans", inPlace := ["math/bits.Add64"], apart := false }
def NumSpansSaid : Prop := numSpansRow.holds Try.pinned (OpenSpec.ofChange numSpansSpec)

/-- ITS FALSE NEIGHBOUR: 'it returns false'. Refute it at one input. -/
def numSpansWrong : ChangeSpec := { name := "numSpans", fn := fun _ => fun
  | [d1, d2, d3, d4] => { results := [.lit (.bool false)], args := [d1, d2, d3, d4] }
  | _ => none }
def NumSpansWrongFalsely : Prop := numSpansRow.holds Try.pinned (OpenSpec.ofChange numSpansWrong)

/- THE SECOND FORM. 'bulk': how many values and letters a reading holds, each counted each time it is reached (what is shared counts as often as it is met; a slice's spare places count too). A statement '..UptoSaid' is the law's where the arguments, and the package variables that the reading takes, are together of bulk at most 1048576: NARROWER than '..Said'. Prove '..Said' where nothing that the law and all that it calls make is longer than what came in: it says more and counts as full. Else prove '..UptoSaid'. A law counts once. -/
mutual
def uptoBulk {H : Type} : DataW H → Nat
  | .lit (.string bytes) => bytes.length + 1
  | .lit _ => 1
  | .nil => 1
  | .ptr d => uptoBulk d + 1
  | .slice elems spare => uptoBulkAll elems + uptoBulkAll spare + 1
  | .agg parts => uptoBulkAll parts + 1
  | .iface _ d => uptoBulk d + 1
  | .map entries => uptoBulkEntries entries + 1
  | .held _ => 1
def uptoBulkAll {H : Type} : List (DataW H) → Nat
  | [] => 0
  | d :: r => uptoBulk d + uptoBulkAll r
def uptoBulkEntries {H : Type} : List (Lit × DataW H) → Nat
  | [] => 0
  | x :: r => uptoBulkEntry x + uptoBulkEntries r
def uptoBulkEntry {H : Type} : Lit × DataW H → Nat
  | (.string bytes, d) => bytes.length + uptoBulk d + 1
  | (_, d) => uptoBulk d + 1
 end
def uptoSmall : (H : Type) → List (DataW H) → Bool := fun _ ds => decide (uptoBulkAll ds ≤ 1048576)
def OpenSpec.upto (s : _root_.Go.ChangeSpec) : _root_.Go.OpenSpec := { _root_.Go.OpenSpec.ofChange s with cond := some uptoSmall }

/-- 'purselaw01.NumBack', WHERE WHAT IT READS IS OF BULK AT MOST 1048576: true; the input reads as it did. -/
def numBackUptoRow : OpenClaim := { program := "ytfagpihpelgmiaa", sum := "6a174010a9fca7e4585adf00c06d6f7bbae4ba918dbf5af6fe2b7dcd07e87501", func := "purse/purselaw01.NumBack", spec := "numBack", apart := false, narrowed := true }
def NumBackUptoSaid : Prop := numBackUptoRow.holds Try.pinned (OpenSpec.upto numBackSpec)

/-- 'purselaw01.NumRooms', WHERE WHAT IT READS IS OF BULK AT MOST 1048576: true; the input reads as it did. -/
def numRoomsUptoRow : OpenClaim := { program := "ytfagpihpelgmiaa", sum := "6a174010a9fca7e4585adf00c06d6f7bbae4ba918dbf5af6fe2b7dcd07e87501", func := "purse/purselaw01.NumRooms", spec := "numRooms", apart := false, narrowed := true }
def NumRoomsUptoSaid : Prop := numRoomsUptoRow.holds Try.pinned (OpenSpec.upto numRoomsSpec)

/-- 'purselaw01.NumMeets', WHERE WHAT IT READS IS OF BULK AT MOST 1048576: true; the input reads as it did. -/
def numMeetsUptoRow : OpenClaim := { program := "ytfagpihpelgmiaa", sum := "6a174010a9fca7e4585adf00c06d6f7bbae4ba918dbf5af6fe2b7dcd07e87501", func := "purse/purselaw01.NumMeets", spec := "numMeets", apart := false, narrowed := true }
def NumMeetsUptoSaid : Prop := numMeetsUptoRow.holds Try.pinned (OpenSpec.upto numMeetsSpec)

/-- 'purselaw01.NumParts', WHERE WHAT IT READS IS OF BULK AT MOST 1048576: true; the input reads as it did. -/
def numPartsUptoRow : OpenClaim := { program := "ytfagpihpelgmiaa", sum := "6a174010a9fca7e4585adf00c06d6f7bbae4ba918dbf5af6fe2b7dcd07e87501", func := "purse/purselaw01.NumParts", spec := "numParts", apart := false, narrowed := true }
def NumPartsUptoSaid : Prop := numPartsUptoRow.holds Try.pinned (OpenSpec.upto numPartsSpec)

/-- 'purselaw01.NumShares', WHERE WHAT IT READS IS OF BULK AT MOST 1048576: true; the input reads as it did. -/
def numSharesUptoRow : OpenClaim := { program := "ytfagpihpelgmiaa", sum := "6a174010a9fca7e4585adf00c06d6f7bbae4ba918dbf5af6fe2b7dcd07e87501", func := "purse/purselaw01.NumShares", spec := "numShares", apart := false, narrowed := true }
def NumSharesUptoSaid : Prop := numSharesUptoRow.holds Try.pinned (OpenSpec.upto numSharesSpec)

/-- 'purselaw01.NumAdds', WHERE WHAT IT READS IS OF BULK AT MOST 1048576: true; the input reads as it did. -/
def numAddsUptoRow : OpenClaim := { program := "ytfagpihpelgmiaa", sum := "6a174010a9fca7e4585adf00c06d6f7bbae4ba918dbf5af6fe2b7dcd07e87501", func := "purse/purselaw01.NumAdds", spec := "numAdds", inPlace := ["math/bits.Add64"], apart := false, narrowed := true }
def NumAddsUptoSaid : Prop := numAddsUptoRow.holds Try.pinned (OpenSpec.upto numAddsSpec)

/-- 'purselaw01.NumSums', WHERE WHAT IT READS IS OF BULK AT MOST 1048576: true; the input reads as it did. -/
def numSumsUptoRow : OpenClaim := { program := "ytfagpihpelgmiaa", sum := "6a174010a9fca7e4585adf00c06d6f7bbae4ba918dbf5af6fe2b7dcd07e87501", func := "purse/purselaw01.NumSums", spec := "numSums", inPlace := ["math/bits.Add64"], apart := false, narrowed := true }
def NumSumsUptoSaid : Prop := numSumsUptoRow.holds Try.pinned (OpenSpec.upto numSumsSpec)

/-- 'purselaw01.NumOrder', WHERE WHAT IT READS IS OF BULK AT MOST 1048576: true; the input reads as it did. -/
def numOrderUptoRow : OpenClaim := { program := "ytfagpihpelgmiaa", sum := "6a174010a9fca7e4585adf00c06d6f7bbae4ba918dbf5af6fe2b7dcd07e87501", func := "purse/purselaw01.NumOrder", spec := "numOrder", inPlace := ["math/bits.Add64"], apart := false, narrowed := true }
def NumOrderUptoSaid : Prop := numOrderUptoRow.holds Try.pinned (OpenSpec.upto numOrderSpec)

/-- 'purselaw01.NumSpans', WHERE WHAT IT READS IS OF BULK AT MOST 1048576: true; the input reads as it did. -/
def numSpansUptoRow : OpenClaim := { program := "ytfagpihpelgmiaa", sum := "6a174010a9fca7e4585adf00c06d6f7bbae4ba918dbf5af6fe2b7dcd07e87501", func := "purse/purselaw01.NumSpans", spec := "numSpans", inPlace := ["math/bits.Add64"], apart := false, narrowed := true }
def NumSpansUptoSaid : Prop := numSpansUptoRow.holds Try.pinned (OpenSpec.upto numSpansSpec)

end Rows
end Go.Proofs.Ytfagpihpelgmiaa
