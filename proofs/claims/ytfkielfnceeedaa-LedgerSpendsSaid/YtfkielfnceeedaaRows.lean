/-
  No cell of these rows narrows 'for every input' (looked for: loops, veiled, ifaces, maps, wideKeys, modest, calm, conditions, laid).
  DERIVED. THE GIVEN ROWS OF THIS SEAT. 6 by the template 'for every input the law returns true; each argument reads behind the call as it read before'; 0 by the template 'total and deterministic' (their statements: YtfkielfnceeedaaTotals.lean).
  GIVEN WITH THE SEED: the statements are not yours to turn. If you find one false, say at which input.
  Laid BY PROGRAM, IN A SANDBOX (cutbox-rows.mjs): the forced cells as the released guide's own fill.sh prints them over the translation eeb2fccb91c7393b… (all of the seat's roots in one cut). By AI agents, Wed Nov 11 2026. No macro, syntax, notation, axiom, sorry.
-/
import Derived.Test.YtfkielfnceeedaaChecked
import GoSem.Claim
import GoSem.ClaimJoined
import GoSem.ClaimMapViews
import Derived.JoinedTies
import Derived.KernelRfl
namespace Go.Proofs.Ytfkielfnceeedaa
/- THE CELL 'sum', in the pinned program and in every row, IS THE sha256 OF THE DUMP (.gsa) THAT YtfkielfnceeedaaProg.lean LOADS. Nothing in Lean hashes anything: it is a label: what it is worth is what the hold of that sum in a sandbox is worth. -/
noncomputable def Try.pinned : Pinned := { name := "ytfkielfnceeedaa", sum := "eeb2fccb91c7393b6677e18636f8fb1cdd0db17fafc97153a899a2426117c4af", checked := Try.checked }
namespace Rows
def none {H : Type} : Left H := { results := [], args := [] }

/-- 'purselaw16.LedgerPlays': WHATEVER THE INPUT: true; the input reads as it did. -/
def ledgerPlaysSpec : ChangeSpec := { name := "ledgerPlays", fn := fun _ => fun
  | [d1, d2, d3, d4, d5] => { results := [.lit (.bool true)], args := [d1, d2, d3, d4, d5] }
  | _ => none }
def ledgerPlaysRow : OpenClaim := { program := "ytfkielfnceeedaa", sum := "eeb2fccb91c7393b6677e18636f8fb1cdd0db17fafc97153a899a2426117c4af", func := "purse/purselaw16.LedgerPlays", spec := "ledgerPlays", inPlace := ["internal/bytealg.abigen_runtime_cmpstring", "slices.overlaps[purse/api.Right]"], unfollowed := true, recurses := true, apart := false }
def LedgerPlaysSaid : Prop := ledgerPlaysRow.holds Try.pinned (OpenSpec.ofChange ledgerPlaysSpec)

/-- ITS FALSE NEIGHBOUR: 'it returns false'. Refute it at one input. -/
def ledgerPlaysWrong : ChangeSpec := { name := "ledgerPlays", fn := fun _ => fun
  | [d1, d2, d3, d4, d5] => { results := [.lit (.bool false)], args := [d1, d2, d3, d4, d5] }
  | _ => none }
def LedgerPlaysWrongFalsely : Prop := ledgerPlaysRow.holds Try.pinned (OpenSpec.ofChange ledgerPlaysWrong)

/-- 'purselaw16.LedgerPuts': WHATEVER THE INPUT: true; the input reads as it did. -/
def ledgerPutsSpec : ChangeSpec := { name := "ledgerPuts", fn := fun _ => fun
  | [d1, d2, d3, d4, d5] => { results := [.lit (.bool true)], args := [d1, d2, d3, d4, d5] }
  | _ => none }
def ledgerPutsRow : OpenClaim := { program := "ytfkielfnceeedaa", sum := "eeb2fccb91c7393b6677e18636f8fb1cdd0db17fafc97153a899a2426117c4af", func := "purse/purselaw16.LedgerPuts", spec := "ledgerPuts", inPlace := ["internal/bytealg.abigen_runtime_cmpstring", "slices.overlaps[purse/api.Right]"], unfollowed := true, recurses := true, apart := false }
def LedgerPutsSaid : Prop := ledgerPutsRow.holds Try.pinned (OpenSpec.ofChange ledgerPutsSpec)

/-- ITS FALSE NEIGHBOUR: 'it returns false'. Refute it at one input. -/
def ledgerPutsWrong : ChangeSpec := { name := "ledgerPuts", fn := fun _ => fun
  | [d1, d2, d3, d4, d5] => { results := [.lit (.bool false)], args := [d1, d2, d3, d4, d5] }
  | _ => none }
def LedgerPutsWrongFalsely : Prop := ledgerPutsRow.holds Try.pinned (OpenSpec.ofChange ledgerPutsWrong)

/-- 'purselaw16.LedgerTrims': WHATEVER THE INPUT: true; the input reads as it did. -/
def ledgerTrimsSpec : ChangeSpec := { name := "ledgerTrims", fn := fun _ => fun
  | [d1, d2, d3, d4] => { results := [.lit (.bool true)], args := [d1, d2, d3, d4] }
  | _ => none }
def ledgerTrimsRow : OpenClaim := { program := "ytfkielfnceeedaa", sum := "eeb2fccb91c7393b6677e18636f8fb1cdd0db17fafc97153a899a2426117c4af", func := "purse/purselaw16.LedgerTrims", spec := "ledgerTrims", inPlace := ["internal/bytealg.abigen_runtime_cmpstring", "math/bits.Add64", "slices.overlaps[purse/api.Right]"], unfollowed := true, recurses := true, apart := false }
def LedgerTrimsSaid : Prop := ledgerTrimsRow.holds Try.pinned (OpenSpec.ofChange ledgerTrimsSpec)

/-- ITS FALSE NEIGHBOUR: 'it returns false'. Refute it at one input. -/
def ledgerTrimsWrong : ChangeSpec := { name := "ledgerTrims", fn := fun _ => fun
  | [d1, d2, d3, d4] => { results := [.lit (.bool false)], args := [d1, d2, d3, d4] }
  | _ => none }
def LedgerTrimsWrongFalsely : Prop := ledgerTrimsRow.holds Try.pinned (OpenSpec.ofChange ledgerTrimsWrong)

/-- 'purselaw16.LedgerSpends': WHATEVER THE INPUT: true; the input reads as it did. -/
def ledgerSpendsSpec : ChangeSpec := { name := "ledgerSpends", fn := fun _ => fun
  | [d1, d2, d3, d4, d5] => { results := [.lit (.bool true)], args := [d1, d2, d3, d4, d5] }
  | _ => none }
def ledgerSpendsRow : OpenClaim := { program := "ytfkielfnceeedaa", sum := "eeb2fccb91c7393b6677e18636f8fb1cdd0db17fafc97153a899a2426117c4af", func := "purse/purselaw16.LedgerSpends", spec := "ledgerSpends", inPlace := ["internal/bytealg.abigen_runtime_cmpstring", "math/bits.Add64", "slices.overlaps[purse/api.Right]"], unfollowed := true, recurses := true, apart := false }
def LedgerSpendsSaid : Prop := ledgerSpendsRow.holds Try.pinned (OpenSpec.ofChange ledgerSpendsSpec)

/-- ITS FALSE NEIGHBOUR: 'it returns false'. Refute it at one input. -/
def ledgerSpendsWrong : ChangeSpec := { name := "ledgerSpends", fn := fun _ => fun
  | [d1, d2, d3, d4, d5] => { results := [.lit (.bool false)], args := [d1, d2, d3, d4, d5] }
  | _ => none }
def LedgerSpendsWrongFalsely : Prop := ledgerSpendsRow.holds Try.pinned (OpenSpec.ofChange ledgerSpendsWrong)

/-- 'purselaw16.LedgerOnce': WHATEVER THE INPUT: true; the input reads as it did. -/
def ledgerOnceSpec : ChangeSpec := { name := "ledgerOnce", fn := fun _ => fun
  | [d1, d2, d3, d4] => { results := [.lit (.bool true)], args := [d1, d2, d3, d4] }
  | _ => none }
def ledgerOnceRow : OpenClaim := { program := "ytfkielfnceeedaa", sum := "eeb2fccb91c7393b6677e18636f8fb1cdd0db17fafc97153a899a2426117c4af", func := "purse/purselaw16.LedgerOnce", spec := "ledgerOnce", inPlace := ["internal/bytealg.abigen_runtime_cmpstring", "slices.overlaps[purse/api.Right]", "math/bits.Add64"], unfollowed := true, recurses := true, apart := false }
def LedgerOnceSaid : Prop := ledgerOnceRow.holds Try.pinned (OpenSpec.ofChange ledgerOnceSpec)

/-- ITS FALSE NEIGHBOUR: 'it returns false'. Refute it at one input. -/
def ledgerOnceWrong : ChangeSpec := { name := "ledgerOnce", fn := fun _ => fun
  | [d1, d2, d3, d4] => { results := [.lit (.bool false)], args := [d1, d2, d3, d4] }
  | _ => none }
def LedgerOnceWrongFalsely : Prop := ledgerOnceRow.holds Try.pinned (OpenSpec.ofChange ledgerOnceWrong)

/-- 'purselaw16.LedgerNever': WHATEVER THE INPUT: true; the input reads as it did. -/
def ledgerNeverSpec : ChangeSpec := { name := "ledgerNever", fn := fun _ => fun
  | [d1, d2, d3] => { results := [.lit (.bool true)], args := [d1, d2, d3] }
  | _ => none }
def ledgerNeverRow : OpenClaim := { program := "ytfkielfnceeedaa", sum := "eeb2fccb91c7393b6677e18636f8fb1cdd0db17fafc97153a899a2426117c4af", func := "purse/purselaw16.LedgerNever", spec := "ledgerNever", inPlace := ["internal/bytealg.abigen_runtime_cmpstring", "slices.overlaps[purse/api.Right]", "math/bits.Add64", "slices.overlaps[purse/api.Holder]"], unfollowed := true, recurses := true, apart := false }
def LedgerNeverSaid : Prop := ledgerNeverRow.holds Try.pinned (OpenSpec.ofChange ledgerNeverSpec)

/-- ITS FALSE NEIGHBOUR: 'it returns false'. Refute it at one input. -/
def ledgerNeverWrong : ChangeSpec := { name := "ledgerNever", fn := fun _ => fun
  | [d1, d2, d3] => { results := [.lit (.bool false)], args := [d1, d2, d3] }
  | _ => none }
def LedgerNeverWrongFalsely : Prop := ledgerNeverRow.holds Try.pinned (OpenSpec.ofChange ledgerNeverWrong)

/- THE SECOND FORM. 'bulk': how many values and letters a reading holds, each counted each time it is reached (what is shared counts as often as it is met; a slice's spare places count too). A statement '..UptoSaid' is the law's where the arguments, and the package variables that the reading takes, are together of bulk at most 1048576: NARROWER than '..Said'. Prove '..Said' where nothing that the law and all that it calls make is longer than what came in: it says more and counts as full. Else prove '..UptoSaid'. A law counts once. -/
mutual
def uptoBulk {H : Type} : DataW H → Nat
  | .lit (.string bytes) => bytes.length + 1
  | .lit _ => 1
  | .nil => 1
  | .ptr d => uptoBulk d + 1
  | .slice elems spare => uptoBulkAll elems + uptoBulkAll spare + 1
  | .agg parts => uptoBulkAll parts + 1
  | .iface _ d => uptoBulk d + 1
  | .map entries => uptoBulkEntries entries + 1
  | .held _ => 1
def uptoBulkAll {H : Type} : List (DataW H) → Nat
  | [] => 0
  | d :: r => uptoBulk d + uptoBulkAll r
def uptoBulkEntries {H : Type} : List (Lit × DataW H) → Nat
  | [] => 0
  | x :: r => uptoBulkEntry x + uptoBulkEntries r
def uptoBulkEntry {H : Type} : Lit × DataW H → Nat
  | (.string bytes, d) => bytes.length + uptoBulk d + 1
  | (_, d) => uptoBulk d + 1
 end
def uptoSmall : (H : Type) → List (DataW H) → Bool := fun _ ds => decide (uptoBulkAll ds ≤ 1048576)
def OpenSpec.upto (s : _root_.Go.ChangeSpec) : _root_.Go.OpenSpec := { _root_.Go.OpenSpec.ofChange s with cond := some uptoSmall }

/-- 'purselaw16.LedgerPlays', WHERE WHAT IT READS IS OF BULK AT MOST 1048576: true; the input reads as it did. -/
def ledgerPlaysUptoRow : OpenClaim := { program := "ytfkielfnceeedaa", sum := "eeb2fccb91c7393b6677e18636f8fb1cdd0db17fafc97153a899a2426117c4af", func := "purse/purselaw16.LedgerPlays", spec := "ledgerPlays", inPlace := ["internal/bytealg.abigen_runtime_cmpstring", "slices.overlaps[purse/api.Right]"], unfollowed := true, recurses := true, apart := false, narrowed := true }
def LedgerPlaysUptoSaid : Prop := ledgerPlaysUptoRow.holds Try.pinned (OpenSpec.upto ledgerPlaysSpec)

/-- 'purselaw16.LedgerPuts', WHERE WHAT IT READS IS OF BULK AT MOST 1048576: true; the input reads as it did. -/
def ledgerPutsUptoRow : OpenClaim := { program := "ytfkielfnceeedaa", sum := "eeb2fccb91c7393b6677e18636f8fb1cdd0db17fafc97153a899a2426117c4af", func := "purse/purselaw16.LedgerPuts", spec := "ledgerPuts", inPlace := ["internal/bytealg.abigen_runtime_cmpstring", "slices.overlaps[purse/api.Right]"], unfollowed := true, recurses := true, apart := false, narrowed := true }
def LedgerPutsUptoSaid : Prop := ledgerPutsUptoRow.holds Try.pinned (OpenSpec.upto ledgerPutsSpec)

/-- 'purselaw16.LedgerTrims', WHERE WHAT IT READS IS OF BULK AT MOST 1048576: true; the input reads as it did. -/
def ledgerTrimsUptoRow : OpenClaim := { program := "ytfkielfnceeedaa", sum := "eeb2fccb91c7393b6677e18636f8fb1cdd0db17fafc97153a899a2426117c4af", func := "purse/purselaw16.LedgerTrims", spec := "ledgerTrims", inPlace := ["internal/bytealg.abigen_runtime_cmpstring", "math/bits.Add64", "slices.overlaps[purse/api.Right]"], unfollowed := true, recurses := true, apart := false, narrowed := true }
def LedgerTrimsUptoSaid : Prop := ledgerTrimsUptoRow.holds Try.pinned (OpenSpec.upto ledgerTrimsSpec)

/-- 'purselaw16.LedgerSpends', WHERE WHAT IT READS IS OF BULK AT MOST 1048576: true; the input reads as it did. -/
def ledgerSpendsUptoRow : OpenClaim := { program := "ytfkielfnceeedaa", sum := "eeb2fccb91c7393b6677e18636f8fb1cdd0db17fafc97153a899a2426117c4af", func := "purse/purselaw16.LedgerSpends", spec := "ledgerSpends", inPlace := ["internal/bytealg.abigen_runtime_cmpstring", "math/bits.Add64", "slices.overlaps[purse/api.Right]"], unfollowed := true, recurses := true, apart := false, narrowed := true }
def LedgerSpendsUptoSaid : Prop := ledgerSpendsUptoRow.holds Try.pinned (OpenSpec.upto ledgerSpendsSpec)

/-- 'purselaw16.LedgerOnce', WHERE WHAT IT READS IS OF BULK AT MOST 1048576: true; the input reads as it did. -/
def ledgerOnceUptoRow : OpenClaim := { program := "ytfkielfnceeedaa", sum := "eeb2fccb91c7393b6677e18636f8fb1cdd0db17fafc97153a899a2426117c4af", func := "purse/purselaw16.LedgerOnce", spec := "ledgerOnce", inPlace := ["internal/bytealg.abigen_runtime_cmpstring", "slices.overlaps[purse/api.Right]", "math/bits.Add64"], unfollowed := true, recurses := true, apart := false, narrowed := true }
def LedgerOnceUptoSaid : Prop := ledgerOnceUptoRow.holds Try.pinned (OpenSpec.upto ledgerOnceSpec)

/-- 'purselaw16.LedgerNever', WHERE WHAT IT READS IS OF BULK AT MOST 1048576: true; the input reads as it did. -/
def ledgerNeverUptoRow : OpenClaim := { program := "ytfkielfnceeedaa", sum := "eeb2fccb91c7393b6677e18636f8fb1cdd0db17fafc97153a899a2426117c4af", func := "purse/purselaw16.LedgerNever", spec := "ledgerNever", inPlace := ["internal/bytealg.abigen_runtime_cmpstring", "slices.overlaps[purse/api.Right]", "math/bits.Add64", "slices.overlaps[purse/api.Holder]"], unfollowed := true, recurses := true, apart := false, narrowed := true }
def LedgerNeverUptoSaid : Prop := ledgerNeverUptoRow.holds Try.pinned (OpenSpec.upto ledgerNeverSpec)

end Rows
end Go.Proofs.Ytfkielfnceeedaa
