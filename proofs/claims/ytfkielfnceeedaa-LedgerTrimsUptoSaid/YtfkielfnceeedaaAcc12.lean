/-
  Contracts of functions of this seat: what each hands back, and what it leaves of memory (acc12). Nothing here is trusted: Lean checks it.
-/
import Derived.Test.YtfkielfnceeedaaAcc11
set_option linter.unusedVariables false
set_option linter.unusedSimpArgs false
namespace Go.Proofs.Ytfkielfnceeedaa
open Go.Vc Go.RowKit
set_option maxRecDepth 100000

structure WoX where
  k : Nat
  a : Option Addr
  c : Nat
  m : M

structure WoI (l : List Hd) (p : Hd → Bool) (m : M) (y : WoX) : Prop where
  k : y.k ≤ l.length
  own : NewR m.sz (fun _ => False) y.m 4 y.a ((l.take y.k).filter p).length y.c (hds ((l.take y.k).filter p))
  ag : Agree m.sz m y.m

end Go.Proofs.Ytfkielfnceeedaa
