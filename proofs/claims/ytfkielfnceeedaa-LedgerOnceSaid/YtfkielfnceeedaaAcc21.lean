/-
  Contracts of functions of this seat: what each hands back, and what it leaves of memory (acc21). Nothing here is trusted: Lean checks it.
-/
import Derived.Test.YtfkielfnceeedaaAcc18
import Derived.Test.YtfkielfnceeedaaAcc20
set_option linter.unusedVariables false
set_option linter.unusedSimpArgs false
namespace Go.Proofs.Ytfkielfnceeedaa
open Go.Vc Go.RowKit
set_option maxRecDepth 100000

structure OpA where
  kind : Int
  nd : Int
  le : Int
  ro : Int
  n : Int
  lo : Int
  hi : Int
  lk : Lk
  cm : Bool

def OpA.wf (o : OpA) : Prop := In64 o.kind ∧ In64 o.nd ∧ In64 o.le ∧ In64 o.ro ∧ In64 o.n ∧ In64 o.lo ∧ In64 o.hi ∧ o.lk.wf

abbrev encO (o : OpA) : List Value := [I o.kind, I o.nd, I o.le, I o.ro, I o.n, I o.lo, I o.hi, I o.lk.cl, I o.lk.sq, I o.lk.hm, I o.lk.n, .bool o.cm]

abbrev opv (o : OpA) : Value := .agg #[I o.kind, I o.nd, I o.le, I o.ro, I o.n, I o.lo, I o.hi, I o.lk.cl, I o.lk.sq, I o.lk.hm, I o.lk.n, .bool o.cm]

def aCall (x : Ac) (o : OpA) (ns : Int) : Ac × Int :=
  if o.kind = 1 then aGrant x o.nd o.le ns else if o.kind = 2 then aFreeze x o.ro else if o.kind = 3 then aThaw x else
  if o.kind = 4 then aReport x o.nd o.le o.ro o.n else if o.kind = 5 then aBounds x o.lo o.hi else if o.kind = 6 then aTake x o.lk else
  if o.kind = 7 then aFree x o.cm else aAdd x o.n

theorem pass_s {f : FuncId} {args : List Value} {m : M} {N : Nat} {y0 y : Ac × Int} (h : Vc.Spec Try.prog f args { m with sz := N } (AcR { m with sz := N } y)) (hN : m.sz ≤ N) (e : y0 = y) :
    Vc.Spec Try.prog f args { m with sz := N } fun v m' => ∃ (s : ByteArray) (n1 n2 n3 n4 : Int) (a : Option Addr) (n5 c : Nat) (n6 n7 n8 n9 n10 : Int), v = .tuple #[.agg #[.string s, I n1, I n2, I n3, I n4, .slice a n5 c, I n6, I n7, I n8, I n9], I n10] ∧ Done (AcR m y0 (.tuple #[.agg #[.string s, I n1, I n2, I n3, I n4, .slice a n5 c, I n6, I n7, I n8, I n9], I n10]) m') :=
  h.mono fun v m' hag ⟨a', c', hv, hr⟩ => ⟨_, _, _, _, _, _, _, _, _, _, _, _, _, hv, ⟨by subst e; exact ⟨a', c', rfl, hr.lower hN⟩⟩⟩

end Go.Proofs.Ytfkielfnceeedaa
