/-
  Contracts of functions of this seat: what each hands back, and what it leaves of memory (acc19). Nothing here is trusted: Lean checks it.
-/
import Derived.Test.YtfkielfnceeedaaAcc16
set_option linter.unusedVariables false
set_option linter.unusedSimpArgs false
namespace Go.Proofs.Ytfkielfnceeedaa
open Go.Vc Go.RowKit
set_option maxRecDepth 100000

def oneW (h : Hd) (k : Nat) : List Hd := if ((k + 1 : Nat) : Int) = h.nd then [h] else []

def resW (L : List Hd) (h : Hd) : Nat → List Hd
  | 0 => []
  | k + 1 => resW L h k ++ oneW h k ++ L.filter fun z => decide (z.nd = ((k + 1 : Nat) : Int))

structure WiX where
  k : Nat
  i : Nat
  aL : Option Addr
  cL : Nat
  a : Option Addr
  c : Nat
  m : M
  B : Nat

structure WiI (L : List Hd) (m : M) (y : WiX) (l : List Hd) : Prop where
  B : m.sz ≤ y.B
  Bm : y.B ≤ y.m.sz
  row : Row { y.m with sz := y.B } y.aL (hds L)
  own : NewR y.B (fun _ => False) y.m 4 y.a l.length y.c (hds l)

def inW (L : List Hd) (h : Hd) (y : WiX) : List Hd := resW L h y.k ++ oneW h y.k ++ (L.take y.i).filter fun z => decide (z.nd = ((y.k + 1 : Nat) : Int))

theorem oneW_len (h : Hd) (k : Nat) : (oneW h k).length ≤ 1 := by unfold oneW; split <;> simp

theorem resW_len (L : List Hd) (h : Hd) : ∀ k, (resW L h k).length ≤ k * (L.length + 1)
  | 0 => by simp [resW]
  | k + 1 => by
    have h1 := resW_len L h k
    have h2 := oneW_len h k
    have h3 := List.length_filter_le (fun z : Hd => decide (z.nd = ((k + 1 : Nat) : Int))) L
    simp only [resW, List.length_append, Nat.add_mul, Nat.one_mul]
    omega

theorem inW_len (L : List Hd) (h : Hd) (y : WiX) : (inW L h y).length ≤ (y.k + 1) * (L.length + 1) := by
  have h1 := resW_len L h y.k
  have h2 := oneW_len h y.k
  have h3 := List.length_filter_le (fun z : Hd => decide (z.nd = ((y.k + 1 : Nat) : Int))) (L.take y.i)
  have h4 : (L.take y.i).length ≤ L.length := by simp; omega
  simp only [inW, List.length_append, Nat.add_mul, Nat.one_mul]
  omega

theorem wi_push {L : List Hd} {m : M} {y : WiX} {l : List Hd} (hy : WiI L m y l) (hl : l.length ≤ 100000) (e : Hd) {b : Nat} (hb : y.m.sz ≤ b) :
    AppPre m.sz (fun _ => False) (y.m.newBlock b (encH e)) 4 32 y.a l.length y.c (some ⟨b, 0, none⟩) 1 (hds l) (encH e) ∧
      ∀ a' c' m', AppPost Try.prog 67 (y.m.newBlock b (encH e)) 4 y.a l.length y.c 1 (hds l) (encH e) a' c' m' → ∀ k i l', l' = l ++ [e] → WiI L m ⟨k, i, y.aL, y.cL, a', c', m', y.B⟩ l' := by
  have h1 := hy.B
  have h2 := hy.Bm
  obtain ⟨g1, -⟩ := (hy.own.lower h1).push (P := Try.prog) (e := 67) (bytes := 32) (src := encH e) hb (by omega) rfl rfl (by omega) zr_hd
  obtain ⟨-, g2⟩ := hy.own.push (P := Try.prog) (e := 67) (bytes := 32) (src := encH e) hb h2 rfl rfl (by omega) zr_hd
  refine ⟨g1, fun a' c' m' hp k i l' hl' => ?_⟩
  obtain ⟨g3, g4⟩ := g2 a' c' m' hp
  subst hl'
  refine ⟨h1, (by have := g4.2.2; show y.B ≤ m'.sz; omega), ?_, ?_⟩
  · exact hy.row.of (Nat.le_refl _) fun b' o e' hb' => g4.1 b' hb'
  · have e1 : hds (l ++ [e]) = hds l ++ encH e := by simp [hds]
    have e2 : (l ++ [e]).length = l.length + 1 := by simp
    rw [e1, e2]
    exact g3

def withAnn (x : Ac) (L : List Hd) (h : Hd) (m : M) : Nat → Ann
  | 9 => {
    A := WiX
    inv := fun y => WiI L m y (inW L h y) ∧ y.i ≤ L.length ∧ y.k < 5
    st := fun y => [(7, .val (I y.i)), (6, .val (I ((y.k + 1 : Nat) : Int))), (3, .own 1 0), (2, .own 0 0), (4, .own 2 0), (5, .val (.slice y.a (inW L h y).length y.c))]
    own := fun y => [(0, ⟨46, acc { x with hs := L } y.aL y.cL⟩), (1, ⟨67, encH h⟩), (2, ⟨46, acc ac0 none 0⟩)]
    m := fun y => y.m
    μ := fun y => L.length - y.i
    link := some fun y ctx => ctx = [5 - y.k] }
  | _ => {
    A := WiX
    inv := fun y => WiI L m y (resW L h y.k) ∧ y.k ≤ 5
    st := fun y => [(6, .val (I ((y.k + 1 : Nat) : Int))), (3, .own 1 0), (2, .own 0 0), (4, .own 2 0), (5, .val (.slice y.a (resW L h y.k).length y.c))]
    own := fun y => [(0, ⟨46, acc { x with hs := L } y.aL y.cL⟩), (1, ⟨67, encH h⟩), (2, ⟨46, acc ac0 none 0⟩)]
    m := fun y => y.m
    μ := fun y => 5 - y.k }

end Go.Proofs.Ytfkielfnceeedaa
