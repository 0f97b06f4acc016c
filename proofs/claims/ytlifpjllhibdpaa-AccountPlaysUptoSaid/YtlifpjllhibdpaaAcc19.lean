/-
  Contracts of functions of this seat: what each hands back, and what it leaves of memory (acc19). Nothing here is trusted: Lean checks it.
-/
import Derived.Test.YtlifpjllhibdpaaAcc16
set_option linter.unusedVariables false
set_option linter.unusedSimpArgs false
namespace Go.Proofs.Ytlifpjllhibdpaa
open Go.Vc Go.RowKit
set_option maxRecDepth 100000

def oneW (h : Hd) (k : Nat) : List Hd := if ((k + 1 : Nat) : Int) = h.nd then [h] else []

def resW (L : List Hd) (h : Hd) : Nat → List Hd
  | 0 => []
  | k + 1 => resW L h k ++ oneW h k ++ L.filter fun z => decide (z.nd = ((k + 1 : Nat) : Int))

structure WiX where
  k : Nat
  i : Nat
  aL : Option Addr
  cL : Nat
  a : Option Addr
  c : Nat
  m : M
  B : Nat

structure WiI (L : List Hd) (m : M) (y : WiX) (l : List Hd) : Prop where
  B : m.sz ≤ y.B
  Bm : y.B ≤ y.m.sz
  row : Row { y.m with sz := y.B } y.aL (hds L)
  own : NewR y.B (fun _ => False) y.m 4 y.a l.length y.c (hds l)

def inW (L : List Hd) (h : Hd) (y : WiX) : List Hd := resW L h y.k ++ oneW h y.k ++ (L.take y.i).filter fun z => decide (z.nd = ((y.k + 1 : Nat) : Int))

theorem oneW_len (h : Hd) (k : Nat) : (oneW h k).length ≤ 1 := by unfold oneW; split <;> simp

theorem resW_len (L : List Hd) (h : Hd) : ∀ k, (resW L h k).length ≤ k * (L.length + 1)
  | 0 => by simp [resW]
  | k + 1 => by
    have h1 := resW_len L h k
    have h2 := oneW_len h k
    have h3 := List.length_filter_le (fun z : Hd => decide (z.nd = ((k + 1 : Nat) : Int))) L
    simp only [resW, List.length_append, Nat.add_mul, Nat.one_mul]
    omega

theorem inW_len (L : List Hd) (h : Hd) (y : WiX) : (inW L h y).length ≤ (y.k + 1) * (L.length + 1) := by
  have h1 := resW_len L h y.k
  have h2 := oneW_len h y.k
  have h3 := List.length_filter_le (fun z : Hd => decide (z.nd = ((y.k + 1 : Nat) : Int))) (L.take y.i)
  have h4 : (L.take y.i).length ≤ L.length := by simp; omega
  simp only [inW, List.length_append, Nat.add_mul, Nat.one_mul]
  omega

theorem wi_push {L : List Hd} {m : M} {y : WiX} {l : List Hd} (hy : WiI L m y l) (hl : l.length ≤ 100000) (e : Hd) {b : Nat} (hb : y.m.sz ≤ b) :
    AppPre m.sz (fun _ => False) (y.m.newBlock b (encH e)) 4 32 y.a l.length y.c (some ⟨b, 0, none⟩) 1 (hds l) (encH e) ∧
      ∀ a' c' m', AppPost Try.prog 31 (y.m.newBlock b (encH e)) 4 y.a l.length y.c 1 (hds l) (encH e) a' c' m' → ∀ k i l', l' = l ++ [e] → WiI L m ⟨k, i, y.aL, y.cL, a', c', m', y.B⟩ l' := by
  have h1 := hy.B
  have h2 := hy.Bm
  obtain ⟨g1, -⟩ := (hy.own.lower h1).push (P := Try.prog) (e := 31) (bytes := 32) (src := encH e) hb (by omega) rfl rfl (by omega) zr_hd
  obtain ⟨-, g2⟩ := hy.own.push (P := Try.prog) (e := 31) (bytes := 32) (src := encH e) hb h2 rfl rfl (by omega) zr_hd
  refine ⟨g1, fun a' c' m' hp k i l' hl' => ?_⟩
  obtain ⟨g3, g4⟩ := g2 a' c' m' hp
  subst hl'
  refine ⟨h1, (by have := g4.2.2; show y.B ≤ m'.sz; omega), ?_, ?_⟩
  · exact hy.row.of (Nat.le_refl _) fun b' o e' hb' => g4.1 b' hb'
  · have e1 : hds (l ++ [e]) = hds l ++ encH e := by simp [hds]
    have e2 : (l ++ [e]).length = l.length + 1 := by simp
    rw [e1, e2]
    exact g3

def withAnn (x : Ac) (L : List Hd) (h : Hd) (m : M) : Nat → Ann
  | 9 => {
    A := WiX
    inv := fun y => WiI L m y (inW L h y) ∧ y.i ≤ L.length ∧ y.k < 5
    st := fun y => [(7, .val (I y.i)), (6, .val (I ((y.k + 1 : Nat) : Int))), (3, .own 1 0), (2, .own 0 0), (4, .own 2 0), (5, .val (.slice y.a (inW L h y).length y.c))]
    own := fun y => [(0, ⟨28, acc { x with hs := L } y.aL y.cL⟩), (1, ⟨31, encH h⟩), (2, ⟨28, acc ac0 none 0⟩)]
    m := fun y => y.m
    μ := fun y => L.length - y.i
    link := some fun y ctx => ctx = [5 - y.k] }
  | _ => {
    A := WiX
    inv := fun y => WiI L m y (resW L h y.k) ∧ y.k ≤ 5
    st := fun y => [(6, .val (I ((y.k + 1 : Nat) : Int))), (3, .own 1 0), (2, .own 0 0), (4, .own 2 0), (5, .val (.slice y.a (resW L h y.k).length y.c))]
    own := fun y => [(0, ⟨28, acc { x with hs := L } y.aL y.cL⟩), (1, ⟨31, encH h⟩), (2, ⟨28, acc ac0 none 0⟩)]
    m := fun y => y.m
    μ := fun y => 5 - y.k }

theorem with_s (x : Ac) (a : Option Addr) (c : Nat) (h : Hd) (hn : x.hs.length ≤ 1000) (m : M) (hrow : Row m a (hds x.hs)) :
    Vc.Spec Try.prog 82 [acv x a c, hdv h] m fun v m' => ∃ a' c', v = acv { x with hs := resW (x.hs.filter fun z => decide (z.nd ≠ h.nd)) h 5 } a' c' ∧ NewR m.sz (fun _ => False) m' 4 a' (resW (x.hs.filter fun z => decide (z.nd ≠ h.nd)) h 5).length c' (hds (resW (x.hs.filter fun z => decide (z.nd ≠ h.nd)) h 5)) := by
  refine Vc.Spec.of_vc Try.func82 (ann := withAnn x (x.hs.filter fun z => decide (z.nd ≠ h.nd)) h m) ?_
  refine vc_by (X :=
      true = true ∧
      ∀ (n : Nat),
      m.sz ≤ n →
      Vc.Spec Try.prog (84 : Nat)
      [Value.agg
      #[Value.string x.key, Value.int IntKind.i64 x.lo, Value.int IntKind.i64 x.hi, Value.int IntKind.i64 x.base, Value.int IntKind.i64 x.round, Value.slice a x.hs.length c,
      Value.int IntKind.i64 x.lk.cl, Value.int IntKind.i64 x.lk.sq, Value.int IntKind.i64 x.lk.hm, Value.int IntKind.i64 x.lk.n],
      Value.int IntKind.i64 h.nd]
      { π := m.π, sz := n, uf := m.uf : M } fun (v : Value) (m' : M) =>
      ∃ (s : ByteArray),
      ∃ (n : Int),
      ∃ (n_1 : Int),
      ∃ (n_2 : Int),
      ∃ (n_3 : Int),
      ∃ (a : Option Addr),
      ∃ (n_4 : Nat),
      ∃ (c : Nat),
      ∃ (n_5 : Int),
      ∃ (n_6 : Int),
      ∃ (n_7 : Int),
      ∃ (n_8 : Int),
      v =
      Value.agg
      #[Value.string s, Value.int IntKind.i64 n, Value.int IntKind.i64 n_1, Value.int IntKind.i64 n_2, Value.int IntKind.i64 n_3,
      Value.slice a n_4 c, Value.int IntKind.i64 n_5, Value.int IntKind.i64 n_6, Value.int IntKind.i64 n_7, Value.int IntKind.i64 n_8] ∧
      (∃ (a_2 : WiX),
      (WiI (List.filter (fun (z : Hd) => decide (z.nd ≠ h.nd)) x.hs) m a_2
      (resW (List.filter (fun (z : Hd) => decide (z.nd ≠ h.nd)) x.hs) h a_2.k) ∧
      a_2.k ≤ (5 : Nat)) ∧
      m' = a_2.m ∧
      ((SV.val (Value.int IntKind.i64 (1 : Int)) = SV.val (Value.int IntKind.i64 (↑(a_2.k + (1 : Nat)) : Int)) ∧ true = true) ∧
      (SV.own ((0 : Nat) + (1 : Nat)) (0 : Nat) = SV.own (1 : Nat) (0 : Nat) ∧ true = true) ∧
      (SV.own ((0 : Nat) + (0 : Nat)) (0 : Nat) = SV.own (0 : Nat) (0 : Nat) ∧ true = true) ∧
      (SV.own ((0 : Nat) + (2 : Nat)) (0 : Nat) = SV.own (2 : Nat) (0 : Nat) ∧ true = true) ∧
      (SV.val (Value.slice none (0 : Nat) (0 : Nat)) =
      SV.val (Value.slice a_2.a (resW (List.filter (fun (z : Hd) => decide (z.nd ≠ h.nd)) x.hs) h a_2.k).length a_2.c) ∧
      true = true) ∧
      True) ∧
      (some
      { ty := (28 : Nat), cs := [Value.string s, Value.int IntKind.i64 n, Value.int IntKind.i64 n_1, Value.int IntKind.i64 n_2, Value.int IntKind.i64 n_3, Value.slice a n_4 c, Value.int IntKind.i64 n_5, Value.int IntKind.i64 n_6, Value.int IntKind.i64 n_7, Value.int IntKind.i64 n_8] : Bx } =
      some
      { ty := (28 : TypeId), cs := [Value.string x.key, Value.int IntKind.i64 x.lo, Value.int IntKind.i64 x.hi, Value.int IntKind.i64 x.base, Value.int IntKind.i64 x.round, Value.slice a_2.aL (List.filter (fun (z : Hd) => decide (z.nd ≠ h.nd)) x.hs).length a_2.cL, Value.int IntKind.i64 x.lk.cl, Value.int IntKind.i64 x.lk.sq, Value.int IntKind.i64 x.lk.hm, Value.int IntKind.i64 x.lk.n] : Bx } ∧
      true = true) ∧
      (some
      { ty := (31 : Nat), cs := [Value.int IntKind.i64 h.nd, Value.int IntKind.i64 h.le, Value.int IntKind.i64 h.up, Value.int IntKind.i64 h.dn] : Bx } =
      some
      { ty := (31 : TypeId), cs := [Value.int IntKind.i64 h.nd, Value.int IntKind.i64 h.le, Value.int IntKind.i64 h.up, Value.int IntKind.i64 h.dn] : Bx } ∧
      true = true) ∧
      (some
      { ty := (28 : Nat), cs := [Value.string { data := #[] : ByteArray }, Value.int IntKind.i64 (0 : Int), Value.int IntKind.i64 (0 : Int), Value.int IntKind.i64 (0 : Int), Value.int IntKind.i64 (0 : Int), Value.slice none (0 : Nat) (0 : Nat), Value.int IntKind.i64 (0 : Int), Value.int IntKind.i64 (0 : Int), Value.int IntKind.i64 (0 : Int), Value.int IntKind.i64 (0 : Int)] : Bx } =
      some
      { ty := (28 : TypeId), cs := [Value.string ByteArray.empty, Value.int IntKind.i64 (0 : Int), Value.int IntKind.i64 (0 : Int), Value.int IntKind.i64 (0 : Int), Value.int IntKind.i64 (0 : Int), Value.slice none (0 : Nat) (0 : Nat), Value.int IntKind.i64 (0 : Int), Value.int IntKind.i64 (0 : Int), Value.int IntKind.i64 (0 : Int), Value.int IntKind.i64 (0 : Int)] : Bx } ∧
      true = true) ∧
      True) ∧
      ∀ (a : WiX),
      WiI (List.filter (fun (z : Hd) => decide (z.nd ≠ h.nd)) x.hs) m a (resW (List.filter (fun (z : Hd) => decide (z.nd ≠ h.nd)) x.hs) h a.k) ∧
      a.k ≤ (5 : Nat) →
      ifB (decide ((↑(a.k + (1 : Nat)) : Int) ≤ (5 : Int)))
      (ifB ((↑(a.k + (1 : Nat)) : Int) == h.nd)
      (true = true ∧
      ∀ (b : Nat),
      a.m.sz ≤ b →
      ∃ (old : List Value),
      ∃ (src : List Value),
      AppPre m.sz (fun (x : Nat) => False)
      (a.m.newBlock b
      [Value.int IntKind.i64 h.nd, Value.int IntKind.i64 h.le, Value.int IntKind.i64 h.up, Value.int IntKind.i64 h.dn])
      (4 : Nat) (32 : Nat) a.a (resW (List.filter (fun (z : Hd) => decide (z.nd ≠ h.nd)) x.hs) h a.k).length a.c
      (some { block := b, off := (0 : Nat) : Addr }) (1 : Nat) old src ∧
      ∀ (a' : Option Addr) (c' : Nat) (m' : M),
      AppPost Try.prog (31 : Nat)
      (a.m.newBlock b
      [Value.int IntKind.i64 h.nd, Value.int IntKind.i64 h.le, Value.int IntKind.i64 h.up, Value.int IntKind.i64 h.dn])
      (4 : Nat) a.a (resW (List.filter (fun (z : Hd) => decide (z.nd ≠ h.nd)) x.hs) h a.k).length a.c (1 : Nat) old src a'
      c' m' →
      (∃ (a_5 : WiX),
      ((WiI (List.filter (fun (z : Hd) => decide (z.nd ≠ h.nd)) x.hs) m a_5
      (inW (List.filter (fun (z : Hd) => decide (z.nd ≠ h.nd)) x.hs) h a_5) ∧
      a_5.i ≤ (List.filter (fun (z : Hd) => decide (z.nd ≠ h.nd)) x.hs).length ∧ a_5.k < (5 : Nat)) ∧
      m' = a_5.m ∧
      ((SV.val (Value.int IntKind.i64 (0 : Int)) = SV.val (Value.int IntKind.i64 (↑a_5.i : Int)) ∧ true = true) ∧
      (SV.val (Value.int IntKind.i64 (↑(a.k + (1 : Nat)) : Int)) =
      SV.val (Value.int IntKind.i64 (↑(a_5.k + (1 : Nat)) : Int)) ∧
      true = true) ∧
      (SV.own (1 : Nat) (0 : Nat) = SV.own (1 : Nat) (0 : Nat) ∧ true = true) ∧
      (SV.own (0 : Nat) (0 : Nat) = SV.own (0 : Nat) (0 : Nat) ∧ true = true) ∧
      (SV.own (2 : Nat) (0 : Nat) = SV.own (2 : Nat) (0 : Nat) ∧ true = true) ∧
      (SV.val
      (Value.slice a'
      ((resW (List.filter (fun (z : Hd) => decide (z.nd ≠ h.nd)) x.hs) h a.k).length +
      (1 : Nat))
      c') =
      SV.val
      (Value.slice a_5.a
      (inW (List.filter (fun (z : Hd) => decide (z.nd ≠ h.nd)) x.hs) h a_5).length a_5.c) ∧
      true = true) ∧
      True) ∧
      (some
      { ty := (28 : TypeId), cs := [Value.string x.key, Value.int IntKind.i64 x.lo, Value.int IntKind.i64 x.hi, Value.int IntKind.i64 x.base, Value.int IntKind.i64 x.round, Value.slice a.aL (List.filter (fun (z : Hd) => decide (z.nd ≠ h.nd)) x.hs).length a.cL, Value.int IntKind.i64 x.lk.cl, Value.int IntKind.i64 x.lk.sq, Value.int IntKind.i64 x.lk.hm, Value.int IntKind.i64 x.lk.n] : Bx } =
      some
      { ty := (28 : TypeId), cs := [Value.string x.key, Value.int IntKind.i64 x.lo, Value.int IntKind.i64 x.hi, Value.int IntKind.i64 x.base, Value.int IntKind.i64 x.round, Value.slice a_5.aL (List.filter (fun (z : Hd) => decide (z.nd ≠ h.nd)) x.hs).length a_5.cL, Value.int IntKind.i64 x.lk.cl, Value.int IntKind.i64 x.lk.sq, Value.int IntKind.i64 x.lk.hm, Value.int IntKind.i64 x.lk.n] : Bx } ∧
      true = true) ∧
      (some
      { ty := (31 : TypeId), cs := [Value.int IntKind.i64 h.nd, Value.int IntKind.i64 h.le, Value.int IntKind.i64 h.up, Value.int IntKind.i64 h.dn] : Bx } =
      some
      { ty := (31 : TypeId), cs := [Value.int IntKind.i64 h.nd, Value.int IntKind.i64 h.le, Value.int IntKind.i64 h.up, Value.int IntKind.i64 h.dn] : Bx } ∧
      true = true) ∧
      (some
      { ty := (28 : TypeId), cs := [Value.string ByteArray.empty, Value.int IntKind.i64 (0 : Int), Value.int IntKind.i64 (0 : Int), Value.int IntKind.i64 (0 : Int), Value.int IntKind.i64 (0 : Int), Value.slice none (0 : Nat) (0 : Nat), Value.int IntKind.i64 (0 : Int), Value.int IntKind.i64 (0 : Int), Value.int IntKind.i64 (0 : Int), Value.int IntKind.i64 (0 : Int)] : Bx } =
      some
      { ty := (28 : TypeId), cs := [Value.string ByteArray.empty, Value.int IntKind.i64 (0 : Int), Value.int IntKind.i64 (0 : Int), Value.int IntKind.i64 (0 : Int), Value.int IntKind.i64 (0 : Int), Value.slice none (0 : Nat) (0 : Nat), Value.int IntKind.i64 (0 : Int), Value.int IntKind.i64 (0 : Int), Value.int IntKind.i64 (0 : Int), Value.int IntKind.i64 (0 : Int)] : Bx } ∧
      true = true) ∧
      True) ∧
      [(5 : Nat) - a.k] = [(5 : Nat) - a_5.k]) ∧
      ∀ (a_5 : WiX),
      (WiI (List.filter (fun (z : Hd) => decide (z.nd ≠ h.nd)) x.hs) m a_5
      (inW (List.filter (fun (z : Hd) => decide (z.nd ≠ h.nd)) x.hs) h a_5) ∧
      a_5.i ≤ (List.filter (fun (z : Hd) => decide (z.nd ≠ h.nd)) x.hs).length ∧ a_5.k < (5 : Nat)) ∧
      [(5 : Nat) - a.k] = [(5 : Nat) - a_5.k] →
      ifB (decide ((↑a_5.i : Int) < (↑(List.filter (fun (z : Hd) => decide (z.nd ≠ h.nd)) x.hs).length : Int)))
      (∃ (b : Nat),
      ∃ (off : Nat),
      a_5.aL = some { block := b, off := off : Addr } ∧
      ((0 : Int) ≤ (↑a_5.i : Int) ∧
      (↑a_5.i : Int) < (↑(List.filter (fun (z : Hd) => decide (z.nd ≠ h.nd)) x.hs).length : Int)) ∧
      ∃ (n : Int),
      CellsAt a_5.m b (off + (↑a_5.i : Int).toNat * (4 : Nat) + (0 : Nat)) [Value.int IntKind.i64 n] ∧
      ifB (n == (↑(a_5.k + (1 : Nat)) : Int))
      (∃ (b : Nat),
      ∃ (off : Nat),
      a_5.aL = some { block := b, off := off : Addr } ∧
      ((0 : Int) ≤ (↑a_5.i : Int) ∧
      (↑a_5.i : Int) <
      (↑(List.filter (fun (z : Hd) => decide (z.nd ≠ h.nd)) x.hs).length : Int)) ∧
      ∃ (n : Int),
      ∃ (n_9 : Int),
      ∃ (n_10 : Int),
      ∃ (n_11 : Int),
      CellsAt a_5.m b (off + (↑a_5.i : Int).toNat * (4 : Nat))
      [Value.int IntKind.i64 n, Value.int IntKind.i64 n_9,
      Value.int IntKind.i64 n_10, Value.int IntKind.i64 n_11] ∧
      true = true ∧
      ∀ (b : Nat),
      a_5.m.sz ≤ b →
      ∃ (old : List Value),
      ∃ (src : List Value),
      AppPre m.sz (fun (x : Nat) => False)
      (a_5.m.newBlock b
      [Value.int IntKind.i64 n, Value.int IntKind.i64 n_9,
      Value.int IntKind.i64 n_10, Value.int IntKind.i64 n_11])
      (4 : Nat) (32 : Nat) a_5.a
      (inW (List.filter (fun (z : Hd) => decide (z.nd ≠ h.nd)) x.hs) h
      a_5).length
      a_5.c (some { block := b, off := (0 : Nat) : Addr }) (1 : Nat) old
      src ∧
      ∀ (a' : Option Addr) (c' : Nat) (m' : M),
      AppPost Try.prog (31 : Nat)
      (a_5.m.newBlock b
      [Value.int IntKind.i64 n, Value.int IntKind.i64 n_9,
      Value.int IntKind.i64 n_10, Value.int IntKind.i64 n_11])
      (4 : Nat) a_5.a
      (inW (List.filter (fun (z : Hd) => decide (z.nd ≠ h.nd)) x.hs)
      h a_5).length
      a_5.c (1 : Nat) old src a' c' m' →
      ∃ (a'_1 : WiX),
      (((WiI
      (List.filter (fun (z : Hd) => decide (z.nd ≠ h.nd))
      x.hs)
      m a'_1
      (inW
      (List.filter
      (fun (z : Hd) => decide (z.nd ≠ h.nd)) x.hs)
      h a'_1) ∧
      a'_1.i ≤
      (List.filter
      (fun (z : Hd) => decide (z.nd ≠ h.nd))
      x.hs).length ∧
      a'_1.k < (5 : Nat)) ∧
      m' = a'_1.m ∧
      ((SV.val
      (Value.int IntKind.i64
      (IntKind.i64.wrap
      ((↑a_5.i : Int) + (1 : Int)))) =
      SV.val
      (Value.int IntKind.i64 (↑a'_1.i : Int)) ∧
      true = true) ∧
      (SV.val
      (Value.int IntKind.i64
      (↑(a_5.k + (1 : Nat)) : Int)) =
      SV.val
      (Value.int IntKind.i64
      (↑(a'_1.k + (1 : Nat)) : Int)) ∧
      true = true) ∧
      (SV.own (1 : Nat) (0 : Nat) =
      SV.own (1 : Nat) (0 : Nat) ∧
      true = true) ∧
      (SV.own (0 : Nat) (0 : Nat) =
      SV.own (0 : Nat) (0 : Nat) ∧
      true = true) ∧
      (SV.own (2 : Nat) (0 : Nat) =
      SV.own (2 : Nat) (0 : Nat) ∧
      true = true) ∧
      (SV.val
      (Value.slice a'
      ((inW
      (List.filter
      (fun (z : Hd) =>
      decide (z.nd ≠ h.nd))
      x.hs)
      h a_5).length +
      (1 : Nat))
      c') =
      SV.val
      (Value.slice a'_1.a
      (inW
      (List.filter
      (fun (z : Hd) =>
      decide (z.nd ≠ h.nd))
      x.hs)
      h a'_1).length
      a'_1.c) ∧
      true = true) ∧
      True) ∧
      (some
      { ty := (28 : TypeId), cs := [Value.string x.key, Value.int IntKind.i64 x.lo, Value.int IntKind.i64 x.hi, Value.int IntKind.i64 x.base, Value.int IntKind.i64 x.round, Value.slice a_5.aL (List.filter (fun (z : Hd) => decide (z.nd ≠ h.nd)) x.hs).length a_5.cL, Value.int IntKind.i64 x.lk.cl, Value.int IntKind.i64 x.lk.sq, Value.int IntKind.i64 x.lk.hm, Value.int IntKind.i64 x.lk.n] : Bx } =
      some
      { ty := (28 : TypeId), cs := [Value.string x.key, Value.int IntKind.i64 x.lo, Value.int IntKind.i64 x.hi, Value.int IntKind.i64 x.base, Value.int IntKind.i64 x.round, Value.slice a'_1.aL (List.filter (fun (z : Hd) => decide (z.nd ≠ h.nd)) x.hs).length a'_1.cL, Value.int IntKind.i64 x.lk.cl, Value.int IntKind.i64 x.lk.sq, Value.int IntKind.i64 x.lk.hm, Value.int IntKind.i64 x.lk.n] : Bx } ∧
      true = true) ∧
      (some
      { ty := (31 : TypeId), cs := [Value.int IntKind.i64 h.nd, Value.int IntKind.i64 h.le, Value.int IntKind.i64 h.up, Value.int IntKind.i64 h.dn] : Bx } =
      some
      { ty := (31 : TypeId), cs := [Value.int IntKind.i64 h.nd, Value.int IntKind.i64 h.le, Value.int IntKind.i64 h.up, Value.int IntKind.i64 h.dn] : Bx } ∧
      true = true) ∧
      (some
      { ty := (28 : TypeId), cs := [Value.string ByteArray.empty, Value.int IntKind.i64 (0 : Int), Value.int IntKind.i64 (0 : Int), Value.int IntKind.i64 (0 : Int), Value.int IntKind.i64 (0 : Int), Value.slice none (0 : Nat) (0 : Nat), Value.int IntKind.i64 (0 : Int), Value.int IntKind.i64 (0 : Int), Value.int IntKind.i64 (0 : Int), Value.int IntKind.i64 (0 : Int)] : Bx } =
      some
      { ty := (28 : TypeId), cs := [Value.string ByteArray.empty, Value.int IntKind.i64 (0 : Int), Value.int IntKind.i64 (0 : Int), Value.int IntKind.i64 (0 : Int), Value.int IntKind.i64 (0 : Int), Value.slice none (0 : Nat) (0 : Nat), Value.int IntKind.i64 (0 : Int), Value.int IntKind.i64 (0 : Int), Value.int IntKind.i64 (0 : Int), Value.int IntKind.i64 (0 : Int)] : Bx } ∧
      true = true) ∧
      True) ∧
      [(5 : Nat) - a.k] = [(5 : Nat) - a'_1.k]) ∧
      (List.filter (fun (z : Hd) => decide (z.nd ≠ h.nd))
      x.hs).length -
      a'_1.i <
      (List.filter (fun (z : Hd) => decide (z.nd ≠ h.nd))
      x.hs).length -
      a_5.i)
      (∃ (a' : WiX),
      (((WiI (List.filter (fun (z : Hd) => decide (z.nd ≠ h.nd)) x.hs) m a'
      (inW (List.filter (fun (z : Hd) => decide (z.nd ≠ h.nd)) x.hs) h a') ∧
      a'.i ≤ (List.filter (fun (z : Hd) => decide (z.nd ≠ h.nd)) x.hs).length ∧
      a'.k < (5 : Nat)) ∧
      a_5.m = a'.m ∧
      ((SV.val (Value.int IntKind.i64 (IntKind.i64.wrap ((↑a_5.i : Int) + (1 : Int)))) =
      SV.val (Value.int IntKind.i64 (↑a'.i : Int)) ∧
      true = true) ∧
      (SV.val (Value.int IntKind.i64 (↑(a_5.k + (1 : Nat)) : Int)) =
      SV.val (Value.int IntKind.i64 (↑(a'.k + (1 : Nat)) : Int)) ∧
      true = true) ∧
      (SV.own (1 : Nat) (0 : Nat) = SV.own (1 : Nat) (0 : Nat) ∧ true = true) ∧
      (SV.own (0 : Nat) (0 : Nat) = SV.own (0 : Nat) (0 : Nat) ∧ true = true) ∧
      (SV.own (2 : Nat) (0 : Nat) = SV.own (2 : Nat) (0 : Nat) ∧ true = true) ∧
      (SV.val
      (Value.slice a_5.a
      (inW (List.filter (fun (z : Hd) => decide (z.nd ≠ h.nd)) x.hs) h
      a_5).length
      a_5.c) =
      SV.val
      (Value.slice a'.a
      (inW (List.filter (fun (z : Hd) => decide (z.nd ≠ h.nd)) x.hs) h
      a').length
      a'.c) ∧
      true = true) ∧
      True) ∧
      (some
      { ty := (28 : TypeId), cs := [Value.string x.key, Value.int IntKind.i64 x.lo, Value.int IntKind.i64 x.hi, Value.int IntKind.i64 x.base, Value.int IntKind.i64 x.round, Value.slice a_5.aL (List.filter (fun (z : Hd) => decide (z.nd ≠ h.nd)) x.hs).length a_5.cL, Value.int IntKind.i64 x.lk.cl, Value.int IntKind.i64 x.lk.sq, Value.int IntKind.i64 x.lk.hm, Value.int IntKind.i64 x.lk.n] : Bx } =
      some
      { ty := (28 : TypeId), cs := [Value.string x.key, Value.int IntKind.i64 x.lo, Value.int IntKind.i64 x.hi, Value.int IntKind.i64 x.base, Value.int IntKind.i64 x.round, Value.slice a'.aL (List.filter (fun (z : Hd) => decide (z.nd ≠ h.nd)) x.hs).length a'.cL, Value.int IntKind.i64 x.lk.cl, Value.int IntKind.i64 x.lk.sq, Value.int IntKind.i64 x.lk.hm, Value.int IntKind.i64 x.lk.n] : Bx } ∧
      true = true) ∧
      (some
      { ty := (31 : TypeId), cs := [Value.int IntKind.i64 h.nd, Value.int IntKind.i64 h.le, Value.int IntKind.i64 h.up, Value.int IntKind.i64 h.dn] : Bx } =
      some
      { ty := (31 : TypeId), cs := [Value.int IntKind.i64 h.nd, Value.int IntKind.i64 h.le, Value.int IntKind.i64 h.up, Value.int IntKind.i64 h.dn] : Bx } ∧
      true = true) ∧
      (some
      { ty := (28 : TypeId), cs := [Value.string ByteArray.empty, Value.int IntKind.i64 (0 : Int), Value.int IntKind.i64 (0 : Int), Value.int IntKind.i64 (0 : Int), Value.int IntKind.i64 (0 : Int), Value.slice none (0 : Nat) (0 : Nat), Value.int IntKind.i64 (0 : Int), Value.int IntKind.i64 (0 : Int), Value.int IntKind.i64 (0 : Int), Value.int IntKind.i64 (0 : Int)] : Bx } =
      some
      { ty := (28 : TypeId), cs := [Value.string ByteArray.empty, Value.int IntKind.i64 (0 : Int), Value.int IntKind.i64 (0 : Int), Value.int IntKind.i64 (0 : Int), Value.int IntKind.i64 (0 : Int), Value.slice none (0 : Nat) (0 : Nat), Value.int IntKind.i64 (0 : Int), Value.int IntKind.i64 (0 : Int), Value.int IntKind.i64 (0 : Int), Value.int IntKind.i64 (0 : Int)] : Bx } ∧
      true = true) ∧
      True) ∧
      [(5 : Nat) - a.k] = [(5 : Nat) - a'.k]) ∧
      (List.filter (fun (z : Hd) => decide (z.nd ≠ h.nd)) x.hs).length - a'.i <
      (List.filter (fun (z : Hd) => decide (z.nd ≠ h.nd)) x.hs).length - a_5.i))
      (∃ (a' : WiX),
      ((WiI (List.filter (fun (z : Hd) => decide (z.nd ≠ h.nd)) x.hs) m a'
      (resW (List.filter (fun (z : Hd) => decide (z.nd ≠ h.nd)) x.hs) h a'.k) ∧
      a'.k ≤ (5 : Nat)) ∧
      a_5.m = a'.m ∧
      ((SV.val (Value.int IntKind.i64 (IntKind.i64.wrap ((↑(a_5.k + (1 : Nat)) : Int) + (1 : Int)))) =
      SV.val (Value.int IntKind.i64 (↑(a'.k + (1 : Nat)) : Int)) ∧
      true = true) ∧
      (SV.own (1 : Nat) (0 : Nat) = SV.own (1 : Nat) (0 : Nat) ∧ true = true) ∧
      (SV.own (0 : Nat) (0 : Nat) = SV.own (0 : Nat) (0 : Nat) ∧ true = true) ∧
      (SV.own (2 : Nat) (0 : Nat) = SV.own (2 : Nat) (0 : Nat) ∧ true = true) ∧
      (SV.val
      (Value.slice a_5.a
      (inW (List.filter (fun (z : Hd) => decide (z.nd ≠ h.nd)) x.hs) h a_5).length
      a_5.c) =
      SV.val
      (Value.slice a'.a
      (resW (List.filter (fun (z : Hd) => decide (z.nd ≠ h.nd)) x.hs) h a'.k).length
      a'.c) ∧
      true = true) ∧
      True) ∧
      (some
      { ty := (28 : TypeId), cs := [Value.string x.key, Value.int IntKind.i64 x.lo, Value.int IntKind.i64 x.hi, Value.int IntKind.i64 x.base, Value.int IntKind.i64 x.round, Value.slice a_5.aL (List.filter (fun (z : Hd) => decide (z.nd ≠ h.nd)) x.hs).length a_5.cL, Value.int IntKind.i64 x.lk.cl, Value.int IntKind.i64 x.lk.sq, Value.int IntKind.i64 x.lk.hm, Value.int IntKind.i64 x.lk.n] : Bx } =
      some
      { ty := (28 : TypeId), cs := [Value.string x.key, Value.int IntKind.i64 x.lo, Value.int IntKind.i64 x.hi, Value.int IntKind.i64 x.base, Value.int IntKind.i64 x.round, Value.slice a'.aL (List.filter (fun (z : Hd) => decide (z.nd ≠ h.nd)) x.hs).length a'.cL, Value.int IntKind.i64 x.lk.cl, Value.int IntKind.i64 x.lk.sq, Value.int IntKind.i64 x.lk.hm, Value.int IntKind.i64 x.lk.n] : Bx } ∧
      true = true) ∧
      (some
      { ty := (31 : TypeId), cs := [Value.int IntKind.i64 h.nd, Value.int IntKind.i64 h.le, Value.int IntKind.i64 h.up, Value.int IntKind.i64 h.dn] : Bx } =
      some
      { ty := (31 : TypeId), cs := [Value.int IntKind.i64 h.nd, Value.int IntKind.i64 h.le, Value.int IntKind.i64 h.up, Value.int IntKind.i64 h.dn] : Bx } ∧
      true = true) ∧
      (some
      { ty := (28 : TypeId), cs := [Value.string ByteArray.empty, Value.int IntKind.i64 (0 : Int), Value.int IntKind.i64 (0 : Int), Value.int IntKind.i64 (0 : Int), Value.int IntKind.i64 (0 : Int), Value.slice none (0 : Nat) (0 : Nat), Value.int IntKind.i64 (0 : Int), Value.int IntKind.i64 (0 : Int), Value.int IntKind.i64 (0 : Int), Value.int IntKind.i64 (0 : Int)] : Bx } =
      some
      { ty := (28 : TypeId), cs := [Value.string ByteArray.empty, Value.int IntKind.i64 (0 : Int), Value.int IntKind.i64 (0 : Int), Value.int IntKind.i64 (0 : Int), Value.int IntKind.i64 (0 : Int), Value.slice none (0 : Nat) (0 : Nat), Value.int IntKind.i64 (0 : Int), Value.int IntKind.i64 (0 : Int), Value.int IntKind.i64 (0 : Int), Value.int IntKind.i64 (0 : Int)] : Bx } ∧
      true = true) ∧
      True) ∧
      (5 : Nat) - a'.k < (5 : Nat) - a.k))
      ((∃ (a_3 : WiX),
      ((WiI (List.filter (fun (z : Hd) => decide (z.nd ≠ h.nd)) x.hs) m a_3
      (inW (List.filter (fun (z : Hd) => decide (z.nd ≠ h.nd)) x.hs) h a_3) ∧
      a_3.i ≤ (List.filter (fun (z : Hd) => decide (z.nd ≠ h.nd)) x.hs).length ∧ a_3.k < (5 : Nat)) ∧
      a.m = a_3.m ∧
      ((SV.val (Value.int IntKind.i64 (0 : Int)) = SV.val (Value.int IntKind.i64 (↑a_3.i : Int)) ∧ true = true) ∧
      (SV.val (Value.int IntKind.i64 (↑(a.k + (1 : Nat)) : Int)) = SV.val (Value.int IntKind.i64 (↑(a_3.k + (1 : Nat)) : Int)) ∧
      true = true) ∧
      (SV.own (1 : Nat) (0 : Nat) = SV.own (1 : Nat) (0 : Nat) ∧ true = true) ∧
      (SV.own (0 : Nat) (0 : Nat) = SV.own (0 : Nat) (0 : Nat) ∧ true = true) ∧
      (SV.own (2 : Nat) (0 : Nat) = SV.own (2 : Nat) (0 : Nat) ∧ true = true) ∧
      (SV.val (Value.slice a.a (resW (List.filter (fun (z : Hd) => decide (z.nd ≠ h.nd)) x.hs) h a.k).length a.c) =
      SV.val
      (Value.slice a_3.a (inW (List.filter (fun (z : Hd) => decide (z.nd ≠ h.nd)) x.hs) h a_3).length a_3.c) ∧
      true = true) ∧
      True) ∧
      (some
      { ty := (28 : TypeId), cs := [Value.string x.key, Value.int IntKind.i64 x.lo, Value.int IntKind.i64 x.hi, Value.int IntKind.i64 x.base, Value.int IntKind.i64 x.round, Value.slice a.aL (List.filter (fun (z : Hd) => decide (z.nd ≠ h.nd)) x.hs).length a.cL, Value.int IntKind.i64 x.lk.cl, Value.int IntKind.i64 x.lk.sq, Value.int IntKind.i64 x.lk.hm, Value.int IntKind.i64 x.lk.n] : Bx } =
      some
      { ty := (28 : TypeId), cs := [Value.string x.key, Value.int IntKind.i64 x.lo, Value.int IntKind.i64 x.hi, Value.int IntKind.i64 x.base, Value.int IntKind.i64 x.round, Value.slice a_3.aL (List.filter (fun (z : Hd) => decide (z.nd ≠ h.nd)) x.hs).length a_3.cL, Value.int IntKind.i64 x.lk.cl, Value.int IntKind.i64 x.lk.sq, Value.int IntKind.i64 x.lk.hm, Value.int IntKind.i64 x.lk.n] : Bx } ∧
      true = true) ∧
      (some
      { ty := (31 : TypeId), cs := [Value.int IntKind.i64 h.nd, Value.int IntKind.i64 h.le, Value.int IntKind.i64 h.up, Value.int IntKind.i64 h.dn] : Bx } =
      some
      { ty := (31 : TypeId), cs := [Value.int IntKind.i64 h.nd, Value.int IntKind.i64 h.le, Value.int IntKind.i64 h.up, Value.int IntKind.i64 h.dn] : Bx } ∧
      true = true) ∧
      (some
      { ty := (28 : TypeId), cs := [Value.string ByteArray.empty, Value.int IntKind.i64 (0 : Int), Value.int IntKind.i64 (0 : Int), Value.int IntKind.i64 (0 : Int), Value.int IntKind.i64 (0 : Int), Value.slice none (0 : Nat) (0 : Nat), Value.int IntKind.i64 (0 : Int), Value.int IntKind.i64 (0 : Int), Value.int IntKind.i64 (0 : Int), Value.int IntKind.i64 (0 : Int)] : Bx } =
      some
      { ty := (28 : TypeId), cs := [Value.string ByteArray.empty, Value.int IntKind.i64 (0 : Int), Value.int IntKind.i64 (0 : Int), Value.int IntKind.i64 (0 : Int), Value.int IntKind.i64 (0 : Int), Value.slice none (0 : Nat) (0 : Nat), Value.int IntKind.i64 (0 : Int), Value.int IntKind.i64 (0 : Int), Value.int IntKind.i64 (0 : Int), Value.int IntKind.i64 (0 : Int)] : Bx } ∧
      true = true) ∧
      True) ∧
      [(5 : Nat) - a.k] = [(5 : Nat) - a_3.k]) ∧
      ∀ (a_3 : WiX),
      (WiI (List.filter (fun (z : Hd) => decide (z.nd ≠ h.nd)) x.hs) m a_3
      (inW (List.filter (fun (z : Hd) => decide (z.nd ≠ h.nd)) x.hs) h a_3) ∧
      a_3.i ≤ (List.filter (fun (z : Hd) => decide (z.nd ≠ h.nd)) x.hs).length ∧ a_3.k < (5 : Nat)) ∧
      [(5 : Nat) - a.k] = [(5 : Nat) - a_3.k] →
      ifB (decide ((↑a_3.i : Int) < (↑(List.filter (fun (z : Hd) => decide (z.nd ≠ h.nd)) x.hs).length : Int)))
      (∃ (b : Nat),
      ∃ (off : Nat),
      a_3.aL = some { block := b, off := off : Addr } ∧
      ((0 : Int) ≤ (↑a_3.i : Int) ∧
      (↑a_3.i : Int) < (↑(List.filter (fun (z : Hd) => decide (z.nd ≠ h.nd)) x.hs).length : Int)) ∧
      ∃ (n : Int),
      CellsAt a_3.m b (off + (↑a_3.i : Int).toNat * (4 : Nat) + (0 : Nat)) [Value.int IntKind.i64 n] ∧
      ifB (n == (↑(a_3.k + (1 : Nat)) : Int))
      (∃ (b : Nat),
      ∃ (off : Nat),
      a_3.aL = some { block := b, off := off : Addr } ∧
      ((0 : Int) ≤ (↑a_3.i : Int) ∧
      (↑a_3.i : Int) < (↑(List.filter (fun (z : Hd) => decide (z.nd ≠ h.nd)) x.hs).length : Int)) ∧
      ∃ (n : Int),
      ∃ (n_9 : Int),
      ∃ (n_10 : Int),
      ∃ (n_11 : Int),
      CellsAt a_3.m b (off + (↑a_3.i : Int).toNat * (4 : Nat))
      [Value.int IntKind.i64 n, Value.int IntKind.i64 n_9, Value.int IntKind.i64 n_10,
      Value.int IntKind.i64 n_11] ∧
      true = true ∧
      ∀ (b : Nat),
      a_3.m.sz ≤ b →
      ∃ (old : List Value),
      ∃ (src : List Value),
      AppPre m.sz (fun (x : Nat) => False)
      (a_3.m.newBlock b
      [Value.int IntKind.i64 n, Value.int IntKind.i64 n_9, Value.int IntKind.i64 n_10,
      Value.int IntKind.i64 n_11])
      (4 : Nat) (32 : Nat) a_3.a
      (inW (List.filter (fun (z : Hd) => decide (z.nd ≠ h.nd)) x.hs) h a_3).length a_3.c
      (some { block := b, off := (0 : Nat) : Addr }) (1 : Nat) old src ∧
      ∀ (a' : Option Addr) (c' : Nat) (m' : M),
      AppPost Try.prog (31 : Nat)
      (a_3.m.newBlock b
      [Value.int IntKind.i64 n, Value.int IntKind.i64 n_9,
      Value.int IntKind.i64 n_10, Value.int IntKind.i64 n_11])
      (4 : Nat) a_3.a
      (inW (List.filter (fun (z : Hd) => decide (z.nd ≠ h.nd)) x.hs) h a_3).length
      a_3.c (1 : Nat) old src a' c' m' →
      ∃ (a'_1 : WiX),
      (((WiI (List.filter (fun (z : Hd) => decide (z.nd ≠ h.nd)) x.hs) m a'_1
      (inW (List.filter (fun (z : Hd) => decide (z.nd ≠ h.nd)) x.hs) h
      a'_1) ∧
      a'_1.i ≤
      (List.filter (fun (z : Hd) => decide (z.nd ≠ h.nd)) x.hs).length ∧
      a'_1.k < (5 : Nat)) ∧
      m' = a'_1.m ∧
      ((SV.val
      (Value.int IntKind.i64
      (IntKind.i64.wrap ((↑a_3.i : Int) + (1 : Int)))) =
      SV.val (Value.int IntKind.i64 (↑a'_1.i : Int)) ∧
      true = true) ∧
      (SV.val (Value.int IntKind.i64 (↑(a_3.k + (1 : Nat)) : Int)) =
      SV.val
      (Value.int IntKind.i64 (↑(a'_1.k + (1 : Nat)) : Int)) ∧
      true = true) ∧
      (SV.own (1 : Nat) (0 : Nat) = SV.own (1 : Nat) (0 : Nat) ∧
      true = true) ∧
      (SV.own (0 : Nat) (0 : Nat) = SV.own (0 : Nat) (0 : Nat) ∧
      true = true) ∧
      (SV.own (2 : Nat) (0 : Nat) = SV.own (2 : Nat) (0 : Nat) ∧
      true = true) ∧
      (SV.val
      (Value.slice a'
      ((inW
      (List.filter
      (fun (z : Hd) => decide (z.nd ≠ h.nd))
      x.hs)
      h a_3).length +
      (1 : Nat))
      c') =
      SV.val
      (Value.slice a'_1.a
      (inW
      (List.filter
      (fun (z : Hd) => decide (z.nd ≠ h.nd))
      x.hs)
      h a'_1).length
      a'_1.c) ∧
      true = true) ∧
      True) ∧
      (some
      { ty := (28 : TypeId), cs := [Value.string x.key, Value.int IntKind.i64 x.lo, Value.int IntKind.i64 x.hi, Value.int IntKind.i64 x.base, Value.int IntKind.i64 x.round, Value.slice a_3.aL (List.filter (fun (z : Hd) => decide (z.nd ≠ h.nd)) x.hs).length a_3.cL, Value.int IntKind.i64 x.lk.cl, Value.int IntKind.i64 x.lk.sq, Value.int IntKind.i64 x.lk.hm, Value.int IntKind.i64 x.lk.n] : Bx } =
      some
      { ty := (28 : TypeId), cs := [Value.string x.key, Value.int IntKind.i64 x.lo, Value.int IntKind.i64 x.hi, Value.int IntKind.i64 x.base, Value.int IntKind.i64 x.round, Value.slice a'_1.aL (List.filter (fun (z : Hd) => decide (z.nd ≠ h.nd)) x.hs).length a'_1.cL, Value.int IntKind.i64 x.lk.cl, Value.int IntKind.i64 x.lk.sq, Value.int IntKind.i64 x.lk.hm, Value.int IntKind.i64 x.lk.n] : Bx } ∧
      true = true) ∧
      (some
      { ty := (31 : TypeId), cs := [Value.int IntKind.i64 h.nd, Value.int IntKind.i64 h.le, Value.int IntKind.i64 h.up, Value.int IntKind.i64 h.dn] : Bx } =
      some
      { ty := (31 : TypeId), cs := [Value.int IntKind.i64 h.nd, Value.int IntKind.i64 h.le, Value.int IntKind.i64 h.up, Value.int IntKind.i64 h.dn] : Bx } ∧
      true = true) ∧
      (some
      { ty := (28 : TypeId), cs := [Value.string ByteArray.empty, Value.int IntKind.i64 (0 : Int), Value.int IntKind.i64 (0 : Int), Value.int IntKind.i64 (0 : Int), Value.int IntKind.i64 (0 : Int), Value.slice none (0 : Nat) (0 : Nat), Value.int IntKind.i64 (0 : Int), Value.int IntKind.i64 (0 : Int), Value.int IntKind.i64 (0 : Int), Value.int IntKind.i64 (0 : Int)] : Bx } =
      some
      { ty := (28 : TypeId), cs := [Value.string ByteArray.empty, Value.int IntKind.i64 (0 : Int), Value.int IntKind.i64 (0 : Int), Value.int IntKind.i64 (0 : Int), Value.int IntKind.i64 (0 : Int), Value.slice none (0 : Nat) (0 : Nat), Value.int IntKind.i64 (0 : Int), Value.int IntKind.i64 (0 : Int), Value.int IntKind.i64 (0 : Int), Value.int IntKind.i64 (0 : Int)] : Bx } ∧
      true = true) ∧
      True) ∧
      [(5 : Nat) - a.k] = [(5 : Nat) - a'_1.k]) ∧
      (List.filter (fun (z : Hd) => decide (z.nd ≠ h.nd)) x.hs).length - a'_1.i <
      (List.filter (fun (z : Hd) => decide (z.nd ≠ h.nd)) x.hs).length - a_3.i)
      (∃ (a' : WiX),
      (((WiI (List.filter (fun (z : Hd) => decide (z.nd ≠ h.nd)) x.hs) m a'
      (inW (List.filter (fun (z : Hd) => decide (z.nd ≠ h.nd)) x.hs) h a') ∧
      a'.i ≤ (List.filter (fun (z : Hd) => decide (z.nd ≠ h.nd)) x.hs).length ∧ a'.k < (5 : Nat)) ∧
      a_3.m = a'.m ∧
      ((SV.val (Value.int IntKind.i64 (IntKind.i64.wrap ((↑a_3.i : Int) + (1 : Int)))) =
      SV.val (Value.int IntKind.i64 (↑a'.i : Int)) ∧
      true = true) ∧
      (SV.val (Value.int IntKind.i64 (↑(a_3.k + (1 : Nat)) : Int)) =
      SV.val (Value.int IntKind.i64 (↑(a'.k + (1 : Nat)) : Int)) ∧
      true = true) ∧
      (SV.own (1 : Nat) (0 : Nat) = SV.own (1 : Nat) (0 : Nat) ∧ true = true) ∧
      (SV.own (0 : Nat) (0 : Nat) = SV.own (0 : Nat) (0 : Nat) ∧ true = true) ∧
      (SV.own (2 : Nat) (0 : Nat) = SV.own (2 : Nat) (0 : Nat) ∧ true = true) ∧
      (SV.val
      (Value.slice a_3.a
      (inW (List.filter (fun (z : Hd) => decide (z.nd ≠ h.nd)) x.hs) h a_3).length
      a_3.c) =
      SV.val
      (Value.slice a'.a
      (inW (List.filter (fun (z : Hd) => decide (z.nd ≠ h.nd)) x.hs) h a').length
      a'.c) ∧
      true = true) ∧
      True) ∧
      (some
      { ty := (28 : TypeId), cs := [Value.string x.key, Value.int IntKind.i64 x.lo, Value.int IntKind.i64 x.hi, Value.int IntKind.i64 x.base, Value.int IntKind.i64 x.round, Value.slice a_3.aL (List.filter (fun (z : Hd) => decide (z.nd ≠ h.nd)) x.hs).length a_3.cL, Value.int IntKind.i64 x.lk.cl, Value.int IntKind.i64 x.lk.sq, Value.int IntKind.i64 x.lk.hm, Value.int IntKind.i64 x.lk.n] : Bx } =
      some
      { ty := (28 : TypeId), cs := [Value.string x.key, Value.int IntKind.i64 x.lo, Value.int IntKind.i64 x.hi, Value.int IntKind.i64 x.base, Value.int IntKind.i64 x.round, Value.slice a'.aL (List.filter (fun (z : Hd) => decide (z.nd ≠ h.nd)) x.hs).length a'.cL, Value.int IntKind.i64 x.lk.cl, Value.int IntKind.i64 x.lk.sq, Value.int IntKind.i64 x.lk.hm, Value.int IntKind.i64 x.lk.n] : Bx } ∧
      true = true) ∧
      (some
      { ty := (31 : TypeId), cs := [Value.int IntKind.i64 h.nd, Value.int IntKind.i64 h.le, Value.int IntKind.i64 h.up, Value.int IntKind.i64 h.dn] : Bx } =
      some
      { ty := (31 : TypeId), cs := [Value.int IntKind.i64 h.nd, Value.int IntKind.i64 h.le, Value.int IntKind.i64 h.up, Value.int IntKind.i64 h.dn] : Bx } ∧
      true = true) ∧
      (some
      { ty := (28 : TypeId), cs := [Value.string ByteArray.empty, Value.int IntKind.i64 (0 : Int), Value.int IntKind.i64 (0 : Int), Value.int IntKind.i64 (0 : Int), Value.int IntKind.i64 (0 : Int), Value.slice none (0 : Nat) (0 : Nat), Value.int IntKind.i64 (0 : Int), Value.int IntKind.i64 (0 : Int), Value.int IntKind.i64 (0 : Int), Value.int IntKind.i64 (0 : Int)] : Bx } =
      some
      { ty := (28 : TypeId), cs := [Value.string ByteArray.empty, Value.int IntKind.i64 (0 : Int), Value.int IntKind.i64 (0 : Int), Value.int IntKind.i64 (0 : Int), Value.int IntKind.i64 (0 : Int), Value.slice none (0 : Nat) (0 : Nat), Value.int IntKind.i64 (0 : Int), Value.int IntKind.i64 (0 : Int), Value.int IntKind.i64 (0 : Int), Value.int IntKind.i64 (0 : Int)] : Bx } ∧
      true = true) ∧
      True) ∧
      [(5 : Nat) - a.k] = [(5 : Nat) - a'.k]) ∧
      (List.filter (fun (z : Hd) => decide (z.nd ≠ h.nd)) x.hs).length - a'.i <
      (List.filter (fun (z : Hd) => decide (z.nd ≠ h.nd)) x.hs).length - a_3.i))
      (∃ (a' : WiX),
      ((WiI (List.filter (fun (z : Hd) => decide (z.nd ≠ h.nd)) x.hs) m a'
      (resW (List.filter (fun (z : Hd) => decide (z.nd ≠ h.nd)) x.hs) h a'.k) ∧
      a'.k ≤ (5 : Nat)) ∧
      a_3.m = a'.m ∧
      ((SV.val (Value.int IntKind.i64 (IntKind.i64.wrap ((↑(a_3.k + (1 : Nat)) : Int) + (1 : Int)))) =
      SV.val (Value.int IntKind.i64 (↑(a'.k + (1 : Nat)) : Int)) ∧
      true = true) ∧
      (SV.own (1 : Nat) (0 : Nat) = SV.own (1 : Nat) (0 : Nat) ∧ true = true) ∧
      (SV.own (0 : Nat) (0 : Nat) = SV.own (0 : Nat) (0 : Nat) ∧ true = true) ∧
      (SV.own (2 : Nat) (0 : Nat) = SV.own (2 : Nat) (0 : Nat) ∧ true = true) ∧
      (SV.val
      (Value.slice a_3.a (inW (List.filter (fun (z : Hd) => decide (z.nd ≠ h.nd)) x.hs) h a_3).length
      a_3.c) =
      SV.val
      (Value.slice a'.a (resW (List.filter (fun (z : Hd) => decide (z.nd ≠ h.nd)) x.hs) h a'.k).length
      a'.c) ∧
      true = true) ∧
      True) ∧
      (some
      { ty := (28 : TypeId), cs := [Value.string x.key, Value.int IntKind.i64 x.lo, Value.int IntKind.i64 x.hi, Value.int IntKind.i64 x.base, Value.int IntKind.i64 x.round, Value.slice a_3.aL (List.filter (fun (z : Hd) => decide (z.nd ≠ h.nd)) x.hs).length a_3.cL, Value.int IntKind.i64 x.lk.cl, Value.int IntKind.i64 x.lk.sq, Value.int IntKind.i64 x.lk.hm, Value.int IntKind.i64 x.lk.n] : Bx } =
      some
      { ty := (28 : TypeId), cs := [Value.string x.key, Value.int IntKind.i64 x.lo, Value.int IntKind.i64 x.hi, Value.int IntKind.i64 x.base, Value.int IntKind.i64 x.round, Value.slice a'.aL (List.filter (fun (z : Hd) => decide (z.nd ≠ h.nd)) x.hs).length a'.cL, Value.int IntKind.i64 x.lk.cl, Value.int IntKind.i64 x.lk.sq, Value.int IntKind.i64 x.lk.hm, Value.int IntKind.i64 x.lk.n] : Bx } ∧
      true = true) ∧
      (some
      { ty := (31 : TypeId), cs := [Value.int IntKind.i64 h.nd, Value.int IntKind.i64 h.le, Value.int IntKind.i64 h.up, Value.int IntKind.i64 h.dn] : Bx } =
      some
      { ty := (31 : TypeId), cs := [Value.int IntKind.i64 h.nd, Value.int IntKind.i64 h.le, Value.int IntKind.i64 h.up, Value.int IntKind.i64 h.dn] : Bx } ∧
      true = true) ∧
      (some
      { ty := (28 : TypeId), cs := [Value.string ByteArray.empty, Value.int IntKind.i64 (0 : Int), Value.int IntKind.i64 (0 : Int), Value.int IntKind.i64 (0 : Int), Value.int IntKind.i64 (0 : Int), Value.slice none (0 : Nat) (0 : Nat), Value.int IntKind.i64 (0 : Int), Value.int IntKind.i64 (0 : Int), Value.int IntKind.i64 (0 : Int), Value.int IntKind.i64 (0 : Int)] : Bx } =
      some
      { ty := (28 : TypeId), cs := [Value.string ByteArray.empty, Value.int IntKind.i64 (0 : Int), Value.int IntKind.i64 (0 : Int), Value.int IntKind.i64 (0 : Int), Value.int IntKind.i64 (0 : Int), Value.slice none (0 : Nat) (0 : Nat), Value.int IntKind.i64 (0 : Int), Value.int IntKind.i64 (0 : Int), Value.int IntKind.i64 (0 : Int), Value.int IntKind.i64 (0 : Int)] : Bx } ∧
      true = true) ∧
      True) ∧
      (5 : Nat) - a'.k < (5 : Nat) - a.k)))
      (Done
      (∃ (a' : Option Addr),
      ∃ (c' : Nat),
      Value.agg
      #[Value.string x.key, Value.int IntKind.i64 x.lo, Value.int IntKind.i64 x.hi, Value.int IntKind.i64 x.base,
      Value.int IntKind.i64 x.round,
      Value.slice a.a (resW (List.filter (fun (z : Hd) => decide (z.nd ≠ h.nd)) x.hs) h a.k).length a.c,
      Value.int IntKind.i64 x.lk.cl, Value.int IntKind.i64 x.lk.sq, Value.int IntKind.i64 x.lk.hm, Value.int IntKind.i64 x.lk.n] =
      Value.agg
      #[Value.string x.key, Value.int IntKind.i64 x.lo, Value.int IntKind.i64 x.hi, Value.int IntKind.i64 x.base,
      Value.int IntKind.i64 x.round,
      Value.slice a' (resW (List.filter (fun (z : Hd) => decide (z.nd ≠ h.nd)) x.hs) h (5 : Nat)).length c',
      Value.int IntKind.i64 x.lk.cl, Value.int IntKind.i64 x.lk.sq, Value.int IntKind.i64 x.lk.hm, Value.int IntKind.i64 x.lk.n] ∧
      NewR m.sz (fun (x : Nat) => False) a.m (4 : Nat) a'
      (resW (List.filter (fun (z : Hd) => decide (z.nd ≠ h.nd)) x.hs) h (5 : Nat)).length c'
      (hds (resW (List.filter (fun (z : Hd) => decide (z.nd ≠ h.nd)) x.hs) h (5 : Nat)))))) (by kernel_rfl) ?_
  generalize hL : (x.hs.filter fun z => decide (z.nd ≠ h.nd)) = L
  have hLl : L.length ≤ 1000 := by rw [← hL]; exact Nat.le_trans (List.length_filter_le _ _) hn
  refine ⟨rfl, fun N hN => (without_s x a c h.nd (by omega) _ (hrow.sz hN)).mono fun v m1 hag ⟨a1, c1, hv, hr1⟩ => ⟨_, _, _, _, _, _, _, _, _, _, _, _, hv, ?_⟩⟩
  have hr1' : NewR N (fun _ => False) m1 4 a1 L.length c1 (hds L) := by simp only [hL] at hr1; exact hr1
  have hmag := hag.2.2
  simp only at hmag
  have hw0 : WiI L m ⟨0, 0, a1, c1, none, 0, m1, m1.sz⟩ (resW L h 0) := ⟨by simp only; omega, Nat.le_refl _, hr1'.row, .nil _⟩
  refine ⟨⟨⟨0, 0, a1, c1, none, 0, m1, m1.sz⟩, ⟨hw0, by simp⟩, rfl, ?_, ⟨by simp only [hL], rfl⟩, ⟨rfl, rfl⟩, ⟨rfl, rfl⟩, trivial⟩, fun y ⟨hy, hk⟩ => ifB_intro (fun hb => ?_) (fun hb => ?_)⟩
  · exact ⟨⟨rfl, rfl⟩, ⟨rfl, rfl⟩, ⟨rfl, rfl⟩, ⟨rfl, rfl⟩, ⟨rfl, rfl⟩, trivial⟩
  · have hk5 : y.k < 5 := by simp at hb; omega
    have hrl := resW_len L h y.k
    have hrl2 : (resW L h y.k).length ≤ 100000 := Nat.le_trans hrl (Nat.le_trans (Nat.mul_le_mul (by omega : y.k ≤ 5) (by omega : L.length + 1 ≤ 1001)) (by omega))
    have hin0 : ∀ (y' : WiX), y'.k = y.k → y'.i = 0 → inW L h y' = resW L h y.k ++ oneW h y.k := fun y' e1 e2 => by simp [inW, e1, e2]
    refine ifB_intro (fun hb2 => ⟨rfl, fun b hb => ⟨_, _, (wi_push hy hrl2 h hb).1, fun a' c' m' hp => ⟨?_, ?_⟩⟩⟩) (fun hb2 => ⟨?_, ?_⟩)
    · have h1 : oneW h y.k = [h] := by unfold oneW; rw [if_pos (by simpa using hb2)]
      have e1 := hin0 ⟨y.k, 0, y.aL, y.cL, a', c', m', y.B⟩ rfl rfl
      rw [h1] at e1
      refine ⟨⟨y.k, 0, y.aL, y.cL, a', c', m', y.B⟩, ⟨⟨⟨(wi_push hy hrl2 h hb).2 a' c' m' hp _ _ _ e1, Nat.zero_le _, hk5⟩, rfl, ⟨⟨rfl, rfl⟩, ⟨rfl, rfl⟩, ⟨rfl, rfl⟩, ⟨rfl, rfl⟩, ⟨rfl, rfl⟩, ⟨by rw [e1]; simp, rfl⟩, trivial⟩, ⟨rfl, rfl⟩, ⟨rfl, rfl⟩, ⟨rfl, rfl⟩, trivial⟩, rfl⟩⟩
    rotate_left
    · have h1 : oneW h y.k = [] := by unfold oneW; rw [if_neg (by simpa using hb2)]
      have e1 := hin0 ⟨y.k, 0, y.aL, y.cL, y.a, y.c, y.m, y.B⟩ rfl rfl
      rw [h1, List.append_nil] at e1
      refine ⟨⟨y.k, 0, y.aL, y.cL, y.a, y.c, y.m, y.B⟩, ⟨⟨⟨by rw [e1]; exact ⟨hy.B, hy.Bm, hy.row, hy.own⟩, Nat.zero_le _, hk5⟩, rfl, ⟨⟨rfl, rfl⟩, ⟨rfl, rfl⟩, ⟨rfl, rfl⟩, ⟨rfl, rfl⟩, ⟨rfl, rfl⟩, ⟨by rw [e1], rfl⟩, trivial⟩, ⟨rfl, rfl⟩, ⟨rfl, rfl⟩, ⟨rfl, rfl⟩, trivial⟩, rfl⟩⟩
    all_goals
      intro z ⟨⟨hz, hzi, hzk⟩, hlk⟩
      have hzy : z.k = y.k := by simp at hlk; omega
      have hil := inW_len L h z
      have hil2 : (inW L h z).length ≤ 100000 := Nat.le_trans hil (Nat.le_trans (Nat.mul_le_mul (by omega : z.k + 1 ≤ 5) (by omega : L.length + 1 ≤ 1001)) (by omega))
      refine ifB_intro (fun hb3 => ?_) (fun hb3 => ?_)
      · have hi2 : z.i < L.length := by simpa using hb3
        obtain ⟨b1, o1, e1, hc1⟩ := hz.row.cells (by rw [hds_len]; omega)
        have hcell : CellsAt z.m b1 (o1 + z.i * 4) (encH L[z.i]) := ⟨(hd_at hc1 hi2).out⟩
        have hc0 : CellsAt z.m b1 (o1 + z.i * 4) [I L[z.i].nd] := hcell.take (ds := [I L[z.i].le, I L[z.i].up, I L[z.i].dn])
        have w1 : IntKind.i64.wrap ((z.i : Int) + 1) = ((z.i + 1 : Nat) : Int) := by simp [IntKind.wrap_i64]; omega
        have ts : L.take (z.i + 1) = L.take z.i ++ [L[z.i]] := List.take_succ_eq_append_getElem hi2
        rw [e1, w1]
        refine ⟨b1, o1, rfl, by omega, _, by simpa using hc0, ifB_intro (fun hb4 => ⟨b1, o1, rfl, by omega, _, _, _, _, by simpa using hcell, rfl, fun b hb => ⟨_, _, (wi_push hz hil2 L[z.i] hb).1, fun a' c' m' hp => ?_⟩⟩) (fun hb4 => ?_)⟩
        · have e2 : inW L h ⟨z.k, z.i + 1, z.aL, z.cL, a', c', m', z.B⟩ = inW L h z ++ [L[z.i]] := by
            have hb4 : L[z.i].nd = (z.k : Int) + 1 := by simpa using hb4
            simp only [inW, ts, List.filter_append]
            simp [hb4]
          refine ⟨⟨z.k, z.i + 1, z.aL, z.cL, a', c', m', z.B⟩, ⟨⟨⟨(wi_push hz hil2 L[z.i] hb).2 a' c' m' hp _ _ _ e2, hi2, hzk⟩, rfl, ⟨⟨rfl, rfl⟩, ⟨rfl, rfl⟩, ⟨rfl, rfl⟩, ⟨rfl, rfl⟩, ⟨rfl, rfl⟩, ⟨by rw [e2]; simp, rfl⟩, trivial⟩, ⟨by rw [← e1], rfl⟩, ⟨rfl, rfl⟩, ⟨rfl, rfl⟩, trivial⟩, hlk⟩, by simp only; omega⟩
        · have e2 : inW L h ⟨z.k, z.i + 1, z.aL, z.cL, z.a, z.c, z.m, z.B⟩ = inW L h z := by
            have hb4 : ¬ L[z.i].nd = (z.k : Int) + 1 := by simpa using hb4
            simp only [inW, ts, List.filter_append]
            simp [hb4]
          refine ⟨⟨z.k, z.i + 1, z.aL, z.cL, z.a, z.c, z.m, z.B⟩, ⟨⟨⟨by rw [e2]; exact ⟨hz.B, hz.Bm, hz.row, hz.own⟩, hi2, hzk⟩, rfl, ⟨⟨rfl, rfl⟩, ⟨rfl, rfl⟩, ⟨rfl, rfl⟩, ⟨rfl, rfl⟩, ⟨rfl, rfl⟩, ⟨by rw [e2], rfl⟩, trivial⟩, ⟨by rw [← e1], rfl⟩, ⟨rfl, rfl⟩, ⟨rfl, rfl⟩, trivial⟩, hlk⟩, by simp only; omega⟩
      · have hi2 : z.i = L.length := by simp at hb3; omega
        have e2 : inW L h z = resW L h (z.k + 1) := by simp only [inW, hi2, List.take_length, resW]
        have w2 : IntKind.i64.wrap (((z.k + 1 : Nat) : Int) + 1) = ((z.k + 1 + 1 : Nat) : Int) := by simp [IntKind.wrap_i64]; omega
        rw [w2]
        refine ⟨⟨z.k + 1, 0, z.aL, z.cL, z.a, z.c, z.m, z.B⟩, ⟨⟨by rw [← e2]; exact ⟨hz.B, hz.Bm, hz.row, hz.own⟩, by simp only; omega⟩, rfl, ⟨⟨rfl, rfl⟩, ⟨rfl, rfl⟩, ⟨rfl, rfl⟩, ⟨rfl, rfl⟩, ⟨by rw [e2], rfl⟩, trivial⟩, ⟨rfl, rfl⟩, ⟨rfl, rfl⟩, ⟨rfl, rfl⟩, trivial⟩, by simp only; omega⟩
  · have hk5 : y.k = 5 := by simp at hb; omega
    have ho := hy.own.lower hy.B
    rw [hk5] at ho
    rw [hk5]
    exact ⟨_, _, rfl, ho⟩

end Go.Proofs.Ytlifpjllhibdpaa
