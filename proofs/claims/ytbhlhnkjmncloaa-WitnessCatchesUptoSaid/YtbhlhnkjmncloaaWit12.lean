/-
  Contracts of functions of this seat: what each hands back, and what it leaves of memory (wit12). Nothing here is trusted: Lean checks it.
-/
import Derived.Test.YtbhlhnkjmncloaaWit11
set_option linter.unusedVariables false
set_option linter.unusedSimpArgs false
namespace Go.Proofs.Ytbhlhnkjmncloaa
open Go.Vc Go.RowKit
set_option maxRecDepth 100000

/-- nx is the least moment behind v among the first k calls; 0: there is none -/
def minI (l : List Cl) (v : Int) (k : Nat) (nx : Int) : Prop := (nx = 0 ∧ ∀ j, j < k → ¬ v < moA l j) ∨ (∃ j, j < k ∧ moA l j = nx ∧ v < nx ∧ ∀ j', j' < k → v < moA l j' → nx ≤ moA l j')

theorem minI_yes {l : List Cl} {v nx : Int} {k : Nat} (h : minI l v k nx) (h1 : v < moA l k) (h2 : nx = 0 ∨ moA l k < nx) (hv : 0 ≤ v) : minI l v (k + 1) (moA l k) := by
  refine .inr ⟨k, by omega, rfl, h1, fun j hj hv2 => ?_⟩
  by_cases e : j = k
  · rw [e]; exact Int.le_refl _
  · rcases h with ⟨h3, h4⟩ | ⟨j0, h3, h4, h5, h6⟩
    · exact absurd hv2 (h4 j (by omega))
    · have := h6 j (by omega) hv2; omega

theorem minI_no {l : List Cl} {v nx : Int} {k : Nat} (h : minI l v k nx) (h1 : ¬ (v < moA l k ∧ (nx = 0 ∨ moA l k < nx))) : minI l v (k + 1) nx := by
  rcases h with ⟨h3, h4⟩ | ⟨j0, h3, h4, h5, h6⟩
  · refine .inl ⟨h3, fun j hj => ?_⟩
    by_cases e : j = k
    · rw [e]; intro hh; exact h1 ⟨hh, .inl h3⟩
    · exact h4 j (by omega)
  · refine .inr ⟨j0, by omega, h4, h5, fun j hj hv2 => ?_⟩
    by_cases e : j = k
    · subst e; omega
    · exact h6 j (by omega) hv2

theorem mo_at {l : List Cl} {m : M} {b o k : Nat} (hc : CellsAt m b o (cls l)) (hk : k < l.length) : CellsAt m b (o + k * 16 + 10) [I (moA l k)] := by
  rw [moA_at hk]
  exact CellsAt.field cl_k hc hk (p := [I l[k].cl, I l[k].sq, I l[k].nd, I l[k].op_kd, .string l[k].op_ky, .string l[k].op_ot, I l[k].op_n, I l[k].op_lo, I l[k].op_hi, I l[k].ca]) (old := [I l[k].mo]) (q := [I l[k].aw, I l[k].an_er, I l[k].an_va, I l[k].an_le, I l[k].an_mo]) rfl

theorem minI_end {l : List Cl} {v nx : Int} (h : minI l v l.length nx) (hv : 0 ≤ v) : (nx = 0 ∧ ordG l v = []) ∨ (nx ≠ 0 ∧ 0 ≤ nx ∧ ordG l v = eqsC l nx 0 ++ ordG l nx ∧ behC l nx < behC l v) := by
  rcases h with ⟨h3, h4⟩ | ⟨j0, h3, h4, h5, h6⟩
  · exact .inl ⟨h3, ordG_none l hv h4⟩
  · exact .inr ⟨by omega, by omega, ordG_next l hv h5 h6, behC_lt h3 (by omega) (by omega) (by omega)⟩

structure RcX where
  v : Int
  L : List Nat
  i : Nat
  nx : Int
  a : Option Addr
  c : Nat
  m : M

structure RcI (l : List Cl) (m : M) (y : RcX) : Prop where
  v0 : 0 ≤ y.v
  out : NewR m.sz (fun _ => False) y.m 16 y.a y.L.length y.c (cls (y.L.map (clA l)))
  ag : Agree m.sz m y.m

theorem rOrder_s (a : Option Addr) (cp : Nat) (l : List Cl) (hn : l.length ≤ 1048576) (m : M) (h : Row m a (cls l)) : Vc.Spec Try.prog 28 [.slice a l.length cp] m fun v m' => ∃ a' c', v = .slice a' (ordC l).length c' ∧ Row m' a' (cls (ordC l)) := by
  refine Vc.Spec.of_vc Try.func28 (ann := fun r => match r with
    | 3 => { A := RcX, inv := fun y => RcI l m y ∧ ordL l = y.L ++ ordG l y.v, st := fun y => [(4, .val (I y.v)), (3, .val (.slice y.a y.L.length y.c)), (0, .val (.slice a l.length cp))], own := fun _ => [], m := fun y => y.m, μ := fun y => behC l y.v }
    | 5 => { A := RcX, inv := fun y => RcI l m y ∧ ordL l = y.L ++ ordG l y.v ∧ y.i ≤ l.length ∧ minI l y.v y.i y.nx, st := fun y => [(6, .val (I y.i)), (5, .val (I y.nx)), (4, .val (I y.v)), (3, .val (.slice y.a y.L.length y.c)), (0, .val (.slice a l.length cp))], own := fun _ => [], m := fun y => y.m, μ := fun y => l.length - y.i, link := some fun y ctx => ctx = [behC l y.v] }
    | 13 => { A := RcX, inv := fun y => RcI l m y ∧ ordL l = y.L ++ (eqsC l y.v y.i ++ ordG l y.v) ∧ y.i ≤ l.length, st := fun y => [(7, .val (I y.i)), (4, .val (I y.v)), (3, .val (.slice y.a y.L.length y.c)), (0, .val (.slice a l.length cp))], own := fun _ => [], m := fun y => y.m, μ := fun y => l.length - y.i, link := some fun y ctx => ∃ v, ctx = [v] ∧ behC l y.v < v }
    | _ => noAnn 0) ?_
  refine vc_by (X :=
      true = true ∧
      (∃ (a_1 : RcX),
      (RcI l m a_1 ∧ ordL l = a_1.L ++ ordG l a_1.v) ∧
      m = a_1.m ∧
      ((SV.val (Value.int IntKind.i64 (0 : Int)) = SV.val (Value.int IntKind.i64 a_1.v) ∧ true = true) ∧
      (SV.val (Value.slice none (0 : Nat) (0 : Nat)) = SV.val (Value.slice a_1.a a_1.L.length a_1.c) ∧ true = true) ∧
      (SV.val (Value.slice a l.length cp) = SV.val (Value.slice a l.length cp) ∧ true = true) ∧ True) ∧
      True) ∧
      ∀ (a_1 : RcX),
      RcI l m a_1 ∧ ordL l = a_1.L ++ ordG l a_1.v →
      (∃ (a_3 : RcX),
      ((RcI l m a_3 ∧ ordL l = a_3.L ++ ordG l a_3.v ∧ a_3.i ≤ l.length ∧ minI l a_3.v a_3.i a_3.nx) ∧
      a_1.m = a_3.m ∧
      ((SV.val (Value.int IntKind.i64 (0 : Int)) = SV.val (Value.int IntKind.i64 (↑a_3.i : Int)) ∧ true = true) ∧
      (SV.val (Value.int IntKind.i64 (0 : Int)) = SV.val (Value.int IntKind.i64 a_3.nx) ∧ true = true) ∧
      (SV.val (Value.int IntKind.i64 a_1.v) = SV.val (Value.int IntKind.i64 a_3.v) ∧ true = true) ∧
      (SV.val (Value.slice a_1.a a_1.L.length a_1.c) = SV.val (Value.slice a_3.a a_3.L.length a_3.c) ∧ true = true) ∧
      (SV.val (Value.slice a l.length cp) = SV.val (Value.slice a l.length cp) ∧ true = true) ∧ True) ∧
      True) ∧
      [behC l a_1.v] = [behC l a_3.v]) ∧
      ∀ (a_3 : RcX),
      (RcI l m a_3 ∧ ordL l = a_3.L ++ ordG l a_3.v ∧ a_3.i ≤ l.length ∧ minI l a_3.v a_3.i a_3.nx) ∧ [behC l a_1.v] = [behC l a_3.v] →
      ifB (decide ((↑a_3.i : Int) < (↑l.length : Int)))
      (∃ (b : Nat),
      ∃ (off : Nat),
      a = some { block := b, off := off : Addr } ∧
      ((0 : Int) ≤ (↑a_3.i : Int) ∧ (↑a_3.i : Int) < (↑l.length : Int)) ∧
      ∃ (n : Int),
      CellsAt a_3.m b (off + (↑a_3.i : Int).toNat * (16 : Nat) + (10 : Nat)) [Value.int IntKind.i64 n] ∧
      ifB (decide (n > a_3.v))
      (ifB (a_3.nx == (0 : Int))
      (∃ (b : Nat),
      ∃ (off : Nat),
      a = some { block := b, off := off : Addr } ∧
      ((0 : Int) ≤ (↑a_3.i : Int) ∧ (↑a_3.i : Int) < (↑l.length : Int)) ∧
      ∃ (n : Int),
      CellsAt a_3.m b (off + (↑a_3.i : Int).toNat * (16 : Nat) + (10 : Nat)) [Value.int IntKind.i64 n] ∧
      ∃ (a' : RcX),
      (((RcI l m a' ∧ ordL l = a'.L ++ ordG l a'.v ∧ a'.i ≤ l.length ∧ minI l a'.v a'.i a'.nx) ∧
      a_3.m = a'.m ∧
      ((SV.val (Value.int IntKind.i64 (IntKind.i64.wrap ((↑a_3.i : Int) + (1 : Int)))) =
      SV.val (Value.int IntKind.i64 (↑a'.i : Int)) ∧
      true = true) ∧
      (SV.val (Value.int IntKind.i64 n) = SV.val (Value.int IntKind.i64 a'.nx) ∧ true = true) ∧
      (SV.val (Value.int IntKind.i64 a_3.v) = SV.val (Value.int IntKind.i64 a'.v) ∧ true = true) ∧
      (SV.val (Value.slice a_3.a a_3.L.length a_3.c) = SV.val (Value.slice a'.a a'.L.length a'.c) ∧ true = true) ∧
      (SV.val (Value.slice a l.length cp) = SV.val (Value.slice a l.length cp) ∧ true = true) ∧ True) ∧
      True) ∧
      [behC l a_1.v] = [behC l a'.v]) ∧
      l.length - a'.i < l.length - a_3.i)
      (∃ (b : Nat),
      ∃ (off : Nat),
      a = some { block := b, off := off : Addr } ∧
      ((0 : Int) ≤ (↑a_3.i : Int) ∧ (↑a_3.i : Int) < (↑l.length : Int)) ∧
      ∃ (n : Int),
      CellsAt a_3.m b (off + (↑a_3.i : Int).toNat * (16 : Nat) + (10 : Nat)) [Value.int IntKind.i64 n] ∧
      ifB (decide (n < a_3.nx))
      (∃ (b : Nat),
      ∃ (off : Nat),
      a = some { block := b, off := off : Addr } ∧
      ((0 : Int) ≤ (↑a_3.i : Int) ∧ (↑a_3.i : Int) < (↑l.length : Int)) ∧
      ∃ (n : Int),
      CellsAt a_3.m b (off + (↑a_3.i : Int).toNat * (16 : Nat) + (10 : Nat)) [Value.int IntKind.i64 n] ∧
      ∃ (a' : RcX),
      (((RcI l m a' ∧ ordL l = a'.L ++ ordG l a'.v ∧ a'.i ≤ l.length ∧ minI l a'.v a'.i a'.nx) ∧
      a_3.m = a'.m ∧
      ((SV.val (Value.int IntKind.i64 (IntKind.i64.wrap ((↑a_3.i : Int) + (1 : Int)))) =
      SV.val (Value.int IntKind.i64 (↑a'.i : Int)) ∧
      true = true) ∧
      (SV.val (Value.int IntKind.i64 n) = SV.val (Value.int IntKind.i64 a'.nx) ∧ true = true) ∧
      (SV.val (Value.int IntKind.i64 a_3.v) = SV.val (Value.int IntKind.i64 a'.v) ∧ true = true) ∧
      (SV.val (Value.slice a_3.a a_3.L.length a_3.c) = SV.val (Value.slice a'.a a'.L.length a'.c) ∧
      true = true) ∧
      (SV.val (Value.slice a l.length cp) = SV.val (Value.slice a l.length cp) ∧ true = true) ∧ True) ∧
      True) ∧
      [behC l a_1.v] = [behC l a'.v]) ∧
      l.length - a'.i < l.length - a_3.i)
      (∃ (a' : RcX),
      (((RcI l m a' ∧ ordL l = a'.L ++ ordG l a'.v ∧ a'.i ≤ l.length ∧ minI l a'.v a'.i a'.nx) ∧
      a_3.m = a'.m ∧
      ((SV.val (Value.int IntKind.i64 (IntKind.i64.wrap ((↑a_3.i : Int) + (1 : Int)))) =
      SV.val (Value.int IntKind.i64 (↑a'.i : Int)) ∧
      true = true) ∧
      (SV.val (Value.int IntKind.i64 a_3.nx) = SV.val (Value.int IntKind.i64 a'.nx) ∧ true = true) ∧
      (SV.val (Value.int IntKind.i64 a_3.v) = SV.val (Value.int IntKind.i64 a'.v) ∧ true = true) ∧
      (SV.val (Value.slice a_3.a a_3.L.length a_3.c) = SV.val (Value.slice a'.a a'.L.length a'.c) ∧ true = true) ∧
      (SV.val (Value.slice a l.length cp) = SV.val (Value.slice a l.length cp) ∧ true = true) ∧ True) ∧
      True) ∧
      [behC l a_1.v] = [behC l a'.v]) ∧
      l.length - a'.i < l.length - a_3.i)))
      (∃ (a' : RcX),
      (((RcI l m a' ∧ ordL l = a'.L ++ ordG l a'.v ∧ a'.i ≤ l.length ∧ minI l a'.v a'.i a'.nx) ∧
      a_3.m = a'.m ∧
      ((SV.val (Value.int IntKind.i64 (IntKind.i64.wrap ((↑a_3.i : Int) + (1 : Int)))) = SV.val (Value.int IntKind.i64 (↑a'.i : Int)) ∧
      true = true) ∧
      (SV.val (Value.int IntKind.i64 a_3.nx) = SV.val (Value.int IntKind.i64 a'.nx) ∧ true = true) ∧
      (SV.val (Value.int IntKind.i64 a_3.v) = SV.val (Value.int IntKind.i64 a'.v) ∧ true = true) ∧
      (SV.val (Value.slice a_3.a a_3.L.length a_3.c) = SV.val (Value.slice a'.a a'.L.length a'.c) ∧ true = true) ∧
      (SV.val (Value.slice a l.length cp) = SV.val (Value.slice a l.length cp) ∧ true = true) ∧ True) ∧
      True) ∧
      [behC l a_1.v] = [behC l a'.v]) ∧
      l.length - a'.i < l.length - a_3.i))
      (ifB (a_3.nx == (0 : Int))
      (Done (∃ (a' : Option Addr), ∃ (c' : Nat), Value.slice a_3.a a_3.L.length a_3.c = Value.slice a' (ordC l).length c' ∧ Row a_3.m a' (cls (ordC l))))
      ((∃ (a_5 : RcX),
      ((RcI l m a_5 ∧ ordL l = a_5.L ++ (eqsC l a_5.v a_5.i ++ ordG l a_5.v) ∧ a_5.i ≤ l.length) ∧
      a_3.m = a_5.m ∧
      ((SV.val (Value.int IntKind.i64 (0 : Int)) = SV.val (Value.int IntKind.i64 (↑a_5.i : Int)) ∧ true = true) ∧
      (SV.val (Value.int IntKind.i64 a_3.nx) = SV.val (Value.int IntKind.i64 a_5.v) ∧ true = true) ∧
      (SV.val (Value.slice a_3.a a_3.L.length a_3.c) = SV.val (Value.slice a_5.a a_5.L.length a_5.c) ∧ true = true) ∧
      (SV.val (Value.slice a l.length cp) = SV.val (Value.slice a l.length cp) ∧ true = true) ∧ True) ∧
      True) ∧
      ∃ (v : Nat), [behC l a_1.v] = [v] ∧ behC l a_5.v < v) ∧
      ∀ (a_5 : RcX),
      ((RcI l m a_5 ∧ ordL l = a_5.L ++ (eqsC l a_5.v a_5.i ++ ordG l a_5.v) ∧ a_5.i ≤ l.length) ∧ ∃ (v : Nat), [behC l a_1.v] = [v] ∧ behC l a_5.v < v) →
      ifB (decide ((↑a_5.i : Int) < (↑l.length : Int)))
      (∃ (b : Nat),
      ∃ (off : Nat),
      a = some { block := b, off := off : Addr } ∧
      ((0 : Int) ≤ (↑a_5.i : Int) ∧ (↑a_5.i : Int) < (↑l.length : Int)) ∧
      ∃ (n : Int),
      CellsAt a_5.m b (off + (↑a_5.i : Int).toNat * (16 : Nat) + (10 : Nat)) [Value.int IntKind.i64 n] ∧
      ifB (n == a_5.v)
      (∃ (b : Nat),
      ∃ (off : Nat),
      a = some { block := b, off := off : Addr } ∧
      ((0 : Int) ≤ (↑a_5.i : Int) ∧ (↑a_5.i : Int) < (↑l.length : Int)) ∧
      ∃ (n : Int),
      ∃ (n_1 : Int),
      ∃ (n_2 : Int),
      ∃ (n_3 : Int),
      ∃ (s : ByteArray),
      ∃ (s_1 : ByteArray),
      ∃ (n_4 : Int),
      ∃ (n_5 : Int),
      ∃ (n_6 : Int),
      ∃ (n_7 : Int),
      ∃ (n_8 : Int),
      ∃ (n_9 : Int),
      ∃ (n_10 : Int),
      ∃ (n_11 : Int),
      ∃ (n_12 : Int),
      ∃ (n_13 : Int),
      CellsAt a_5.m b (off + (↑a_5.i : Int).toNat * (16 : Nat))
      [Value.int IntKind.i64 n, Value.int IntKind.i64 n_1, Value.int IntKind.i64 n_2,
      Value.int IntKind.i64 n_3, Value.string s, Value.string s_1, Value.int IntKind.i64 n_4,
      Value.int IntKind.i64 n_5, Value.int IntKind.i64 n_6, Value.int IntKind.i64 n_7,
      Value.int IntKind.i64 n_8, Value.int IntKind.i64 n_9, Value.int IntKind.i64 n_10,
      Value.int IntKind.i64 n_11, Value.int IntKind.i64 n_12, Value.int IntKind.i64 n_13] ∧
      true = true ∧
      ∀ (b : Nat),
      a_5.m.sz ≤ b →
      ∃ (old : List Value),
      ∃ (src : List Value),
      AppPre m.sz (fun (x : Nat) => False)
      (a_5.m.newBlock b
      [Value.int IntKind.i64 n, Value.int IntKind.i64 n_1, Value.int IntKind.i64 n_2,
      Value.int IntKind.i64 n_3, Value.string s, Value.string s_1,
      Value.int IntKind.i64 n_4, Value.int IntKind.i64 n_5, Value.int IntKind.i64 n_6,
      Value.int IntKind.i64 n_7, Value.int IntKind.i64 n_8, Value.int IntKind.i64 n_9,
      Value.int IntKind.i64 n_10, Value.int IntKind.i64 n_11,
      Value.int IntKind.i64 n_12, Value.int IntKind.i64 n_13])
      (16 : Nat) (144 : Nat) a_5.a a_5.L.length a_5.c
      (some { block := b, off := (0 : Nat) : Addr }) (1 : Nat) old src ∧
      ∀ (a' : Option Addr) (c' : Nat) (m' : M),
      AppPost Try.prog (51 : Nat)
      (a_5.m.newBlock b
      [Value.int IntKind.i64 n, Value.int IntKind.i64 n_1,
      Value.int IntKind.i64 n_2, Value.int IntKind.i64 n_3, Value.string s,
      Value.string s_1, Value.int IntKind.i64 n_4, Value.int IntKind.i64 n_5,
      Value.int IntKind.i64 n_6, Value.int IntKind.i64 n_7,
      Value.int IntKind.i64 n_8, Value.int IntKind.i64 n_9,
      Value.int IntKind.i64 n_10, Value.int IntKind.i64 n_11,
      Value.int IntKind.i64 n_12, Value.int IntKind.i64 n_13])
      (16 : Nat) a_5.a a_5.L.length a_5.c (1 : Nat) old src a' c' m' →
      ∃ (a'_1 : RcX),
      (((RcI l m a'_1 ∧
      ordL l = a'_1.L ++ (eqsC l a'_1.v a'_1.i ++ ordG l a'_1.v) ∧
      a'_1.i ≤ l.length) ∧
      m' = a'_1.m ∧
      ((SV.val
      (Value.int IntKind.i64
      (IntKind.i64.wrap ((↑a_5.i : Int) + (1 : Int)))) =
      SV.val (Value.int IntKind.i64 (↑a'_1.i : Int)) ∧
      true = true) ∧
      (SV.val (Value.int IntKind.i64 a_5.v) =
      SV.val (Value.int IntKind.i64 a'_1.v) ∧
      true = true) ∧
      (SV.val (Value.slice a' (a_5.L.length + (1 : Nat)) c') =
      SV.val (Value.slice a'_1.a a'_1.L.length a'_1.c) ∧
      true = true) ∧
      (SV.val (Value.slice a l.length cp) =
      SV.val (Value.slice a l.length cp) ∧
      true = true) ∧
      True) ∧
      True) ∧
      ∃ (v : Nat), [behC l a_1.v] = [v] ∧ behC l a'_1.v < v) ∧
      l.length - a'_1.i < l.length - a_5.i)
      (∃ (a' : RcX),
      (((RcI l m a' ∧ ordL l = a'.L ++ (eqsC l a'.v a'.i ++ ordG l a'.v) ∧ a'.i ≤ l.length) ∧
      a_5.m = a'.m ∧
      ((SV.val (Value.int IntKind.i64 (IntKind.i64.wrap ((↑a_5.i : Int) + (1 : Int)))) = SV.val (Value.int IntKind.i64 (↑a'.i : Int)) ∧
      true = true) ∧
      (SV.val (Value.int IntKind.i64 a_5.v) = SV.val (Value.int IntKind.i64 a'.v) ∧ true = true) ∧
      (SV.val (Value.slice a_5.a a_5.L.length a_5.c) = SV.val (Value.slice a'.a a'.L.length a'.c) ∧ true = true) ∧
      (SV.val (Value.slice a l.length cp) = SV.val (Value.slice a l.length cp) ∧ true = true) ∧ True) ∧
      True) ∧
      ∃ (v : Nat), [behC l a_1.v] = [v] ∧ behC l a'.v < v) ∧
      l.length - a'.i < l.length - a_5.i))
      (∃ (a' : RcX),
      ((RcI l m a' ∧ ordL l = a'.L ++ ordG l a'.v) ∧
      a_5.m = a'.m ∧
      ((SV.val (Value.int IntKind.i64 a_5.v) = SV.val (Value.int IntKind.i64 a'.v) ∧ true = true) ∧
      (SV.val (Value.slice a_5.a a_5.L.length a_5.c) = SV.val (Value.slice a'.a a'.L.length a'.c) ∧ true = true) ∧
      (SV.val (Value.slice a l.length cp) = SV.val (Value.slice a l.length cp) ∧ true = true) ∧ True) ∧
      True) ∧
      behC l a'.v < behC l a_1.v)))) (by kernel_rfl) ?_
  have ol := ordL_len l
  have w : ∀ k, k < l.length → IntKind.i64.wrap ((k : Int) + 1) = ((k + 1 : Nat) : Int) := fun k hk => by simp [IntKind.wrap_i64]; omega
  refine ⟨rfl, ⟨⟨0, [], 0, 0, none, 0, m⟩, ⟨⟨Int.le_refl _, .nil _, Agree.refl _ _⟩, by simp [ordG_zero]⟩, rfl, by simp⟩, fun y ⟨Y, yL⟩ => ⟨⟨⟨y.v, y.L, 0, 0, y.a, y.c, y.m⟩, ⟨⟨⟨Y.v0, Y.out, Y.ag⟩, yL, Nat.zero_le _, .inl ⟨rfl, fun j hj => by simp at hj⟩⟩, rfl, by simp⟩, rfl⟩, fun z ⟨⟨Z, zL, zi, zm⟩, zc⟩ => ifB_intro (fun hb => ?_) (fun hb => ifB_intro (fun h0 => ⟨?_⟩) (fun h0 => ⟨?_, fun u ⟨⟨U, uL, ui⟩, uc⟩ => ifB_intro (fun hb2 => ?_) (fun hb2 => ?_)⟩))⟩⟩
  · have hk : z.i < l.length := by simpa using hb
    obtain ⟨b, o, ha, hc⟩ := (h.agree Z.ag).cells (by rw [cl_len]; omega)
    have hm := mo_at hc hk
    refine ⟨b, o, ha, by omega, _, by simpa using hm, ifB_intro (fun h1 => ifB_intro (fun h2 => ⟨b, o, ha, by omega, _, by simpa using hm, ⟨z.v, z.L, z.i + 1, moA l z.i, z.a, z.c, z.m⟩, ⟨⟨⟨⟨Z.v0, Z.out, Z.ag⟩, zL, hk, minI_yes zm (by simpa using h1) (.inl (by simpa using h2)) Z.v0⟩, rfl, by simp [w _ hk]⟩, zc⟩, by simp only; omega⟩) (fun h2 => ⟨b, o, ha, by omega, _, by simpa using hm, ifB_intro (fun h3 => ⟨b, o, ha, by omega, _, by simpa using hm, ⟨z.v, z.L, z.i + 1, moA l z.i, z.a, z.c, z.m⟩, ⟨⟨⟨⟨Z.v0, Z.out, Z.ag⟩, zL, hk, minI_yes zm (by simpa using h1) (.inr (by simpa using h3)) Z.v0⟩, rfl, by simp [w _ hk]⟩, zc⟩, by simp only; omega⟩) (fun h3 => ⟨⟨z.v, z.L, z.i + 1, z.nx, z.a, z.c, z.m⟩, ⟨⟨⟨⟨Z.v0, Z.out, Z.ag⟩, zL, hk, minI_no zm ?_⟩, rfl, by simp [w _ hk]⟩, zc⟩, by simp only; omega⟩)⟩)) (fun h1 => ⟨⟨z.v, z.L, z.i + 1, z.nx, z.a, z.c, z.m⟩, ⟨⟨⟨⟨Z.v0, Z.out, Z.ag⟩, zL, hk, minI_no zm ?_⟩, rfl, by simp [w _ hk]⟩, zc⟩, by simp only; omega⟩)⟩
    · simp at h2 h3; simp only; rintro ⟨-, h4 | h4⟩ <;> omega
    · simp at h1; simp only; omega
  · have hi : z.i = l.length := by simp at hb; omega
    rw [hi] at zm
    rcases minI_end zm Z.v0 with ⟨e1, e2⟩ | ⟨e1, -, -, -⟩
    · rw [e2, List.append_nil] at zL
      have ho := Z.out.row
      rw [← zL] at ho
      exact ⟨z.a, z.c, by rw [ordC_len, zL], ho⟩
    · exact absurd (by simpa using h0) e1
  · have hi : z.i = l.length := by simp at hb; omega
    rw [hi] at zm
    rcases minI_end zm Z.v0 with ⟨e1, e2⟩ | ⟨e1, e2, e3, e4⟩
    · exact absurd e1 (by simpa using h0)
    · refine ⟨⟨z.nx, z.L, 0, 0, z.a, z.c, z.m⟩, ⟨⟨⟨e2, Z.out, Z.ag⟩, by simp only; rw [← e3]; exact zL, Nat.zero_le _⟩, rfl, by simp⟩, behC l y.v, rfl, ?_⟩
      have : behC l y.v = behC l z.v := by simpa using zc
      rw [this]; exact e4
  · have hk : u.i < l.length := by simpa using hb2
    obtain ⟨b, o, ha, hc⟩ := (h.agree U.ag).cells (by rw [cl_len]; omega)
    have hm := mo_at hc hk
    have ec := eqsC_cons (v := u.v) hk
    refine ⟨b, o, ha, by omega, _, by simpa using hm, ifB_intro (fun h1 => ⟨b, o, ha, by omega, _, _, _, _, _, _, _, _, _, _, _, _, _, _, _, _, by simpa using cl_at hc hk, rfl, fun b3 hb3 => ?_⟩) (fun h1 => ⟨⟨u.v, u.L, u.i + 1, 0, u.a, u.c, u.m⟩, ⟨⟨⟨⟨U.v0, U.out, U.ag⟩, ?_, hk⟩, rfl, by simp [w _ hk]⟩, uc⟩, by simp only; omega⟩)⟩
    · have h1 : moA l u.i = u.v := by simpa using h1
      rw [if_pos h1] at ec
      have hL : u.L.length < l.length := by
        have := congrArg List.length uL
        rw [ec] at this
        simp at this; omega
      obtain ⟨p1, p2⟩ := U.out.push (P := Try.prog) (e := 51) (bytes := 144) (src := encCl l[u.i]) hb3 U.ag.2.2 rfl rfl (by omega) cl_zr
      refine ⟨_, _, p1, fun a' c' m' hp => ?_⟩
      obtain ⟨g1, g2⟩ := p2 a' c' m' hp
      refine ⟨⟨u.v, u.L ++ [u.i], u.i + 1, 0, a', c', m'⟩, ⟨⟨⟨⟨U.v0, ?_, U.ag.trans g2⟩, by simp only; rw [uL, ec]; simp, hk⟩, rfl, by simp [w _ hk]⟩, uc⟩, by simp only; omega⟩
      simp only [List.length_append, List.map_append, List.map_cons, List.map_nil, List.length_singleton]
      rw [show cls (u.L.map (clA l) ++ [clA l u.i]) = cls (u.L.map (clA l)) ++ encCl l[u.i] by rw [clA_at hk]; simp [cls]]
      exact g1
    · have h1 : ¬ moA l u.i = u.v := by simpa using h1
      rw [if_neg h1, List.nil_append] at ec
      rw [uL, ec]
  · have hi : u.i = l.length := by simp at hb2; omega
    rw [hi, eqsC_end, List.nil_append] at uL
    obtain ⟨v, e1, e2⟩ := uc
    refine ⟨⟨u.v, u.L, 0, 0, u.a, u.c, u.m⟩, ⟨⟨⟨U.v0, U.out, U.ag⟩, uL⟩, rfl, by simp⟩, ?_⟩
    simp at e1
    simp only; omega

end Go.Proofs.Ytbhlhnkjmncloaa
