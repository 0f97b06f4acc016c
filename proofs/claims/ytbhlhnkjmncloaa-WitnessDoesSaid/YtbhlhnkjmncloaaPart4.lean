/-
  Contracts of functions of this seat: what each hands back, and what it leaves of memory (wit14, wit15). Nothing here is trusted: Lean checks it.
-/
import Derived.Test.YtbhlhnkjmncloaaPart3
set_option linter.unusedVariables false
set_option linter.unusedSimpArgs false
namespace Go.Proofs.Ytbhlhnkjmncloaa
open Go.Vc Go.RowKit
set_option maxRecDepth 100000

structure RlI (l : List Cl) (al : Option Addr) (R : List Nat) (y : RcX) : Prop where
  v0 : 0 ≤ y.v
  src : Row y.m al (cls l)
  t : Row y.m y.a (tts (runC (y.L.map (clA l)) []))
  ord : ordL l = y.L ++ R
  sec : secP l (ordL l) [] = secP l R (runC (y.L.map (clA l)) [])

theorem op_at {l : List Cl} {m : M} {b o k : Nat} (hc : CellsAt m b o (cls l)) (hk : k < l.length) : CellsAt m b (o + k * 16 + 3) (encOq (opC (clA l k))) := by
  rw [clA_at hk]
  exact CellsAt.field cl_k hc hk (p := [I l[k].cl, I l[k].sq, I l[k].nd]) (old := encOq (opC l[k])) (q := [I l[k].ca, I l[k].mo, I l[k].aw, I l[k].an_er, I l[k].an_va, I l[k].an_le, I l[k].an_mo]) rfl

theorem whole_at {l : List Cl} {m : M} {b o k : Nat} (hc : CellsAt m b o (cls l)) (hk : k < l.length) : CellsAt m b (o + k * 16) (encCl (clA l k)) := by
  rw [clA_at hk]; exact cl_at hc hk

theorem runL_tot {l : List Cl} (hl : ∀ x ∈ l, x.wf) {L R : List Nat} (h : ordL l = L ++ R) : TotI (runC (L.map (clA l)) []) (2 * l.length) := by
  have T := runC_ok (L.map (clA l)) (TotI.nil (n := 0)) fun c hc => by
    obtain ⟨i, -, rfl⟩ := List.mem_map.1 hc
    exact clA_wf hl
  have h2 := ordL_len l
  rw [h, List.length_append] at h2
  have h3 := T.len
  rw [List.length_map] at h3
  exact ⟨T.right, T.wf, by omega⟩

abbrev rlT (l : List Cl) (y : RcX) : Value := .slice y.a (runC (y.L.map (clA l)) []).length y.c

theorem rLegal_q (a : Option Addr) (cp : Nat) (l : List Cl) (hn : l.length ≤ 977343669105) (hl : ∀ x ∈ l, x.wf) (m : M) (h : Row m a (cls l)) : QSpec Try.prog 27 [.slice a l.length cp] m (.tuple #[I (legP l).1, I (legP l).2]) := by
  refine QSpec.of_vc Try.func27 (ann := fun n r => match r with
    | 2 => { A := Nat, inv := fun k => k ≤ l.length ∧ ∀ j, j < k → wrgE (clA l j) (l.take j) = 0, st := fun k => [(4, .val (I k)), (0, .val (.slice a l.length cp))], own := fun _ => [], m := fun _ => { m with sz := n }, μ := fun k => l.length - k }
    | 9 => { A := RcX, inv := fun y => RlI l a (ordG l y.v) y, st := fun y => [(7, .val (I y.v)), (6, .val (rlT l y)), (0, .val (.slice a l.length cp))], own := fun _ => [], m := fun y => y.m, μ := fun y => behC l y.v }
    | 11 => { A := RcX, inv := fun y => RlI l a (ordG l y.v) y ∧ y.i ≤ l.length ∧ minI l y.v y.i y.nx, st := fun y => [(9, .val (I y.i)), (8, .val (I y.nx)), (7, .val (I y.v)), (6, .val (rlT l y)), (0, .val (.slice a l.length cp))], own := fun _ => [], m := fun y => y.m, μ := fun y => l.length - y.i, link := some fun y ctx => ctx = [behC l y.v] }
    | 19 => { A := RcX, inv := fun y => RlI l a (eqsC l y.v y.i ++ ordG l y.v) y ∧ y.i ≤ l.length, st := fun y => [(10, .val (I y.i)), (7, .val (I y.v)), (6, .val (rlT l y)), (0, .val (.slice a l.length cp))], own := fun _ => [], m := fun y => y.m, μ := fun y => l.length - y.i, link := some fun y ctx => ∃ v, ctx = [v] ∧ behC l y.v < v }
    | _ => noAnn 0) fun n hn' => ?_
  refine vc_by (X :=
      true = true ∧
      (∃ (a_1 : Nat),
      (a_1 ≤ l.length ∧ ∀ (j : Nat), j < a_1 → wrgE (clA l j) (List.take j l) = (0 : Int)) ∧
      { π := m.π, sz := n, uf := m.uf : M } = { π := m.π, sz := n, uf := m.uf : M } ∧
      ((SV.val (Value.int IntKind.i64 (0 : Int)) = SV.val (Value.int IntKind.i64 (↑a_1 : Int)) ∧ true = true) ∧
      (SV.val (Value.slice a l.length cp) = SV.val (Value.slice a l.length cp) ∧ true = true) ∧ True) ∧
      True) ∧
      ∀ (a_1 : Nat),
      (a_1 ≤ l.length ∧ ∀ (j : Nat), j < a_1 → wrgE (clA l j) (List.take j l) = (0 : Int)) →
      ifB (decide ((↑a_1 : Int) < (↑l.length : Int)))
      (∃ (n_1 : Int),
      QSpec Try.prog (49 : Nat) [Value.slice a l.length cp, Value.int IntKind.i64 (↑a_1 : Int)] { π := m.π, sz := n, uf := m.uf : M } (Value.int IntKind.i64 n_1) ∧
      ifB (n_1 != (0 : Int))
      (Done
      (Value.tuple #[Value.int IntKind.i64 (↑a_1 : Int), Value.int IntKind.i64 n_1] =
      Value.tuple #[Value.int IntKind.i64 (legP l).fst, Value.int IntKind.i64 (legP l).snd]))
      (∃ (a' : Nat),
      ((a' ≤ l.length ∧ ∀ (j : Nat), j < a' → wrgE (clA l j) (List.take j l) = (0 : Int)) ∧
      { π := m.π, sz := n, uf := m.uf : M } = { π := m.π, sz := n, uf := m.uf : M } ∧
      ((SV.val (Value.int IntKind.i64 (IntKind.i64.wrap ((↑a_1 : Int) + (1 : Int)))) = SV.val (Value.int IntKind.i64 (↑a' : Int)) ∧ true = true) ∧
      (SV.val (Value.slice a l.length cp) = SV.val (Value.slice a l.length cp) ∧ true = true) ∧ True) ∧
      True) ∧
      l.length - a' < l.length - a_1))
      ((∃ (a_3 : RcX),
      RlI l a (ordG l a_3.v) a_3 ∧
      { π := m.π, sz := n, uf := m.uf : M } = a_3.m ∧
      ((SV.val (Value.int IntKind.i64 (0 : Int)) = SV.val (Value.int IntKind.i64 a_3.v) ∧ true = true) ∧
      (SV.val (Value.slice none (0 : Nat) (0 : Nat)) = SV.val (Value.slice a_3.a (runC (List.map (clA l) a_3.L) []).length a_3.c) ∧ true = true) ∧
      (SV.val (Value.slice a l.length cp) = SV.val (Value.slice a l.length cp) ∧ true = true) ∧ True) ∧
      True) ∧
      ∀ (a_3 : RcX),
      RlI l a (ordG l a_3.v) a_3 →
      (∃ (a_5 : RcX),
      ((RlI l a (ordG l a_5.v) a_5 ∧ a_5.i ≤ l.length ∧ minI l a_5.v a_5.i a_5.nx) ∧
      a_3.m = a_5.m ∧
      ((SV.val (Value.int IntKind.i64 (0 : Int)) = SV.val (Value.int IntKind.i64 (↑a_5.i : Int)) ∧ true = true) ∧
      (SV.val (Value.int IntKind.i64 (0 : Int)) = SV.val (Value.int IntKind.i64 a_5.nx) ∧ true = true) ∧
      (SV.val (Value.int IntKind.i64 a_3.v) = SV.val (Value.int IntKind.i64 a_5.v) ∧ true = true) ∧
      (SV.val (Value.slice a_3.a (runC (List.map (clA l) a_3.L) []).length a_3.c) =
      SV.val (Value.slice a_5.a (runC (List.map (clA l) a_5.L) []).length a_5.c) ∧
      true = true) ∧
      (SV.val (Value.slice a l.length cp) = SV.val (Value.slice a l.length cp) ∧ true = true) ∧ True) ∧
      True) ∧
      [behC l a_3.v] = [behC l a_5.v]) ∧
      ∀ (a_5 : RcX),
      (RlI l a (ordG l a_5.v) a_5 ∧ a_5.i ≤ l.length ∧ minI l a_5.v a_5.i a_5.nx) ∧ [behC l a_3.v] = [behC l a_5.v] →
      ifB (decide ((↑a_5.i : Int) < (↑l.length : Int)))
      (∃ (b : Nat),
      ∃ (off : Nat),
      a = some { block := b, off := off : Addr } ∧
      ((0 : Int) ≤ (↑a_5.i : Int) ∧ (↑a_5.i : Int) < (↑l.length : Int)) ∧
      ∃ (n : Int),
      CellsAt a_5.m b (off + (↑a_5.i : Int).toNat * (16 : Nat) + (10 : Nat)) [Value.int IntKind.i64 n] ∧
      ifB (decide (n > a_5.v))
      (ifB (a_5.nx == (0 : Int))
      (∃ (b : Nat),
      ∃ (off : Nat),
      a = some { block := b, off := off : Addr } ∧
      ((0 : Int) ≤ (↑a_5.i : Int) ∧ (↑a_5.i : Int) < (↑l.length : Int)) ∧
      ∃ (n : Int),
      CellsAt a_5.m b (off + (↑a_5.i : Int).toNat * (16 : Nat) + (10 : Nat)) [Value.int IntKind.i64 n] ∧
      ∃ (a' : RcX),
      (((RlI l a (ordG l a'.v) a' ∧ a'.i ≤ l.length ∧ minI l a'.v a'.i a'.nx) ∧
      a_5.m = a'.m ∧
      ((SV.val (Value.int IntKind.i64 (IntKind.i64.wrap ((↑a_5.i : Int) + (1 : Int)))) =
      SV.val (Value.int IntKind.i64 (↑a'.i : Int)) ∧
      true = true) ∧
      (SV.val (Value.int IntKind.i64 n) = SV.val (Value.int IntKind.i64 a'.nx) ∧ true = true) ∧
      (SV.val (Value.int IntKind.i64 a_5.v) = SV.val (Value.int IntKind.i64 a'.v) ∧ true = true) ∧
      (SV.val (Value.slice a_5.a (runC (List.map (clA l) a_5.L) []).length a_5.c) =
      SV.val (Value.slice a'.a (runC (List.map (clA l) a'.L) []).length a'.c) ∧
      true = true) ∧
      (SV.val (Value.slice a l.length cp) = SV.val (Value.slice a l.length cp) ∧ true = true) ∧ True) ∧
      True) ∧
      [behC l a_3.v] = [behC l a'.v]) ∧
      l.length - a'.i < l.length - a_5.i)
      (∃ (b : Nat),
      ∃ (off : Nat),
      a = some { block := b, off := off : Addr } ∧
      ((0 : Int) ≤ (↑a_5.i : Int) ∧ (↑a_5.i : Int) < (↑l.length : Int)) ∧
      ∃ (n : Int),
      CellsAt a_5.m b (off + (↑a_5.i : Int).toNat * (16 : Nat) + (10 : Nat)) [Value.int IntKind.i64 n] ∧
      ifB (decide (n < a_5.nx))
      (∃ (b : Nat),
      ∃ (off : Nat),
      a = some { block := b, off := off : Addr } ∧
      ((0 : Int) ≤ (↑a_5.i : Int) ∧ (↑a_5.i : Int) < (↑l.length : Int)) ∧
      ∃ (n : Int),
      CellsAt a_5.m b (off + (↑a_5.i : Int).toNat * (16 : Nat) + (10 : Nat)) [Value.int IntKind.i64 n] ∧
      ∃ (a' : RcX),
      (((RlI l a (ordG l a'.v) a' ∧ a'.i ≤ l.length ∧ minI l a'.v a'.i a'.nx) ∧
      a_5.m = a'.m ∧
      ((SV.val (Value.int IntKind.i64 (IntKind.i64.wrap ((↑a_5.i : Int) + (1 : Int)))) =
      SV.val (Value.int IntKind.i64 (↑a'.i : Int)) ∧
      true = true) ∧
      (SV.val (Value.int IntKind.i64 n) = SV.val (Value.int IntKind.i64 a'.nx) ∧ true = true) ∧
      (SV.val (Value.int IntKind.i64 a_5.v) = SV.val (Value.int IntKind.i64 a'.v) ∧ true = true) ∧
      (SV.val (Value.slice a_5.a (runC (List.map (clA l) a_5.L) []).length a_5.c) =
      SV.val (Value.slice a'.a (runC (List.map (clA l) a'.L) []).length a'.c) ∧
      true = true) ∧
      (SV.val (Value.slice a l.length cp) = SV.val (Value.slice a l.length cp) ∧ true = true) ∧
      True) ∧
      True) ∧
      [behC l a_3.v] = [behC l a'.v]) ∧
      l.length - a'.i < l.length - a_5.i)
      (∃ (a' : RcX),
      (((RlI l a (ordG l a'.v) a' ∧ a'.i ≤ l.length ∧ minI l a'.v a'.i a'.nx) ∧
      a_5.m = a'.m ∧
      ((SV.val (Value.int IntKind.i64 (IntKind.i64.wrap ((↑a_5.i : Int) + (1 : Int)))) =
      SV.val (Value.int IntKind.i64 (↑a'.i : Int)) ∧
      true = true) ∧
      (SV.val (Value.int IntKind.i64 a_5.nx) = SV.val (Value.int IntKind.i64 a'.nx) ∧ true = true) ∧
      (SV.val (Value.int IntKind.i64 a_5.v) = SV.val (Value.int IntKind.i64 a'.v) ∧ true = true) ∧
      (SV.val (Value.slice a_5.a (runC (List.map (clA l) a_5.L) []).length a_5.c) =
      SV.val (Value.slice a'.a (runC (List.map (clA l) a'.L) []).length a'.c) ∧
      true = true) ∧
      (SV.val (Value.slice a l.length cp) = SV.val (Value.slice a l.length cp) ∧ true = true) ∧ True) ∧
      True) ∧
      [behC l a_3.v] = [behC l a'.v]) ∧
      l.length - a'.i < l.length - a_5.i)))
      (∃ (a' : RcX),
      (((RlI l a (ordG l a'.v) a' ∧ a'.i ≤ l.length ∧ minI l a'.v a'.i a'.nx) ∧
      a_5.m = a'.m ∧
      ((SV.val (Value.int IntKind.i64 (IntKind.i64.wrap ((↑a_5.i : Int) + (1 : Int)))) = SV.val (Value.int IntKind.i64 (↑a'.i : Int)) ∧
      true = true) ∧
      (SV.val (Value.int IntKind.i64 a_5.nx) = SV.val (Value.int IntKind.i64 a'.nx) ∧ true = true) ∧
      (SV.val (Value.int IntKind.i64 a_5.v) = SV.val (Value.int IntKind.i64 a'.v) ∧ true = true) ∧
      (SV.val (Value.slice a_5.a (runC (List.map (clA l) a_5.L) []).length a_5.c) =
      SV.val (Value.slice a'.a (runC (List.map (clA l) a'.L) []).length a'.c) ∧
      true = true) ∧
      (SV.val (Value.slice a l.length cp) = SV.val (Value.slice a l.length cp) ∧ true = true) ∧ True) ∧
      True) ∧
      [behC l a_3.v] = [behC l a'.v]) ∧
      l.length - a'.i < l.length - a_5.i))
      (ifB (a_5.nx == (0 : Int))
      (Done
      (Value.tuple #[Value.int IntKind.i64 (↑l.length : Int), Value.int IntKind.i64 (0 : Int)] =
      Value.tuple #[Value.int IntKind.i64 (legP l).fst, Value.int IntKind.i64 (legP l).snd]))
      ((∃ (a_7 : RcX),
      ((RlI l a (eqsC l a_7.v a_7.i ++ ordG l a_7.v) a_7 ∧ a_7.i ≤ l.length) ∧
      a_5.m = a_7.m ∧
      ((SV.val (Value.int IntKind.i64 (0 : Int)) = SV.val (Value.int IntKind.i64 (↑a_7.i : Int)) ∧ true = true) ∧
      (SV.val (Value.int IntKind.i64 a_5.nx) = SV.val (Value.int IntKind.i64 a_7.v) ∧ true = true) ∧
      (SV.val (Value.slice a_5.a (runC (List.map (clA l) a_5.L) []).length a_5.c) =
      SV.val (Value.slice a_7.a (runC (List.map (clA l) a_7.L) []).length a_7.c) ∧
      true = true) ∧
      (SV.val (Value.slice a l.length cp) = SV.val (Value.slice a l.length cp) ∧ true = true) ∧ True) ∧
      True) ∧
      ∃ (v : Nat), [behC l a_3.v] = [v] ∧ behC l a_7.v < v) ∧
      ∀ (a_7 : RcX),
      ((RlI l a (eqsC l a_7.v a_7.i ++ ordG l a_7.v) a_7 ∧ a_7.i ≤ l.length) ∧ ∃ (v : Nat), [behC l a_3.v] = [v] ∧ behC l a_7.v < v) →
      ifB (decide ((↑a_7.i : Int) < (↑l.length : Int)))
      (∃ (b : Nat),
      ∃ (off : Nat),
      a = some { block := b, off := off : Addr } ∧
      ((0 : Int) ≤ (↑a_7.i : Int) ∧ (↑a_7.i : Int) < (↑l.length : Int)) ∧
      ∃ (n_1 : Int),
      CellsAt a_7.m b (off + (↑a_7.i : Int).toNat * (16 : Nat) + (10 : Nat)) [Value.int IntKind.i64 n_1] ∧
      ifB (n_1 != a_7.v)
      (∃ (a' : RcX),
      (((RlI l a (eqsC l a'.v a'.i ++ ordG l a'.v) a' ∧ a'.i ≤ l.length) ∧
      a_7.m = a'.m ∧
      ((SV.val (Value.int IntKind.i64 (IntKind.i64.wrap ((↑a_7.i : Int) + (1 : Int)))) =
      SV.val (Value.int IntKind.i64 (↑a'.i : Int)) ∧
      true = true) ∧
      (SV.val (Value.int IntKind.i64 a_7.v) = SV.val (Value.int IntKind.i64 a'.v) ∧ true = true) ∧
      (SV.val (Value.slice a_7.a (runC (List.map (clA l) a_7.L) []).length a_7.c) =
      SV.val (Value.slice a'.a (runC (List.map (clA l) a'.L) []).length a'.c) ∧
      true = true) ∧
      (SV.val (Value.slice a l.length cp) = SV.val (Value.slice a l.length cp) ∧ true = true) ∧ True) ∧
      True) ∧
      ∃ (v : Nat), [behC l a_3.v] = [v] ∧ behC l a'.v < v) ∧
      l.length - a'.i < l.length - a_7.i)
      (∃ (b : Nat),
      ∃ (off : Nat),
      a = some { block := b, off := off : Addr } ∧
      ((0 : Int) ≤ (↑a_7.i : Int) ∧ (↑a_7.i : Int) < (↑l.length : Int)) ∧
      ∃ (n_2 : Int),
      ∃ (s : ByteArray),
      ∃ (s_1 : ByteArray),
      ∃ (n_3 : Int),
      ∃ (n_4 : Int),
      ∃ (n_5 : Int),
      CellsAt a_7.m b (off + (↑a_7.i : Int).toNat * (16 : Nat) + (3 : Nat))
      [Value.int IntKind.i64 n_2, Value.string s, Value.string s_1, Value.int IntKind.i64 n_3,
      Value.int IntKind.i64 n_4, Value.int IntKind.i64 n_5] ∧
      ∃ (S' : Nat → Prop),
      (∀ (b : Nat), S' b → a_7.m.uf b ∧ (n ≤ b ∨ False)) ∧
      ∀ (n : Nat),
      a_7.m.sz ≤ n →
      SpecW Try.prog (13 : Nat)
      [Value.slice a_7.a (runC (List.map (clA l) a_7.L) []).length a_7.c,
      Value.agg
      #[Value.int IntKind.i64 n_2, Value.string s, Value.string s_1, Value.int IntKind.i64 n_3,
      Value.int IntKind.i64 n_4, Value.int IntKind.i64 n_5]]
      { π := a_7.m.π, sz := n, uf := a_7.m.uf : M } S' fun (v : Value) (m' : M) =>
      ∃ (a_10 : Option Addr),
      ∃ (n : Nat),
      ∃ (c : Nat),
      ∃ (n_6 : Int),
      ∃ (n_7 : Int),
      ∃ (n_8 : Int),
      ∃ (n_9 : Int),
      v =
      Value.tuple
      #[Value.slice a_10 n c,
      Value.agg
      #[Value.int IntKind.i64 n_6, Value.int IntKind.i64 n_7,
      Value.int IntKind.i64 n_8, Value.int IntKind.i64 n_9]] ∧
      true = true ∧
      ∃ (b : Nat),
      ∃ (off : Nat),
      a = some { block := b, off := off : Addr } ∧
      ((0 : Int) ≤ (↑a_7.i : Int) ∧ (↑a_7.i : Int) < (↑l.length : Int)) ∧
      ∃ (n_10 : Int),
      ∃ (n_11 : Int),
      ∃ (n_12 : Int),
      ∃ (n_13 : Int),
      ∃ (s : ByteArray),
      ∃ (s_2 : ByteArray),
      ∃ (n_14 : Int),
      ∃ (n_15 : Int),
      ∃ (n_16 : Int),
      ∃ (n_17 : Int),
      ∃ (n_18 : Int),
      ∃ (n_19 : Int),
      ∃ (n_20 : Int),
      ∃ (n_21 : Int),
      ∃ (n_22 : Int),
      ∃ (n_23 : Int),
      CellsAt m' b
      (off +
      (↑a_7.i : Int).toNat * (16 : Nat))
      [Value.int IntKind.i64 n_10,
      Value.int IntKind.i64 n_11,
      Value.int IntKind.i64 n_12,
      Value.int IntKind.i64 n_13,
      Value.string s, Value.string s_2,
      Value.int IntKind.i64 n_14,
      Value.int IntKind.i64 n_15,
      Value.int IntKind.i64 n_16,
      Value.int IntKind.i64 n_17,
      Value.int IntKind.i64 n_18,
      Value.int IntKind.i64 n_19,
      Value.int IntKind.i64 n_20,
      Value.int IntKind.i64 n_21,
      Value.int IntKind.i64 n_22,
      Value.int IntKind.i64 n_23] ∧
      ∃ (b : Bool),
      QSpec Try.prog (50 : Nat)
      [Value.agg
      #[Value.int IntKind.i64 n_10,
      Value.int IntKind.i64 n_11,
      Value.int IntKind.i64 n_12,
      Value.int IntKind.i64 n_13,
      Value.string s,
      Value.string s_2,
      Value.int IntKind.i64 n_14,
      Value.int IntKind.i64 n_15,
      Value.int IntKind.i64 n_16,
      Value.int IntKind.i64 n_17,
      Value.int IntKind.i64 n_18,
      Value.int IntKind.i64 n_19,
      Value.int IntKind.i64 n_20,
      Value.int IntKind.i64 n_21,
      Value.int IntKind.i64 n_22,
      Value.int IntKind.i64 n_23],
      Value.agg
      #[Value.int IntKind.i64 n_6,
      Value.int IntKind.i64 n_7,
      Value.int IntKind.i64 n_8,
      Value.int IntKind.i64 n_9]]
      m' (Value.bool b) ∧
      ifB (!b)
      (Done
      (Value.tuple
      #[Value.int IntKind.i64
      (↑a_7.i : Int),
      Value.int IntKind.i64
      (150 : Int)] =
      Value.tuple
      #[Value.int IntKind.i64
      (legP l).fst,
      Value.int IntKind.i64
      (legP l).snd]))
      (∃ (a' : RcX),
      (((RlI l a
      (eqsC l a'.v a'.i ++
      ordG l a'.v)
      a' ∧
      a'.i ≤ l.length) ∧
      m' = a'.m ∧
      ((SV.val
      (Value.int
      IntKind.i64
      (IntKind.i64.wrap
      ((↑a_7.i :
      Int) +
      (1 :
      Int)))) =
      SV.val
      (Value.int
      IntKind.i64
      (↑a'.i :
      Int)) ∧
      true = true) ∧
      (SV.val
      (Value.int
      IntKind.i64
      a_7.v) =
      SV.val
      (Value.int
      IntKind.i64
      a'.v) ∧
      true = true) ∧
      (SV.val
      (Value.slice
      a_10 n
      c) =
      SV.val
      (Value.slice
      a'.a
      (runC
      (List.map
      (clA
      l)
      a'.L)
      []).length
      a'.c) ∧
      true = true) ∧
      (SV.val
      (Value.slice
      a
      l.length
      cp) =
      SV.val
      (Value.slice
      a
      l.length
      cp) ∧
      true =
      true) ∧
      True) ∧
      True) ∧
      ∃ (v : Nat),
      [behC l a_3.v] = [v] ∧
      behC l a'.v < v) ∧
      l.length - a'.i <
      l.length - a_7.i)))
      (∃ (a' : RcX),
      (RlI l a (ordG l a'.v) a' ∧
      a_7.m = a'.m ∧
      ((SV.val (Value.int IntKind.i64 a_7.v) = SV.val (Value.int IntKind.i64 a'.v) ∧ true = true) ∧
      (SV.val (Value.slice a_7.a (runC (List.map (clA l) a_7.L) []).length a_7.c) =
      SV.val (Value.slice a'.a (runC (List.map (clA l) a'.L) []).length a'.c) ∧
      true = true) ∧
      (SV.val (Value.slice a l.length cp) = SV.val (Value.slice a l.length cp) ∧ true = true) ∧ True) ∧
      True) ∧
      behC l a'.v < behC l a_3.v))))) (by kernel_rfl) ?_
  have h' := h.sz hn'
  have ol := ordL_len l
  have w : ∀ k, k < l.length → IntKind.i64.wrap ((k : Int) + 1) = ((k + 1 : Nat) : Int) := fun k hk => by simp [IntKind.wrap_i64]; omega
  refine ⟨rfl, ⟨0, ⟨Nat.zero_le _, fun j hj => by omega⟩, rfl, by simp⟩, fun k ⟨hk, hq⟩ => ifB_intro (fun hb => ?_) (fun hb => ?_)⟩
  · have hk2 : k < l.length := by simpa using hb
    refine ⟨_, form_q a cp l k hk2 (by omega) _ h', ifB_intro (fun h1 => ⟨?_⟩) (fun h1 => ⟨k + 1, ⟨⟨hk2, fun j hj => ?_⟩, rfl, by simp [w k hk2]⟩, by omega⟩)⟩
    · have h1 : wrgE (clA l k) (l.take k) ≠ 0 := by simpa using h1
      simp only [legP, frm_some hk2 hq h1]
    · have h1 : wrgE (clA l k) (l.take k) = 0 := by simpa using h1
      by_cases e : j = k
      · rw [e]; exact h1
      · exact hq j (by omega)
  have hk2 : k = l.length := by simp at hb; omega
  rw [hk2] at hq
  have hleg : legP l = match secP l (ordL l) [] with | some i => ((i : Int), 150) | none => ((l.length : Int), 0) := by simp only [legP, frm_none hq]; first | done | rfl
  refine ⟨⟨⟨0, [], 0, 0, none, 0, _⟩, ⟨Int.le_refl _, h', .nil _, by simp [ordG_zero], by simp [ordG_zero, runC]⟩, rfl, by simp [runC]⟩, fun y Y => ⟨⟨⟨y.v, y.L, 0, 0, y.a, y.c, y.m⟩, ⟨⟨⟨Y.v0, Y.src, Y.t, Y.ord, Y.sec⟩, Nat.zero_le _, .inl ⟨rfl, fun j hj => by simp at hj⟩⟩, rfl, by simp⟩, rfl⟩, fun z ⟨⟨Z, zi, zm⟩, zc⟩ => ifB_intro (fun hb => ?_) (fun hb => ifB_intro (fun h0 => ⟨?_⟩) (fun h0 => ⟨?_, fun u ⟨⟨U, ui⟩, uc⟩ => ifB_intro (fun hb2 => ?_) (fun hb2 => ?_)⟩))⟩⟩
  · have hk : z.i < l.length := by simpa using hb
    obtain ⟨b, o, ha, hc⟩ := Z.src.cells (by rw [cl_len]; omega)
    have hm := mo_at hc hk
    refine ⟨b, o, ha, by omega, _, by simpa using hm, ifB_intro (fun h1 => ifB_intro (fun h2 => ⟨b, o, ha, by omega, _, by simpa using hm, ⟨z.v, z.L, z.i + 1, moA l z.i, z.a, z.c, z.m⟩, ⟨⟨⟨⟨Z.v0, Z.src, Z.t, Z.ord, Z.sec⟩, hk, minI_yes zm (by simpa using h1) (.inl (by simpa using h2)) Z.v0⟩, rfl, by simp [w _ hk]⟩, zc⟩, by simp only; omega⟩) (fun h2 => ⟨b, o, ha, by omega, _, by simpa using hm, ifB_intro (fun h3 => ⟨b, o, ha, by omega, _, by simpa using hm, ⟨z.v, z.L, z.i + 1, moA l z.i, z.a, z.c, z.m⟩, ⟨⟨⟨⟨Z.v0, Z.src, Z.t, Z.ord, Z.sec⟩, hk, minI_yes zm (by simpa using h1) (.inr (by simpa using h3)) Z.v0⟩, rfl, by simp [w _ hk]⟩, zc⟩, by simp only; omega⟩) (fun h3 => ⟨⟨z.v, z.L, z.i + 1, z.nx, z.a, z.c, z.m⟩, ⟨⟨⟨⟨Z.v0, Z.src, Z.t, Z.ord, Z.sec⟩, hk, minI_no zm ?_⟩, rfl, by simp [w _ hk]⟩, zc⟩, by simp only; omega⟩)⟩)) (fun h1 => ⟨⟨z.v, z.L, z.i + 1, z.nx, z.a, z.c, z.m⟩, ⟨⟨⟨⟨Z.v0, Z.src, Z.t, Z.ord, Z.sec⟩, hk, minI_no zm ?_⟩, rfl, by simp [w _ hk]⟩, zc⟩, by simp only; omega⟩)⟩
    · simp at h2 h3; simp only; rintro ⟨-, h4 | h4⟩ <;> omega
    · simp at h1; simp only; omega
  · have hi : z.i = l.length := by simp at hb; omega
    rw [hi] at zm
    rcases minI_end zm Z.v0 with ⟨e1, e2⟩ | ⟨e1, -, -, -⟩
    · have hs := Z.sec
      rw [e2, secP] at hs
      simp only [hleg, hs]
    · exact absurd (by simpa using h0) e1
  · have hi : z.i = l.length := by simp at hb; omega
    rw [hi] at zm
    rcases minI_end zm Z.v0 with ⟨e1, e2⟩ | ⟨e1, e2, e3, e4⟩
    · exact absurd e1 (by simpa using h0)
    · refine ⟨⟨z.nx, z.L, 0, 0, z.a, z.c, z.m⟩, ⟨⟨⟨e2, Z.src, Z.t, by simp only; rw [← e3]; exact Z.ord, by simp only; rw [← e3]; exact Z.sec⟩, Nat.zero_le _⟩, rfl, by simp⟩, behC l y.v, rfl, ?_⟩
      have : behC l y.v = behC l z.v := by simpa using zc
      rw [this]; exact e4
  · have hk : u.i < l.length := by simpa using hb2
    obtain ⟨b, o, ha, hc⟩ := U.src.cells (by rw [cl_len]; omega)
    have hm := mo_at hc hk
    have ec := eqsC_cons (v := u.v) hk
    have ho := U.ord
    have hs := U.sec
    refine ⟨b, o, ha, by omega, _, by simpa using hm, ifB_intro (fun h1 => ⟨⟨u.v, u.L, u.i + 1, 0, u.a, u.c, u.m⟩, ⟨⟨⟨⟨U.v0, U.src, U.t, ?_, ?_⟩, hk⟩, rfl, by simp [w _ hk]⟩, uc⟩, by simp only; omega⟩) (fun h1 => ?_)⟩
    · have h1 : ¬ moA l u.i = u.v := by simpa using h1
      rw [if_neg h1, List.nil_append] at ec
      simp only; rw [ho, ec]
    · have h1 : ¬ moA l u.i = u.v := by simpa using h1
      rw [if_neg h1, List.nil_append] at ec
      simp only; rw [hs, ec]
    · have h1 : moA l u.i = u.v := by simpa using h1
      rw [if_pos h1] at ec
      rw [ec] at ho hs
      have T := runL_tot hl ho
      have tl := T.len
      have hown : (clA l u.i).wf := clA_wf hl
      simp only [List.singleton_append, List.cons_append, secP] at hs
      refine ⟨b, o, ha, by omega, _, _, _, _, _, _, by simpa using op_at hc hk, ?_⟩
      refine ⟨_, noS, fun N2 hN2 => (rdo_s u.a u.c _ (opC (clA l u.i)) (by omega) T.wf (opC_wf hown) _ (U.t.sz hN2)).monoW fun v2 m2 hag2 q2 => ?_⟩
      obtain ⟨x2, d2, hv2, hr2⟩ := q2
      have hsrc := (U.src.sz hN2).agree hag2
      obtain ⟨b3, o3, ha3, hc3⟩ := hsrc.cells (by rw [cl_len]; omega)
      have e : runC ((u.L ++ [u.i]).map (clA l)) [] = (doT (runC (u.L.map (clA l)) []) (opC (clA l u.i))).1 := by
        rw [List.map_append, List.map_cons, List.map_nil, runC_snoc]
      refine ⟨_, _, _, _, _, _, _, hv2, rfl, b3, o3, ha3, by omega, _, _, _, _, _, _, _, _, _, _, _, _, _, _, _, _, by simpa using whole_at hc3 hk, _, rrightly_q (clA l u.i) _ _, ifB_intro (fun h2 => ⟨?_⟩) (fun h2 => ⟨⟨u.v, u.L ++ [u.i], u.i + 1, 0, x2, d2, m2⟩, ⟨⟨⟨⟨U.v0, hsrc, by simp only; rw [e]; exact hr2, by simp only; rw [ho]; simp, ?_⟩, hk⟩, rfl, by simp only [e]; simp [w _ hk]⟩, uc⟩, by simp only; omega⟩)⟩
      · have h2 : rigB (clA l u.i) (doT (runC (u.L.map (clA l)) []) (opC (clA l u.i))).2 = false := by
          have e : (!rigB (clA l u.i) (doT (runC (u.L.map (clA l)) []) (opC (clA l u.i))).2) = true := h2
          simpa using e
        rw [h2] at hs
        simp only [hleg, hs]
        rfl
      · have h2 : rigB (clA l u.i) (doT (runC (u.L.map (clA l)) []) (opC (clA l u.i))).2 = true := by
          have e : (!rigB (clA l u.i) (doT (runC (u.L.map (clA l)) []) (opC (clA l u.i))).2) = false := h2
          simpa using e
        rw [h2, if_pos rfl] at hs
        simp only
        rw [hs, e, List.nil_append]
  · have hi : u.i = l.length := by simp at hb2; omega
    have ho := U.ord
    have hs := U.sec
    rw [hi, eqsC_end, List.nil_append] at ho hs
    obtain ⟨v, e1, e2⟩ := uc
    refine ⟨⟨u.v, u.L, 0, 0, u.a, u.c, u.m⟩, ⟨⟨U.v0, U.src, U.t, ho, hs⟩, rfl, by simp⟩, ?_⟩
    simp at e1
    simp only; omega

end Go.Proofs.Ytbhlhnkjmncloaa
set_option linter.unusedVariables false
set_option linter.unusedSimpArgs false
namespace Go.Proofs.Ytbhlhnkjmncloaa
open Go.Vc Go.RowKit
set_option maxRecDepth 100000

def mkC : Cl := ⟨71, 0, 0, 0, .empty, .empty, 0, 0, 0, 0, 0, 0, 0, 0, 0, 0⟩

theorem witnesslegal (a : Option Addr) (cp : Nat) (l : List Cl) (hn : l.length ≤ 977343669105) (hl : ∀ x ∈ l, x.wf) (m : M) (h : Row m a (cls l)) :
    QSpec Try.prog 9 [.slice a l.length cp] m (.bool true) := by
  refine QSpec.of_vc Try.func9 (ann := fun _ => noAnn) fun N hN => ?_
  refine vc_by (X :=
      true = true ∧
      ∃ (S' : Nat → Prop),
      (∀ (b : Nat), S' b → m.uf b ∧ (N ≤ b ∨ False)) ∧
      ∀ (n : Nat),
      N ≤ n →
      SpecW Try.prog (26 : Nat)
      [Value.slice a l.length cp,
      Value.agg
      #[Value.int IntKind.i64 (71 : Int), Value.int IntKind.i64 (0 : Int), Value.int IntKind.i64 (0 : Int), Value.int IntKind.i64 (0 : Int),
      Value.string { data := #[] : ByteArray }, Value.string { data := #[] : ByteArray }, Value.int IntKind.i64 (0 : Int), Value.int IntKind.i64 (0 : Int),
      Value.int IntKind.i64 (0 : Int), Value.int IntKind.i64 (0 : Int), Value.int IntKind.i64 (0 : Int), Value.int IntKind.i64 (0 : Int),
      Value.int IntKind.i64 (0 : Int), Value.int IntKind.i64 (0 : Int), Value.int IntKind.i64 (0 : Int), Value.int IntKind.i64 (0 : Int)]]
      { π := m.π, sz := n, uf := m.uf : M } S' fun (v : Value) (m' : M) =>
      ∃ (a_2 : Option Addr),
      ∃ (n : Nat),
      ∃ (c : Nat),
      v = Value.slice a_2 n c ∧
      ∃ (n_1 : Int),
      ∃ (n_2 : Int),
      QSpec Try.prog (24 : Nat) [Value.slice a_2 n c] m' (Value.tuple #[Value.int IntKind.i64 n_1, Value.int IntKind.i64 n_2]) ∧
      ∃ (n_3 : Int),
      ∃ (n_4 : Int),
      QSpec Try.prog (27 : Nat) [Value.slice a l.length cp] m' (Value.tuple #[Value.int IntKind.i64 n_3, Value.int IntKind.i64 n_4]) ∧
      ∃ (b : Bool),
      QSpec Try.prog (14 : Nat) [] m' (Value.bool b) ∧
      ifB b
      (ifB (n_1 == n_3)
      (ifB (n_2 == n_4)
      (∃ (S' : Nat → Prop),
      (∀ (b : Nat), S' b → m'.uf b ∧ (N ≤ b ∨ False)) ∧
      ∀ (n_5 : Nat),
      m'.sz ≤ n_5 →
      SpecW Try.prog (21 : Nat) [Value.slice a_2 n c] { π := m'.π, sz := n_5, uf := m'.uf : M } S' fun (v : Value) (m' : M) =>
      ∃ (a_4 : Option Addr),
      ∃ (n_6 : Nat),
      ∃ (c_1 : Nat),
      v = Value.slice a_4 n_6 c_1 ∧
      ∃ (S' : Nat → Prop),
      (∀ (b : Nat), S' b → m'.uf b ∧ (N ≤ b ∨ False)) ∧
      ∀ (n_7 : Nat),
      m'.sz ≤ n_7 →
      SpecW Try.prog (28 : Nat) [Value.slice a l.length cp] { π := m'.π, sz := n_7, uf := m'.uf : M } S'
      fun (v : Value) (m' : M) =>
      ∃ (a_6 : Option Addr),
      ∃ (n_8 : Nat),
      ∃ (c_2 : Nat),
      v = Value.slice a_6 n_8 c_2 ∧
      ∃ (b : Bool),
      QSpec Try.prog (23 : Nat) [Value.slice a_4 n_6 c_1, Value.slice a_6 n_8 c_2] m' (Value.bool b) ∧
      ifB b
      (∃ (S' : Nat → Prop),
      (∀ (b : Nat), S' b → m'.uf b ∧ (N ≤ b ∨ False)) ∧
      ∀ (n_9 : Nat),
      m'.sz ≤ n_9 →
      SpecW Try.prog (22 : Nat) [Value.slice a_2 n c]
      { π := m'.π, sz := n_9, uf := m'.uf : M } S' fun (v : Value) (m' : M) =>
      ∃ (a_8 : Option Addr),
      ∃ (n_10 : Nat),
      ∃ (c_3 : Nat),
      v = Value.slice a_8 n_10 c_3 ∧
      ∃ (S' : Nat → Prop),
      (∀ (b : Nat), S' b → m'.uf b ∧ (N ≤ b ∨ False)) ∧
      ∀ (n_11 : Nat),
      m'.sz ≤ n_11 →
      SpecW Try.prog (29 : Nat) [Value.slice a l.length cp]
      { π := m'.π, sz := n_11, uf := m'.uf : M } S'
      fun (v : Value) (m' : M) =>
      ∃ (a_10 : Option Addr),
      ∃ (n_12 : Nat),
      ∃ (c_4 : Nat),
      v = Value.slice a_10 n_12 c_4 ∧
      ∃ (b : Bool),
      QSpec Try.prog (16 : Nat)
      [Value.slice a_8 n_10 c_3, Value.slice a_10 n_12 c_4]
      m' (Value.bool b) ∧
      ifB b
      (∃ (b : Bool),
      QSpec Try.prog (30 : Nat)
      [Value.slice a_2 n c, Value.slice a l.length cp,
      Value.agg
      #[Value.int IntKind.i64 (71 : Int),
      Value.int IntKind.i64 (0 : Int),
      Value.int IntKind.i64 (0 : Int),
      Value.int IntKind.i64 (0 : Int),
      Value.string { data := #[] : ByteArray },
      Value.string { data := #[] : ByteArray },
      Value.int IntKind.i64 (0 : Int),
      Value.int IntKind.i64 (0 : Int),
      Value.int IntKind.i64 (0 : Int),
      Value.int IntKind.i64 (0 : Int),
      Value.int IntKind.i64 (0 : Int),
      Value.int IntKind.i64 (0 : Int),
      Value.int IntKind.i64 (0 : Int),
      Value.int IntKind.i64 (0 : Int),
      Value.int IntKind.i64 (0 : Int),
      Value.int IntKind.i64 (0 : Int)]]
      m' (Value.bool b) ∧
      Done (Value.bool b = Value.bool true))
      (Done (Value.bool false = Value.bool true)))
      (Done (Value.bool false = Value.bool true)))
      (Done (Value.bool false = Value.bool true)))
      (Done (Value.bool false = Value.bool true)))
      (Done (Value.bool false = Value.bool true))) (by kernel_rfl) ?_
  have R : Rs { m with sz := N } [(a, cls l)] := ⟨h.sz hN, trivial⟩
  have hrl : (runC (ordC l) []).length ≤ 9223372036854775807 := by
    have := (runC_ok (ordC l) (TotI.nil (n := 0)) (ordC_wf hl)).len
    have := ordC_le l
    omega
  have hol := ordC_le l
  refine ⟨rfl, _, noS, fun N1 hN1 => (cl_own a cp l mkC (by omega) _ ((R.sz hN1).1)).monoW fun v1 m1 ag1 q1 => ?_⟩
  obtain ⟨b1, e1, r1⟩ := q1.row
  refine ⟨_, _, _, e1, ?_⟩
  have R1 := Rs.cons r1 (Rs.step R hN1 ag1)
  refine ⟨_, _, wLegal_q _ _ l (by omega) (by omega) hl _ R1.1.take, _, _, rLegal_q _ _ l (by omega) hl _ R1.2.1, _, wawake_q _, ifB_true ?_⟩
  simp only [beq_self_eq_true]
  refine ifB_true (ifB_true ⟨_, noS, fun N2 hN2 => (wOrder_s _ _ l (by omega) _ ((R1.sz hN2).1.take)).monoW fun v2 m2 ag2 q2 => ?_⟩)
  obtain ⟨x2, y2, e2, r2⟩ := q2
  refine ⟨_, _, _, e2, ?_⟩
  have R2 := Rs.cons r2 (Rs.step R1 hN2 ag2)
  refine ⟨_, noS, fun N3 hN3 => (rOrder_s _ _ l (by omega) _ ((R2.sz hN3).2.2.1)).monoW fun v3 m3 ag3 q3 => ?_⟩
  obtain ⟨x3, y3, e3, r3⟩ := q3
  refine ⟨_, _, _, e3, ?_⟩
  have R3 := Rs.cons r3 (Rs.step R2 hN3 ag3)
  refine ⟨_, cl_plain _ _ _ _ _ _ (by omega) _ (R3.2.1) (R3.1), ?_⟩
  rw [decide_eq_true (rfl : ordC l = ordC l)]
  refine ifB_true ⟨_, noS, fun N4 hN4 => (wRun_s _ _ l (by omega) hl _ ((R3.sz hN4).2.2.1.take)).monoW fun v4 m4 ag4 q4 => ?_⟩
  obtain ⟨x4, y4, e4, r4⟩ := q4
  refine ⟨_, _, _, e4, ?_⟩
  have R4 := Rs.cons r4 (Rs.step R3 hN4 ag4)
  refine ⟨_, noS, fun N5 hN5 => (rRun_s _ _ l (by omega) hl _ ((R4.sz hN5).2.2.2.2.1)).monoW fun v5 m5 ag5 q5 => ?_⟩
  obtain ⟨x5, y5, e5, r5⟩ := q5
  refine ⟨_, _, _, e5, ?_⟩
  have R5 := Rs.cons r5 (Rs.step R4 hN5 ag5)
  refine ⟨_, tt_plain _ _ _ _ _ _ hrl _ (R5.2.1) (R5.1), ?_⟩
  rw [decide_eq_true (rfl : runC (ordC l) [] = runC (ordC l) [])]
  exact ifB_true ⟨_, cl_keptr b1 l a cp mkC (by omega) _ (R5.2.2.2.2.1) (R5.2.2.2.2.2.1), ⟨rfl⟩⟩

end Go.Proofs.Ytbhlhnkjmncloaa
