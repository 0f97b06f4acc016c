/-
  Contracts of functions of this seat: what each hands back, and what it leaves of memory (wit14, wit15, wit16, wit17, wit18, wit19). Nothing here is trusted: Lean checks it.
-/
import Derived.Test.YtbhlhnkjmncloaaPart3
set_option linter.unusedVariables false
set_option linter.unusedSimpArgs false
namespace Go.Proofs.Ytbhlhnkjmncloaa
open Go.Vc Go.RowKit
set_option maxRecDepth 100000

structure RlI (l : List Cl) (al : Option Addr) (R : List Nat) (y : RcX) : Prop where
  v0 : 0 ≤ y.v
  src : Row y.m al (cls l)
  t : Row y.m y.a (tts (runC (y.L.map (clA l)) []))
  ord : ordL l = y.L ++ R
  sec : secP l (ordL l) [] = secP l R (runC (y.L.map (clA l)) [])

theorem op_at {l : List Cl} {m : M} {b o k : Nat} (hc : CellsAt m b o (cls l)) (hk : k < l.length) : CellsAt m b (o + k * 16 + 3) (encOq (opC (clA l k))) := by
  rw [clA_at hk]
  exact CellsAt.field cl_k hc hk (p := [I l[k].cl, I l[k].sq, I l[k].nd]) (old := encOq (opC l[k])) (q := [I l[k].ca, I l[k].mo, I l[k].aw, I l[k].an_er, I l[k].an_va, I l[k].an_le, I l[k].an_mo]) rfl

theorem whole_at {l : List Cl} {m : M} {b o k : Nat} (hc : CellsAt m b o (cls l)) (hk : k < l.length) : CellsAt m b (o + k * 16) (encCl (clA l k)) := by
  rw [clA_at hk]; exact cl_at hc hk

theorem runL_tot {l : List Cl} (hl : ∀ x ∈ l, x.wf) {L R : List Nat} (h : ordL l = L ++ R) : TotI (runC (L.map (clA l)) []) (2 * l.length) := by
  have T := runC_ok (L.map (clA l)) (TotI.nil (n := 0)) fun c hc => by
    obtain ⟨i, -, rfl⟩ := List.mem_map.1 hc
    exact clA_wf hl
  have h2 := ordL_len l
  rw [h, List.length_append] at h2
  have h3 := T.len
  rw [List.length_map] at h3
  exact ⟨T.right, T.wf, by omega⟩

abbrev rlT (l : List Cl) (y : RcX) : Value := .slice y.a (runC (y.L.map (clA l)) []).length y.c

theorem rLegal_q (a : Option Addr) (cp : Nat) (l : List Cl) (hn : l.length ≤ 977343669105) (hl : ∀ x ∈ l, x.wf) (m : M) (h : Row m a (cls l)) : QSpec Try.prog 27 [.slice a l.length cp] m (.tuple #[I (legP l).1, I (legP l).2]) := by
  refine QSpec.of_vc Try.func27 (ann := fun n r => match r with
    | 2 => { A := Nat, inv := fun k => k ≤ l.length ∧ ∀ j, j < k → wrgE (clA l j) (l.take j) = 0, st := fun k => [(4, .val (I k)), (0, .val (.slice a l.length cp))], own := fun _ => [], m := fun _ => { m with sz := n }, μ := fun k => l.length - k }
    | 9 => { A := RcX, inv := fun y => RlI l a (ordG l y.v) y, st := fun y => [(7, .val (I y.v)), (6, .val (rlT l y)), (0, .val (.slice a l.length cp))], own := fun _ => [], m := fun y => y.m, μ := fun y => behC l y.v }
    | 11 => { A := RcX, inv := fun y => RlI l a (ordG l y.v) y ∧ y.i ≤ l.length ∧ minI l y.v y.i y.nx, st := fun y => [(9, .val (I y.i)), (8, .val (I y.nx)), (7, .val (I y.v)), (6, .val (rlT l y)), (0, .val (.slice a l.length cp))], own := fun _ => [], m := fun y => y.m, μ := fun y => l.length - y.i, link := some fun y ctx => ctx = [behC l y.v] }
    | 19 => { A := RcX, inv := fun y => RlI l a (eqsC l y.v y.i ++ ordG l y.v) y ∧ y.i ≤ l.length, st := fun y => [(10, .val (I y.i)), (7, .val (I y.v)), (6, .val (rlT l y)), (0, .val (.slice a l.length cp))], own := fun _ => [], m := fun y => y.m, μ := fun y => l.length - y.i, link := some fun y ctx => ∃ v, ctx = [v] ∧ behC l y.v < v }
    | _ => noAnn 0) fun n hn' => ?_
  refine vc_by (X :=
      true = true ∧
      (∃ (a_1 : Nat),
      (a_1 ≤ l.length ∧ ∀ (j : Nat), j < a_1 → wrgE (clA l j) (List.take j l) = (0 : Int)) ∧
      { π := m.π, sz := n, uf := m.uf : M } = { π := m.π, sz := n, uf := m.uf : M } ∧
      ((SV.val (Value.int IntKind.i64 (0 : Int)) = SV.val (Value.int IntKind.i64 (↑a_1 : Int)) ∧ true = true) ∧
      (SV.val (Value.slice a l.length cp) = SV.val (Value.slice a l.length cp) ∧ true = true) ∧ True) ∧
      True) ∧
      ∀ (a_1 : Nat),
      (a_1 ≤ l.length ∧ ∀ (j : Nat), j < a_1 → wrgE (clA l j) (List.take j l) = (0 : Int)) →
      ifB (decide ((↑a_1 : Int) < (↑l.length : Int)))
      (∃ (n_1 : Int),
      QSpec Try.prog (49 : Nat) [Value.slice a l.length cp, Value.int IntKind.i64 (↑a_1 : Int)] { π := m.π, sz := n, uf := m.uf : M } (Value.int IntKind.i64 n_1) ∧
      ifB (n_1 != (0 : Int))
      (Done
      (Value.tuple #[Value.int IntKind.i64 (↑a_1 : Int), Value.int IntKind.i64 n_1] =
      Value.tuple #[Value.int IntKind.i64 (legP l).fst, Value.int IntKind.i64 (legP l).snd]))
      (∃ (a' : Nat),
      ((a' ≤ l.length ∧ ∀ (j : Nat), j < a' → wrgE (clA l j) (List.take j l) = (0 : Int)) ∧
      { π := m.π, sz := n, uf := m.uf : M } = { π := m.π, sz := n, uf := m.uf : M } ∧
      ((SV.val (Value.int IntKind.i64 (IntKind.i64.wrap ((↑a_1 : Int) + (1 : Int)))) = SV.val (Value.int IntKind.i64 (↑a' : Int)) ∧ true = true) ∧
      (SV.val (Value.slice a l.length cp) = SV.val (Value.slice a l.length cp) ∧ true = true) ∧ True) ∧
      True) ∧
      l.length - a' < l.length - a_1))
      ((∃ (a_3 : RcX),
      RlI l a (ordG l a_3.v) a_3 ∧
      { π := m.π, sz := n, uf := m.uf : M } = a_3.m ∧
      ((SV.val (Value.int IntKind.i64 (0 : Int)) = SV.val (Value.int IntKind.i64 a_3.v) ∧ true = true) ∧
      (SV.val (Value.slice none (0 : Nat) (0 : Nat)) = SV.val (Value.slice a_3.a (runC (List.map (clA l) a_3.L) []).length a_3.c) ∧ true = true) ∧
      (SV.val (Value.slice a l.length cp) = SV.val (Value.slice a l.length cp) ∧ true = true) ∧ True) ∧
      True) ∧
      ∀ (a_3 : RcX),
      RlI l a (ordG l a_3.v) a_3 →
      (∃ (a_5 : RcX),
      ((RlI l a (ordG l a_5.v) a_5 ∧ a_5.i ≤ l.length ∧ minI l a_5.v a_5.i a_5.nx) ∧
      a_3.m = a_5.m ∧
      ((SV.val (Value.int IntKind.i64 (0 : Int)) = SV.val (Value.int IntKind.i64 (↑a_5.i : Int)) ∧ true = true) ∧
      (SV.val (Value.int IntKind.i64 (0 : Int)) = SV.val (Value.int IntKind.i64 a_5.nx) ∧ true = true) ∧
      (SV.val (Value.int IntKind.i64 a_3.v) = SV.val (Value.int IntKind.i64 a_5.v) ∧ true = true) ∧
      (SV.val (Value.slice a_3.a (runC (List.map (clA l) a_3.L) []).length a_3.c) =
      SV.val (Value.slice a_5.a (runC (List.map (clA l) a_5.L) []).length a_5.c) ∧
      true = true) ∧
      (SV.val (Value.slice a l.length cp) = SV.val (Value.slice a l.length cp) ∧ true = true) ∧ True) ∧
      True) ∧
      [behC l a_3.v] = [behC l a_5.v]) ∧
      ∀ (a_5 : RcX),
      (RlI l a (ordG l a_5.v) a_5 ∧ a_5.i ≤ l.length ∧ minI l a_5.v a_5.i a_5.nx) ∧ [behC l a_3.v] = [behC l a_5.v] →
      ifB (decide ((↑a_5.i : Int) < (↑l.length : Int)))
      (∃ (b : Nat),
      ∃ (off : Nat),
      a = some { block := b, off := off : Addr } ∧
      ((0 : Int) ≤ (↑a_5.i : Int) ∧ (↑a_5.i : Int) < (↑l.length : Int)) ∧
      ∃ (n : Int),
      CellsAt a_5.m b (off + (↑a_5.i : Int).toNat * (16 : Nat) + (10 : Nat)) [Value.int IntKind.i64 n] ∧
      ifB (decide (n > a_5.v))
      (ifB (a_5.nx == (0 : Int))
      (∃ (b : Nat),
      ∃ (off : Nat),
      a = some { block := b, off := off : Addr } ∧
      ((0 : Int) ≤ (↑a_5.i : Int) ∧ (↑a_5.i : Int) < (↑l.length : Int)) ∧
      ∃ (n : Int),
      CellsAt a_5.m b (off + (↑a_5.i : Int).toNat * (16 : Nat) + (10 : Nat)) [Value.int IntKind.i64 n] ∧
      ∃ (a' : RcX),
      (((RlI l a (ordG l a'.v) a' ∧ a'.i ≤ l.length ∧ minI l a'.v a'.i a'.nx) ∧
      a_5.m = a'.m ∧
      ((SV.val (Value.int IntKind.i64 (IntKind.i64.wrap ((↑a_5.i : Int) + (1 : Int)))) =
      SV.val (Value.int IntKind.i64 (↑a'.i : Int)) ∧
      true = true) ∧
      (SV.val (Value.int IntKind.i64 n) = SV.val (Value.int IntKind.i64 a'.nx) ∧ true = true) ∧
      (SV.val (Value.int IntKind.i64 a_5.v) = SV.val (Value.int IntKind.i64 a'.v) ∧ true = true) ∧
      (SV.val (Value.slice a_5.a (runC (List.map (clA l) a_5.L) []).length a_5.c) =
      SV.val (Value.slice a'.a (runC (List.map (clA l) a'.L) []).length a'.c) ∧
      true = true) ∧
      (SV.val (Value.slice a l.length cp) = SV.val (Value.slice a l.length cp) ∧ true = true) ∧ True) ∧
      True) ∧
      [behC l a_3.v] = [behC l a'.v]) ∧
      l.length - a'.i < l.length - a_5.i)
      (∃ (b : Nat),
      ∃ (off : Nat),
      a = some { block := b, off := off : Addr } ∧
      ((0 : Int) ≤ (↑a_5.i : Int) ∧ (↑a_5.i : Int) < (↑l.length : Int)) ∧
      ∃ (n : Int),
      CellsAt a_5.m b (off + (↑a_5.i : Int).toNat * (16 : Nat) + (10 : Nat)) [Value.int IntKind.i64 n] ∧
      ifB (decide (n < a_5.nx))
      (∃ (b : Nat),
      ∃ (off : Nat),
      a = some { block := b, off := off : Addr } ∧
      ((0 : Int) ≤ (↑a_5.i : Int) ∧ (↑a_5.i : Int) < (↑l.length : Int)) ∧
      ∃ (n : Int),
      CellsAt a_5.m b (off + (↑a_5.i : Int).toNat * (16 : Nat) + (10 : Nat)) [Value.int IntKind.i64 n] ∧
      ∃ (a' : RcX),
      (((RlI l a (ordG l a'.v) a' ∧ a'.i ≤ l.length ∧ minI l a'.v a'.i a'.nx) ∧
      a_5.m = a'.m ∧
      ((SV.val (Value.int IntKind.i64 (IntKind.i64.wrap ((↑a_5.i : Int) + (1 : Int)))) =
      SV.val (Value.int IntKind.i64 (↑a'.i : Int)) ∧
      true = true) ∧
      (SV.val (Value.int IntKind.i64 n) = SV.val (Value.int IntKind.i64 a'.nx) ∧ true = true) ∧
      (SV.val (Value.int IntKind.i64 a_5.v) = SV.val (Value.int IntKind.i64 a'.v) ∧ true = true) ∧
      (SV.val (Value.slice a_5.a (runC (List.map (clA l) a_5.L) []).length a_5.c) =
      SV.val (Value.slice a'.a (runC (List.map (clA l) a'.L) []).length a'.c) ∧
      true = true) ∧
      (SV.val (Value.slice a l.length cp) = SV.val (Value.slice a l.length cp) ∧ true = true) ∧
      True) ∧
      True) ∧
      [behC l a_3.v] = [behC l a'.v]) ∧
      l.length - a'.i < l.length - a_5.i)
      (∃ (a' : RcX),
      (((RlI l a (ordG l a'.v) a' ∧ a'.i ≤ l.length ∧ minI l a'.v a'.i a'.nx) ∧
      a_5.m = a'.m ∧
      ((SV.val (Value.int IntKind.i64 (IntKind.i64.wrap ((↑a_5.i : Int) + (1 : Int)))) =
      SV.val (Value.int IntKind.i64 (↑a'.i : Int)) ∧
      true = true) ∧
      (SV.val (Value.int IntKind.i64 a_5.nx) = SV.val (Value.int IntKind.i64 a'.nx) ∧ true = true) ∧
      (SV.val (Value.int IntKind.i64 a_5.v) = SV.val (Value.int IntKind.i64 a'.v) ∧ true = true) ∧
      (SV.val (Value.slice a_5.a (runC (List.map (clA l) a_5.L) []).length a_5.c) =
      SV.val (Value.slice a'.a (runC (List.map (clA l) a'.L) []).length a'.c) ∧
      true = true) ∧
      (SV.val (Value.slice a l.length cp) = SV.val (Value.slice a l.length cp) ∧ true = true) ∧ True) ∧
      True) ∧
      [behC l a_3.v] = [behC l a'.v]) ∧
      l.length - a'.i < l.length - a_5.i)))
      (∃ (a' : RcX),
      (((RlI l a (ordG l a'.v) a' ∧ a'.i ≤ l.length ∧ minI l a'.v a'.i a'.nx) ∧
      a_5.m = a'.m ∧
      ((SV.val (Value.int IntKind.i64 (IntKind.i64.wrap ((↑a_5.i : Int) + (1 : Int)))) = SV.val (Value.int IntKind.i64 (↑a'.i : Int)) ∧
      true = true) ∧
      (SV.val (Value.int IntKind.i64 a_5.nx) = SV.val (Value.int IntKind.i64 a'.nx) ∧ true = true) ∧
      (SV.val (Value.int IntKind.i64 a_5.v) = SV.val (Value.int IntKind.i64 a'.v) ∧ true = true) ∧
      (SV.val (Value.slice a_5.a (runC (List.map (clA l) a_5.L) []).length a_5.c) =
      SV.val (Value.slice a'.a (runC (List.map (clA l) a'.L) []).length a'.c) ∧
      true = true) ∧
      (SV.val (Value.slice a l.length cp) = SV.val (Value.slice a l.length cp) ∧ true = true) ∧ True) ∧
      True) ∧
      [behC l a_3.v] = [behC l a'.v]) ∧
      l.length - a'.i < l.length - a_5.i))
      (ifB (a_5.nx == (0 : Int))
      (Done
      (Value.tuple #[Value.int IntKind.i64 (↑l.length : Int), Value.int IntKind.i64 (0 : Int)] =
      Value.tuple #[Value.int IntKind.i64 (legP l).fst, Value.int IntKind.i64 (legP l).snd]))
      ((∃ (a_7 : RcX),
      ((RlI l a (eqsC l a_7.v a_7.i ++ ordG l a_7.v) a_7 ∧ a_7.i ≤ l.length) ∧
      a_5.m = a_7.m ∧
      ((SV.val (Value.int IntKind.i64 (0 : Int)) = SV.val (Value.int IntKind.i64 (↑a_7.i : Int)) ∧ true = true) ∧
      (SV.val (Value.int IntKind.i64 a_5.nx) = SV.val (Value.int IntKind.i64 a_7.v) ∧ true = true) ∧
      (SV.val (Value.slice a_5.a (runC (List.map (clA l) a_5.L) []).length a_5.c) =
      SV.val (Value.slice a_7.a (runC (List.map (clA l) a_7.L) []).length a_7.c) ∧
      true = true) ∧
      (SV.val (Value.slice a l.length cp) = SV.val (Value.slice a l.length cp) ∧ true = true) ∧ True) ∧
      True) ∧
      ∃ (v : Nat), [behC l a_3.v] = [v] ∧ behC l a_7.v < v) ∧
      ∀ (a_7 : RcX),
      ((RlI l a (eqsC l a_7.v a_7.i ++ ordG l a_7.v) a_7 ∧ a_7.i ≤ l.length) ∧ ∃ (v : Nat), [behC l a_3.v] = [v] ∧ behC l a_7.v < v) →
      ifB (decide ((↑a_7.i : Int) < (↑l.length : Int)))
      (∃ (b : Nat),
      ∃ (off : Nat),
      a = some { block := b, off := off : Addr } ∧
      ((0 : Int) ≤ (↑a_7.i : Int) ∧ (↑a_7.i : Int) < (↑l.length : Int)) ∧
      ∃ (n_1 : Int),
      CellsAt a_7.m b (off + (↑a_7.i : Int).toNat * (16 : Nat) + (10 : Nat)) [Value.int IntKind.i64 n_1] ∧
      ifB (n_1 != a_7.v)
      (∃ (a' : RcX),
      (((RlI l a (eqsC l a'.v a'.i ++ ordG l a'.v) a' ∧ a'.i ≤ l.length) ∧
      a_7.m = a'.m ∧
      ((SV.val (Value.int IntKind.i64 (IntKind.i64.wrap ((↑a_7.i : Int) + (1 : Int)))) =
      SV.val (Value.int IntKind.i64 (↑a'.i : Int)) ∧
      true = true) ∧
      (SV.val (Value.int IntKind.i64 a_7.v) = SV.val (Value.int IntKind.i64 a'.v) ∧ true = true) ∧
      (SV.val (Value.slice a_7.a (runC (List.map (clA l) a_7.L) []).length a_7.c) =
      SV.val (Value.slice a'.a (runC (List.map (clA l) a'.L) []).length a'.c) ∧
      true = true) ∧
      (SV.val (Value.slice a l.length cp) = SV.val (Value.slice a l.length cp) ∧ true = true) ∧ True) ∧
      True) ∧
      ∃ (v : Nat), [behC l a_3.v] = [v] ∧ behC l a'.v < v) ∧
      l.length - a'.i < l.length - a_7.i)
      (∃ (b : Nat),
      ∃ (off : Nat),
      a = some { block := b, off := off : Addr } ∧
      ((0 : Int) ≤ (↑a_7.i : Int) ∧ (↑a_7.i : Int) < (↑l.length : Int)) ∧
      ∃ (n_2 : Int),
      ∃ (s : ByteArray),
      ∃ (s_1 : ByteArray),
      ∃ (n_3 : Int),
      ∃ (n_4 : Int),
      ∃ (n_5 : Int),
      CellsAt a_7.m b (off + (↑a_7.i : Int).toNat * (16 : Nat) + (3 : Nat))
      [Value.int IntKind.i64 n_2, Value.string s, Value.string s_1, Value.int IntKind.i64 n_3,
      Value.int IntKind.i64 n_4, Value.int IntKind.i64 n_5] ∧
      ∃ (S' : Nat → Prop),
      (∀ (b : Nat), S' b → a_7.m.uf b ∧ (n ≤ b ∨ False)) ∧
      ∀ (n : Nat),
      a_7.m.sz ≤ n →
      SpecW Try.prog (13 : Nat)
      [Value.slice a_7.a (runC (List.map (clA l) a_7.L) []).length a_7.c,
      Value.agg
      #[Value.int IntKind.i64 n_2, Value.string s, Value.string s_1, Value.int IntKind.i64 n_3,
      Value.int IntKind.i64 n_4, Value.int IntKind.i64 n_5]]
      { π := a_7.m.π, sz := n, uf := a_7.m.uf : M } S' fun (v : Value) (m' : M) =>
      ∃ (a_10 : Option Addr),
      ∃ (n : Nat),
      ∃ (c : Nat),
      ∃ (n_6 : Int),
      ∃ (n_7 : Int),
      ∃ (n_8 : Int),
      ∃ (n_9 : Int),
      v =
      Value.tuple
      #[Value.slice a_10 n c,
      Value.agg
      #[Value.int IntKind.i64 n_6, Value.int IntKind.i64 n_7,
      Value.int IntKind.i64 n_8, Value.int IntKind.i64 n_9]] ∧
      true = true ∧
      ∃ (b : Nat),
      ∃ (off : Nat),
      a = some { block := b, off := off : Addr } ∧
      ((0 : Int) ≤ (↑a_7.i : Int) ∧ (↑a_7.i : Int) < (↑l.length : Int)) ∧
      ∃ (n_10 : Int),
      ∃ (n_11 : Int),
      ∃ (n_12 : Int),
      ∃ (n_13 : Int),
      ∃ (s : ByteArray),
      ∃ (s_2 : ByteArray),
      ∃ (n_14 : Int),
      ∃ (n_15 : Int),
      ∃ (n_16 : Int),
      ∃ (n_17 : Int),
      ∃ (n_18 : Int),
      ∃ (n_19 : Int),
      ∃ (n_20 : Int),
      ∃ (n_21 : Int),
      ∃ (n_22 : Int),
      ∃ (n_23 : Int),
      CellsAt m' b
      (off +
      (↑a_7.i : Int).toNat * (16 : Nat))
      [Value.int IntKind.i64 n_10,
      Value.int IntKind.i64 n_11,
      Value.int IntKind.i64 n_12,
      Value.int IntKind.i64 n_13,
      Value.string s, Value.string s_2,
      Value.int IntKind.i64 n_14,
      Value.int IntKind.i64 n_15,
      Value.int IntKind.i64 n_16,
      Value.int IntKind.i64 n_17,
      Value.int IntKind.i64 n_18,
      Value.int IntKind.i64 n_19,
      Value.int IntKind.i64 n_20,
      Value.int IntKind.i64 n_21,
      Value.int IntKind.i64 n_22,
      Value.int IntKind.i64 n_23] ∧
      ∃ (b : Bool),
      QSpec Try.prog (50 : Nat)
      [Value.agg
      #[Value.int IntKind.i64 n_10,
      Value.int IntKind.i64 n_11,
      Value.int IntKind.i64 n_12,
      Value.int IntKind.i64 n_13,
      Value.string s,
      Value.string s_2,
      Value.int IntKind.i64 n_14,
      Value.int IntKind.i64 n_15,
      Value.int IntKind.i64 n_16,
      Value.int IntKind.i64 n_17,
      Value.int IntKind.i64 n_18,
      Value.int IntKind.i64 n_19,
      Value.int IntKind.i64 n_20,
      Value.int IntKind.i64 n_21,
      Value.int IntKind.i64 n_22,
      Value.int IntKind.i64 n_23],
      Value.agg
      #[Value.int IntKind.i64 n_6,
      Value.int IntKind.i64 n_7,
      Value.int IntKind.i64 n_8,
      Value.int IntKind.i64 n_9]]
      m' (Value.bool b) ∧
      ifB (!b)
      (Done
      (Value.tuple
      #[Value.int IntKind.i64
      (↑a_7.i : Int),
      Value.int IntKind.i64
      (150 : Int)] =
      Value.tuple
      #[Value.int IntKind.i64
      (legP l).fst,
      Value.int IntKind.i64
      (legP l).snd]))
      (∃ (a' : RcX),
      (((RlI l a
      (eqsC l a'.v a'.i ++
      ordG l a'.v)
      a' ∧
      a'.i ≤ l.length) ∧
      m' = a'.m ∧
      ((SV.val
      (Value.int
      IntKind.i64
      (IntKind.i64.wrap
      ((↑a_7.i :
      Int) +
      (1 :
      Int)))) =
      SV.val
      (Value.int
      IntKind.i64
      (↑a'.i :
      Int)) ∧
      true = true) ∧
      (SV.val
      (Value.int
      IntKind.i64
      a_7.v) =
      SV.val
      (Value.int
      IntKind.i64
      a'.v) ∧
      true = true) ∧
      (SV.val
      (Value.slice
      a_10 n
      c) =
      SV.val
      (Value.slice
      a'.a
      (runC
      (List.map
      (clA
      l)
      a'.L)
      []).length
      a'.c) ∧
      true = true) ∧
      (SV.val
      (Value.slice
      a
      l.length
      cp) =
      SV.val
      (Value.slice
      a
      l.length
      cp) ∧
      true =
      true) ∧
      True) ∧
      True) ∧
      ∃ (v : Nat),
      [behC l a_3.v] = [v] ∧
      behC l a'.v < v) ∧
      l.length - a'.i <
      l.length - a_7.i)))
      (∃ (a' : RcX),
      (RlI l a (ordG l a'.v) a' ∧
      a_7.m = a'.m ∧
      ((SV.val (Value.int IntKind.i64 a_7.v) = SV.val (Value.int IntKind.i64 a'.v) ∧ true = true) ∧
      (SV.val (Value.slice a_7.a (runC (List.map (clA l) a_7.L) []).length a_7.c) =
      SV.val (Value.slice a'.a (runC (List.map (clA l) a'.L) []).length a'.c) ∧
      true = true) ∧
      (SV.val (Value.slice a l.length cp) = SV.val (Value.slice a l.length cp) ∧ true = true) ∧ True) ∧
      True) ∧
      behC l a'.v < behC l a_3.v))))) (by kernel_rfl) ?_
  have h' := h.sz hn'
  have ol := ordL_len l
  have w : ∀ k, k < l.length → IntKind.i64.wrap ((k : Int) + 1) = ((k + 1 : Nat) : Int) := fun k hk => by simp [IntKind.wrap_i64]; omega
  refine ⟨rfl, ⟨0, ⟨Nat.zero_le _, fun j hj => by omega⟩, rfl, by simp⟩, fun k ⟨hk, hq⟩ => ifB_intro (fun hb => ?_) (fun hb => ?_)⟩
  · have hk2 : k < l.length := by simpa using hb
    refine ⟨_, form_q a cp l k hk2 (by omega) _ h', ifB_intro (fun h1 => ⟨?_⟩) (fun h1 => ⟨k + 1, ⟨⟨hk2, fun j hj => ?_⟩, rfl, by simp [w k hk2]⟩, by omega⟩)⟩
    · have h1 : wrgE (clA l k) (l.take k) ≠ 0 := by simpa using h1
      simp only [legP, frm_some hk2 hq h1]
    · have h1 : wrgE (clA l k) (l.take k) = 0 := by simpa using h1
      by_cases e : j = k
      · rw [e]; exact h1
      · exact hq j (by omega)
  have hk2 : k = l.length := by simp at hb; omega
  rw [hk2] at hq
  have hleg : legP l = match secP l (ordL l) [] with | some i => ((i : Int), 150) | none => ((l.length : Int), 0) := by simp only [legP, frm_none hq]; first | done | rfl
  refine ⟨⟨⟨0, [], 0, 0, none, 0, _⟩, ⟨Int.le_refl _, h', .nil _, by simp [ordG_zero], by simp [ordG_zero, runC]⟩, rfl, by simp [runC]⟩, fun y Y => ⟨⟨⟨y.v, y.L, 0, 0, y.a, y.c, y.m⟩, ⟨⟨⟨Y.v0, Y.src, Y.t, Y.ord, Y.sec⟩, Nat.zero_le _, .inl ⟨rfl, fun j hj => by simp at hj⟩⟩, rfl, by simp⟩, rfl⟩, fun z ⟨⟨Z, zi, zm⟩, zc⟩ => ifB_intro (fun hb => ?_) (fun hb => ifB_intro (fun h0 => ⟨?_⟩) (fun h0 => ⟨?_, fun u ⟨⟨U, ui⟩, uc⟩ => ifB_intro (fun hb2 => ?_) (fun hb2 => ?_)⟩))⟩⟩
  · have hk : z.i < l.length := by simpa using hb
    obtain ⟨b, o, ha, hc⟩ := Z.src.cells (by rw [cl_len]; omega)
    have hm := mo_at hc hk
    refine ⟨b, o, ha, by omega, _, by simpa using hm, ifB_intro (fun h1 => ifB_intro (fun h2 => ⟨b, o, ha, by omega, _, by simpa using hm, ⟨z.v, z.L, z.i + 1, moA l z.i, z.a, z.c, z.m⟩, ⟨⟨⟨⟨Z.v0, Z.src, Z.t, Z.ord, Z.sec⟩, hk, minI_yes zm (by simpa using h1) (.inl (by simpa using h2)) Z.v0⟩, rfl, by simp [w _ hk]⟩, zc⟩, by simp only; omega⟩) (fun h2 => ⟨b, o, ha, by omega, _, by simpa using hm, ifB_intro (fun h3 => ⟨b, o, ha, by omega, _, by simpa using hm, ⟨z.v, z.L, z.i + 1, moA l z.i, z.a, z.c, z.m⟩, ⟨⟨⟨⟨Z.v0, Z.src, Z.t, Z.ord, Z.sec⟩, hk, minI_yes zm (by simpa using h1) (.inr (by simpa using h3)) Z.v0⟩, rfl, by simp [w _ hk]⟩, zc⟩, by simp only; omega⟩) (fun h3 => ⟨⟨z.v, z.L, z.i + 1, z.nx, z.a, z.c, z.m⟩, ⟨⟨⟨⟨Z.v0, Z.src, Z.t, Z.ord, Z.sec⟩, hk, minI_no zm ?_⟩, rfl, by simp [w _ hk]⟩, zc⟩, by simp only; omega⟩)⟩)) (fun h1 => ⟨⟨z.v, z.L, z.i + 1, z.nx, z.a, z.c, z.m⟩, ⟨⟨⟨⟨Z.v0, Z.src, Z.t, Z.ord, Z.sec⟩, hk, minI_no zm ?_⟩, rfl, by simp [w _ hk]⟩, zc⟩, by simp only; omega⟩)⟩
    · simp at h2 h3; simp only; rintro ⟨-, h4 | h4⟩ <;> omega
    · simp at h1; simp only; omega
  · have hi : z.i = l.length := by simp at hb; omega
    rw [hi] at zm
    rcases minI_end zm Z.v0 with ⟨e1, e2⟩ | ⟨e1, -, -, -⟩
    · have hs := Z.sec
      rw [e2, secP] at hs
      simp only [hleg, hs]
    · exact absurd (by simpa using h0) e1
  · have hi : z.i = l.length := by simp at hb; omega
    rw [hi] at zm
    rcases minI_end zm Z.v0 with ⟨e1, e2⟩ | ⟨e1, e2, e3, e4⟩
    · exact absurd e1 (by simpa using h0)
    · refine ⟨⟨z.nx, z.L, 0, 0, z.a, z.c, z.m⟩, ⟨⟨⟨e2, Z.src, Z.t, by simp only; rw [← e3]; exact Z.ord, by simp only; rw [← e3]; exact Z.sec⟩, Nat.zero_le _⟩, rfl, by simp⟩, behC l y.v, rfl, ?_⟩
      have : behC l y.v = behC l z.v := by simpa using zc
      rw [this]; exact e4
  · have hk : u.i < l.length := by simpa using hb2
    obtain ⟨b, o, ha, hc⟩ := U.src.cells (by rw [cl_len]; omega)
    have hm := mo_at hc hk
    have ec := eqsC_cons (v := u.v) hk
    have ho := U.ord
    have hs := U.sec
    refine ⟨b, o, ha, by omega, _, by simpa using hm, ifB_intro (fun h1 => ⟨⟨u.v, u.L, u.i + 1, 0, u.a, u.c, u.m⟩, ⟨⟨⟨⟨U.v0, U.src, U.t, ?_, ?_⟩, hk⟩, rfl, by simp [w _ hk]⟩, uc⟩, by simp only; omega⟩) (fun h1 => ?_)⟩
    · have h1 : ¬ moA l u.i = u.v := by simpa using h1
      rw [if_neg h1, List.nil_append] at ec
      simp only; rw [ho, ec]
    · have h1 : ¬ moA l u.i = u.v := by simpa using h1
      rw [if_neg h1, List.nil_append] at ec
      simp only; rw [hs, ec]
    · have h1 : moA l u.i = u.v := by simpa using h1
      rw [if_pos h1] at ec
      rw [ec] at ho hs
      have T := runL_tot hl ho
      have tl := T.len
      have hown : (clA l u.i).wf := clA_wf hl
      simp only [List.singleton_append, List.cons_append, secP] at hs
      refine ⟨b, o, ha, by omega, _, _, _, _, _, _, by simpa using op_at hc hk, ?_⟩
      refine ⟨_, noS, fun N2 hN2 => (rdo_s u.a u.c _ (opC (clA l u.i)) (by omega) T.wf (opC_wf hown) _ (U.t.sz hN2)).monoW fun v2 m2 hag2 q2 => ?_⟩
      obtain ⟨x2, d2, hv2, hr2⟩ := q2
      have hsrc := (U.src.sz hN2).agree hag2
      obtain ⟨b3, o3, ha3, hc3⟩ := hsrc.cells (by rw [cl_len]; omega)
      have e : runC ((u.L ++ [u.i]).map (clA l)) [] = (doT (runC (u.L.map (clA l)) []) (opC (clA l u.i))).1 := by
        rw [List.map_append, List.map_cons, List.map_nil, runC_snoc]
      refine ⟨_, _, _, _, _, _, _, hv2, rfl, b3, o3, ha3, by omega, _, _, _, _, _, _, _, _, _, _, _, _, _, _, _, _, by simpa using whole_at hc3 hk, _, rrightly_q (clA l u.i) _ _, ifB_intro (fun h2 => ⟨?_⟩) (fun h2 => ⟨⟨u.v, u.L ++ [u.i], u.i + 1, 0, x2, d2, m2⟩, ⟨⟨⟨⟨U.v0, hsrc, by simp only; rw [e]; exact hr2, by simp only; rw [ho]; simp, ?_⟩, hk⟩, rfl, by simp only [e]; simp [w _ hk]⟩, uc⟩, by simp only; omega⟩)⟩
      · have h2 : rigB (clA l u.i) (doT (runC (u.L.map (clA l)) []) (opC (clA l u.i))).2 = false := by
          have e : (!rigB (clA l u.i) (doT (runC (u.L.map (clA l)) []) (opC (clA l u.i))).2) = true := h2
          simpa using e
        rw [h2] at hs
        simp only [hleg, hs]
        rfl
      · have h2 : rigB (clA l u.i) (doT (runC (u.L.map (clA l)) []) (opC (clA l u.i))).2 = true := by
          have e : (!rigB (clA l u.i) (doT (runC (u.L.map (clA l)) []) (opC (clA l u.i))).2) = false := h2
          simpa using e
        rw [h2, if_pos rfl] at hs
        simp only
        rw [hs, e, List.nil_append]
  · have hi : u.i = l.length := by simp at hb2; omega
    have ho := U.ord
    have hs := U.sec
    rw [hi, eqsC_end, List.nil_append] at ho hs
    obtain ⟨v, e1, e2⟩ := uc
    refine ⟨⟨u.v, u.L, 0, 0, u.a, u.c, u.m⟩, ⟨⟨U.v0, U.src, U.t, ho, hs⟩, rfl, by simp⟩, ?_⟩
    simp at e1
    simp only; omega

end Go.Proofs.Ytbhlhnkjmncloaa
set_option linter.unusedVariables false
set_option linter.unusedSimpArgs false
namespace Go.Proofs.Ytbhlhnkjmncloaa
open Go.Vc Go.RowKit
set_option maxRecDepth 100000

def mkC : Cl := ⟨71, 0, 0, 0, .empty, .empty, 0, 0, 0, 0, 0, 0, 0, 0, 0, 0⟩

theorem witnesslegal (a : Option Addr) (cp : Nat) (l : List Cl) (hn : l.length ≤ 1048576) (hl : ∀ x ∈ l, x.wf) (m : M) (h : Row m a (cls l)) :
    QSpec Try.prog 9 [.slice a l.length cp] m (.bool true) := by
  refine QSpec.of_vc Try.func9 (ann := fun _ => noAnn) fun N hN => ?_
  refine vc_by (X :=
      true = true ∧
      ∃ (S' : Nat → Prop),
      (∀ (b : Nat), S' b → m.uf b ∧ (N ≤ b ∨ False)) ∧
      ∀ (n : Nat),
      N ≤ n →
      SpecW Try.prog (26 : Nat)
      [Value.slice a l.length cp,
      Value.agg
      #[Value.int IntKind.i64 (71 : Int), Value.int IntKind.i64 (0 : Int), Value.int IntKind.i64 (0 : Int), Value.int IntKind.i64 (0 : Int),
      Value.string { data := #[] : ByteArray }, Value.string { data := #[] : ByteArray }, Value.int IntKind.i64 (0 : Int), Value.int IntKind.i64 (0 : Int),
      Value.int IntKind.i64 (0 : Int), Value.int IntKind.i64 (0 : Int), Value.int IntKind.i64 (0 : Int), Value.int IntKind.i64 (0 : Int),
      Value.int IntKind.i64 (0 : Int), Value.int IntKind.i64 (0 : Int), Value.int IntKind.i64 (0 : Int), Value.int IntKind.i64 (0 : Int)]]
      { π := m.π, sz := n, uf := m.uf : M } S' fun (v : Value) (m' : M) =>
      ∃ (a_2 : Option Addr),
      ∃ (n : Nat),
      ∃ (c : Nat),
      v = Value.slice a_2 n c ∧
      ∃ (n_1 : Int),
      ∃ (n_2 : Int),
      QSpec Try.prog (24 : Nat) [Value.slice a_2 n c] m' (Value.tuple #[Value.int IntKind.i64 n_1, Value.int IntKind.i64 n_2]) ∧
      ∃ (n_3 : Int),
      ∃ (n_4 : Int),
      QSpec Try.prog (27 : Nat) [Value.slice a l.length cp] m' (Value.tuple #[Value.int IntKind.i64 n_3, Value.int IntKind.i64 n_4]) ∧
      ∃ (b : Bool),
      QSpec Try.prog (14 : Nat) [] m' (Value.bool b) ∧
      ifB b
      (ifB (n_1 == n_3)
      (ifB (n_2 == n_4)
      (∃ (S' : Nat → Prop),
      (∀ (b : Nat), S' b → m'.uf b ∧ (N ≤ b ∨ False)) ∧
      ∀ (n_5 : Nat),
      m'.sz ≤ n_5 →
      SpecW Try.prog (21 : Nat) [Value.slice a_2 n c] { π := m'.π, sz := n_5, uf := m'.uf : M } S' fun (v : Value) (m' : M) =>
      ∃ (a_4 : Option Addr),
      ∃ (n_6 : Nat),
      ∃ (c_1 : Nat),
      v = Value.slice a_4 n_6 c_1 ∧
      ∃ (S' : Nat → Prop),
      (∀ (b : Nat), S' b → m'.uf b ∧ (N ≤ b ∨ False)) ∧
      ∀ (n_7 : Nat),
      m'.sz ≤ n_7 →
      SpecW Try.prog (28 : Nat) [Value.slice a l.length cp] { π := m'.π, sz := n_7, uf := m'.uf : M } S'
      fun (v : Value) (m' : M) =>
      ∃ (a_6 : Option Addr),
      ∃ (n_8 : Nat),
      ∃ (c_2 : Nat),
      v = Value.slice a_6 n_8 c_2 ∧
      ∃ (b : Bool),
      QSpec Try.prog (23 : Nat) [Value.slice a_4 n_6 c_1, Value.slice a_6 n_8 c_2] m' (Value.bool b) ∧
      ifB b
      (∃ (S' : Nat → Prop),
      (∀ (b : Nat), S' b → m'.uf b ∧ (N ≤ b ∨ False)) ∧
      ∀ (n_9 : Nat),
      m'.sz ≤ n_9 →
      SpecW Try.prog (22 : Nat) [Value.slice a_2 n c]
      { π := m'.π, sz := n_9, uf := m'.uf : M } S' fun (v : Value) (m' : M) =>
      ∃ (a_8 : Option Addr),
      ∃ (n_10 : Nat),
      ∃ (c_3 : Nat),
      v = Value.slice a_8 n_10 c_3 ∧
      ∃ (S' : Nat → Prop),
      (∀ (b : Nat), S' b → m'.uf b ∧ (N ≤ b ∨ False)) ∧
      ∀ (n_11 : Nat),
      m'.sz ≤ n_11 →
      SpecW Try.prog (29 : Nat) [Value.slice a l.length cp]
      { π := m'.π, sz := n_11, uf := m'.uf : M } S'
      fun (v : Value) (m' : M) =>
      ∃ (a_10 : Option Addr),
      ∃ (n_12 : Nat),
      ∃ (c_4 : Nat),
      v = Value.slice a_10 n_12 c_4 ∧
      ∃ (b : Bool),
      QSpec Try.prog (16 : Nat)
      [Value.slice a_8 n_10 c_3, Value.slice a_10 n_12 c_4]
      m' (Value.bool b) ∧
      ifB b
      (∃ (b : Bool),
      QSpec Try.prog (30 : Nat)
      [Value.slice a_2 n c, Value.slice a l.length cp,
      Value.agg
      #[Value.int IntKind.i64 (71 : Int),
      Value.int IntKind.i64 (0 : Int),
      Value.int IntKind.i64 (0 : Int),
      Value.int IntKind.i64 (0 : Int),
      Value.string { data := #[] : ByteArray },
      Value.string { data := #[] : ByteArray },
      Value.int IntKind.i64 (0 : Int),
      Value.int IntKind.i64 (0 : Int),
      Value.int IntKind.i64 (0 : Int),
      Value.int IntKind.i64 (0 : Int),
      Value.int IntKind.i64 (0 : Int),
      Value.int IntKind.i64 (0 : Int),
      Value.int IntKind.i64 (0 : Int),
      Value.int IntKind.i64 (0 : Int),
      Value.int IntKind.i64 (0 : Int),
      Value.int IntKind.i64 (0 : Int)]]
      m' (Value.bool b) ∧
      Done (Value.bool b = Value.bool true))
      (Done (Value.bool false = Value.bool true)))
      (Done (Value.bool false = Value.bool true)))
      (Done (Value.bool false = Value.bool true)))
      (Done (Value.bool false = Value.bool true)))
      (Done (Value.bool false = Value.bool true))) (by kernel_rfl) ?_
  have R : Rs { m with sz := N } [(a, cls l)] := ⟨h.sz hN, trivial⟩
  have hrl : (runC (ordC l) []).length ≤ 9223372036854775807 := by
    have := (runC_ok (ordC l) (TotI.nil (n := 0)) (ordC_wf hl)).len
    have := ordC_le l
    omega
  have hol := ordC_le l
  refine ⟨rfl, _, noS, fun N1 hN1 => (cl_own a cp l mkC (by omega) _ ((R.sz hN1).1)).monoW fun v1 m1 ag1 q1 => ?_⟩
  obtain ⟨b1, e1, r1⟩ := q1.row
  refine ⟨_, _, _, e1, ?_⟩
  have R1 := Rs.cons r1 (Rs.step R hN1 ag1)
  refine ⟨_, _, wLegal_q _ _ l (by omega) (by omega) hl _ R1.1.take, _, _, rLegal_q _ _ l (by omega) hl _ R1.2.1, _, wawake_q _, ifB_true ?_⟩
  simp only [beq_self_eq_true]
  refine ifB_true (ifB_true ⟨_, noS, fun N2 hN2 => (wOrder_s _ _ l (by omega) _ ((R1.sz hN2).1.take)).monoW fun v2 m2 ag2 q2 => ?_⟩)
  obtain ⟨x2, y2, e2, r2⟩ := q2
  refine ⟨_, _, _, e2, ?_⟩
  have R2 := Rs.cons r2 (Rs.step R1 hN2 ag2)
  refine ⟨_, noS, fun N3 hN3 => (rOrder_s _ _ l (by omega) _ ((R2.sz hN3).2.2.1)).monoW fun v3 m3 ag3 q3 => ?_⟩
  obtain ⟨x3, y3, e3, r3⟩ := q3
  refine ⟨_, _, _, e3, ?_⟩
  have R3 := Rs.cons r3 (Rs.step R2 hN3 ag3)
  refine ⟨_, cl_plain _ _ _ _ _ _ (by omega) _ (R3.2.1) (R3.1), ?_⟩
  rw [decide_eq_true (rfl : ordC l = ordC l)]
  refine ifB_true ⟨_, noS, fun N4 hN4 => (wRun_s _ _ l (by omega) hl _ ((R3.sz hN4).2.2.1.take)).monoW fun v4 m4 ag4 q4 => ?_⟩
  obtain ⟨x4, y4, e4, r4⟩ := q4
  refine ⟨_, _, _, e4, ?_⟩
  have R4 := Rs.cons r4 (Rs.step R3 hN4 ag4)
  refine ⟨_, noS, fun N5 hN5 => (rRun_s _ _ l (by omega) hl _ ((R4.sz hN5).2.2.2.2.1)).monoW fun v5 m5 ag5 q5 => ?_⟩
  obtain ⟨x5, y5, e5, r5⟩ := q5
  refine ⟨_, _, _, e5, ?_⟩
  have R5 := Rs.cons r5 (Rs.step R4 hN5 ag5)
  refine ⟨_, tt_plain _ _ _ _ _ _ hrl _ (R5.2.1) (R5.1), ?_⟩
  rw [decide_eq_true (rfl : runC (ordC l) [] = runC (ordC l) [])]
  exact ifB_true ⟨_, cl_keptr b1 l a cp mkC (by omega) _ (R5.2.2.2.2.1) (R5.2.2.2.2.2.1), ⟨rfl⟩⟩

end Go.Proofs.Ytbhlhnkjmncloaa
set_option linter.unusedVariables false
set_option linter.unusedSimpArgs false
namespace Go.Proofs.Ytbhlhnkjmncloaa
open Go.Vc Go.RowKit Go.ChangeShapes Go.WideShapes Go.ChangeAt
set_option maxRecDepth 100000

theorem open_clc {H : Type} {enc : TypeId × Value → H} {W : World} {r : Reach} {b0 : Nat} {v : Value} {d : DataW H} {p : List MemPlace} {N : Nat} {Bd : DataW H → Prop} (B : Bound N Bd) (hN : N ≤ 9223372036854775807) (hv : Value.okWide Try.prog W r b0 48 v) (h : DataW.Trod enc Try.prog W 0 (fun _ => true) true 48 v d p) (hb : Bd d) :
    ∃ (a : Option Addr) (c : Nat) (z : List Cl), v = .slice a z.length c ∧ z.length ≤ N ∧ z.length ≤ c ∧ (∀ x ∈ z, x.wf) ∧ (a = none → z = []) ∧ Row (M.all W) a (cls z) := by
  obtain ⟨a, len, cap, rfl⟩ := okWide_slice Try.underlying48 hv
  obtain ⟨fuel, hf⟩ := h
  have hr := rd_of_trod B 4 fuel 48 _ _ hf hb
  rw [Rd] at hr
  simp only [Try.underlying48] at hr
  obtain ⟨a', cap', rows, hcs, h1, h2, h3, h4, h5⟩ := hr
  obtain ⟨z, hz, he, hi⟩ := rows_list (α := Cl) (e := encCl) (p := Cl.wf) rows fun r hr => cl_rd (d := 0) (h4 r hr).2 hN
  simp [Value.cells] at hcs
  obtain ⟨rfl, rfl, rfl⟩ := hcs
  rw [he] at h5
  exact ⟨a, cap, z, by rw [hz], by omega, by omega, hi, fun e => List.eq_nil_of_length_eq_zero (by have := h3 e; omega), h5⟩

structure WrgZ (c : Cl) (e : List Cl) : Prop where
  bad : badB c = false
  sq : sqB c e = false
  old : oldB c = false
  opn : opnB c e = false
  non : nonB c = false

theorem wrg_zero {c : Cl} {e : List Cl} (h : wrgE c e = 0) : WrgZ c e := by
  unfold wrgE at h
  split at h
  · cases h
  rename_i h1
  split at h
  · cases h
  rename_i h2
  split at h
  · cases h
  rename_i h3
  split at h
  · cases h
  rename_i h4
  simp at h1 h2 h3 h4
  exact ⟨h1.1, h1.2, h2, h3, h4⟩

theorem wrg_iff {c : Cl} {e : List Cl} : wrgE c e = 0 ↔ WrgZ c e := ⟨wrg_zero, fun h => by simp [wrgE, h.bad, h.sq, h.old, h.opn, h.non]⟩

/-- the form of all is right, and all were told rightly -/
structure LegO (l : List Cl) : Prop where
  frm : ∀ i, i < l.length → WrgZ (clA l i) (l.take i)
  sec : secP l (ordL l) [] = none

theorem frmP_spec (l : List Cl) : (frmP l = none ∧ ∀ i, i < l.length → wrgE (clA l i) (l.take i) = 0) ∨ ∃ i, frmP l = some i ∧ i < l.length ∧ wrgE (clA l i) (l.take i) ≠ 0 := by
  unfold frmP
  cases h : (List.range l.length).find? fun i => !decide (wrgE (clA l i) (l.take i) = 0) with
  | none =>
    refine .inl ⟨rfl, fun i hi => ?_⟩
    rw [List.find?_range_eq_none] at h
    simpa using h i hi
  | some i =>
    rw [List.find?_range_eq_some] at h
    exact .inr ⟨i, rfl, by simpa using h.2.1, by simpa using h.1⟩

theorem secP_mem {l : List Cl} : ∀ {L : List Nat} {t : List Tt} {i : Nat}, secP l L t = some i → i ∈ L
  | [], t, i, h => by simp [secP] at h
  | j :: r, t, i, h => by
    rw [secP] at h
    split at h
    · exact List.mem_cons_of_mem _ (secP_mem h)
    · cases h; exact List.mem_cons_self

theorem leg_cases (l : List Cl) : (LegO l ∧ legP l = ((l.length : Int), 0)) ∨ ((legP l).2 ≠ 0 ∧ 0 ≤ (legP l).1 ∧ (legP l).1 < l.length) := by
  rcases frmP_spec l with ⟨h1, h2⟩ | ⟨i, h1, h2, h3⟩
  · cases hs : secP l (ordL l) [] with
    | none => exact .inl ⟨⟨fun i hi => wrg_zero (h2 i hi), hs⟩, by simp only [legP, h1, hs]⟩
    | some j =>
      refine .inr ?_
      have := ordL_lt (secP_mem hs)
      simp only [legP, h1, hs]
      exact ⟨by decide, by omega, by omega⟩
  · refine .inr ?_
    simp only [legP, h1]
    exact ⟨h3, by omega, by omega⟩

theorem LegO.leg {l : List Cl} (h : LegO l) : legP l = ((l.length : Int), 0) := by
  have h1 : frmP l = none := frm_none fun j hj => wrg_iff.2 (h.frm j hj)
  simp only [legP, h1, h.sec]

theorem sec_at {l : List Cl} (h : secP l (ordL l) [] = none) : ∀ k, k ≤ (ordL l).length → secP l ((ordL l).drop k) (runC ((ordC l).take k) []) = none ∧ ∀ (hk : k < (ordL l).length), rigB (clA l (ordL l)[k]) (doT (runC ((ordC l).take k) []) (opC (clA l (ordL l)[k]))).2 = true := by
  have key : ∀ k, k ≤ (ordL l).length → secP l ((ordL l).drop k) (runC ((ordC l).take k) []) = none := by
    intro k
    induction k with
    | zero => intro _; simpa [runC] using h
    | succ k ih =>
      intro hk
      have h2 := ih (by omega)
      rw [List.drop_eq_getElem_cons (show k < (ordL l).length by omega), secP] at h2
      rw [run_take (by omega)]
      split at h2
      · exact h2
      · cases h2
  intro k hk
  refine ⟨key k hk, fun hk2 => ?_⟩
  have h2 := key k hk
  rw [List.drop_eq_getElem_cons hk2, secP] at h2
  split at h2
  · assumption
  · cases h2

theorem take_mem {l : List Cl} {i j : Nat} (h : j < i) (hi : i ≤ l.length) : clA l j ∈ l.take i := by
  rw [clA_at (show j < l.length by omega), List.mem_take_iff_getElem]
  exact ⟨j, by omega, rfl⟩

/-- of two calls of a client the later's number is greater, and it was called behind the earlier's answer -/
theorem frm_pair {l : List Cl} (h : ∀ i, i < l.length → WrgZ (clA l i) (l.take i)) {j i : Nat} (hj : j < i) (hi : i < l.length) (hc : (clA l j).cl = (clA l i).cl) : (clA l j).sq < (clA l i).sq ∧ (clA l j).aw ≠ 0 ∧ (clA l j).aw < (clA l i).ca := by
  have H := h i hi
  have hm := take_mem hj (Nat.le_of_lt hi)
  have h1 := List.any_eq_false.1 H.sq _ hm
  have h2 := List.any_eq_false.1 H.opn _ hm
  simp [hc] at h1 h2
  omega

theorem mo_le {l : List Cl} {i k : Nat} (hik : i < k) (hk : k < (ordL l).length) : (clA l ((ordL l)[i]'(by omega))).mo ≤ (clA l (ordL l)[k]).mo := by
  have := List.pairwise_iff_getElem.1 (ordL_is l).pw i k (by omega) hk hik
  rw [← moA_cl, ← moA_cl]
  unfold lexC at this; omega

theorem old_no {c : Cl} (h : oldB c = false) (hm : 0 < c.mo) : c.ca ≤ c.mo ∧ (c.aw = 0 ∨ c.mo ≤ c.aw) := by
  simp [oldB] at h
  have := h hm
  by_cases e : c.aw = 0
  · exact ⟨this.1, .inl e⟩
  · exact ⟨this.1, .inr (this.2 e)⟩

theorem ord_pos {l : List Cl} {k : Nat} (hk : k < (ordL l).length) : 0 < (clA l (ordL l)[k]).mo := by
  rw [← moA_cl]; exact (((ordL_is l).mem _).1 (List.getElem_mem hk)).2

theorem ord_pair {l : List Cl} (h : ∀ i, i < l.length → WrgZ (clA l i) (l.take i)) {i k : Nat} (hik : i < k) (hk : k < (ordL l).length) :
    ¬ ((clA l (ordL l)[k]).aw ≠ 0 ∧ (clA l (ordL l)[k]).aw < (clA l ((ordL l)[i]'(by omega))).ca) ∧ ¬ ((clA l ((ordL l)[i]'(by omega))).cl = (clA l (ordL l)[k]).cl ∧ (clA l (ordL l)[k]).sq ≤ (clA l ((ordL l)[i]'(by omega))).sq) := by
  have hmo := mo_le hik hk
  have hi2 : i < (ordL l).length := by omega
  have p1 := ord_pos hi2
  have p2 := ord_pos hk
  have l1 := ordL_lt (List.getElem_mem hi2)
  have l2 := ordL_lt (List.getElem_mem hk)
  have o1 := old_no (h _ l1).old p1
  have o2 := old_no (h _ l2).old p2
  have ne : (ordL l)[i] ≠ (ordL l)[k] := fun e => by
    have := List.pairwise_iff_getElem.1 (ordL_is l).pw i k (by omega) hk hik
    rw [e] at this
    exact lexC_irr _ this
  refine ⟨by omega, fun ⟨hc, hs⟩ => ?_⟩
  rcases Nat.lt_or_gt_of_ne ne with hlt | hgt
  · have := frm_pair h hlt l2 hc; omega
  · have := frm_pair h hgt l1 hc.symm; omega

theorem fld_at {l : List Cl} {m : M} {b o k : Nat} (hc : CellsAt m b o (cls l)) (hk : k < l.length) (j : Nat) (v : Value) (hv : (encCl l[k])[j]? = some v) : CellsAt m b (o + k * 16 + j) [v] := ⟨fun i hi => by
  have hi : i = 0 := by simpa using hi
  subst hi
  have hj : j < (encCl l[k]).length := by
    rcases Nat.lt_or_ge j (encCl l[k]).length with h | h
    · exact h
    · rw [List.getElem?_eq_none h] at hv; cases hv
  have := (cl_at hc hk).out j hj
  rw [hv] at this
  simpa using this⟩

theorem rig_fields {c : Cl} {a : An} (h : rigB c a = true) (hw : c.aw ≠ 0) : a.er = c.an_er ∧ (a.er = 0 → (c.op_kd = 4 → a.va = c.an_va) ∧ (c.op_kd = 3 → c.an_le ≤ a.le ∧ a.mo ≤ c.an_mo)) := by
  simp [rigB, hw] at h
  refine ⟨h.1.symm, fun h0 => ⟨fun h4 => ?_, fun h3 => ?_⟩⟩
  · have := h.2; simp [h0, h4] at this; exact this.symm
  · have := h.2; simp [h0, h3] at this; exact this

structure WoX where
  i : Nat
  k : Nat
  x : Option Addr
  d : Nat
  a : Option Addr
  c : Nat
  m : M

structure WoI (l : List Cl) (y : WoX) : Prop where
  i : y.i ≤ (ordC l).length
  ns : Row y.m y.x (cls (ordC l))
  t : Row y.m y.a (tts (runC ((ordC l).take y.i) []))

abbrev woT (l : List Cl) (y : WoX) : Value := .slice y.a (runC ((ordC l).take y.i) []).length y.c

theorem ifB_false' {b : Bool} {X Y : Prop} (h : b = false) (hy : Y) : ifB b X Y := by subst h; exact hy

theorem ifB_true' {b : Bool} {X Y : Prop} (h : b = true) (hx : X) : ifB b X Y := by subst h; exact hx

theorem witnessorder (a : Option Addr) (cp : Nat) (l : List Cl) (hn : l.length ≤ 977343669105) (hcp : l.length ≤ cp) (hl : ∀ x ∈ l, x.wf) (m : M) (h : Row m a (cls l)) :
    QSpec Try.prog 8 [.slice a l.length cp] m (.bool true) := by
  refine QSpec.of_vc Try.func8 (ann := fun _ r => match r with
    | 9 => { A := WoX, inv := fun y => WoI l y, st := fun y => [(7, .val (I y.i)), (5, .val (.slice y.x (ordC l).length y.d)), (6, .val (woT l y))], own := fun _ => [], m := fun y => y.m, μ := fun y => (ordC l).length - y.i }
    | 12 => { A := WoX, inv := fun y => WoI l y ∧ y.i < (ordC l).length ∧ y.i < y.k ∧ y.k ≤ (ordC l).length, st := fun y => [(8, .val (I y.k)), (7, .val (I y.i)), (5, .val (.slice y.x (ordC l).length y.d)), (6, .val (woT l y))], own := fun _ => [], m := fun y => y.m, μ := fun y => (ordC l).length - y.k, link := some fun y ctx => ctx = [(ordC l).length - y.i] }
    | _ => noAnn 0) fun N hN => ?_
  refine vc_by (X :=
      true = true ∧
      ∃ (n : Int),
      ∃ (n_1 : Int),
      QSpec Try.prog (24 : Nat) [Value.slice a l.length cp] { π := m.π, sz := N, uf := m.uf : M } (Value.tuple #[Value.int IntKind.i64 n, Value.int IntKind.i64 n_1]) ∧
      ∃ (b : Bool),
      QSpec Try.prog (14 : Nat) [] { π := m.π, sz := N, uf := m.uf : M } (Value.bool b) ∧
      ifB (!b)
      (∃ (b : Bool),
      QSpec Try.prog (14 : Nat) [] { π := m.π, sz := N, uf := m.uf : M } (Value.bool b) ∧
      ifB b (ifB (decide (n ≥ (0 : Int))) (Done (Value.bool (decide (n < (↑l.length : Int))) = Value.bool true)) (Done (Value.bool false = Value.bool true)))
      (Done (Value.bool false = Value.bool true)))
      (ifB (n_1 != (0 : Int))
      (∃ (b : Bool),
      QSpec Try.prog (14 : Nat) [] { π := m.π, sz := N, uf := m.uf : M } (Value.bool b) ∧
      ifB b (ifB (decide (n ≥ (0 : Int))) (Done (Value.bool (decide (n < (↑l.length : Int))) = Value.bool true)) (Done (Value.bool false = Value.bool true)))
      (Done (Value.bool false = Value.bool true)))
      (ifB (n != (↑l.length : Int)) (Done (Value.bool false = Value.bool true))
      (∃ (S' : Nat → Prop),
      (∀ (b : Nat), S' b → m.uf b ∧ (N ≤ b ∨ False)) ∧
      ∀ (n : Nat),
      N ≤ n →
      SpecW Try.prog (21 : Nat) [Value.slice a l.length cp] { π := m.π, sz := n, uf := m.uf : M } S' fun (v : Value) (m' : M) =>
      ∃ (a : Option Addr),
      ∃ (n : Nat),
      ∃ (c : Nat),
      v = Value.slice a n c ∧
      (∃ (a_2 : WoX),
      WoI l a_2 ∧
      m' = a_2.m ∧
      ((SV.val (Value.int IntKind.i64 (0 : Int)) = SV.val (Value.int IntKind.i64 (↑a_2.i : Int)) ∧ true = true) ∧
      (SV.val (Value.slice a n c) = SV.val (Value.slice a_2.x (ordC l).length a_2.d) ∧ true = true) ∧
      (SV.val (Value.slice none (0 : Nat) (0 : Nat)) = SV.val (Value.slice a_2.a (runC (List.take a_2.i (ordC l)) []).length a_2.c) ∧
      true = true) ∧
      True) ∧
      True) ∧
      ∀ (a : WoX),
      WoI l a →
      ifB (decide ((↑a.i : Int) < (↑(ordC l).length : Int)))
      ((∃ (a_3 : WoX),
      ((WoI l a_3 ∧ a_3.i < (ordC l).length ∧ a_3.i < a_3.k ∧ a_3.k ≤ (ordC l).length) ∧
      a.m = a_3.m ∧
      ((SV.val (Value.int IntKind.i64 (IntKind.i64.wrap ((↑a.i : Int) + (1 : Int)))) =
      SV.val (Value.int IntKind.i64 (↑a_3.k : Int)) ∧
      true = true) ∧
      (SV.val (Value.int IntKind.i64 (↑a.i : Int)) = SV.val (Value.int IntKind.i64 (↑a_3.i : Int)) ∧ true = true) ∧
      (SV.val (Value.slice a.x (ordC l).length a.d) = SV.val (Value.slice a_3.x (ordC l).length a_3.d) ∧ true = true) ∧
      (SV.val (Value.slice a.a (runC (List.take a.i (ordC l)) []).length a.c) =
      SV.val (Value.slice a_3.a (runC (List.take a_3.i (ordC l)) []).length a_3.c) ∧
      true = true) ∧
      True) ∧
      True) ∧
      [(ordC l).length - a.i] = [(ordC l).length - a_3.i]) ∧
      ∀ (a_3 : WoX),
      (WoI l a_3 ∧ a_3.i < (ordC l).length ∧ a_3.i < a_3.k ∧ a_3.k ≤ (ordC l).length) ∧
      [(ordC l).length - a.i] = [(ordC l).length - a_3.i] →
      ifB (decide ((↑a_3.k : Int) < (↑(ordC l).length : Int)))
      (true = true ∧
      ∃ (b : Nat),
      ∃ (off : Nat),
      a_3.x = some { block := b, off := off : Addr } ∧
      ((0 : Int) ≤ (↑a_3.k : Int) ∧ (↑a_3.k : Int) < (↑(ordC l).length : Int)) ∧
      ∃ (n : Int),
      CellsAt a_3.m b (off + (↑a_3.k : Int).toNat * (16 : Nat) + (11 : Nat)) [Value.int IntKind.i64 n] ∧
      ifB (n != (0 : Int))
      (∃ (b : Nat),
      ∃ (off : Nat),
      a_3.x = some { block := b, off := off : Addr } ∧
      ((0 : Int) ≤ (↑a_3.k : Int) ∧ (↑a_3.k : Int) < (↑(ordC l).length : Int)) ∧
      ∃ (n : Int),
      CellsAt a_3.m b (off + (↑a_3.k : Int).toNat * (16 : Nat) + (11 : Nat)) [Value.int IntKind.i64 n] ∧
      ∃ (b : Nat),
      ∃ (off : Nat),
      a_3.x = some { block := b, off := off : Addr } ∧
      ((0 : Int) ≤ (↑a_3.i : Int) ∧ (↑a_3.i : Int) < (↑(ordC l).length : Int)) ∧
      ∃ (n_2 : Int),
      CellsAt a_3.m b (off + (↑a_3.i : Int).toNat * (16 : Nat) + (9 : Nat))
      [Value.int IntKind.i64 n_2] ∧
      ifB (decide (n < n_2)) (Done (Value.bool false = Value.bool true))
      (∃ (b : Nat),
      ∃ (off : Nat),
      a_3.x = some { block := b, off := off : Addr } ∧
      ((0 : Int) ≤ (↑a_3.i : Int) ∧ (↑a_3.i : Int) < (↑(ordC l).length : Int)) ∧
      ∃ (n : Int),
      CellsAt a_3.m b (off + (↑a_3.i : Int).toNat * (16 : Nat) + (0 : Nat))
      [Value.int IntKind.i64 n] ∧
      ∃ (b : Nat),
      ∃ (off : Nat),
      a_3.x = some { block := b, off := off : Addr } ∧
      ((0 : Int) ≤ (↑a_3.k : Int) ∧
      (↑a_3.k : Int) < (↑(ordC l).length : Int)) ∧
      ∃ (n_3 : Int),
      CellsAt a_3.m b
      (off + (↑a_3.k : Int).toNat * (16 : Nat) + (0 : Nat))
      [Value.int IntKind.i64 n_3] ∧
      ifB (n == n_3)
      (∃ (b : Nat),
      ∃ (off : Nat),
      a_3.x = some { block := b, off := off : Addr } ∧
      ((0 : Int) ≤ (↑a_3.i : Int) ∧
      (↑a_3.i : Int) < (↑(ordC l).length : Int)) ∧
      ∃ (n : Int),
      CellsAt a_3.m b
      (off + (↑a_3.i : Int).toNat * (16 : Nat) +
      (1 : Nat))
      [Value.int IntKind.i64 n] ∧
      ∃ (b : Nat),
      ∃ (off : Nat),
      a_3.x =
      some { block := b, off := off : Addr } ∧
      ((0 : Int) ≤ (↑a_3.k : Int) ∧
      (↑a_3.k : Int) <
      (↑(ordC l).length : Int)) ∧
      ∃ (n_4 : Int),
      CellsAt a_3.m b
      (off +
      (↑a_3.k : Int).toNat *
      (16 : Nat) +
      (1 : Nat))
      [Value.int IntKind.i64 n_4] ∧
      ifB (decide (n ≥ n_4))
      (Done
      (Value.bool false =
      Value.bool true))
      (∃ (a' : WoX),
      (((WoI l a' ∧
      a'.i < (ordC l).length ∧
      a'.i < a'.k ∧
      a'.k ≤
      (ordC l).length) ∧
      a_3.m = a'.m ∧
      ((SV.val
      (Value.int
      IntKind.i64
      (IntKind.i64.wrap
      ((↑a_3.k :
      Int) +
      (1 :
      Int)))) =
      SV.val
      (Value.int
      IntKind.i64
      (↑a'.k :
      Int)) ∧
      true = true) ∧
      (SV.val
      (Value.int
      IntKind.i64
      (↑a_3.i :
      Int)) =
      SV.val
      (Value.int
      IntKind.i64
      (↑a'.i :
      Int)) ∧
      true = true) ∧
      (SV.val
      (Value.slice
      a_3.x
      (ordC
      l).length
      a_3.d) =
      SV.val
      (Value.slice
      a'.x
      (ordC
      l).length
      a'.d) ∧
      true = true) ∧
      (SV.val
      (Value.slice
      a_3.a
      (runC
      (List.take
      a_3.i
      (ordC
      l))
      []).length
      a_3.c) =
      SV.val
      (Value.slice
      a'.a
      (runC
      (List.take
      a'.i
      (ordC
      l))
      []).length
      a'.c) ∧
      true =
      true) ∧
      True) ∧
      True) ∧
      [(ordC l).length - a.i] =
      [(ordC l).length -
      a'.i]) ∧
      (ordC l).length - a'.k <
      (ordC l).length - a_3.k))
      (∃ (a' : WoX),
      (((WoI l a' ∧
      a'.i < (ordC l).length ∧
      a'.i < a'.k ∧ a'.k ≤ (ordC l).length) ∧
      a_3.m = a'.m ∧
      ((SV.val
      (Value.int IntKind.i64
      (IntKind.i64.wrap
      ((↑a_3.k : Int) + (1 : Int)))) =
      SV.val
      (Value.int IntKind.i64 (↑a'.k : Int)) ∧
      true = true) ∧
      (SV.val
      (Value.int IntKind.i64
      (↑a_3.i : Int)) =
      SV.val
      (Value.int IntKind.i64
      (↑a'.i : Int)) ∧
      true = true) ∧
      (SV.val
      (Value.slice a_3.x (ordC l).length
      a_3.d) =
      SV.val
      (Value.slice a'.x (ordC l).length
      a'.d) ∧
      true = true) ∧
      (SV.val
      (Value.slice a_3.a
      (runC (List.take a_3.i (ordC l))
      []).length
      a_3.c) =
      SV.val
      (Value.slice a'.a
      (runC (List.take a'.i (ordC l))
      []).length
      a'.c) ∧
      true = true) ∧
      True) ∧
      True) ∧
      [(ordC l).length - a.i] = [(ordC l).length - a'.i]) ∧
      (ordC l).length - a'.k < (ordC l).length - a_3.k)))
      (∃ (b : Nat),
      ∃ (off : Nat),
      a_3.x = some { block := b, off := off : Addr } ∧
      ((0 : Int) ≤ (↑a_3.i : Int) ∧ (↑a_3.i : Int) < (↑(ordC l).length : Int)) ∧
      ∃ (n : Int),
      CellsAt a_3.m b (off + (↑a_3.i : Int).toNat * (16 : Nat) + (0 : Nat)) [Value.int IntKind.i64 n] ∧
      ∃ (b : Nat),
      ∃ (off : Nat),
      a_3.x = some { block := b, off := off : Addr } ∧
      ((0 : Int) ≤ (↑a_3.k : Int) ∧ (↑a_3.k : Int) < (↑(ordC l).length : Int)) ∧
      ∃ (n_2 : Int),
      CellsAt a_3.m b (off + (↑a_3.k : Int).toNat * (16 : Nat) + (0 : Nat))
      [Value.int IntKind.i64 n_2] ∧
      ifB (n == n_2)
      (∃ (b : Nat),
      ∃ (off : Nat),
      a_3.x = some { block := b, off := off : Addr } ∧
      ((0 : Int) ≤ (↑a_3.i : Int) ∧ (↑a_3.i : Int) < (↑(ordC l).length : Int)) ∧
      ∃ (n : Int),
      CellsAt a_3.m b (off + (↑a_3.i : Int).toNat * (16 : Nat) + (1 : Nat))
      [Value.int IntKind.i64 n] ∧
      ∃ (b : Nat),
      ∃ (off : Nat),
      a_3.x = some { block := b, off := off : Addr } ∧
      ((0 : Int) ≤ (↑a_3.k : Int) ∧
      (↑a_3.k : Int) < (↑(ordC l).length : Int)) ∧
      ∃ (n_3 : Int),
      CellsAt a_3.m b
      (off + (↑a_3.k : Int).toNat * (16 : Nat) + (1 : Nat))
      [Value.int IntKind.i64 n_3] ∧
      ifB (decide (n ≥ n_3))
      (Done (Value.bool false = Value.bool true))
      (∃ (a' : WoX),
      (((WoI l a' ∧
      a'.i < (ordC l).length ∧
      a'.i < a'.k ∧ a'.k ≤ (ordC l).length) ∧
      a_3.m = a'.m ∧
      ((SV.val
      (Value.int IntKind.i64
      (IntKind.i64.wrap
      ((↑a_3.k : Int) + (1 : Int)))) =
      SV.val
      (Value.int IntKind.i64 (↑a'.k : Int)) ∧
      true = true) ∧
      (SV.val
      (Value.int IntKind.i64
      (↑a_3.i : Int)) =
      SV.val
      (Value.int IntKind.i64
      (↑a'.i : Int)) ∧
      true = true) ∧
      (SV.val
      (Value.slice a_3.x (ordC l).length
      a_3.d) =
      SV.val
      (Value.slice a'.x (ordC l).length
      a'.d) ∧
      true = true) ∧
      (SV.val
      (Value.slice a_3.a
      (runC (List.take a_3.i (ordC l))
      []).length
      a_3.c) =
      SV.val
      (Value.slice a'.a
      (runC (List.take a'.i (ordC l))
      []).length
      a'.c) ∧
      true = true) ∧
      True) ∧
      True) ∧
      [(ordC l).length - a.i] = [(ordC l).length - a'.i]) ∧
      (ordC l).length - a'.k < (ordC l).length - a_3.k))
      (∃ (a' : WoX),
      (((WoI l a' ∧ a'.i < (ordC l).length ∧ a'.i < a'.k ∧ a'.k ≤ (ordC l).length) ∧
      a_3.m = a'.m ∧
      ((SV.val
      (Value.int IntKind.i64
      (IntKind.i64.wrap ((↑a_3.k : Int) + (1 : Int)))) =
      SV.val (Value.int IntKind.i64 (↑a'.k : Int)) ∧
      true = true) ∧
      (SV.val (Value.int IntKind.i64 (↑a_3.i : Int)) =
      SV.val (Value.int IntKind.i64 (↑a'.i : Int)) ∧
      true = true) ∧
      (SV.val (Value.slice a_3.x (ordC l).length a_3.d) =
      SV.val (Value.slice a'.x (ordC l).length a'.d) ∧
      true = true) ∧
      (SV.val
      (Value.slice a_3.a
      (runC (List.take a_3.i (ordC l)) []).length a_3.c) =
      SV.val
      (Value.slice a'.a (runC (List.take a'.i (ordC l)) []).length
      a'.c) ∧
      true = true) ∧
      True) ∧
      True) ∧
      [(ordC l).length - a.i] = [(ordC l).length - a'.i]) ∧
      (ordC l).length - a'.k < (ordC l).length - a_3.k)))
      (∃ (b : Nat),
      ∃ (off : Nat),
      a_3.x = some { block := b, off := off : Addr } ∧
      ((0 : Int) ≤ (↑a_3.i : Int) ∧ (↑a_3.i : Int) < (↑(ordC l).length : Int)) ∧
      ∃ (n : Int),
      ∃ (s : ByteArray),
      ∃ (s_1 : ByteArray),
      ∃ (n_2 : Int),
      ∃ (n_3 : Int),
      ∃ (n_4 : Int),
      CellsAt a_3.m b (off + (↑a_3.i : Int).toNat * (16 : Nat) + (3 : Nat))
      [Value.int IntKind.i64 n, Value.string s, Value.string s_1, Value.int IntKind.i64 n_2,
      Value.int IntKind.i64 n_3, Value.int IntKind.i64 n_4] ∧
      ∃ (S' : Nat → Prop),
      (∀ (b : Nat), S' b → a_3.m.uf b ∧ (N ≤ b ∨ False)) ∧
      ∀ (n_5 : Nat),
      a_3.m.sz ≤ n_5 →
      SpecW Try.prog (12 : Nat)
      [Value.slice a_3.a (runC (List.take a_3.i (ordC l)) []).length a_3.c,
      Value.agg
      #[Value.int IntKind.i64 n, Value.string s, Value.string s_1, Value.int IntKind.i64 n_2,
      Value.int IntKind.i64 n_3, Value.int IntKind.i64 n_4]]
      { π := a_3.m.π, sz := n_5, uf := a_3.m.uf : M } S' fun (v : Value) (m' : M) =>
      ∃ (a_6 : Option Addr),
      ∃ (n : Nat),
      ∃ (c : Nat),
      ∃ (n_6 : Int),
      ∃ (n_7 : Int),
      ∃ (n_8 : Int),
      ∃ (n_9 : Int),
      v =
      Value.tuple
      #[Value.slice a_6 n c,
      Value.agg
      #[Value.int IntKind.i64 n_6, Value.int IntKind.i64 n_7,
      Value.int IntKind.i64 n_8, Value.int IntKind.i64 n_9]] ∧
      ∃ (b : Nat),
      ∃ (off : Nat),
      a_3.x = some { block := b, off := off : Addr } ∧
      ((0 : Int) ≤ (↑a_3.i : Int) ∧ (↑a_3.i : Int) < (↑(ordC l).length : Int)) ∧
      ∃ (n_10 : Int),
      CellsAt m' b (off + (↑a_3.i : Int).toNat * (16 : Nat) + (11 : Nat))
      [Value.int IntKind.i64 n_10] ∧
      ifB (n_10 == (0 : Int))
      (∃ (a' : WoX),
      (WoI l a' ∧
      m' = a'.m ∧
      ((SV.val
      (Value.int IntKind.i64
      (IntKind.i64.wrap
      ((↑a_3.i : Int) + (1 : Int)))) =
      SV.val (Value.int IntKind.i64 (↑a'.i : Int)) ∧
      true = true) ∧
      (SV.val (Value.slice a_3.x (ordC l).length a_3.d) =
      SV.val (Value.slice a'.x (ordC l).length a'.d) ∧
      true = true) ∧
      (SV.val (Value.slice a_6 n c) =
      SV.val
      (Value.slice a'.a
      (runC (List.take a'.i (ordC l)) []).length
      a'.c) ∧
      true = true) ∧
      True) ∧
      True) ∧
      (ordC l).length - a'.i < (ordC l).length - a.i)
      (true = true ∧
      ∃ (b : Nat),
      ∃ (off : Nat),
      a_3.x = some { block := b, off := off : Addr } ∧
      ((0 : Int) ≤ (↑a_3.i : Int) ∧
      (↑a_3.i : Int) < (↑(ordC l).length : Int)) ∧
      ∃ (n_11 : Int),
      CellsAt m' b
      (off + (↑a_3.i : Int).toNat * (16 : Nat) +
      (12 : Nat) +
      (0 : Nat))
      [Value.int IntKind.i64 n_11] ∧
      ifB (n_6 != n_11)
      (Done (Value.bool false = Value.bool true))
      (ifB (n_6 == (0 : Int))
      (∃ (b : Nat),
      ∃ (off : Nat),
      a_3.x =
      some { block := b, off := off : Addr } ∧
      ((0 : Int) ≤ (↑a_3.i : Int) ∧
      (↑a_3.i : Int) <
      (↑(ordC l).length : Int)) ∧
      ∃ (n_12 : Int),
      CellsAt m' b
      (off +
      (↑a_3.i : Int).toNat *
      (16 : Nat) +
      (3 : Nat) +
      (0 : Nat))
      [Value.int IntKind.i64 n_12] ∧
      ifB (n_12 == (4 : Int))
      (∃ (b : Nat),
      ∃ (off : Nat),
      a_3.x =
      some
      { block := b, off := off : Addr } ∧
      ((0 : Int) ≤
      (↑a_3.i : Int) ∧
      (↑a_3.i : Int) <
      (↑(ordC l).length :
      Int)) ∧
      ∃ (n_13 : Int),
      CellsAt m' b
      (off +
      (↑a_3.i :
      Int).toNat *
      (16 : Nat) +
      (12 : Nat) +
      (1 : Nat))
      [Value.int
      IntKind.i64
      n_13] ∧
      ifB (n_7 != n_13)
      (Done
      (Value.bool
      false =
      Value.bool
      true))
      (ifB
      (n_6 == (0 : Int))
      (∃ (b : Nat),
      ∃ (off : Nat),
      a_3.x =
      some
      { block := b, off := off : Addr } ∧
      ((0 : Int) ≤
      (↑a_3.i :
      Int) ∧
      (↑a_3.i :
      Int) <
      (↑(ordC
      l).length :
      Int)) ∧
      ∃ (n_14 :
      Int),
      CellsAt
      m' b
      (off +
      (↑a_3.i :
      Int).toNat *
      (16 :
      Nat) +
      (3 :
      Nat) +
      (0 :
      Nat))
      [Value.int
      IntKind.i64
      n_14] ∧
      ifB
      (n_14 ==
      (3 :
      Int))
      (∃
      (b
      :
      Nat),
      ∃
      (off
      :
      Nat),
      a_3.x =
      some
      { block := b, off := off : Addr } ∧
      ((0 :
      Int) ≤
      (↑a_3.i :
      Int) ∧
      (↑a_3.i :
      Int) <
      (↑(ordC
      l).length :
      Int)) ∧
      ∃
      (n_15
      :
      Int),
      CellsAt
      m'
      b
      (off +
      (↑a_3.i :
      Int).toNat *
      (16 :
      Nat) +
      (12 :
      Nat) +
      (2 :
      Nat))
      [Value.int
      IntKind.i64
      n_15] ∧
      ifB
      (decide
      (n_8 <
      n_15))
      (Done
      (Value.bool
      false =
      Value.bool
      true))
      (∃
      (b
      :
      Nat),
      ∃
      (off
      :
      Nat),
      a_3.x =
      some
      { block := b, off := off : Addr } ∧
      ((0 :
      Int) ≤
      (↑a_3.i :
      Int) ∧
      (↑a_3.i :
      Int) <
      (↑(ordC
      l).length :
      Int)) ∧
      ∃
      (n_16
      :
      Int),
      CellsAt
      m'
      b
      (off +
      (↑a_3.i :
      Int).toNat *
      (16 :
      Nat) +
      (12 :
      Nat) +
      (3 :
      Nat))
      [Value.int
      IntKind.i64
      n_16] ∧
      ifB
      (decide
      (n_9 >
      n_16))
      (Done
      (Value.bool
      false =
      Value.bool
      true))
      (∃
      (a'
      :
      WoX),
      (WoI
      l
      a' ∧
      m' =
      a'.m ∧
      ((SV.val
      (Value.int
      IntKind.i64
      (IntKind.i64.wrap
      ((↑a_3.i :
      Int) +
      (1 :
      Int)))) =
      SV.val
      (Value.int
      IntKind.i64
      (↑a'.i :
      Int)) ∧
      true =
      true) ∧
      (SV.val
      (Value.slice
      a_3.x
      (ordC
      l).length
      a_3.d) =
      SV.val
      (Value.slice
      a'.x
      (ordC
      l).length
      a'.d) ∧
      true =
      true) ∧
      (SV.val
      (Value.slice
      a_6
      n
      c) =
      SV.val
      (Value.slice
      a'.a
      (runC
      (List.take
      a'.i
      (ordC
      l))
      []).length
      a'.c) ∧
      true =
      true) ∧
      True) ∧
      True) ∧
      (ordC
      l).length -
      a'.i <
      (ordC
      l).length -
      a.i)))
      (∃
      (a'
      :
      WoX),
      (WoI
      l
      a' ∧
      m' =
      a'.m ∧
      ((SV.val
      (Value.int
      IntKind.i64
      (IntKind.i64.wrap
      ((↑a_3.i :
      Int) +
      (1 :
      Int)))) =
      SV.val
      (Value.int
      IntKind.i64
      (↑a'.i :
      Int)) ∧
      true =
      true) ∧
      (SV.val
      (Value.slice
      a_3.x
      (ordC
      l).length
      a_3.d) =
      SV.val
      (Value.slice
      a'.x
      (ordC
      l).length
      a'.d) ∧
      true =
      true) ∧
      (SV.val
      (Value.slice
      a_6
      n
      c) =
      SV.val
      (Value.slice
      a'.a
      (runC
      (List.take
      a'.i
      (ordC
      l))
      []).length
      a'.c) ∧
      true =
      true) ∧
      True) ∧
      True) ∧
      (ordC
      l).length -
      a'.i <
      (ordC
      l).length -
      a.i))
      (∃ (a' : WoX),
      (WoI l a' ∧
      m' = a'.m ∧
      ((SV.val
      (Value.int
      IntKind.i64
      (IntKind.i64.wrap
      ((↑a_3.i :
      Int) +
      (1 :
      Int)))) =
      SV.val
      (Value.int
      IntKind.i64
      (↑a'.i :
      Int)) ∧
      true =
      true) ∧
      (SV.val
      (Value.slice
      a_3.x
      (ordC
      l).length
      a_3.d) =
      SV.val
      (Value.slice
      a'.x
      (ordC
      l).length
      a'.d) ∧
      true =
      true) ∧
      (SV.val
      (Value.slice
      a_6
      n
      c) =
      SV.val
      (Value.slice
      a'.a
      (runC
      (List.take
      a'.i
      (ordC
      l))
      []).length
      a'.c) ∧
      true =
      true) ∧
      True) ∧
      True) ∧
      (ordC
      l).length -
      a'.i <
      (ordC
      l).length -
      a.i)))
      (ifB (n_6 == (0 : Int))
      (∃ (b : Nat),
      ∃ (off : Nat),
      a_3.x =
      some
      { block := b, off := off : Addr } ∧
      ((0 : Int) ≤
      (↑a_3.i : Int) ∧
      (↑a_3.i : Int) <
      (↑(ordC l).length :
      Int)) ∧
      ∃ (n_13 : Int),
      CellsAt m' b
      (off +
      (↑a_3.i :
      Int).toNat *
      (16 :
      Nat) +
      (3 : Nat) +
      (0 : Nat))
      [Value.int
      IntKind.i64
      n_13] ∧
      ifB
      (n_13 ==
      (3 : Int))
      (∃ (b : Nat),
      ∃ (off : Nat),
      a_3.x =
      some
      { block := b, off := off : Addr } ∧
      ((0 : Int) ≤
      (↑a_3.i :
      Int) ∧
      (↑a_3.i :
      Int) <
      (↑(ordC
      l).length :
      Int)) ∧
      ∃ (n_14 :
      Int),
      CellsAt
      m' b
      (off +
      (↑a_3.i :
      Int).toNat *
      (16 :
      Nat) +
      (12 :
      Nat) +
      (2 :
      Nat))
      [Value.int
      IntKind.i64
      n_14] ∧
      ifB
      (decide
      (n_8 <
      n_14))
      (Done
      (Value.bool
      false =
      Value.bool
      true))
      (∃
      (b
      :
      Nat),
      ∃
      (off
      :
      Nat),
      a_3.x =
      some
      { block := b, off := off : Addr } ∧
      ((0 :
      Int) ≤
      (↑a_3.i :
      Int) ∧
      (↑a_3.i :
      Int) <
      (↑(ordC
      l).length :
      Int)) ∧
      ∃
      (n_15
      :
      Int),
      CellsAt
      m'
      b
      (off +
      (↑a_3.i :
      Int).toNat *
      (16 :
      Nat) +
      (12 :
      Nat) +
      (3 :
      Nat))
      [Value.int
      IntKind.i64
      n_15] ∧
      ifB
      (decide
      (n_9 >
      n_15))
      (Done
      (Value.bool
      false =
      Value.bool
      true))
      (∃
      (a'
      :
      WoX),
      (WoI
      l
      a' ∧
      m' =
      a'.m ∧
      ((SV.val
      (Value.int
      IntKind.i64
      (IntKind.i64.wrap
      ((↑a_3.i :
      Int) +
      (1 :
      Int)))) =
      SV.val
      (Value.int
      IntKind.i64
      (↑a'.i :
      Int)) ∧
      true =
      true) ∧
      (SV.val
      (Value.slice
      a_3.x
      (ordC
      l).length
      a_3.d) =
      SV.val
      (Value.slice
      a'.x
      (ordC
      l).length
      a'.d) ∧
      true =
      true) ∧
      (SV.val
      (Value.slice
      a_6
      n
      c) =
      SV.val
      (Value.slice
      a'.a
      (runC
      (List.take
      a'.i
      (ordC
      l))
      []).length
      a'.c) ∧
      true =
      true) ∧
      True) ∧
      True) ∧
      (ordC
      l).length -
      a'.i <
      (ordC
      l).length -
      a.i)))
      (∃ (a' : WoX),
      (WoI l a' ∧
      m' = a'.m ∧
      ((SV.val
      (Value.int
      IntKind.i64
      (IntKind.i64.wrap
      ((↑a_3.i :
      Int) +
      (1 :
      Int)))) =
      SV.val
      (Value.int
      IntKind.i64
      (↑a'.i :
      Int)) ∧
      true =
      true) ∧
      (SV.val
      (Value.slice
      a_3.x
      (ordC
      l).length
      a_3.d) =
      SV.val
      (Value.slice
      a'.x
      (ordC
      l).length
      a'.d) ∧
      true =
      true) ∧
      (SV.val
      (Value.slice
      a_6
      n
      c) =
      SV.val
      (Value.slice
      a'.a
      (runC
      (List.take
      a'.i
      (ordC
      l))
      []).length
      a'.c) ∧
      true =
      true) ∧
      True) ∧
      True) ∧
      (ordC
      l).length -
      a'.i <
      (ordC
      l).length -
      a.i))
      (∃ (a' : WoX),
      (WoI l a' ∧
      m' = a'.m ∧
      ((SV.val
      (Value.int
      IntKind.i64
      (IntKind.i64.wrap
      ((↑a_3.i :
      Int) +
      (1 :
      Int)))) =
      SV.val
      (Value.int
      IntKind.i64
      (↑a'.i :
      Int)) ∧
      true = true) ∧
      (SV.val
      (Value.slice
      a_3.x
      (ordC
      l).length
      a_3.d) =
      SV.val
      (Value.slice
      a'.x
      (ordC
      l).length
      a'.d) ∧
      true = true) ∧
      (SV.val
      (Value.slice
      a_6 n
      c) =
      SV.val
      (Value.slice
      a'.a
      (runC
      (List.take
      a'.i
      (ordC
      l))
      []).length
      a'.c) ∧
      true = true) ∧
      True) ∧
      True) ∧
      (ordC l).length - a'.i <
      (ordC l).length - a.i)))
      (ifB (n_6 == (0 : Int))
      (∃ (b : Nat),
      ∃ (off : Nat),
      a_3.x =
      some
      { block := b, off := off : Addr } ∧
      ((0 : Int) ≤ (↑a_3.i : Int) ∧
      (↑a_3.i : Int) <
      (↑(ordC l).length : Int)) ∧
      ∃ (n_12 : Int),
      CellsAt m' b
      (off +
      (↑a_3.i : Int).toNat *
      (16 : Nat) +
      (3 : Nat) +
      (0 : Nat))
      [Value.int IntKind.i64 n_12] ∧
      ifB (n_12 == (3 : Int))
      (∃ (b : Nat),
      ∃ (off : Nat),
      a_3.x =
      some
      { block := b, off := off : Addr } ∧
      ((0 : Int) ≤
      (↑a_3.i : Int) ∧
      (↑a_3.i : Int) <
      (↑(ordC l).length :
      Int)) ∧
      ∃ (n_13 : Int),
      CellsAt m' b
      (off +
      (↑a_3.i :
      Int).toNat *
      (16 :
      Nat) +
      (12 : Nat) +
      (2 : Nat))
      [Value.int
      IntKind.i64
      n_13] ∧
      ifB
      (decide
      (n_8 < n_13))
      (Done
      (Value.bool
      false =
      Value.bool
      true))
      (∃ (b : Nat),
      ∃ (off : Nat),
      a_3.x =
      some
      { block := b, off := off : Addr } ∧
      ((0 : Int) ≤
      (↑a_3.i :
      Int) ∧
      (↑a_3.i :
      Int) <
      (↑(ordC
      l).length :
      Int)) ∧
      ∃ (n_14 :
      Int),
      CellsAt
      m' b
      (off +
      (↑a_3.i :
      Int).toNat *
      (16 :
      Nat) +
      (12 :
      Nat) +
      (3 :
      Nat))
      [Value.int
      IntKind.i64
      n_14] ∧
      ifB
      (decide
      (n_9 >
      n_14))
      (Done
      (Value.bool
      false =
      Value.bool
      true))
      (∃
      (a'
      :
      WoX),
      (WoI
      l
      a' ∧
      m' =
      a'.m ∧
      ((SV.val
      (Value.int
      IntKind.i64
      (IntKind.i64.wrap
      ((↑a_3.i :
      Int) +
      (1 :
      Int)))) =
      SV.val
      (Value.int
      IntKind.i64
      (↑a'.i :
      Int)) ∧
      true =
      true) ∧
      (SV.val
      (Value.slice
      a_3.x
      (ordC
      l).length
      a_3.d) =
      SV.val
      (Value.slice
      a'.x
      (ordC
      l).length
      a'.d) ∧
      true =
      true) ∧
      (SV.val
      (Value.slice
      a_6
      n
      c) =
      SV.val
      (Value.slice
      a'.a
      (runC
      (List.take
      a'.i
      (ordC
      l))
      []).length
      a'.c) ∧
      true =
      true) ∧
      True) ∧
      True) ∧
      (ordC
      l).length -
      a'.i <
      (ordC
      l).length -
      a.i)))
      (∃ (a' : WoX),
      (WoI l a' ∧
      m' = a'.m ∧
      ((SV.val
      (Value.int
      IntKind.i64
      (IntKind.i64.wrap
      ((↑a_3.i :
      Int) +
      (1 :
      Int)))) =
      SV.val
      (Value.int
      IntKind.i64
      (↑a'.i :
      Int)) ∧
      true = true) ∧
      (SV.val
      (Value.slice
      a_3.x
      (ordC
      l).length
      a_3.d) =
      SV.val
      (Value.slice
      a'.x
      (ordC
      l).length
      a'.d) ∧
      true = true) ∧
      (SV.val
      (Value.slice
      a_6 n
      c) =
      SV.val
      (Value.slice
      a'.a
      (runC
      (List.take
      a'.i
      (ordC
      l))
      []).length
      a'.c) ∧
      true = true) ∧
      True) ∧
      True) ∧
      (ordC l).length - a'.i <
      (ordC l).length - a.i))
      (∃ (a' : WoX),
      (WoI l a' ∧
      m' = a'.m ∧
      ((SV.val
      (Value.int IntKind.i64
      (IntKind.i64.wrap
      ((↑a_3.i : Int) +
      (1 : Int)))) =
      SV.val
      (Value.int IntKind.i64
      (↑a'.i : Int)) ∧
      true = true) ∧
      (SV.val
      (Value.slice a_3.x
      (ordC l).length a_3.d) =
      SV.val
      (Value.slice a'.x
      (ordC l).length a'.d) ∧
      true = true) ∧
      (SV.val (Value.slice a_6 n c) =
      SV.val
      (Value.slice a'.a
      (runC
      (List.take a'.i
      (ordC l))
      []).length
      a'.c) ∧
      true = true) ∧
      True) ∧
      True) ∧
      (ordC l).length - a'.i <
      (ordC l).length - a.i))))))
      (Done (Value.bool true = Value.bool true)))))) (by kernel_rfl) ?_
  have h' := h.sz hN
  have hle := ordC_le l
  have w : ∀ k, k < l.length → IntKind.i64.wrap ((k : Int) + 1) = ((k + 1 : Nat) : Int) := fun k hk => by simp [IntKind.wrap_i64]; omega
  refine ⟨rfl, _, _, wLegal_q a cp l hn hcp hl _ h', _, wawake_q _, ifB_false ?_⟩
  rcases leg_cases l with ⟨hg, e⟩ | ⟨h1, h2, h3⟩
  · rw [e]
    refine ifB_false (ifB_false' (by simp) ?_)
    refine ⟨_, noS, fun N1 hN1 => (wOrder_s a cp l hn _ (h'.sz hN1)).monoW fun v1 m1 ag1 q1 => ?_⟩
    obtain ⟨x, d, e1, r1⟩ := q1
    refine ⟨x, _, d, e1, ⟨⟨0, 0, x, d, none, 0, m1⟩, ⟨Nat.zero_le _, r1, .nil _⟩, rfl, by simp [runC]⟩, fun y Y => ifB_intro (fun hb => ?_) (fun hb => ⟨rfl⟩)⟩
    have hi : y.i < (ordC l).length := by simpa using hb
    refine ⟨⟨⟨y.i, y.i + 1, y.x, y.d, y.a, y.c, y.m⟩, ⟨⟨⟨Y.i, Y.ns, Y.t⟩, hi, by simp, hi⟩, rfl, by simp [w _ (show y.i < l.length by omega)]⟩, rfl⟩, fun z ⟨⟨Z, z1, z2, z3⟩, zc⟩ => ifB_intro (fun hb => ?_) (fun hb => ?_)⟩
    · have hk : z.k < (ordC l).length := by simpa using hb
      obtain ⟨b, o, hx, hc⟩ := Z.ns.cells (by rw [cl_len]; omega)
      have P := ord_pair hg.frm z2 (show z.k < (ordL l).length by rw [← ordC_len]; exact hk)
      rw [← ordC_get, ← ordC_get] at P
      have nx : ∃ a' : WoX, (((WoI l a' ∧ a'.i < (ordC l).length ∧ a'.i < a'.k ∧ a'.k ≤ (ordC l).length) ∧ z.m = a'.m ∧ ((SV.val (.int .i64 (IntKind.i64.wrap ((z.k : Int) + 1))) = SV.val (I a'.k) ∧ true = true) ∧ (SV.val (I z.i) = SV.val (I a'.i) ∧ true = true) ∧ (SV.val (.slice z.x (ordC l).length z.d) = SV.val (.slice a'.x (ordC l).length a'.d) ∧ true = true) ∧ (SV.val (.slice z.a (runC (List.take z.i (ordC l)) []).length z.c) = SV.val (.slice a'.a (runC (List.take a'.i (ordC l)) []).length a'.c) ∧ true = true) ∧ True) ∧ True) ∧ [(ordC l).length - y.i] = [(ordC l).length - a'.i]) ∧ (ordC l).length - a'.k < (ordC l).length - z.k :=
        ⟨⟨z.i, z.k + 1, z.x, z.d, z.a, z.c, z.m⟩, ⟨⟨⟨⟨Z.i, Z.ns, Z.t⟩, z1, by simp only; omega, hk⟩, rfl, by simp [w _ (show z.k < l.length by omega)]⟩, zc⟩, by simp only; omega⟩
      have tail : ∃ b off, z.x = some { block := b, off := off } ∧ (0 ≤ (z.i : Int) ∧ (z.i : Int) < ((ordC l).length : Int)) ∧ ∃ n, CellsAt z.m b (off + (z.i : Int).toNat * 16 + 0) [I n] ∧ ∃ b off, z.x = some { block := b, off := off } ∧ (0 ≤ (z.k : Int) ∧ (z.k : Int) < ((ordC l).length : Int)) ∧ ∃ n_3, CellsAt z.m b (off + (z.k : Int).toNat * 16 + 0) [I n_3] ∧ ifB (n == n_3) (∃ b off, z.x = some { block := b, off := off } ∧ (0 ≤ (z.i : Int) ∧ (z.i : Int) < ((ordC l).length : Int)) ∧ ∃ n, CellsAt z.m b (off + (z.i : Int).toNat * 16 + 1) [I n] ∧ ∃ b off, z.x = some { block := b, off := off } ∧ (0 ≤ (z.k : Int) ∧ (z.k : Int) < ((ordC l).length : Int)) ∧ ∃ n_4, CellsAt z.m b (off + (z.k : Int).toNat * 16 + 1) [I n_4] ∧ ifB (decide (n ≥ n_4)) (Done (Value.bool false = Value.bool true)) (∃ a' : WoX, (((WoI l a' ∧ a'.i < (ordC l).length ∧ a'.i < a'.k ∧ a'.k ≤ (ordC l).length) ∧ z.m = a'.m ∧ ((SV.val (.int .i64 (IntKind.i64.wrap ((z.k : Int) + 1))) = SV.val (I a'.k) ∧ true = true) ∧ (SV.val (I z.i) = SV.val (I a'.i) ∧ true = true) ∧ (SV.val (.slice z.x (ordC l).length z.d) = SV.val (.slice a'.x (ordC l).length a'.d) ∧ true = true) ∧ (SV.val (.slice z.a (runC (List.take z.i (ordC l)) []).length z.c) = SV.val (.slice a'.a (runC (List.take a'.i (ordC l)) []).length a'.c) ∧ true = true) ∧ True) ∧ True) ∧ [(ordC l).length - y.i] = [(ordC l).length - a'.i]) ∧ (ordC l).length - a'.k < (ordC l).length - z.k)) (∃ a' : WoX, (((WoI l a' ∧ a'.i < (ordC l).length ∧ a'.i < a'.k ∧ a'.k ≤ (ordC l).length) ∧ z.m = a'.m ∧ ((SV.val (.int .i64 (IntKind.i64.wrap ((z.k : Int) + 1))) = SV.val (I a'.k) ∧ true = true) ∧ (SV.val (I z.i) = SV.val (I a'.i) ∧ true = true) ∧ (SV.val (.slice z.x (ordC l).length z.d) = SV.val (.slice a'.x (ordC l).length a'.d) ∧ true = true) ∧ (SV.val (.slice z.a (runC (List.take z.i (ordC l)) []).length z.c) = SV.val (.slice a'.a (runC (List.take a'.i (ordC l)) []).length a'.c) ∧ true = true) ∧ True) ∧ True) ∧ [(ordC l).length - y.i] = [(ordC l).length - a'.i]) ∧ (ordC l).length - a'.k < (ordC l).length - z.k) := by
        refine ⟨b, o, hx, by omega, _, by simpa using fld_at hc z1 0 _ rfl, b, o, hx, by omega, _, by simpa using fld_at hc hk 0 _ rfl, ifB_intro (fun h1 => ⟨b, o, hx, by omega, _, by simpa using fld_at hc z1 1 _ rfl, b, o, hx, by omega, _, by simpa using fld_at hc hk 1 _ rfl, ifB_false' ?_ nx⟩) (fun h1 => nx)⟩
        have h1 : (ordC l)[z.i].cl = (ordC l)[z.k].cl := by simpa using h1
        have := P.2
        simp only [h1, true_and] at this
        simp; omega
      refine ⟨rfl, b, o, hx, by omega, _, by simpa using fld_at hc hk 11 _ rfl, ifB_intro (fun h1 => ⟨b, o, hx, by omega, _, by simpa using fld_at hc hk 11 _ rfl, b, o, hx, by omega, _, by simpa using fld_at hc z1 9 _ rfl, ifB_false' ?_ tail⟩) (fun h1 => tail)⟩
      have h1 : (ordC l)[z.k].aw ≠ 0 := by simpa using h1
      have := P.1
      simp; omega
    · have hi2 : z.i < (ordL l).length := by rw [← ordC_len]; exact z1
      obtain ⟨b, o, hx, hc⟩ := Z.ns.cells (by rw [cl_len]; omega)
      have T := run_tot hl z.i
      have tl := T.len
      have e := run_take hi2
      have hs := (sec_at hg.sec z.i (by omega)).2 hi2
      rw [← ordC_get hi2] at hs e
      have hown := ordC_wf hl _ (List.getElem_mem z1)
      have hop : CellsAt z.m b (o + z.i * 16 + 3) (encOq (opC (ordC l)[z.i])) := CellsAt.field cl_k hc z1 (p := [I (ordC l)[z.i].cl, I (ordC l)[z.i].sq, I (ordC l)[z.i].nd]) (old := encOq (opC (ordC l)[z.i])) (q := [I (ordC l)[z.i].ca, I (ordC l)[z.i].mo, I (ordC l)[z.i].aw, I (ordC l)[z.i].an_er, I (ordC l)[z.i].an_va, I (ordC l)[z.i].an_le, I (ordC l)[z.i].an_mo]) rfl
      refine ⟨b, o, hx, by omega, _, _, _, _, _, _, by simpa using hop, ?_⟩
      refine ⟨_, noS, fun N2 hN2 => (wdo_s z.a z.c _ (opC (ordC l)[z.i]) (by omega) T.wf (opC_wf hown) _ (Z.t.sz hN2)).monoW fun v2 m2 hag2 q2 => ?_⟩
      obtain ⟨x2, d2, hv2, hr2⟩ := q2
      have hns := (Z.ns.sz hN2).agree hag2
      obtain ⟨b3, o3, hx3, hc3⟩ := hns.cells (by rw [cl_len]; omega)
      have hyz : y.i = z.i := by simp at zc; omega
      generalize hga : (doT (runC ((ordC l).take z.i) []) (opC (ordC l)[z.i])).2 = A at *
      have nx : ∃ a' : WoX, (WoI l a' ∧ m2 = a'.m ∧ ((SV.val (.int .i64 (IntKind.i64.wrap ((z.i : Int) + 1))) = SV.val (I a'.i) ∧ true = true) ∧ (SV.val (.slice z.x (ordC l).length z.d) = SV.val (.slice a'.x (ordC l).length a'.d) ∧ true = true) ∧ (SV.val (.slice x2 (doT (runC ((ordC l).take z.i) []) (opC (ordC l)[z.i])).1.length d2) = SV.val (.slice a'.a (runC (List.take a'.i (ordC l)) []).length a'.c) ∧ true = true) ∧ True) ∧ True) ∧ (ordC l).length - a'.i < (ordC l).length - y.i :=
        ⟨⟨z.i + 1, 0, z.x, z.d, x2, d2, m2⟩, ⟨⟨z1, hns, by simp only; rw [e]; exact hr2⟩, rfl, by simp only [e]; simp [w _ (show z.i < l.length by omega)]⟩, by simp only; omega⟩
      have f : ∀ (j : Nat) (v : Value), (encCl (ordC l)[z.i])[j]? = some v → CellsAt m2 b3 (o3 + z.i * 16 + j) [v] := fun j v hv => fld_at hc3 z1 j v hv
      refine ⟨_, _, _, _, _, _, _, hv2, b3, o3, hx3, by omega, _, by simpa using f 11 _ rfl, ifB_intro (fun h1 => nx) (fun h1 => ?_)⟩
      have h1 : (ordC l)[z.i].aw ≠ 0 := by simpa using h1
      obtain ⟨g1, g2⟩ := rig_fields hs h1
      have tail : ifB (A.er == 0) (∃ b off, z.x = some { block := b, off := off } ∧ (0 ≤ (z.i : Int) ∧ (z.i : Int) < ((ordC l).length : Int)) ∧ ∃ n, CellsAt m2 b (off + (z.i : Int).toNat * 16 + 3 + 0) [I n] ∧ ifB (n == 3) (∃ b off, z.x = some { block := b, off := off } ∧ (0 ≤ (z.i : Int) ∧ (z.i : Int) < ((ordC l).length : Int)) ∧ ∃ n, CellsAt m2 b (off + (z.i : Int).toNat * 16 + 12 + 2) [I n] ∧ ifB (decide (A.le < n)) (Done (Value.bool false = Value.bool true)) (∃ b off, z.x = some { block := b, off := off } ∧ (0 ≤ (z.i : Int) ∧ (z.i : Int) < ((ordC l).length : Int)) ∧ ∃ n, CellsAt m2 b (off + (z.i : Int).toNat * 16 + 12 + 3) [I n] ∧ ifB (decide (A.mo > n)) (Done (Value.bool false = Value.bool true)) (∃ a' : WoX, (WoI l a' ∧ m2 = a'.m ∧ ((SV.val (.int .i64 (IntKind.i64.wrap ((z.i : Int) + 1))) = SV.val (I a'.i) ∧ true = true) ∧ (SV.val (.slice z.x (ordC l).length z.d) = SV.val (.slice a'.x (ordC l).length a'.d) ∧ true = true) ∧ (SV.val (.slice x2 (doT (runC ((ordC l).take z.i) []) (opC (ordC l)[z.i])).1.length d2) = SV.val (.slice a'.a (runC (List.take a'.i (ordC l)) []).length a'.c) ∧ true = true) ∧ True) ∧ True) ∧ (ordC l).length - a'.i < (ordC l).length - y.i))) (∃ a' : WoX, (WoI l a' ∧ m2 = a'.m ∧ ((SV.val (.int .i64 (IntKind.i64.wrap ((z.i : Int) + 1))) = SV.val (I a'.i) ∧ true = true) ∧ (SV.val (.slice z.x (ordC l).length z.d) = SV.val (.slice a'.x (ordC l).length a'.d) ∧ true = true) ∧ (SV.val (.slice x2 (doT (runC ((ordC l).take z.i) []) (opC (ordC l)[z.i])).1.length d2) = SV.val (.slice a'.a (runC (List.take a'.i (ordC l)) []).length a'.c) ∧ true = true) ∧ True) ∧ True) ∧ (ordC l).length - a'.i < (ordC l).length - y.i)) (∃ a' : WoX, (WoI l a' ∧ m2 = a'.m ∧ ((SV.val (.int .i64 (IntKind.i64.wrap ((z.i : Int) + 1))) = SV.val (I a'.i) ∧ true = true) ∧ (SV.val (.slice z.x (ordC l).length z.d) = SV.val (.slice a'.x (ordC l).length a'.d) ∧ true = true) ∧ (SV.val (.slice x2 (doT (runC ((ordC l).take z.i) []) (opC (ordC l)[z.i])).1.length d2) = SV.val (.slice a'.a (runC (List.take a'.i (ordC l)) []).length a'.c) ∧ true = true) ∧ True) ∧ True) ∧ (ordC l).length - a'.i < (ordC l).length - y.i) := by
        refine ifB_intro (fun h2 => ⟨b3, o3, hx3, by omega, _, by simpa using f 3 _ rfl, ifB_intro (fun h3 => ⟨b3, o3, hx3, by omega, _, by simpa using f 14 _ rfl, ifB_false' ?_ ⟨b3, o3, hx3, by omega, _, by simpa using f 15 _ rfl, ifB_false' ?_ nx⟩⟩) (fun h3 => nx)⟩) (fun h2 => nx)
        all_goals
          have := (g2 (by simpa using h2)).2 (by simpa using h3)
          simp; omega
      refine ⟨rfl, b3, o3, hx3, by omega, _, by simpa using f 12 _ rfl, ifB_false' (by simp [g1]) (ifB_intro (fun h2 => ⟨b3, o3, hx3, by omega, _, by simpa using f 3 _ rfl, ifB_intro (fun h3 => ⟨b3, o3, hx3, by omega, _, by simpa using f 13 _ rfl, ifB_false' ?_ tail⟩) (fun h3 => tail)⟩) (fun h2 => tail))⟩
      have := (g2 (by simpa using h2)).1 (by simpa using h3)
      simp [this]
  · refine ifB_true' (by simpa using h1) ⟨_, wawake_q _, ifB_true (ifB_intro (fun h4 => ⟨?_⟩) (fun h4 => ?_))⟩
    · simp [h3]
    · simp at h4; omega

end Go.Proofs.Ytbhlhnkjmncloaa
set_option linter.unusedVariables false
set_option linter.unusedSimpArgs false
namespace Go.Proofs.Ytbhlhnkjmncloaa
open Go.Vc Go.RowKit
set_option maxRecDepth 100000

theorem moA_rev {l : List Cl} {i : Nat} (h : i < l.length) : moA l.reverse i = moA l (l.length - 1 - i) ∧ clA l.reverse i = clA l (l.length - 1 - i) := by
  have : l.reverse[i]? = l[l.length - 1 - i]? := List.getElem?_reverse h
  simp [moA, clA, this]

theorem strict_mo {l : List Cl} (h : ∀ k (hk : k < (ordC l).length), 1 ≤ k → (ordC l)[k].mo ≠ ((ordC l)[k - 1]'(by omega)).mo) : ∀ i k (hik : i < k) (hk : k < (ordL l).length), moA l ((ordL l)[i]'(by omega)) < moA l (ordL l)[k] := by
  intro i k
  induction k with
  | zero => intro hik; omega
  | succ k ih =>
    intro hik hk
    have h1 := h (k + 1) (by rw [ordC_len]; exact hk) (by omega)
    rw [ordC_get hk] at h1
    have h2 : ((ordC l)[k + 1 - 1]'(by rw [ordC_len]; omega)).mo = moA l ((ordL l)[k]'(by omega)) := by
      rw [moA_cl, ← ordC_get]
      rfl
    rw [h2, ← moA_cl] at h1
    have h3 := mo_le (show k < k + 1 by omega) hk
    rw [← moA_cl, ← moA_cl] at h3
    by_cases e : i = k
    · subst e; omega
    · have := ih (by omega) (by omega)
      omega

theorem ordL_rev {l : List Cl} (h : ∀ k (hk : k < (ordC l).length), 1 ≤ k → (ordC l)[k].mo ≠ ((ordC l)[k - 1]'(by omega)).mo) : ordL l.reverse = (ordL l).map fun i => l.length - 1 - i := by
  have hs := strict_mo h
  refine (ordL_is l.reverse).uniq ⟨?_, fun i => ?_⟩
  · rw [List.pairwise_map, List.pairwise_iff_getElem]
    intro i k hi hk hik
    have h1 := ordL_lt (List.getElem_mem hi)
    have h2 := ordL_lt (List.getElem_mem hk)
    refine .inl ?_
    rw [(moA_rev (show l.length - 1 - (ordL l)[i] < l.length by omega)).1, (moA_rev (show l.length - 1 - (ordL l)[k] < l.length by omega)).1]
    rw [show l.length - 1 - (l.length - 1 - (ordL l)[i]) = (ordL l)[i] by omega, show l.length - 1 - (l.length - 1 - (ordL l)[k]) = (ordL l)[k] by omega]
    exact hs i k hik hk
  · rw [List.mem_map, List.length_reverse]
    constructor
    · rintro ⟨j, hj, rfl⟩
      have h1 := ((ordL_is l).mem j).1 hj
      refine ⟨by omega, ?_⟩
      rw [(moA_rev (show l.length - 1 - j < l.length by omega)).1, show l.length - 1 - (l.length - 1 - j) = j by omega]
      exact h1.2
    · rintro ⟨h1, h2⟩
      rw [(moA_rev h1).1] at h2
      exact ⟨l.length - 1 - i, ((ordL_is l).mem _).2 ⟨by omega, h2⟩, by omega⟩

theorem ordC_rev {l : List Cl} (h : ∀ k (hk : k < (ordC l).length), 1 ≤ k → (ordC l)[k].mo ≠ ((ordC l)[k - 1]'(by omega)).mo) : ordC l.reverse = ordC l := by
  unfold ordC
  rw [ordL_rev h, List.map_map]
  refine List.map_congr_left fun i hi => ?_
  have h1 := ordL_lt hi
  simp only [Function.comp]
  rw [(moA_rev (show l.length - 1 - i < l.length by omega)).2, show l.length - 1 - (l.length - 1 - i) = i by omega]

structure WrX where
  i : Nat
  la : Int
  x : Option Addr
  d : Nat
  a : Option Addr
  c : Nat
  z : Option Addr
  e : Nat
  m1 : M
  m : M

structure WrI (l : List Cl) (al : Option Addr) (y : WrX) : Prop where
  ns : Row y.m y.x (cls (ordC l))
  src : Row y.m al (cls l)

theorem witnessruns (a : Option Addr) (cp : Nat) (l : List Cl) (hn : l.length ≤ 977343669105) (hl : ∀ x ∈ l, x.wf) (m : M) (h : Row m a (cls l)) :
    QSpec Try.prog 5 [.slice a l.length cp] m (.bool true) := by
  refine QSpec.of_vc Try.func5 (ann := fun n r => match r with
    | 5 => { A := WrX, inv := fun y => WrI l a y ∧ n ≤ y.m.sz ∧ y.i ≤ (ordC l).length ∧ Row y.m y.a (tts (runC ((ordC l).take y.i) [])) ∧ (∀ k (hk : k < (ordC l).length), y.i ≤ k → y.la ≤ (ordC l)[k].mo), st := fun y => [(6, .val (I y.i)), (4, .val (.slice y.x (ordC l).length y.d)), (5, .val (I y.la)), (3, .val (.slice y.a (runC ((ordC l).take y.i) []).length y.c)), (0, .val (.slice a l.length cp))], own := fun _ => [], m := fun y => y.m, μ := fun y => (ordC l).length - y.i }
    | 15 => { A := WrX, inv := fun y => WrI l a { y with m := y.m1 } ∧ y.i ≤ l.length ∧ Row y.m1 y.a (tts (runC (ordC l) [])) ∧ NewR y.m1.sz (fun _ => False) y.m 16 y.z (l.length - y.i) y.e (cls ((l.drop y.i).reverse)) ∧ n ≤ y.m1.sz ∧ Agree y.m1.sz y.m1 y.m, st := fun y => [(8, .val (I ((y.i : Int) - 1))), (4, .val (.slice y.x (ordC l).length y.d)), (7, .val (.slice y.z (l.length - y.i) y.e)), (3, .val (.slice y.a (runC (ordC l) []).length y.c)), (0, .val (.slice a l.length cp))], own := fun _ => [], m := fun y => y.m, μ := fun y => y.i }
    | 19 => { A := WrX, inv := fun y => WrI l a y ∧ 1 ≤ y.i ∧ Row y.m y.a (tts (runC (ordC l) [])) ∧ Row y.m y.z (cls l.reverse) ∧ (∀ k (hk : k < (ordC l).length), 1 ≤ k → k < y.i → (ordC l)[k].mo ≠ ((ordC l)[k - 1]'(by omega)).mo), st := fun y => [(9, .val (I y.i)), (4, .val (.slice y.x (ordC l).length y.d)), (7, .val (.slice y.z l.length y.e)), (3, .val (.slice y.a (runC (ordC l) []).length y.c))], own := fun _ => [], m := fun y => y.m, μ := fun y => (ordC l).length - y.i }
    | _ => noAnn 0) fun N hN => ?_
  refine vc_by (X :=
      true = true ∧
      ∃ (S' : Nat → Prop),
      (∀ (b : Nat), S' b → m.uf b ∧ (N ≤ b ∨ False)) ∧
      ∀ (n : Nat),
      N ≤ n →
      SpecW Try.prog (21 : Nat) [Value.slice a l.length cp] { π := m.π, sz := n, uf := m.uf : M } S' fun (v : Value) (m' : M) =>
      ∃ (a_2 : Option Addr),
      ∃ (n : Nat),
      ∃ (c : Nat),
      v = Value.slice a_2 n c ∧
      (∃ (a_3 : WrX),
      (WrI l a a_3 ∧
      N ≤ a_3.m.sz ∧
      a_3.i ≤ (ordC l).length ∧
      Row a_3.m a_3.a (tts (runC (List.take a_3.i (ordC l)) [])) ∧ ∀ (k : Nat) (hk : k < (ordC l).length), a_3.i ≤ k → a_3.la ≤ (ordC l)[k].mo) ∧
      m' = a_3.m ∧
      ((SV.val (Value.int IntKind.i64 (0 : Int)) = SV.val (Value.int IntKind.i64 (↑a_3.i : Int)) ∧ true = true) ∧
      (SV.val (Value.slice a_2 n c) = SV.val (Value.slice a_3.x (ordC l).length a_3.d) ∧ true = true) ∧
      (SV.val (Value.int IntKind.i64 (0 : Int)) = SV.val (Value.int IntKind.i64 a_3.la) ∧ true = true) ∧
      (SV.val (Value.slice none (0 : Nat) (0 : Nat)) = SV.val (Value.slice a_3.a (runC (List.take a_3.i (ordC l)) []).length a_3.c) ∧ true = true) ∧
      (SV.val (Value.slice a l.length cp) = SV.val (Value.slice a l.length cp) ∧ true = true) ∧ True) ∧
      True) ∧
      ∀ (a_3 : WrX),
      (WrI l a a_3 ∧
      N ≤ a_3.m.sz ∧
      a_3.i ≤ (ordC l).length ∧
      Row a_3.m a_3.a (tts (runC (List.take a_3.i (ordC l)) [])) ∧ ∀ (k : Nat) (hk : k < (ordC l).length), a_3.i ≤ k → a_3.la ≤ (ordC l)[k].mo) →
      ifB (decide ((↑a_3.i : Int) < (↑(ordC l).length : Int)))
      (∃ (b : Nat),
      ∃ (off : Nat),
      a_3.x = some { block := b, off := off : Addr } ∧
      ((0 : Int) ≤ (↑a_3.i : Int) ∧ (↑a_3.i : Int) < (↑(ordC l).length : Int)) ∧
      ∃ (n : Int),
      CellsAt a_3.m b (off + (↑a_3.i : Int).toNat * (16 : Nat) + (10 : Nat)) [Value.int IntKind.i64 n] ∧
      ifB (decide (n ≤ (0 : Int))) (Done (Value.bool false = Value.bool true))
      (∃ (b : Nat),
      ∃ (off : Nat),
      a_3.x = some { block := b, off := off : Addr } ∧
      ((0 : Int) ≤ (↑a_3.i : Int) ∧ (↑a_3.i : Int) < (↑(ordC l).length : Int)) ∧
      ∃ (n : Int),
      CellsAt a_3.m b (off + (↑a_3.i : Int).toNat * (16 : Nat) + (10 : Nat)) [Value.int IntKind.i64 n] ∧
      ifB (decide (n < a_3.la)) (Done (Value.bool false = Value.bool true))
      (∃ (b : Nat),
      ∃ (off : Nat),
      a_3.x = some { block := b, off := off : Addr } ∧
      ((0 : Int) ≤ (↑a_3.i : Int) ∧ (↑a_3.i : Int) < (↑(ordC l).length : Int)) ∧
      ∃ (n : Int),
      CellsAt a_3.m b (off + (↑a_3.i : Int).toNat * (16 : Nat) + (10 : Nat)) [Value.int IntKind.i64 n] ∧
      ∃ (b : Nat),
      ∃ (off : Nat),
      a_3.x = some { block := b, off := off : Addr } ∧
      ((0 : Int) ≤ (↑a_3.i : Int) ∧ (↑a_3.i : Int) < (↑(ordC l).length : Int)) ∧
      ∃ (n_1 : Int),
      ∃ (s : ByteArray),
      ∃ (s_1 : ByteArray),
      ∃ (n_2 : Int),
      ∃ (n_3 : Int),
      ∃ (n_4 : Int),
      CellsAt a_3.m b (off + (↑a_3.i : Int).toNat * (16 : Nat) + (3 : Nat))
      [Value.int IntKind.i64 n_1, Value.string s, Value.string s_1, Value.int IntKind.i64 n_2,
      Value.int IntKind.i64 n_3, Value.int IntKind.i64 n_4] ∧
      ∃ (S' : Nat → Prop),
      (∀ (b : Nat), S' b → a_3.m.uf b ∧ (N ≤ b ∨ False)) ∧
      ∀ (n_5 : Nat),
      a_3.m.sz ≤ n_5 →
      SpecW Try.prog (12 : Nat)
      [Value.slice a_3.a (runC (List.take a_3.i (ordC l)) []).length a_3.c,
      Value.agg
      #[Value.int IntKind.i64 n_1, Value.string s, Value.string s_1,
      Value.int IntKind.i64 n_2, Value.int IntKind.i64 n_3,
      Value.int IntKind.i64 n_4]]
      { π := a_3.m.π, sz := n_5, uf := a_3.m.uf : M } S' fun (v : Value) (m' : M) =>
      ∃ (a_6 : Option Addr),
      ∃ (n_6 : Nat),
      ∃ (c : Nat),
      ∃ (n_7 : Int),
      ∃ (n_8 : Int),
      ∃ (n_9 : Int),
      ∃ (n_10 : Int),
      v =
      Value.tuple
      #[Value.slice a_6 n_6 c,
      Value.agg
      #[Value.int IntKind.i64 n_7, Value.int IntKind.i64 n_8,
      Value.int IntKind.i64 n_9,
      Value.int IntKind.i64 n_10]] ∧
      ∃ (a' : WrX),
      ((WrI l a a' ∧
      N ≤ a'.m.sz ∧
      a'.i ≤ (ordC l).length ∧
      Row a'.m a'.a
      (tts (runC (List.take a'.i (ordC l)) [])) ∧
      ∀ (k : Nat) (hk : k < (ordC l).length),
      a'.i ≤ k → a'.la ≤ (ordC l)[k].mo) ∧
      m' = a'.m ∧
      ((SV.val
      (Value.int IntKind.i64
      (IntKind.i64.wrap
      ((↑a_3.i : Int) + (1 : Int)))) =
      SV.val (Value.int IntKind.i64 (↑a'.i : Int)) ∧
      true = true) ∧
      (SV.val (Value.slice a_3.x (ordC l).length a_3.d) =
      SV.val
      (Value.slice a'.x (ordC l).length a'.d) ∧
      true = true) ∧
      (SV.val (Value.int IntKind.i64 n) =
      SV.val (Value.int IntKind.i64 a'.la) ∧
      true = true) ∧
      (SV.val (Value.slice a_6 n_6 c) =
      SV.val
      (Value.slice a'.a
      (runC (List.take a'.i (ordC l))
      []).length
      a'.c) ∧
      true = true) ∧
      (SV.val (Value.slice a l.length cp) =
      SV.val (Value.slice a l.length cp) ∧
      true = true) ∧
      True) ∧
      True) ∧
      (ordC l).length - a'.i < (ordC l).length - a_3.i)))
      (∃ (b : Bool),
      QSpec Try.prog (14 : Nat) [] a_3.m (Value.bool b) ∧
      ifB (!b) (Done (Value.bool false = Value.bool true))
      (∃ (S' : Nat → Prop),
      (∀ (b : Nat), S' b → a_3.m.uf b ∧ (N ≤ b ∨ False)) ∧
      ∀ (n : Nat),
      a_3.m.sz ≤ n →
      SpecW Try.prog (22 : Nat) [Value.slice a l.length cp] { π := a_3.m.π, sz := n, uf := a_3.m.uf : M } S' fun (v : Value) (m' : M) =>
      ∃ (a_6 : Option Addr),
      ∃ (n : Nat),
      ∃ (c : Nat),
      v = Value.slice a_6 n c ∧
      ∃ (b : Bool),
      QSpec Try.prog (16 : Nat) [Value.slice a_3.a (runC (List.take a_3.i (ordC l)) []).length a_3.c, Value.slice a_6 n c] m'
      (Value.bool b) ∧
      ifB (!b) (Done (Value.bool false = Value.bool true))
      (∃ (n : Int),
      QSpec Try.prog (15 : Nat) [Value.slice a_3.a (runC (List.take a_3.i (ordC l)) []).length a_3.c] m'
      (Value.int IntKind.i64 n) ∧
      ifB (n != (0 : Int)) (Done (Value.bool false = Value.bool true))
      ((∃ (a_7 : WrX),
      (WrI l a
      { i := a_7.i, la := a_7.la, x := a_7.x, d := a_7.d, a := a_7.a, c := a_7.c, z := a_7.z, e := a_7.e, m1 := a_7.m1, m := a_7.m1 : WrX } ∧
      a_7.i ≤ l.length ∧
      Row a_7.m1 a_7.a (tts (runC (ordC l) [])) ∧
      NewR a_7.m1.sz (fun (x : Nat) => False) a_7.m (16 : Nat) a_7.z (l.length - a_7.i) a_7.e
      (cls (List.drop a_7.i l).reverse) ∧
      N ≤ a_7.m1.sz ∧ Agree a_7.m1.sz a_7.m1 a_7.m) ∧
      m' = a_7.m ∧
      ((SV.val (Value.int IntKind.i64 (IntKind.i64.wrap ((↑l.length : Int) - (1 : Int)))) =
      SV.val (Value.int IntKind.i64 ((↑a_7.i : Int) - (1 : Int))) ∧
      true = true) ∧
      (SV.val (Value.slice a_3.x (ordC l).length a_3.d) = SV.val (Value.slice a_7.x (ordC l).length a_7.d) ∧
      true = true) ∧
      (SV.val (Value.slice none (0 : Nat) (0 : Nat)) = SV.val (Value.slice a_7.z (l.length - a_7.i) a_7.e) ∧
      true = true) ∧
      (SV.val (Value.slice a_3.a (runC (List.take a_3.i (ordC l)) []).length a_3.c) =
      SV.val (Value.slice a_7.a (runC (ordC l) []).length a_7.c) ∧
      true = true) ∧
      (SV.val (Value.slice a l.length cp) = SV.val (Value.slice a l.length cp) ∧ true = true) ∧ True) ∧
      True) ∧
      ∀ (a_7 : WrX),
      WrI l a
      { i := a_7.i, la := a_7.la, x := a_7.x, d := a_7.d, a := a_7.a, c := a_7.c, z := a_7.z, e := a_7.e, m1 := a_7.m1, m := a_7.m1 : WrX } ∧
      a_7.i ≤ l.length ∧
      Row a_7.m1 a_7.a (tts (runC (ordC l) [])) ∧
      NewR a_7.m1.sz (fun (x : Nat) => False) a_7.m (16 : Nat) a_7.z (l.length - a_7.i) a_7.e
      (cls (List.drop a_7.i l).reverse) ∧
      N ≤ a_7.m1.sz ∧ Agree a_7.m1.sz a_7.m1 a_7.m →
      ifB (decide ((↑a_7.i : Int) - (1 : Int) ≥ (0 : Int)))
      (∃ (b : Nat),
      ∃ (off : Nat),
      a = some { block := b, off := off : Addr } ∧
      ((0 : Int) ≤ (↑a_7.i : Int) - (1 : Int) ∧ (↑a_7.i : Int) - (1 : Int) < (↑l.length : Int)) ∧
      ∃ (n : Int),
      ∃ (n_1 : Int),
      ∃ (n_2 : Int),
      ∃ (n_3 : Int),
      ∃ (s : ByteArray),
      ∃ (s_1 : ByteArray),
      ∃ (n_4 : Int),
      ∃ (n_5 : Int),
      ∃ (n_6 : Int),
      ∃ (n_7 : Int),
      ∃ (n_8 : Int),
      ∃ (n_9 : Int),
      ∃ (n_10 : Int),
      ∃ (n_11 : Int),
      ∃ (n_12 : Int),
      ∃ (n_13 : Int),
      CellsAt a_7.m b
      (off + ((↑a_7.i : Int) - (1 : Int)).toNat * (16 : Nat))
      [Value.int IntKind.i64 n, Value.int IntKind.i64 n_1,
      Value.int IntKind.i64 n_2, Value.int IntKind.i64 n_3,
      Value.string s, Value.string s_1, Value.int IntKind.i64 n_4,
      Value.int IntKind.i64 n_5, Value.int IntKind.i64 n_6,
      Value.int IntKind.i64 n_7, Value.int IntKind.i64 n_8,
      Value.int IntKind.i64 n_9, Value.int IntKind.i64 n_10,
      Value.int IntKind.i64 n_11, Value.int IntKind.i64 n_12,
      Value.int IntKind.i64 n_13] ∧
      true = true ∧
      ∀ (b : Nat),
      a_7.m.sz ≤ b →
      ∃ (old : List Value),
      ∃ (src : List Value),
      AppPre N (fun (x : Nat) => False)
      (a_7.m.newBlock b
      [Value.int IntKind.i64 n,
      Value.int IntKind.i64 n_1,
      Value.int IntKind.i64 n_2,
      Value.int IntKind.i64 n_3, Value.string s,
      Value.string s_1, Value.int IntKind.i64 n_4,
      Value.int IntKind.i64 n_5,
      Value.int IntKind.i64 n_6,
      Value.int IntKind.i64 n_7,
      Value.int IntKind.i64 n_8,
      Value.int IntKind.i64 n_9,
      Value.int IntKind.i64 n_10,
      Value.int IntKind.i64 n_11,
      Value.int IntKind.i64 n_12,
      Value.int IntKind.i64 n_13])
      (16 : Nat) (144 : Nat) a_7.z (l.length - a_7.i)
      a_7.e (some { block := b, off := (0 : Nat) : Addr })
      (1 : Nat) old src ∧
      ∀ (a' : Option Addr) (c' : Nat) (m' : M),
      AppPost Try.prog (51 : Nat)
      (a_7.m.newBlock b
      [Value.int IntKind.i64 n,
      Value.int IntKind.i64 n_1,
      Value.int IntKind.i64 n_2,
      Value.int IntKind.i64 n_3, Value.string s,
      Value.string s_1, Value.int IntKind.i64 n_4,
      Value.int IntKind.i64 n_5,
      Value.int IntKind.i64 n_6,
      Value.int IntKind.i64 n_7,
      Value.int IntKind.i64 n_8,
      Value.int IntKind.i64 n_9,
      Value.int IntKind.i64 n_10,
      Value.int IntKind.i64 n_11,
      Value.int IntKind.i64 n_12,
      Value.int IntKind.i64 n_13])
      (16 : Nat) a_7.z (l.length - a_7.i) a_7.e
      (1 : Nat) old src a' c' m' →
      ∃ (a'_1 : WrX),
      ((WrI l a
      { i := a'_1.i, la := a'_1.la, x := a'_1.x, d := a'_1.d, a := a'_1.a, c := a'_1.c, z := a'_1.z, e := a'_1.e, m1 := a'_1.m1, m := a'_1.m1 : WrX } ∧
      a'_1.i ≤ l.length ∧
      Row a'_1.m1 a'_1.a
      (tts (runC (ordC l) [])) ∧
      NewR a'_1.m1.sz
      (fun (x : Nat) => False) a'_1.m
      (16 : Nat) a'_1.z
      (l.length - a'_1.i) a'_1.e
      (cls
      (List.drop a'_1.i l).reverse) ∧
      N ≤ a'_1.m1.sz ∧
      Agree a'_1.m1.sz a'_1.m1 a'_1.m) ∧
      m' = a'_1.m ∧
      ((SV.val
      (Value.int IntKind.i64
      (IntKind.i64.wrap
      ((↑a_7.i : Int) -
      (1 : Int) -
      (1 : Int)))) =
      SV.val
      (Value.int IntKind.i64
      ((↑a'_1.i : Int) -
      (1 : Int))) ∧
      true = true) ∧
      (SV.val
      (Value.slice a_7.x
      (ordC l).length a_7.d) =
      SV.val
      (Value.slice a'_1.x
      (ordC l).length a'_1.d) ∧
      true = true) ∧
      (SV.val
      (Value.slice a'
      (l.length - a_7.i +
      (1 : Nat))
      c') =
      SV.val
      (Value.slice a'_1.z
      (l.length - a'_1.i)
      a'_1.e) ∧
      true = true) ∧
      (SV.val
      (Value.slice a_7.a
      (runC (ordC l)
      []).length
      a_7.c) =
      SV.val
      (Value.slice a'_1.a
      (runC (ordC l)
      []).length
      a'_1.c) ∧
      true = true) ∧
      (SV.val
      (Value.slice a l.length
      cp) =
      SV.val
      (Value.slice a l.length
      cp) ∧
      true = true) ∧
      True) ∧
      True) ∧
      a'_1.i < a_7.i)
      ((∃ (a_9 : WrX),
      (WrI l a a_9 ∧
      (1 : Nat) ≤ a_9.i ∧
      Row a_9.m a_9.a (tts (runC (ordC l) [])) ∧
      Row a_9.m a_9.z (cls l.reverse) ∧
      ∀ (k : Nat) (hk : k < (ordC l).length),
      (1 : Nat) ≤ k → k < a_9.i → (ordC l)[k].mo ≠ (ordC l)[k - (1 : Nat)].mo) ∧
      a_7.m = a_9.m ∧
      ((SV.val (Value.int IntKind.i64 (1 : Int)) = SV.val (Value.int IntKind.i64 (↑a_9.i : Int)) ∧
      true = true) ∧
      (SV.val (Value.slice a_7.x (ordC l).length a_7.d) =
      SV.val (Value.slice a_9.x (ordC l).length a_9.d) ∧
      true = true) ∧
      (SV.val (Value.slice a_7.z (l.length - a_7.i) a_7.e) =
      SV.val (Value.slice a_9.z l.length a_9.e) ∧
      true = true) ∧
      (SV.val (Value.slice a_7.a (runC (ordC l) []).length a_7.c) =
      SV.val (Value.slice a_9.a (runC (ordC l) []).length a_9.c) ∧
      true = true) ∧
      True) ∧
      True) ∧
      ∀ (a_9 : WrX),
      (WrI l a a_9 ∧
      (1 : Nat) ≤ a_9.i ∧
      Row a_9.m a_9.a (tts (runC (ordC l) [])) ∧
      Row a_9.m a_9.z (cls l.reverse) ∧
      ∀ (k : Nat) (hk : k < (ordC l).length),
      (1 : Nat) ≤ k → k < a_9.i → (ordC l)[k].mo ≠ (ordC l)[k - (1 : Nat)].mo) →
      ifB (decide ((↑a_9.i : Int) < (↑(ordC l).length : Int)))
      (true = true ∧
      ∃ (b : Nat),
      ∃ (off : Nat),
      a_9.x = some { block := b, off := off : Addr } ∧
      ((0 : Int) ≤ (↑a_9.i : Int) ∧ (↑a_9.i : Int) < (↑(ordC l).length : Int)) ∧
      ∃ (n : Int),
      CellsAt a_9.m b (off + (↑a_9.i : Int).toNat * (16 : Nat) + (10 : Nat))
      [Value.int IntKind.i64 n] ∧
      ∃ (b : Nat),
      ∃ (off : Nat),
      a_9.x = some { block := b, off := off : Addr } ∧
      ((0 : Int) ≤ IntKind.i64.wrap ((↑a_9.i : Int) - (1 : Int)) ∧
      IntKind.i64.wrap ((↑a_9.i : Int) - (1 : Int)) < (↑(ordC l).length : Int)) ∧
      ∃ (n_1 : Int),
      CellsAt a_9.m b
      (off +
      (IntKind.i64.wrap ((↑a_9.i : Int) - (1 : Int))).toNat * (16 : Nat) +
      (10 : Nat))
      [Value.int IntKind.i64 n_1] ∧
      ifB (n == n_1) (Done (Value.bool true = Value.bool true))
      (∃ (a' : WrX),
      ((WrI l a a' ∧
      (1 : Nat) ≤ a'.i ∧
      Row a'.m a'.a (tts (runC (ordC l) [])) ∧
      Row a'.m a'.z (cls l.reverse) ∧
      ∀ (k : Nat) (hk : k < (ordC l).length),
      (1 : Nat) ≤ k →
      k < a'.i →
      (ordC l)[k].mo ≠ (ordC l)[k - (1 : Nat)].mo) ∧
      a_9.m = a'.m ∧
      ((SV.val
      (Value.int IntKind.i64
      (IntKind.i64.wrap ((↑a_9.i : Int) + (1 : Int)))) =
      SV.val (Value.int IntKind.i64 (↑a'.i : Int)) ∧
      true = true) ∧
      (SV.val (Value.slice a_9.x (ordC l).length a_9.d) =
      SV.val (Value.slice a'.x (ordC l).length a'.d) ∧
      true = true) ∧
      (SV.val (Value.slice a_9.z l.length a_9.e) =
      SV.val (Value.slice a'.z l.length a'.e) ∧
      true = true) ∧
      (SV.val
      (Value.slice a_9.a (runC (ordC l) []).length
      a_9.c) =
      SV.val
      (Value.slice a'.a (runC (ordC l) []).length
      a'.c) ∧
      true = true) ∧
      True) ∧
      True) ∧
      (ordC l).length - a'.i < (ordC l).length - a_9.i))
      (∃ (S' : Nat → Prop),
      (∀ (b : Nat), S' b → a_9.m.uf b ∧ (N ≤ b ∨ False)) ∧
      ∀ (n : Nat),
      a_9.m.sz ≤ n →
      SpecW Try.prog (21 : Nat) [Value.slice a_9.z l.length a_9.e]
      { π := a_9.m.π, sz := n, uf := a_9.m.uf : M } S' fun (v : Value) (m' : M) =>
      ∃ (a : Option Addr),
      ∃ (n : Nat),
      ∃ (c : Nat),
      v = Value.slice a n c ∧
      ∃ (b : Bool),
      QSpec Try.prog (23 : Nat)
      [Value.slice a n c, Value.slice a_9.x (ordC l).length a_9.d] m'
      (Value.bool b) ∧
      ifB b
      (∃ (S' : Nat → Prop),
      (∀ (b : Nat), S' b → m'.uf b ∧ (N ≤ b ∨ False)) ∧
      ∀ (n : Nat),
      m'.sz ≤ n →
      SpecW Try.prog (22 : Nat) [Value.slice a_9.z l.length a_9.e]
      { π := m'.π, sz := n, uf := m'.uf : M } S'
      fun (v : Value) (m' : M) =>
      ∃ (a : Option Addr),
      ∃ (n : Nat),
      ∃ (c : Nat),
      v = Value.slice a n c ∧
      ∃ (b : Bool),
      QSpec Try.prog (16 : Nat)
      [Value.slice a n c,
      Value.slice a_9.a (runC (ordC l) []).length a_9.c]
      m' (Value.bool b) ∧
      Done (Value.bool b = Value.bool true))
      (Done (Value.bool false = Value.bool true))))))))) (by kernel_rfl) ?_
  have h' := h.sz hN
  have hle := ordC_le l
  have hpos : ∀ k (hk : k < (ordC l).length), 0 < (ordC l)[k].mo := fun k hk => by
    rw [ordC_get (by rw [← ordC_len]; exact hk)]; exact ord_pos _
  have hmono : ∀ i k (hik : i < k) (hk : k < (ordC l).length), ((ordC l)[i]'(by omega)).mo ≤ (ordC l)[k].mo := fun i k hik hk => by
    have hk2 : k < (ordL l).length := by rw [← ordC_len]; exact hk
    rw [ordC_get hk2, ordC_get (show i < (ordL l).length by omega)]; exact mo_le hik hk2
  have w : ∀ k, k < l.length → IntKind.i64.wrap ((k : Int) + 1) = ((k + 1 : Nat) : Int) := fun k hk => by simp [IntKind.wrap_i64]; omega
  refine ⟨rfl, _, noS, fun N1 hN1 => (wOrder_s a cp l hn _ (h'.sz hN1)).monoW fun v1 m1 ag1 q1 => ?_⟩
  obtain ⟨x, d, e1, r1⟩ := q1
  refine ⟨x, _, d, e1, ⟨⟨0, 0, x, d, none, 0, none, 0, m1, m1⟩, ⟨⟨r1, (h'.sz hN1).agree ag1⟩, by have := ag1.2.2; simp only at this ⊢; omega, Nat.zero_le _, .nil _, fun k hk _ => Int.le_of_lt (hpos k hk)⟩, rfl, by simp [runC]⟩, fun y ⟨Y, yN, yi, yt, yl⟩ => ifB_intro (fun hb => ?_) (fun hb => ?_)⟩
  · have hi : y.i < (ordC l).length := by simpa using hb
    have hi2 : y.i < (ordL l).length := by rw [← ordC_len]; exact hi
    obtain ⟨b, o, hx, hc⟩ := Y.ns.cells (by rw [cl_len]; omega)
    have T := run_tot hl y.i
    have tl := T.len
    have e := run_take hi2
    rw [← ordC_get hi2] at e
    have hown := ordC_wf hl _ (List.getElem_mem hi)
    have hop : CellsAt y.m b (o + y.i * 16 + 3) (encOq (opC (ordC l)[y.i])) := CellsAt.field cl_k hc hi (p := [I (ordC l)[y.i].cl, I (ordC l)[y.i].sq, I (ordC l)[y.i].nd]) (old := encOq (opC (ordC l)[y.i])) (q := [I (ordC l)[y.i].ca, I (ordC l)[y.i].mo, I (ordC l)[y.i].aw, I (ordC l)[y.i].an_er, I (ordC l)[y.i].an_va, I (ordC l)[y.i].an_le, I (ordC l)[y.i].an_mo]) rfl
    have f10 := fld_at hc hi 10 _ rfl
    have p1 := hpos y.i hi
    have p2 := yl y.i hi (Nat.le_refl _)
    refine ⟨b, o, hx, by omega, _, by simpa using f10, ifB_false' (by simp; omega) ⟨b, o, hx, by omega, _, by simpa using f10, ifB_false' (by simp; omega) ⟨b, o, hx, by omega, _, by simpa using f10, b, o, hx, by omega, _, _, _, _, _, _, by simpa using hop, ?_⟩⟩⟩
    refine ⟨_, noS, fun N2 hN2 => (wdo_s y.a y.c _ (opC (ordC l)[y.i]) (by omega) T.wf (opC_wf hown) _ (yt.sz hN2)).monoW fun v2 m2 hag2 q2 => ?_⟩
    obtain ⟨x2, d2, hv2, hr2⟩ := q2
    refine ⟨_, _, _, _, _, _, _, hv2, ⟨y.i + 1, (ordC l)[y.i].mo, y.x, y.d, x2, d2, none, 0, m2, m2⟩, ⟨⟨⟨(Y.ns.sz hN2).agree hag2, (Y.src.sz hN2).agree hag2⟩, by have := hag2.2.2; simp only at this ⊢; omega, hi, by simp only; rw [e]; exact hr2, fun k hk hk2 => hmono _ _ hk2 hk⟩, rfl, by simp only [e]; simp [w _ (show y.i < l.length by omega)]⟩, by simp only; omega⟩
  · have hi : y.i = (ordC l).length := by simp at hb; omega
    rw [hi, List.take_length] at yt ⊢
    have T := runC_ok (ordC l) (TotI.nil (n := 0)) (ordC_wf hl)
    have tl := T.len
    refine ⟨_, wawake_q _, ifB_false ⟨_, noS, fun N2 hN2 => (wRun_s a cp l hn hl _ (Y.src.sz hN2)).monoW fun v2 m2 hag2 q2 => ?_⟩⟩
    obtain ⟨x2, d2, hv2, hr2⟩ := q2
    have hns := (Y.ns.sz hN2).agree hag2
    have hsrc := (Y.src.sz hN2).agree hag2
    have ht := (yt.sz hN2).agree hag2
    have hsz := hag2.2.2
    simp only at hsz
    have hpl := tt_plain y.a x2 y.c d2 _ _ (by omega) _ ht hr2
    rw [decide_eq_true (rfl : runC (ordC l) [] = runC (ordC l) [])] at hpl
    have hck := wcheck_q y.a y.c (runC (ordC l) []) (by omega) _ ht
    rw [T.right, if_pos rfl] at hck
    have w1 : IntKind.i64.wrap ((l.length : Int) - 1) = (l.length : Int) - 1 := by simp [IntKind.wrap_i64]; omega
    refine ⟨_, _, _, hv2, _, hpl, ifB_false ⟨_, hck, ifB_false' rfl ⟨⟨⟨l.length, 0, y.x, y.d, y.a, y.c, none, 0, m2, m2⟩, ⟨⟨hns, hsrc⟩, Nat.le_refl _, ht, by simp only [Nat.sub_self, List.drop_length]; exact .nil _, by simp only; omega, Agree.refl _ _⟩, rfl, by simp [w1]⟩, fun z ⟨Z, zi, zt, zo, zN, zag⟩ => ifB_intro (fun hb => ?_) (fun hb => ?_)⟩⟩⟩
    · have hk : 1 ≤ z.i := by simp at hb; omega
      have hk2 : z.i - 1 < l.length := by omega
      obtain ⟨b, o, hx, hc⟩ := (Z.src.agree zag).cells (by rw [cl_len]; omega)
      have ei : (z.i : Int) - 1 = ((z.i - 1 : Nat) : Int) := by omega
      have w2 : IntKind.i64.wrap ((z.i : Int) - 1 - 1) = ((z.i - 1 : Nat) : Int) - 1 := by simp [IntKind.wrap_i64]; omega
      rw [w2, ei]
      refine ⟨b, o, hx, by omega, _, _, _, _, _, _, _, _, _, _, _, _, _, _, _, _, by simpa using cl_at hc hk2, rfl, fun b3 hb3 => ?_⟩
      obtain ⟨p1, -⟩ := (zo.lower zN).push (P := Try.prog) (e := 51) (bytes := 144) (src := encCl l[z.i - 1]) hb3 (Nat.le_trans zN zag.2.2) rfl rfl (by omega) cl_zr
      obtain ⟨-, p2⟩ := zo.push (P := Try.prog) (e := 51) (bytes := 144) (src := encCl l[z.i - 1]) hb3 zag.2.2 rfl rfl (by omega) cl_zr
      refine ⟨_, _, p1, fun a' c' m' hp => ?_⟩
      obtain ⟨g1, g2⟩ := p2 a' c' m' hp
      have el : l.length - z.i + 1 = l.length - (z.i - 1) := by omega
      have ed : (l.drop (z.i - 1)).reverse = (l.drop z.i).reverse ++ [l[z.i - 1]] := by
        rw [List.drop_eq_getElem_cons hk2, List.reverse_cons, show z.i - 1 + 1 = z.i by omega]
      refine ⟨⟨z.i - 1, 0, z.x, z.d, z.a, z.c, a', c', z.m1, m'⟩, ⟨⟨⟨Z.ns, Z.src⟩, by simp only; omega, zt, ?_, zN, zag.trans g2⟩, rfl, by simp [el]⟩, by simp only; omega⟩
      simp only
      rw [← el, ed, show cls ((l.drop z.i).reverse ++ [l[z.i - 1]]) = cls ((l.drop z.i).reverse) ++ encCl l[z.i - 1] by simp [cls]]
      exact g1
    · have hk : z.i = 0 := by simp at hb; omega
      have hz := zo.row
      rw [hk, List.drop_zero] at hz
      rw [hk]
      refine ⟨⟨⟨1, 0, z.x, z.d, z.a, z.c, z.z, z.e, z.m, z.m⟩, ⟨⟨Z.ns.agree zag, Z.src.agree zag⟩, Nat.le_refl _, zt.agree zag, hz, fun k hk h1 h2 => by simp only at h2; omega⟩, rfl, by simp⟩, fun u ⟨U, u1, ut, uz, uq⟩ => ifB_intro (fun hb2 => ?_) (fun hb2 => ?_)⟩
      · have hi : u.i < (ordC l).length := by simpa using hb2
        have hi3 : u.i - 1 < (ordC l).length := by omega
        obtain ⟨b, o, hx, hc⟩ := U.ns.cells (by rw [cl_len]; omega)
        have w2 : IntKind.i64.wrap ((u.i : Int) - 1) = ((u.i - 1 : Nat) : Int) := by simp [IntKind.wrap_i64]; omega
        rw [w2]
        refine ⟨rfl, b, o, hx, by omega, _, by simpa using fld_at hc hi 10 _ rfl, b, o, hx, by omega, _, by simpa using fld_at hc hi3 10 _ rfl, ifB_intro (fun h1 => ⟨rfl⟩) (fun h1 => ⟨⟨u.i + 1, 0, u.x, u.d, u.a, u.c, u.z, u.e, u.m, u.m⟩, ⟨⟨⟨U.ns, U.src⟩, by simp only; omega, ut, uz, fun k hk k1 k2 => ?_⟩, rfl, by simp [w _ (show u.i < l.length by omega)]⟩, by simp only; omega⟩)⟩
        by_cases ek : k = u.i
        · subst ek; simpa using h1
        · exact uq k hk k1 (by simp only at k2; omega)
      · have hi : (ordC l).length ≤ u.i := by simp at hb2; omega
        have hrev := ordC_rev (l := l) fun k hk k1 => uq k hk k1 (by omega)
        have hlr : l.reverse.length = l.length := List.length_reverse
        have hwr : ∀ x ∈ l.reverse, x.wf := fun x hx => hl x (List.mem_reverse.1 hx)
        refine ⟨_, noS, fun N3 hN3 => ?_⟩
        have Q := wOrder_s u.z u.e l.reverse (by omega) _ (uz.sz hN3)
        rw [hlr, hrev] at Q
        refine Q.monoW fun v3 m3 hag3 q3 => ?_
        obtain ⟨x3, d3, hv3, hr3⟩ := q3
        have hpl3 := cl_plain x3 u.x d3 u.d _ _ (by omega) _ hr3 ((U.ns.sz hN3).agree hag3)
        rw [decide_eq_true (rfl : ordC l = ordC l)] at hpl3
        refine ⟨_, _, _, hv3, _, hpl3, ifB_true ⟨_, noS, fun N4 hN4 => ?_⟩⟩
        have Q := wRun_s u.z u.e l.reverse (by omega) hwr _ (((uz.sz hN3).agree hag3).sz hN4)
        rw [hlr, hrev] at Q
        refine Q.monoW fun v4 m4 hag4 q4 => ?_
        obtain ⟨x4, d4, hv4, hr4⟩ := q4
        have hpl4 := tt_plain x4 u.a d4 u.c _ _ (by omega) _ hr4 ((((ut.sz hN3).agree hag3).sz hN4).agree hag4)
        rw [decide_eq_true (rfl : runC (ordC l) [] = runC (ordC l) [])] at hpl4
        exact ⟨_, _, _, hv4, _, hpl4, ⟨rfl⟩⟩

end Go.Proofs.Ytbhlhnkjmncloaa
set_option linter.unusedVariables false
set_option linter.unusedSimpArgs false
namespace Go.Proofs.Ytbhlhnkjmncloaa
open Go.Vc Go.RowKit
set_option maxRecDepth 100000

/-- a call as it stood at a time -/
def cutE (t : Int) (c : Cl) : Cl := { c with mo := if c.mo > t then 0 else c.mo, aw := if c.aw > t then 0 else c.aw, an_er := if c.aw > t then 0 else c.an_er, an_va := if c.aw > t then 0 else c.an_va, an_le := if c.aw > t then 0 else c.an_le, an_mo := if c.aw > t then 0 else c.an_mo }

/-- the numbers below k of the calls that are there at a time -/
def keepK (l : List Cl) (t : Int) (k : Nat) : List Nat := (List.range k).filter fun i => decide ((clA l i).ca ≤ t)

def cutK (l : List Cl) (t : Int) (k : Nat) : List Cl := (keepK l t k).map fun i => cutE t (clA l i)

theorem cutK_succ (l : List Cl) (t : Int) (k : Nat) : cutK l t (k + 1) = cutK l t k ++ if (clA l k).ca ≤ t then [cutE t (clA l k)] else [] := by
  unfold cutK keepK
  rw [List.range_succ, List.filter_append, List.map_append]
  congr 1
  by_cases h : (clA l k).ca ≤ t <;> simp [h]

theorem keepK_len (l : List Cl) (t : Int) (k : Nat) : (keepK l t k).length ≤ k := by
  have := List.length_filter_le (fun i => decide ((clA l i).ca ≤ t)) (List.range k)
  rw [List.length_range] at this
  exact this

theorem cutK_len (l : List Cl) (t : Int) (k : Nat) : (cutK l t k).length ≤ k := by
  unfold cutK; rw [List.length_map]; exact keepK_len l t k

abbrev cutL (l : List Cl) (t : Int) : List Cl := cutK l t l.length

theorem cutE_wf {t : Int} {c : Cl} (h : c.wf) : (cutE t c).wf := by
  unfold Cl.wf cutE at *
  have z : In64 0 := by decide
  simp only
  refine ⟨h.1, h.2.1, h.2.2.1, h.2.2.2.1, h.2.2.2.2.1, h.2.2.2.2.2.1, h.2.2.2.2.2.2.1, h.2.2.2.2.2.2.2.1, h.2.2.2.2.2.2.2.2.1, h.2.2.2.2.2.2.2.2.2.1, ?_, ?_, ?_, ?_, ?_, ?_⟩
  all_goals split
  all_goals first | exact z | skip
  · exact h.2.2.2.2.2.2.2.2.2.2.1
  · exact h.2.2.2.2.2.2.2.2.2.2.2.1
  · exact h.2.2.2.2.2.2.2.2.2.2.2.2.1
  · exact h.2.2.2.2.2.2.2.2.2.2.2.2.2.1
  · exact h.2.2.2.2.2.2.2.2.2.2.2.2.2.2.1
  · exact h.2.2.2.2.2.2.2.2.2.2.2.2.2.2.2

theorem cutL_wf {l : List Cl} (hl : ∀ x ∈ l, x.wf) (t : Int) : ∀ x ∈ cutL l t, x.wf := fun x hx => by
  obtain ⟨i, -, rfl⟩ := List.mem_map.1 hx
  exact cutE_wf (clA_wf hl)

theorem keepK_lt (l : List Cl) (t : Int) (k : Nat) : (keepK l t k).Pairwise (· < ·) := List.Pairwise.filter _ List.pairwise_lt_range

theorem keepK_mem {l : List Cl} {t : Int} {k i : Nat} : i ∈ keepK l t k ↔ i < k ∧ (clA l i).ca ≤ t := by simp [keepK]

theorem cutE_bad {c : Cl} {t : Int} (h : badB c = false) : badB (cutE t c) = false := by
  by_cases e : c.aw > t
  · simp only [badB, cutE, if_pos e]
    simp [badB] at h ⊢; exact h.1
  · simp only [badB, cutE, if_neg e]
    exact h

theorem cutE_old {c : Cl} {t : Int} (h : oldB c = false) : oldB (cutE t c) = false := by
  by_cases e : c.mo > t
  · simp [oldB, cutE, e]
  · by_cases e2 : c.aw > t
    · simp only [oldB, cutE, if_neg e, if_pos e2]
      simp [oldB] at h ⊢
      exact fun h1 => (h h1).1
    · simp only [oldB, cutE, if_neg e, if_neg e2]
      exact h

theorem cutE_non {c : Cl} {t : Int} (h : nonB c = false) (ho : oldB c = false) : nonB (cutE t c) = false := by
  by_cases e : c.aw > t
  · simp [nonB, cutE, e]
  · by_cases e0 : c.aw = 0
    · have : ¬ (0 : Int) > t := by omega
      simp [nonB, cutE, e0]
    · have hm : (decide (0 < if c.mo > t then 0 else c.mo)) = decide (0 < c.mo) := by
        by_cases e1 : 0 < c.mo
        · have := old_no ho e1
          rw [if_neg (by omega)]
        · split <;> simp <;> omega
      simp only [nonB, cutE, if_neg e]
      rw [hm]
      exact h

section
variable {l : List Cl} {t : Int}

/-- the number in the whole history -/
def kpI (l : List Cl) (t : Int) (i : Nat) : Nat := ((keepK l t l.length)[i]?).getD 0

theorem kpI_at {i : Nat} (h : i < (cutL l t).length) : ∃ h2 : i < (keepK l t l.length).length, kpI l t i = (keepK l t l.length)[i] := by
  have h2 : i < (keepK l t l.length).length := by simpa [cutL, cutK] using h
  exact ⟨h2, by simp [kpI, List.getElem?_eq_getElem h2]⟩

theorem kpI_spec {i : Nat} (h : i < (cutL l t).length) : kpI l t i < l.length ∧ (clA l (kpI l t i)).ca ≤ t ∧ clA (cutL l t) i = cutE t (clA l (kpI l t i)) := by
  obtain ⟨h2, e⟩ := kpI_at h
  have hm := keepK_mem.1 (List.getElem_mem h2)
  rw [← e] at hm
  refine ⟨hm.1, hm.2, ?_⟩
  rw [clA_at h, e]
  simp [cutL, cutK]

theorem kpI_lt {i j : Nat} (h : j < (cutL l t).length) (hij : i < j) : kpI l t i < kpI l t j := by
  obtain ⟨h2, e⟩ := kpI_at h
  obtain ⟨h3, e2⟩ := kpI_at (l := l) (t := t) (i := i) (by omega)
  rw [e, e2]
  exact List.pairwise_iff_getElem.1 (keepK_lt l t l.length) i j h3 h2 hij

theorem kpI_onto {j : Nat} (h1 : j < l.length) (h2 : (clA l j).ca ≤ t) : ∃ i, i < (cutL l t).length ∧ kpI l t i = j := by
  obtain ⟨i, hi, e⟩ := List.mem_iff_getElem.1 (keepK_mem.2 ⟨h1, h2⟩ : j ∈ keepK l t l.length)
  refine ⟨i, by simpa [cutL, cutK] using hi, ?_⟩
  simp [kpI, List.getElem?_eq_getElem hi, e]

theorem cut_take {i : Nat} (hi : i < (cutL l t).length) {x : Cl} (hx : x ∈ (cutL l t).take i) : ∃ j, j < kpI l t i ∧ (clA l j).ca ≤ t ∧ x = cutE t (clA l j) := by
  rw [List.mem_take_iff_getElem] at hx
  obtain ⟨j, hj, rfl⟩ := hx
  have hj2 : j < (cutL l t).length := by omega
  obtain ⟨g1, g2, g3⟩ := kpI_spec hj2
  refine ⟨kpI l t j, kpI_lt hi (by omega), g2, ?_⟩
  rw [← g3, clA_at hj2]

/-- what is left of a history of right form has a right form -/
theorem cut_frm (h : ∀ i, i < l.length → WrgZ (clA l i) (l.take i)) : ∀ i, i < (cutL l t).length → WrgZ (clA (cutL l t) i) ((cutL l t).take i) := by
  intro i hi
  obtain ⟨g1, g2, g3⟩ := kpI_spec hi
  have H := h _ g1
  have pr : ∀ j, j < kpI l t i → (clA l j).cl = (clA l (kpI l t i)).cl → _ := fun j hj => frm_pair h hj g1
  rw [g3]
  generalize hp : kpI l t i = p at *
  generalize clA l p = c at *
  refine ⟨cutE_bad H.bad, ?_, cutE_old H.old, ?_, cutE_non H.non H.old⟩
  · rw [sqB, List.any_eq_false]
    intro x hx
    obtain ⟨j, j1, j2, rfl⟩ := cut_take hi hx
    rw [hp] at j1
    have P := pr j j1
    simp [cutE]
    intro e
    have := P e; omega
  · rw [opnB, List.any_eq_false]
    intro x hx
    obtain ⟨j, j1, j2, rfl⟩ := cut_take hi hx
    rw [hp] at j1
    have P := pr j j1
    simp [cutE]
    intro e
    have := P e
    omega

theorem cut_mo {i : Nat} (hi : i < (cutL l t).length) : moA (cutL l t) i = if moA l (kpI l t i) > t then 0 else moA l (kpI l t i) := by
  rw [moA_cl, (kpI_spec hi).2.2, moA_cl]; rfl

/-- the order of what is left is the order's part up to then -/
theorem cut_ord (h : ∀ i, i < l.length → WrgZ (clA l i) (l.take i)) : (ordL (cutL l t)).map (kpI l t) = (ordL l).filter fun i => decide (moA l i ≤ t) := by
  have O := ordL_is (cutL l t)
  refine IsOrd.uniq (l := l) (p := fun i => (i < l.length ∧ 0 < moA l i) ∧ moA l i ≤ t) ⟨?_, fun i => ?_⟩ ⟨List.Pairwise.filter _ (ordL_is l).pw, fun i => by rw [List.mem_filter, (ordL_is l).mem]; simp⟩
  · rw [List.pairwise_map]
    refine (List.Pairwise.and_mem.1 O.pw).imp fun {a b} ⟨ha, hb, hab⟩ => ?_
    have h1 := (O.mem a).1 ha
    have h2 := (O.mem b).1 hb
    have m1 := cut_mo h1.1
    have m2 := cut_mo h2.1
    have q1 := h1.2
    have q2 := h2.2
    unfold lexC at hab ⊢
    rw [m1] at hab q1
    rw [m2] at hab q2
    have lt := fun hlt : a < b => kpI_lt h2.1 hlt
    split at hab <;> split at hab <;> rename_i c1 c2 <;> simp [c1, c2] at q1 q2
    rcases hab with hab | hab
    · exact .inl hab
    · exact .inr ⟨hab.1, lt hab.2⟩
  · rw [List.mem_map]
    constructor
    · rintro ⟨a, ha, rfl⟩
      have h1 := (O.mem a).1 ha
      have m1 := cut_mo h1.1
      have q1 := h1.2
      rw [m1] at q1
      split at q1
      · omega
      · exact ⟨⟨(kpI_spec h1.1).1, q1⟩, by omega⟩
    · rintro ⟨⟨h1, h2⟩, h3⟩
      have H := h i h1
      have h4 := (old_no H.old (by rw [← moA_cl]; exact h2)).1
      rw [← moA_cl] at h4
      obtain ⟨a, ha, rfl⟩ := kpI_onto (l := l) (t := t) h1 (by omega)
      refine ⟨a, (O.mem a).2 ⟨ha, ?_⟩, rfl⟩
      rw [cut_mo ha, if_neg (by omega)]
      exact h2

theorem ord_split (v : Int) : ordL l = ((ordL l).filter fun i => decide (moA l i ≤ v)) ++ (ordL l).filter fun i => !decide (moA l i ≤ v) := by
  refine (ordL_is l).uniq ⟨?_, fun i => ?_⟩
  · refine List.pairwise_append.2 ⟨List.Pairwise.filter _ (ordL_is l).pw, List.Pairwise.filter _ (ordL_is l).pw, fun a ha b hb => ?_⟩
    have h1 := (List.mem_filter.1 ha).2
    have h2 := (List.mem_filter.1 hb).2
    simp at h1 h2
    unfold lexC; omega
  · rw [List.mem_append, List.mem_filter, List.mem_filter, (ordL_is l).mem]
    by_cases e : moA l i ≤ v <;> simp [e]

theorem secP_left {A B : List Nat} : ∀ {t : List Tt}, secP l (A ++ B) t = none → secP l A t = none := by
  induction A with
  | nil => intro t _; rfl
  | cons a A ih =>
    intro t h
    rw [List.cons_append, secP] at h
    rw [secP]
    split at h
    · rename_i c; rw [if_pos c]; exact ih h
    · cases h

theorem rig_cut {c : Cl} {a : An} (h : rigB c a = true) : rigB (cutE t c) a = true := by
  by_cases e : c.aw > t
  · simp [rigB, cutE, e]
  · simp only [rigB, cutE, if_neg e] at h ⊢
    exact h

theorem secP_cut : ∀ (L : List Nat) {T : List Tt}, (∀ i ∈ L, i < (cutL l t).length) → secP l (L.map (kpI l t)) T = none → secP (cutL l t) L T = none
  | [], T, _, _ => rfl
  | i :: r, T, hm, h => by
    have e := (kpI_spec (hm i (by simp))).2.2
    rw [List.map_cons, secP] at h
    rw [secP, e]
    have eo : opC (cutE t (clA l (kpI l t i))) = opC (clA l (kpI l t i)) := rfl
    rw [eo]
    split at h
    · rename_i c
      rw [if_pos (rig_cut c)]
      exact secP_cut r (fun j hj => hm j (by simp [hj])) h
    · cases h

theorem cut_legal (h : LegO l) : LegO (cutL l t) := by
  refine ⟨cut_frm h.frm, secP_cut _ (fun i hi => ordL_lt hi) ?_⟩
  rw [cut_ord h.frm]
  have := h.sec
  rw [ord_split (l := l) t] at this
  exact secP_left this
end

theorem newR_cap {B : Nat} {S : Nat → Prop} {m : M} {size len cap : Nat} {a : Option Addr} {cs : List Value} (h : NewR B S m size a len cap cs) : len ≤ cap := by
  cases h with
  | nil => exact Nat.le_refl _
  | own ho => exact ho.capLe

structure CuX where
  i : Nat
  a : Option Addr
  c : Nat
  m : M

theorem cutoff_s (a : Option Addr) (cp : Nat) (l : List Cl) (t : Int) (hn : l.length ≤ 977343669105) (m : M) (h : Row m a (cls l)) : Vc.Spec Try.prog 25 [.slice a l.length cp, I t] m fun v m' => ∃ a' c', v = .slice a' (cutL l t).length c' ∧ (cutL l t).length ≤ c' ∧ Row m' a' (cls (cutL l t)) := by
  refine Vc.Spec.of_vc Try.func25 (ann := fun _ => { A := CuX, inv := fun y => y.i ≤ l.length ∧ NewR m.sz (fun _ => False) y.m 16 y.a (cutK l t y.i).length y.c (cls (cutK l t y.i)) ∧ Agree m.sz m y.m, st := fun y => [(6, .val (I y.i)), (5, .val (.slice y.a (cutK l t y.i).length y.c)), (1, .val (I t)), (0, .val (.slice a l.length cp))], own := fun _ => [], m := fun y => y.m, μ := fun y => l.length - y.i }) ?_
  refine vc_by (X :=
      true = true ∧
      (∃ (a_1 : CuX),
      (a_1.i ≤ l.length ∧ NewR m.sz (fun (x : Nat) => False) a_1.m (16 : Nat) a_1.a (cutK l t a_1.i).length a_1.c (cls (cutK l t a_1.i)) ∧ Agree m.sz m a_1.m) ∧
      m = a_1.m ∧
      ((SV.val (Value.int IntKind.i64 (0 : Int)) = SV.val (Value.int IntKind.i64 (↑a_1.i : Int)) ∧ true = true) ∧
      (SV.val (Value.slice none (0 : Nat) (0 : Nat)) = SV.val (Value.slice a_1.a (cutK l t a_1.i).length a_1.c) ∧ true = true) ∧
      (SV.val (Value.int IntKind.i64 t) = SV.val (Value.int IntKind.i64 t) ∧ true = true) ∧
      (SV.val (Value.slice a l.length cp) = SV.val (Value.slice a l.length cp) ∧ true = true) ∧ True) ∧
      True) ∧
      ∀ (a_1 : CuX),
      a_1.i ≤ l.length ∧ NewR m.sz (fun (x : Nat) => False) a_1.m (16 : Nat) a_1.a (cutK l t a_1.i).length a_1.c (cls (cutK l t a_1.i)) ∧ Agree m.sz m a_1.m →
      ifB (decide ((↑a_1.i : Int) < (↑l.length : Int)))
      (∃ (b : Nat),
      ∃ (off : Nat),
      a = some { block := b, off := off : Addr } ∧
      ((0 : Int) ≤ (↑a_1.i : Int) ∧ (↑a_1.i : Int) < (↑l.length : Int)) ∧
      ∃ (n : Int),
      ∃ (n_1 : Int),
      ∃ (n_2 : Int),
      ∃ (n_3 : Int),
      ∃ (s : ByteArray),
      ∃ (s_1 : ByteArray),
      ∃ (n_4 : Int),
      ∃ (n_5 : Int),
      ∃ (n_6 : Int),
      ∃ (n_7 : Int),
      ∃ (n_8 : Int),
      ∃ (n_9 : Int),
      ∃ (n_10 : Int),
      ∃ (n_11 : Int),
      ∃ (n_12 : Int),
      ∃ (n_13 : Int),
      CellsAt a_1.m b (off + (↑a_1.i : Int).toNat * (16 : Nat))
      [Value.int IntKind.i64 n, Value.int IntKind.i64 n_1, Value.int IntKind.i64 n_2, Value.int IntKind.i64 n_3, Value.string s,
      Value.string s_1, Value.int IntKind.i64 n_4, Value.int IntKind.i64 n_5, Value.int IntKind.i64 n_6,
      Value.int IntKind.i64 n_7, Value.int IntKind.i64 n_8, Value.int IntKind.i64 n_9, Value.int IntKind.i64 n_10,
      Value.int IntKind.i64 n_11, Value.int IntKind.i64 n_12, Value.int IntKind.i64 n_13] ∧
      ifB (decide (n_7 > t))
      (∃ (a' : CuX),
      ((a'.i ≤ l.length ∧
      NewR m.sz (fun (x : Nat) => False) a'.m (16 : Nat) a'.a (cutK l t a'.i).length a'.c (cls (cutK l t a'.i)) ∧
      Agree m.sz m a'.m) ∧
      a_1.m = a'.m ∧
      ((SV.val (Value.int IntKind.i64 (IntKind.i64.wrap ((↑a_1.i : Int) + (1 : Int)))) =
      SV.val (Value.int IntKind.i64 (↑a'.i : Int)) ∧
      true = true) ∧
      (SV.val (Value.slice a_1.a (cutK l t a_1.i).length a_1.c) =
      SV.val (Value.slice a'.a (cutK l t a'.i).length a'.c) ∧
      true = true) ∧
      (SV.val (Value.int IntKind.i64 t) = SV.val (Value.int IntKind.i64 t) ∧ true = true) ∧
      (SV.val (Value.slice a l.length cp) = SV.val (Value.slice a l.length cp) ∧ true = true) ∧ True) ∧
      True) ∧
      l.length - a'.i < l.length - a_1.i)
      (ifB (decide (n_8 > t))
      (ifB (decide (n_9 > t))
      (true = true ∧
      ∀ (b : Nat),
      a_1.m.sz ≤ b →
      ∃ (old : List Value),
      ∃ (src : List Value),
      AppPre m.sz (fun (x : Nat) => False)
      (a_1.m.newBlock b
      [Value.int IntKind.i64 n, Value.int IntKind.i64 n_1, Value.int IntKind.i64 n_2, Value.int IntKind.i64 n_3,
      Value.string s, Value.string s_1, Value.int IntKind.i64 n_4, Value.int IntKind.i64 n_5,
      Value.int IntKind.i64 n_6, Value.int IntKind.i64 n_7, Value.int IntKind.i64 (0 : Int),
      Value.int IntKind.i64 (0 : Int), Value.int IntKind.i64 (0 : Int), Value.int IntKind.i64 (0 : Int),
      Value.int IntKind.i64 (0 : Int), Value.int IntKind.i64 (0 : Int)])
      (16 : Nat) (144 : Nat) a_1.a (cutK l t a_1.i).length a_1.c (some { block := b, off := (0 : Nat) : Addr })
      (1 : Nat) old src ∧
      ∀ (a' : Option Addr) (c' : Nat) (m' : M),
      AppPost Try.prog (51 : Nat)
      (a_1.m.newBlock b
      [Value.int IntKind.i64 n, Value.int IntKind.i64 n_1, Value.int IntKind.i64 n_2,
      Value.int IntKind.i64 n_3, Value.string s, Value.string s_1, Value.int IntKind.i64 n_4,
      Value.int IntKind.i64 n_5, Value.int IntKind.i64 n_6, Value.int IntKind.i64 n_7,
      Value.int IntKind.i64 (0 : Int), Value.int IntKind.i64 (0 : Int), Value.int IntKind.i64 (0 : Int),
      Value.int IntKind.i64 (0 : Int), Value.int IntKind.i64 (0 : Int), Value.int IntKind.i64 (0 : Int)])
      (16 : Nat) a_1.a (cutK l t a_1.i).length a_1.c (1 : Nat) old src a' c' m' →
      ∃ (a'_1 : CuX),
      ((a'_1.i ≤ l.length ∧
      NewR m.sz (fun (x : Nat) => False) a'_1.m (16 : Nat) a'_1.a (cutK l t a'_1.i).length a'_1.c
      (cls (cutK l t a'_1.i)) ∧
      Agree m.sz m a'_1.m) ∧
      m' = a'_1.m ∧
      ((SV.val (Value.int IntKind.i64 (IntKind.i64.wrap ((↑a_1.i : Int) + (1 : Int)))) =
      SV.val (Value.int IntKind.i64 (↑a'_1.i : Int)) ∧
      true = true) ∧
      (SV.val (Value.slice a' ((cutK l t a_1.i).length + (1 : Nat)) c') =
      SV.val (Value.slice a'_1.a (cutK l t a'_1.i).length a'_1.c) ∧
      true = true) ∧
      (SV.val (Value.int IntKind.i64 t) = SV.val (Value.int IntKind.i64 t) ∧ true = true) ∧
      (SV.val (Value.slice a l.length cp) = SV.val (Value.slice a l.length cp) ∧ true = true) ∧
      True) ∧
      True) ∧
      l.length - a'_1.i < l.length - a_1.i)
      (true = true ∧
      ∀ (b : Nat),
      a_1.m.sz ≤ b →
      ∃ (old : List Value),
      ∃ (src : List Value),
      AppPre m.sz (fun (x : Nat) => False)
      (a_1.m.newBlock b
      [Value.int IntKind.i64 n, Value.int IntKind.i64 n_1, Value.int IntKind.i64 n_2, Value.int IntKind.i64 n_3,
      Value.string s, Value.string s_1, Value.int IntKind.i64 n_4, Value.int IntKind.i64 n_5,
      Value.int IntKind.i64 n_6, Value.int IntKind.i64 n_7, Value.int IntKind.i64 (0 : Int),
      Value.int IntKind.i64 n_9, Value.int IntKind.i64 n_10, Value.int IntKind.i64 n_11,
      Value.int IntKind.i64 n_12, Value.int IntKind.i64 n_13])
      (16 : Nat) (144 : Nat) a_1.a (cutK l t a_1.i).length a_1.c (some { block := b, off := (0 : Nat) : Addr })
      (1 : Nat) old src ∧
      ∀ (a' : Option Addr) (c' : Nat) (m' : M),
      AppPost Try.prog (51 : Nat)
      (a_1.m.newBlock b
      [Value.int IntKind.i64 n, Value.int IntKind.i64 n_1, Value.int IntKind.i64 n_2,
      Value.int IntKind.i64 n_3, Value.string s, Value.string s_1, Value.int IntKind.i64 n_4,
      Value.int IntKind.i64 n_5, Value.int IntKind.i64 n_6, Value.int IntKind.i64 n_7,
      Value.int IntKind.i64 (0 : Int), Value.int IntKind.i64 n_9, Value.int IntKind.i64 n_10,
      Value.int IntKind.i64 n_11, Value.int IntKind.i64 n_12, Value.int IntKind.i64 n_13])
      (16 : Nat) a_1.a (cutK l t a_1.i).length a_1.c (1 : Nat) old src a' c' m' →
      ∃ (a'_1 : CuX),
      ((a'_1.i ≤ l.length ∧
      NewR m.sz (fun (x : Nat) => False) a'_1.m (16 : Nat) a'_1.a (cutK l t a'_1.i).length a'_1.c
      (cls (cutK l t a'_1.i)) ∧
      Agree m.sz m a'_1.m) ∧
      m' = a'_1.m ∧
      ((SV.val (Value.int IntKind.i64 (IntKind.i64.wrap ((↑a_1.i : Int) + (1 : Int)))) =
      SV.val (Value.int IntKind.i64 (↑a'_1.i : Int)) ∧
      true = true) ∧
      (SV.val (Value.slice a' ((cutK l t a_1.i).length + (1 : Nat)) c') =
      SV.val (Value.slice a'_1.a (cutK l t a'_1.i).length a'_1.c) ∧
      true = true) ∧
      (SV.val (Value.int IntKind.i64 t) = SV.val (Value.int IntKind.i64 t) ∧ true = true) ∧
      (SV.val (Value.slice a l.length cp) = SV.val (Value.slice a l.length cp) ∧ true = true) ∧
      True) ∧
      True) ∧
      l.length - a'_1.i < l.length - a_1.i))
      (ifB (decide (n_9 > t))
      (true = true ∧
      ∀ (b : Nat),
      a_1.m.sz ≤ b →
      ∃ (old : List Value),
      ∃ (src : List Value),
      AppPre m.sz (fun (x : Nat) => False)
      (a_1.m.newBlock b
      [Value.int IntKind.i64 n, Value.int IntKind.i64 n_1, Value.int IntKind.i64 n_2, Value.int IntKind.i64 n_3,
      Value.string s, Value.string s_1, Value.int IntKind.i64 n_4, Value.int IntKind.i64 n_5,
      Value.int IntKind.i64 n_6, Value.int IntKind.i64 n_7, Value.int IntKind.i64 n_8,
      Value.int IntKind.i64 (0 : Int), Value.int IntKind.i64 (0 : Int), Value.int IntKind.i64 (0 : Int),
      Value.int IntKind.i64 (0 : Int), Value.int IntKind.i64 (0 : Int)])
      (16 : Nat) (144 : Nat) a_1.a (cutK l t a_1.i).length a_1.c (some { block := b, off := (0 : Nat) : Addr })
      (1 : Nat) old src ∧
      ∀ (a' : Option Addr) (c' : Nat) (m' : M),
      AppPost Try.prog (51 : Nat)
      (a_1.m.newBlock b
      [Value.int IntKind.i64 n, Value.int IntKind.i64 n_1, Value.int IntKind.i64 n_2,
      Value.int IntKind.i64 n_3, Value.string s, Value.string s_1, Value.int IntKind.i64 n_4,
      Value.int IntKind.i64 n_5, Value.int IntKind.i64 n_6, Value.int IntKind.i64 n_7,
      Value.int IntKind.i64 n_8, Value.int IntKind.i64 (0 : Int), Value.int IntKind.i64 (0 : Int),
      Value.int IntKind.i64 (0 : Int), Value.int IntKind.i64 (0 : Int), Value.int IntKind.i64 (0 : Int)])
      (16 : Nat) a_1.a (cutK l t a_1.i).length a_1.c (1 : Nat) old src a' c' m' →
      ∃ (a'_1 : CuX),
      ((a'_1.i ≤ l.length ∧
      NewR m.sz (fun (x : Nat) => False) a'_1.m (16 : Nat) a'_1.a (cutK l t a'_1.i).length a'_1.c
      (cls (cutK l t a'_1.i)) ∧
      Agree m.sz m a'_1.m) ∧
      m' = a'_1.m ∧
      ((SV.val (Value.int IntKind.i64 (IntKind.i64.wrap ((↑a_1.i : Int) + (1 : Int)))) =
      SV.val (Value.int IntKind.i64 (↑a'_1.i : Int)) ∧
      true = true) ∧
      (SV.val (Value.slice a' ((cutK l t a_1.i).length + (1 : Nat)) c') =
      SV.val (Value.slice a'_1.a (cutK l t a'_1.i).length a'_1.c) ∧
      true = true) ∧
      (SV.val (Value.int IntKind.i64 t) = SV.val (Value.int IntKind.i64 t) ∧ true = true) ∧
      (SV.val (Value.slice a l.length cp) = SV.val (Value.slice a l.length cp) ∧ true = true) ∧
      True) ∧
      True) ∧
      l.length - a'_1.i < l.length - a_1.i)
      (true = true ∧
      ∀ (b : Nat),
      a_1.m.sz ≤ b →
      ∃ (old : List Value),
      ∃ (src : List Value),
      AppPre m.sz (fun (x : Nat) => False)
      (a_1.m.newBlock b
      [Value.int IntKind.i64 n, Value.int IntKind.i64 n_1, Value.int IntKind.i64 n_2, Value.int IntKind.i64 n_3,
      Value.string s, Value.string s_1, Value.int IntKind.i64 n_4, Value.int IntKind.i64 n_5,
      Value.int IntKind.i64 n_6, Value.int IntKind.i64 n_7, Value.int IntKind.i64 n_8,
      Value.int IntKind.i64 n_9, Value.int IntKind.i64 n_10, Value.int IntKind.i64 n_11,
      Value.int IntKind.i64 n_12, Value.int IntKind.i64 n_13])
      (16 : Nat) (144 : Nat) a_1.a (cutK l t a_1.i).length a_1.c (some { block := b, off := (0 : Nat) : Addr })
      (1 : Nat) old src ∧
      ∀ (a' : Option Addr) (c' : Nat) (m' : M),
      AppPost Try.prog (51 : Nat)
      (a_1.m.newBlock b
      [Value.int IntKind.i64 n, Value.int IntKind.i64 n_1, Value.int IntKind.i64 n_2,
      Value.int IntKind.i64 n_3, Value.string s, Value.string s_1, Value.int IntKind.i64 n_4,
      Value.int IntKind.i64 n_5, Value.int IntKind.i64 n_6, Value.int IntKind.i64 n_7,
      Value.int IntKind.i64 n_8, Value.int IntKind.i64 n_9, Value.int IntKind.i64 n_10,
      Value.int IntKind.i64 n_11, Value.int IntKind.i64 n_12, Value.int IntKind.i64 n_13])
      (16 : Nat) a_1.a (cutK l t a_1.i).length a_1.c (1 : Nat) old src a' c' m' →
      ∃ (a'_1 : CuX),
      ((a'_1.i ≤ l.length ∧
      NewR m.sz (fun (x : Nat) => False) a'_1.m (16 : Nat) a'_1.a (cutK l t a'_1.i).length a'_1.c
      (cls (cutK l t a'_1.i)) ∧
      Agree m.sz m a'_1.m) ∧
      m' = a'_1.m ∧
      ((SV.val (Value.int IntKind.i64 (IntKind.i64.wrap ((↑a_1.i : Int) + (1 : Int)))) =
      SV.val (Value.int IntKind.i64 (↑a'_1.i : Int)) ∧
      true = true) ∧
      (SV.val (Value.slice a' ((cutK l t a_1.i).length + (1 : Nat)) c') =
      SV.val (Value.slice a'_1.a (cutK l t a'_1.i).length a'_1.c) ∧
      true = true) ∧
      (SV.val (Value.int IntKind.i64 t) = SV.val (Value.int IntKind.i64 t) ∧ true = true) ∧
      (SV.val (Value.slice a l.length cp) = SV.val (Value.slice a l.length cp) ∧ true = true) ∧
      True) ∧
      True) ∧
      l.length - a'_1.i < l.length - a_1.i))))
      (Done
      (∃ (a' : Option Addr),
      ∃ (c' : Nat), Value.slice a_1.a (cutK l t a_1.i).length a_1.c = Value.slice a' (cutL l t).length c' ∧ (cutL l t).length ≤ c' ∧ Row a_1.m a' (cls (cutL l t))))) (by kernel_rfl) ?_
  have w : ∀ k, k < l.length → IntKind.i64.wrap ((k : Int) + 1) = ((k + 1 : Nat) : Int) := fun k hk => by simp [IntKind.wrap_i64]; omega
  refine ⟨rfl, ⟨⟨0, none, 0, m⟩, ⟨Nat.zero_le _, .nil _, Agree.refl _ _⟩, rfl, by simp [cutK, keepK]⟩, fun y ⟨yi, yo, yag⟩ => ifB_intro (fun hb => ?_) (fun hb => ⟨?_⟩)⟩
  · have hk : y.i < l.length := by simpa using hb
    obtain ⟨b, o, hx, hc⟩ := (h.agree yag).cells (by rw [cl_len]; omega)
    have es := cutK_succ l t y.i
    rw [clA_at hk] at es
    have hlen := cutK_len l t y.i
    have push : l[y.i].ca ≤ t → ∀ src0, src0 = encCl (cutE t l[y.i]) → ∀ b3, y.m.sz ≤ b3 → ∃ old src, AppPre m.sz (fun x => False) (y.m.newBlock b3 src0) 16 144 y.a (cutK l t y.i).length y.c (some ⟨b3, 0, none⟩) 1 old src ∧ ∀ (a' : Option Addr) (c' : Nat) (m' : M), AppPost Try.prog 51 (y.m.newBlock b3 src0) 16 y.a (cutK l t y.i).length y.c 1 old src a' c' m' → ∃ a'_1 : CuX, ((a'_1.i ≤ l.length ∧ NewR m.sz (fun x => False) a'_1.m 16 a'_1.a (cutK l t a'_1.i).length a'_1.c (cls (cutK l t a'_1.i)) ∧ Agree m.sz m a'_1.m) ∧ m' = a'_1.m ∧ ((SV.val (.int .i64 (IntKind.i64.wrap ((y.i : Int) + 1))) = SV.val (I a'_1.i) ∧ true = true) ∧ (SV.val (.slice a' ((cutK l t y.i).length + 1) c') = SV.val (.slice a'_1.a (cutK l t a'_1.i).length a'_1.c) ∧ true = true) ∧ (SV.val (I t) = SV.val (I t) ∧ true = true) ∧ (SV.val (.slice a l.length cp) = SV.val (.slice a l.length cp) ∧ true = true) ∧ True) ∧ True) ∧ l.length - a'_1.i < l.length - y.i := by
      intro hca src0 hs b3 hb3
      subst hs
      rw [if_pos hca] at es
      obtain ⟨p1, p2⟩ := yo.push (P := Try.prog) (e := 51) (bytes := 144) (src := encCl (cutE t l[y.i])) hb3 yag.2.2 rfl rfl (by omega) cl_zr
      refine ⟨_, _, p1, fun a' c' m' hp => ?_⟩
      obtain ⟨g1, g2⟩ := p2 a' c' m' hp
      refine ⟨⟨y.i + 1, a', c', m'⟩, ⟨⟨hk, ?_, yag.trans g2⟩, rfl, by simp [w _ hk, es]⟩, by simp only; omega⟩
      simp only
      rw [es, List.length_append, show cls (cutK l t y.i ++ [cutE t l[y.i]]) = cls (cutK l t y.i) ++ encCl (cutE t l[y.i]) by simp [cls]]
      exact g1
    refine ⟨b, o, hx, by omega, _, _, _, _, _, _, _, _, _, _, _, _, _, _, _, _, by simpa using cl_at hc hk, ifB_intro (fun h1 => ?_) (fun h1 => ?_)⟩
    · have h1 : ¬ l[y.i].ca ≤ t := by simp at h1; omega
      rw [if_neg h1, List.append_nil] at es
      exact ⟨⟨y.i + 1, y.a, y.c, y.m⟩, ⟨⟨hk, by simp only; rw [es]; exact yo, yag⟩, rfl, by simp [w _ hk, es]⟩, by simp only; omega⟩
    · have h1 : l[y.i].ca ≤ t := by simp at h1; omega
      refine ifB_intro (fun h2 => ifB_intro (fun h3 => ⟨rfl, push h1 _ ?_⟩) (fun h3 => ⟨rfl, push h1 _ ?_⟩)) (fun h2 => ifB_intro (fun h3 => ⟨rfl, push h1 _ ?_⟩) (fun h3 => ⟨rfl, push h1 _ ?_⟩))
      · have h2 : l[y.i].mo > t := by simpa using h2
        have h3 : l[y.i].aw > t := by simpa using h3
        simp only [encCl, cutE, if_pos h2, if_pos h3]
      · have h2 : l[y.i].mo > t := by simpa using h2
        have h3 : ¬ l[y.i].aw > t := by simpa using h3
        simp only [encCl, cutE, if_pos h2, if_neg h3]
      · have h2 : ¬ l[y.i].mo > t := by simpa using h2
        have h3 : l[y.i].aw > t := by simpa using h3
        simp only [encCl, cutE, if_neg h2, if_pos h3]
      · have h2 : ¬ l[y.i].mo > t := by simpa using h2
        have h3 : ¬ l[y.i].aw > t := by simpa using h3
        simp only [encCl, cutE, if_neg h2, if_neg h3]
  · have hk : y.i = l.length := by simp at hb; omega
    rw [hk] at yo ⊢
    exact ⟨y.a, y.c, rfl, newR_cap yo, yo.row⟩

theorem witnesscut (a : Option Addr) (cp : Nat) (l : List Cl) (t : Int) (hn : l.length ≤ 977343669105) (hcp : l.length ≤ cp) (hl : ∀ x ∈ l, x.wf) (m : M) (h : Row m a (cls l)) :
    QSpec Try.prog 7 [.slice a l.length cp, I t] m (.bool true) := by
  refine QSpec.of_vc Try.func7 (ann := fun _ => noAnn) fun N hN => ?_
  refine vc_by (X :=
      true = true ∧
      ∃ (n : Int),
      ∃ (n_1 : Int),
      QSpec Try.prog (24 : Nat) [Value.slice a l.length cp] { π := m.π, sz := N, uf := m.uf : M } (Value.tuple #[Value.int IntKind.i64 n, Value.int IntKind.i64 n_1]) ∧
      ∃ (b : Bool),
      QSpec Try.prog (14 : Nat) [] { π := m.π, sz := N, uf := m.uf : M } (Value.bool b) ∧
      ifB (!b) (∃ (b : Bool), QSpec Try.prog (14 : Nat) [] { π := m.π, sz := N, uf := m.uf : M } (Value.bool b) ∧ Done (Value.bool b = Value.bool true))
      (ifB (n_1 != (0 : Int)) (∃ (b : Bool), QSpec Try.prog (14 : Nat) [] { π := m.π, sz := N, uf := m.uf : M } (Value.bool b) ∧ Done (Value.bool b = Value.bool true))
      (∃ (S' : Nat → Prop),
      (∀ (b : Nat), S' b → m.uf b ∧ (N ≤ b ∨ False)) ∧
      ∀ (n : Nat),
      N ≤ n →
      SpecW Try.prog (25 : Nat) [Value.slice a l.length cp, Value.int IntKind.i64 t] { π := m.π, sz := n, uf := m.uf : M } S' fun (v : Value) (m' : M) =>
      ∃ (a : Option Addr),
      ∃ (n : Nat),
      ∃ (c : Nat),
      v = Value.slice a n c ∧
      ∃ (n_2 : Int),
      ∃ (n_3 : Int),
      QSpec Try.prog (24 : Nat) [Value.slice a n c] m' (Value.tuple #[Value.int IntKind.i64 n_2, Value.int IntKind.i64 n_3]) ∧
      ifB (n_3 == (0 : Int)) (Done (Value.bool (n_2 == (↑n : Int)) = Value.bool true)) (Done (Value.bool false = Value.bool true))))) (by kernel_rfl) ?_
  have h' := h.sz hN
  refine ⟨rfl, _, _, wLegal_q a cp l hn hcp hl _ h', _, wawake_q _, ifB_false ?_⟩
  rcases leg_cases l with ⟨hg, e⟩ | ⟨h1, h2, h3⟩
  · rw [e]
    refine ifB_false ⟨_, noS, fun N1 hN1 => (cutoff_s a cp l t hn _ (h'.sz hN1)).monoW fun v1 m1 ag1 q1 => ?_⟩
    obtain ⟨x, d, e1, hc1, r1⟩ := q1
    have hL := wLegal_q x d (cutL l t) (by have := cutK_len l t l.length; unfold cutL; omega) hc1 (cutL_wf hl t) _ r1
    rw [(cut_legal (t := t) hg).leg] at hL
    exact ⟨_, _, _, e1, _, _, hL, ifB_true ⟨by simp⟩⟩
  · exact ifB_true' (by simpa using h1) ⟨_, wawake_q _, ⟨rfl⟩⟩

end Go.Proofs.Ytbhlhnkjmncloaa
set_option linter.unusedVariables false
set_option linter.unusedSimpArgs false
namespace Go.Proofs.Ytbhlhnkjmncloaa
open Go.Vc Go.RowKit
set_option maxRecDepth 100000

theorem pickN (x : Int) {n : Nat} (h : 0 < n) (hn : n ≤ 977343669105) : ∃ k : Nat, k < n ∧ IntKind.i64.wrap ((IntKind.u64.wrap x).tmod (IntKind.u64.wrap (n : Int))) = (k : Int) := by
  have e : IntKind.u64.wrap (n : Int) = (n : Int) := by simp [IntKind.wrap_u64]; omega
  have h0 : 0 ≤ IntKind.u64.wrap x := by simp [IntKind.wrap_u64]; omega
  rw [e]
  have h1 := Int.tmod_nonneg (n : Int) h0
  have h2 := Int.tmod_lt_of_pos (IntKind.u64.wrap x) (show (0 : Int) < (n : Int) by omega)
  obtain ⟨k, hk⟩ := Int.eq_ofNat_of_zero_le h1
  rw [hk] at h2 ⊢
  exact ⟨k, by omega, by simp [IntKind.wrap_i64]; omega⟩

section
variable {l : List Cl} {k : Nat} {c' : Cl}

theorem clA_set (hk : k < l.length) (i : Nat) : clA (l.set k c') i = if i = k then c' else clA l i := by
  unfold clA
  by_cases e : i = k
  · subst e; rw [if_pos rfl, List.getElem?_set_self hk]; rfl
  · rw [if_neg e, List.getElem?_set_ne (Ne.symm e)]

/-- where moments and operations stay, the order and what comes of it stay -/
theorem set_ord (hk : k < l.length) (hm : c'.mo = (clA l k).mo) : ordL (l.set k c') = ordL l := by
  have e : ∀ i, moA (l.set k c') i = moA l i := fun i => by
    rw [moA_cl, moA_cl, clA_set hk]
    by_cases e : i = k
    · rw [if_pos e, e, hm]
    · rw [if_neg e]
  refine (ordL_is (l.set k c')).uniq ⟨?_, fun i => ?_⟩
  · refine (ordL_is l).pw.imp fun {a b} h => ?_
    unfold lexC at h ⊢
    rw [e, e]; exact h
  · rw [(ordL_is l).mem, e, List.length_set]

theorem runC_op : ∀ {a b : List Cl} {t : List Tt}, a.map opC = b.map opC → runC a t = runC b t
  | [], [], _, _ => rfl
  | [], _ :: _, _, h => by simp at h
  | _ :: _, [], _, h => by simp at h
  | x :: xs, y :: ys, t, h => by
    simp only [List.map_cons, List.cons.injEq] at h
    show runC xs (doT t (opC x)).1 = runC ys (doT t (opC y)).1
    rw [h.1]
    exact runC_op h.2

theorem set_run (hk : k < l.length) (hm : c'.mo = (clA l k).mo) (ho : opC c' = opC (clA l k)) (j : Nat) : runC ((ordC (l.set k c')).take j) [] = runC ((ordC l).take j) [] := by
  refine runC_op ?_
  rw [List.map_take, List.map_take]
  congr 1
  unfold ordC
  rw [set_ord hk hm, List.map_map, List.map_map]
  refine List.map_congr_left fun i _ => ?_
  simp only [Function.comp]
  rw [clA_set hk]
  by_cases e : i = k
  · rw [if_pos e, e, ho]
  · rw [if_neg e]

/-- a call that was told rightly is told rightly in one way -/
theorem set_rig (h : LegO l) (hk : k < l.length) (hpos : 0 < (clA l k).mo) (hm : c'.mo = (clA l k).mo) (ho : opC c' = opC (clA l k)) (h2 : LegO (l.set k c')) : ∃ A, rigB (clA l k) A = true ∧ rigB c' A = true := by
  have hmem : k ∈ ordL l := ((ordL_is l).mem k).2 ⟨hk, by rw [moA_cl]; exact hpos⟩
  obtain ⟨j, hj, e⟩ := List.mem_iff_getElem.1 hmem
  have g1 := (sec_at h.sec j (by omega)).2 hj
  have hj2 : j < (ordL (l.set k c')).length := by rw [set_ord hk hm]; exact hj
  have g2 := (sec_at h2.sec j (by omega)).2 hj2
  have e2 : (ordL (l.set k c'))[j] = k := by
    have h1 : (ordL (l.set k c'))[j]? = (ordL l)[j]? := by rw [set_ord hk hm]
    rw [List.getElem?_eq_getElem hj, List.getElem?_eq_getElem hj2] at h1
    exact (Option.some.inj h1).trans e
  rw [e2, set_run hk hm ho, clA_set hk, if_pos rfl, ho] at g2
  rw [e] at g1
  exact ⟨_, g1, g2⟩

theorem set_frm (hk : k < l.length) (h : ∀ e, WrgZ c' e → False) : ¬ LegO (l.set k c') := fun h2 => by
  have := h2.frm k (by rw [List.length_set]; exact hk)
  rw [clA_set hk, if_pos rfl] at this
  exact h _ this
end

theorem set_fld {B : Nat} {S : Nat → Prop} {m : M} {b o len cap : Nat} {l : List Cl} {k : Nat} (h : OwnB B S m 16 (some ⟨b, o, none⟩) len cap (cls l)) (hk : k < l.length) (j : Nat) (x v : Value) (c' : Cl)
    (e1 : encCl l[k] = (encCl l[k]).take j ++ ([x] ++ (encCl l[k]).drop (j + 1))) (e2 : encCl c' = (encCl l[k]).take j ++ ([v] ++ (encCl l[k]).drop (j + 1))) (hp : ((encCl l[k]).take j).length = j) :
    Wr B S m b (o + k * 16 + j) 1 ∧ Row (m.setCells b (o + k * 16 + j) [v]) (some ⟨b, o, none⟩) (cls (l.set k c')) := by
  obtain ⟨p1, p2⟩ := OwnB.setField cl_k h hk c' e1 e2 rfl
  rw [hp] at p1 p2
  exact ⟨p1, p2.row⟩

theorem witnesscatches (a : Option Addr) (cp : Nat) (l : List Cl) (pick how : Int) (hn : l.length ≤ 977343669105) (hcp : l.length ≤ cp) (hl : ∀ x ∈ l, x.wf) (hp : In64 pick) (hh : In64 how) (m : M) (h : Row m a (cls l)) :
    QSpec Try.prog 6 [.slice a l.length cp, I pick, I how] m (.bool true) := by
  refine QSpec.of_vc Try.func6 (ann := fun _ _ => noAnn 0) fun N hN => ?_
  refine vc_by (X :=
      true = true ∧
      ∃ (n : Int),
      ∃ (n_1 : Int),
      QSpec Try.prog (24 : Nat) [Value.slice a l.length cp] { π := m.π, sz := N, uf := m.uf : M } (Value.tuple #[Value.int IntKind.i64 n, Value.int IntKind.i64 n_1]) ∧
      ∃ (b : Bool),
      QSpec Try.prog (14 : Nat) [] { π := m.π, sz := N, uf := m.uf : M } (Value.bool b) ∧
      ifB (!b) (∃ (b : Bool), QSpec Try.prog (14 : Nat) [] { π := m.π, sz := N, uf := m.uf : M } (Value.bool b) ∧ Done (Value.bool b = Value.bool true))
      (ifB (n_1 != (0 : Int)) (∃ (b : Bool), QSpec Try.prog (14 : Nat) [] { π := m.π, sz := N, uf := m.uf : M } (Value.bool b) ∧ Done (Value.bool b = Value.bool true))
      (ifB ((↑l.length : Int) == (0 : Int))
      (∃ (b : Bool), QSpec Try.prog (14 : Nat) [] { π := m.π, sz := N, uf := m.uf : M } (Value.bool b) ∧ Done (Value.bool b = Value.bool true))
      (IntKind.u64.wrap (↑l.length : Int) ≠ (0 : Int) ∧
      true = true ∧
      ∀ (b : Nat),
      N ≤ b →
      ∃ (old : List Value),
      ∃ (src : List Value),
      AppPre N (fun (x : Nat) => False) ({ π := m.π, sz := N, uf := m.uf : M }.newBlock b []) (16 : Nat) (144 : Nat)
      (some { block := b, off := (0 : Nat) : Addr }) (0 : Nat) (0 : Nat) a l.length old src ∧
      ∀ (a' : Option Addr) (c' : Nat) (m' : M),
      AppPost Try.prog (51 : Nat) ({ π := m.π, sz := N, uf := m.uf : M }.newBlock b []) (16 : Nat) (some { block := b, off := (0 : Nat) : Addr })
      (0 : Nat) (0 : Nat) l.length old src a' c' m' →
      ∃ (b : Nat),
      ∃ (off : Nat),
      a' = some { block := b, off := off : Addr } ∧
      ((0 : Int) ≤ IntKind.i64.wrap ((IntKind.u64.wrap pick).tmod (IntKind.u64.wrap (↑l.length : Int))) ∧
      IntKind.i64.wrap ((IntKind.u64.wrap pick).tmod (IntKind.u64.wrap (↑l.length : Int))) < (↑((0 : Nat) + l.length) : Int)) ∧
      (6 : Int) ≠ (0 : Int) ∧
      ifB (how.tmod (6 : Int) == (0 : Int))
      (∃ (n : Int),
      CellsAt m' b
      (off + (IntKind.i64.wrap ((IntKind.u64.wrap pick).tmod (IntKind.u64.wrap (↑l.length : Int)))).toNat * (16 : Nat) + (3 : Nat) +
      (0 : Nat))
      [Value.int IntKind.i64 n] ∧
      ifB (n != (4 : Int)) (Done (Value.bool true = Value.bool true))
      (∃ (n : Int),
      CellsAt m' b
      (off + (IntKind.i64.wrap ((IntKind.u64.wrap pick).tmod (IntKind.u64.wrap (↑l.length : Int)))).toNat * (16 : Nat) +
      (11 : Nat))
      [Value.int IntKind.i64 n] ∧
      ifB (n == (0 : Int)) (Done (Value.bool true = Value.bool true))
      (∃ (n : Int),
      CellsAt m' b
      (off + (IntKind.i64.wrap ((IntKind.u64.wrap pick).tmod (IntKind.u64.wrap (↑l.length : Int)))).toNat * (16 : Nat) +
      (10 : Nat))
      [Value.int IntKind.i64 n] ∧
      ifB (decide (n ≤ (0 : Int))) (Done (Value.bool true = Value.bool true))
      (∃ (n : Int),
      CellsAt m' b
      (off +
      (IntKind.i64.wrap ((IntKind.u64.wrap pick).tmod (IntKind.u64.wrap (↑l.length : Int)))).toNat *
      (16 : Nat) +
      (12 : Nat) +
      (0 : Nat))
      [Value.int IntKind.i64 n] ∧
      ifB (n != (0 : Int)) (Done (Value.bool true = Value.bool true))
      (∃ (n : Int),
      CellsAt m' b
      (off +
      (IntKind.i64.wrap ((IntKind.u64.wrap pick).tmod (IntKind.u64.wrap (↑l.length : Int)))).toNat *
      (16 : Nat) +
      (12 : Nat) +
      (1 : Nat))
      [Value.int IntKind.i64 n] ∧
      Wr N (fun (x : Nat) => False) m' b
      (off +
      (IntKind.i64.wrap ((IntKind.u64.wrap pick).tmod (IntKind.u64.wrap (↑l.length : Int)))).toNat *
      (16 : Nat) +
      (12 : Nat) +
      (1 : Nat))
      #[Value.int IntKind.i64 (IntKind.i64.wrap (n + (1 : Int)))].size ∧
      ∃ (n_2 : Int),
      ∃ (n_3 : Int),
      QSpec Try.prog (24 : Nat) [Value.slice a' ((0 : Nat) + l.length) c']
      (m'.setCells b
      (off +
      (IntKind.i64.wrap
      ((IntKind.u64.wrap pick).tmod (IntKind.u64.wrap (↑l.length : Int)))).toNat *
      (16 : Nat) +
      (12 : Nat) +
      (1 : Nat))
      [Value.int IntKind.i64 (IntKind.i64.wrap (n + (1 : Int)))])
      (Value.tuple #[Value.int IntKind.i64 n_2, Value.int IntKind.i64 n_3]) ∧
      ifB (n_3 != (0 : Int))
      (ifB (decide (n_2 ≥ (0 : Int)))
      (Done (Value.bool (decide (n_2 < (↑((0 : Nat) + l.length) : Int))) = Value.bool true))
      (Done (Value.bool false = Value.bool true)))
      (Done (Value.bool false = Value.bool true)))))))
      (ifB (how.tmod (6 : Int) == (1 : Int))
      (∃ (n : Int),
      CellsAt m' b
      (off + (IntKind.i64.wrap ((IntKind.u64.wrap pick).tmod (IntKind.u64.wrap (↑l.length : Int)))).toNat * (16 : Nat) +
      (11 : Nat))
      [Value.int IntKind.i64 n] ∧
      ifB (n == (0 : Int)) (Done (Value.bool true = Value.bool true))
      (∃ (n : Int),
      CellsAt m' b
      (off + (IntKind.i64.wrap ((IntKind.u64.wrap pick).tmod (IntKind.u64.wrap (↑l.length : Int)))).toNat * (16 : Nat) +
      (12 : Nat) +
      (0 : Nat))
      [Value.int IntKind.i64 n] ∧
      ifB (n != (0 : Int)) (Done (Value.bool true = Value.bool true))
      (Wr N (fun (x : Nat) => False) m' b
      (off + (IntKind.i64.wrap ((IntKind.u64.wrap pick).tmod (IntKind.u64.wrap (↑l.length : Int)))).toNat * (16 : Nat) +
      (10 : Nat))
      (1 : Nat) ∧
      ∃ (n : Int),
      ∃ (n_2 : Int),
      QSpec Try.prog (24 : Nat) [Value.slice a' ((0 : Nat) + l.length) c']
      (m'.setCells b
      (off +
      (IntKind.i64.wrap ((IntKind.u64.wrap pick).tmod (IntKind.u64.wrap (↑l.length : Int)))).toNat *
      (16 : Nat) +
      (10 : Nat))
      [Value.int IntKind.i64 (0 : Int)])
      (Value.tuple #[Value.int IntKind.i64 n, Value.int IntKind.i64 n_2]) ∧
      ifB (n_2 != (0 : Int))
      (ifB (decide (n ≥ (0 : Int)))
      (Done (Value.bool (decide (n < (↑((0 : Nat) + l.length) : Int))) = Value.bool true))
      (Done (Value.bool false = Value.bool true)))
      (Done (Value.bool false = Value.bool true)))))
      (ifB (how.tmod (6 : Int) == (2 : Int))
      (∃ (n : Int),
      CellsAt m' b
      (off + (IntKind.i64.wrap ((IntKind.u64.wrap pick).tmod (IntKind.u64.wrap (↑l.length : Int)))).toNat * (16 : Nat) +
      (11 : Nat))
      [Value.int IntKind.i64 n] ∧
      ifB (n == (0 : Int)) (Done (Value.bool true = Value.bool true))
      (∃ (n : Int),
      CellsAt m' b
      (off + (IntKind.i64.wrap ((IntKind.u64.wrap pick).tmod (IntKind.u64.wrap (↑l.length : Int)))).toNat * (16 : Nat) +
      (10 : Nat))
      [Value.int IntKind.i64 n] ∧
      ifB (decide (n ≤ (0 : Int))) (Done (Value.bool true = Value.bool true))
      (∃ (n : Int),
      CellsAt m' b
      (off +
      (IntKind.i64.wrap ((IntKind.u64.wrap pick).tmod (IntKind.u64.wrap (↑l.length : Int)))).toNat *
      (16 : Nat) +
      (11 : Nat))
      [Value.int IntKind.i64 n] ∧
      ifB (n == (9223372036854775807 : Int)) (Done (Value.bool true = Value.bool true))
      (∃ (n : Int),
      CellsAt m' b
      (off +
      (IntKind.i64.wrap ((IntKind.u64.wrap pick).tmod (IntKind.u64.wrap (↑l.length : Int)))).toNat *
      (16 : Nat) +
      (11 : Nat))
      [Value.int IntKind.i64 n] ∧
      Wr N (fun (x : Nat) => False) m' b
      (off +
      (IntKind.i64.wrap ((IntKind.u64.wrap pick).tmod (IntKind.u64.wrap (↑l.length : Int)))).toNat *
      (16 : Nat) +
      (10 : Nat))
      #[Value.int IntKind.i64 (IntKind.i64.wrap (n + (1 : Int)))].size ∧
      ∃ (n_2 : Int),
      ∃ (n_3 : Int),
      QSpec Try.prog (24 : Nat) [Value.slice a' ((0 : Nat) + l.length) c']
      (m'.setCells b
      (off +
      (IntKind.i64.wrap
      ((IntKind.u64.wrap pick).tmod (IntKind.u64.wrap (↑l.length : Int)))).toNat *
      (16 : Nat) +
      (10 : Nat))
      [Value.int IntKind.i64 (IntKind.i64.wrap (n + (1 : Int)))])
      (Value.tuple #[Value.int IntKind.i64 n_2, Value.int IntKind.i64 n_3]) ∧
      ifB (n_3 != (0 : Int))
      (ifB (decide (n_2 ≥ (0 : Int)))
      (Done (Value.bool (decide (n_2 < (↑((0 : Nat) + l.length) : Int))) = Value.bool true))
      (Done (Value.bool false = Value.bool true)))
      (Done (Value.bool false = Value.bool true))))))
      (ifB (how.tmod (6 : Int) == (3 : Int))
      (∃ (n : Int),
      CellsAt m' b
      (off + (IntKind.i64.wrap ((IntKind.u64.wrap pick).tmod (IntKind.u64.wrap (↑l.length : Int)))).toNat * (16 : Nat) +
      (11 : Nat))
      [Value.int IntKind.i64 n] ∧
      ifB (n == (0 : Int)) (Done (Value.bool true = Value.bool true))
      (∃ (n : Int),
      CellsAt m' b
      (off + (IntKind.i64.wrap ((IntKind.u64.wrap pick).tmod (IntKind.u64.wrap (↑l.length : Int)))).toNat * (16 : Nat) +
      (10 : Nat))
      [Value.int IntKind.i64 n] ∧
      ifB (decide (n ≤ (0 : Int))) (Done (Value.bool true = Value.bool true))
      (∃ (n : Int),
      CellsAt m' b
      (off +
      (IntKind.i64.wrap ((IntKind.u64.wrap pick).tmod (IntKind.u64.wrap (↑l.length : Int)))).toNat *
      (16 : Nat) +
      (12 : Nat) +
      (0 : Nat))
      [Value.int IntKind.i64 n] ∧
      ifB (n == (0 : Int))
      (Wr N (fun (x : Nat) => False) m' b
      (off +
      (IntKind.i64.wrap ((IntKind.u64.wrap pick).tmod (IntKind.u64.wrap (↑l.length : Int)))).toNat *
      (16 : Nat) +
      (12 : Nat) +
      (0 : Nat))
      (1 : Nat) ∧
      ∃ (n : Int),
      ∃ (n_2 : Int),
      QSpec Try.prog (24 : Nat) [Value.slice a' ((0 : Nat) + l.length) c']
      (m'.setCells b
      (off +
      (IntKind.i64.wrap
      ((IntKind.u64.wrap pick).tmod (IntKind.u64.wrap (↑l.length : Int)))).toNat *
      (16 : Nat) +
      (12 : Nat) +
      (0 : Nat))
      [Value.int IntKind.i64 (150 : Int)])
      (Value.tuple #[Value.int IntKind.i64 n, Value.int IntKind.i64 n_2]) ∧
      ifB (n_2 != (0 : Int))
      (ifB (decide (n ≥ (0 : Int)))
      (Done (Value.bool (decide (n < (↑((0 : Nat) + l.length) : Int))) = Value.bool true))
      (Done (Value.bool false = Value.bool true)))
      (Done (Value.bool false = Value.bool true)))
      (Wr N (fun (x : Nat) => False) m' b
      (off +
      (IntKind.i64.wrap ((IntKind.u64.wrap pick).tmod (IntKind.u64.wrap (↑l.length : Int)))).toNat *
      (16 : Nat) +
      (12 : Nat) +
      (0 : Nat))
      (1 : Nat) ∧
      ∃ (n : Int),
      CellsAt
      (m'.setCells b
      (off +
      (IntKind.i64.wrap
      ((IntKind.u64.wrap pick).tmod (IntKind.u64.wrap (↑l.length : Int)))).toNat *
      (16 : Nat) +
      (12 : Nat) +
      (0 : Nat))
      [Value.int IntKind.i64 (0 : Int)])
      b
      (off +
      (IntKind.i64.wrap ((IntKind.u64.wrap pick).tmod (IntKind.u64.wrap (↑l.length : Int)))).toNat *
      (16 : Nat) +
      (3 : Nat) +
      (0 : Nat))
      [Value.int IntKind.i64 n] ∧
      ifB (n == (4 : Int)) (Done (Value.bool true = Value.bool true))
      (∃ (n : Int),
      CellsAt
      (m'.setCells b
      (off +
      (IntKind.i64.wrap
      ((IntKind.u64.wrap pick).tmod (IntKind.u64.wrap (↑l.length : Int)))).toNat *
      (16 : Nat) +
      (12 : Nat) +
      (0 : Nat))
      [Value.int IntKind.i64 (0 : Int)])
      b
      (off +
      (IntKind.i64.wrap
      ((IntKind.u64.wrap pick).tmod (IntKind.u64.wrap (↑l.length : Int)))).toNat *
      (16 : Nat) +
      (3 : Nat) +
      (0 : Nat))
      [Value.int IntKind.i64 n] ∧
      ifB (n == (3 : Int)) (Done (Value.bool true = Value.bool true))
      (∃ (n : Int),
      ∃ (n_2 : Int),
      QSpec Try.prog (24 : Nat) [Value.slice a' ((0 : Nat) + l.length) c']
      (m'.setCells b
      (off +
      (IntKind.i64.wrap
      ((IntKind.u64.wrap pick).tmod
      (IntKind.u64.wrap (↑l.length : Int)))).toNat *
      (16 : Nat) +
      (12 : Nat) +
      (0 : Nat))
      [Value.int IntKind.i64 (0 : Int)])
      (Value.tuple #[Value.int IntKind.i64 n, Value.int IntKind.i64 n_2]) ∧
      ifB (n_2 != (0 : Int))
      (ifB (decide (n ≥ (0 : Int)))
      (Done (Value.bool (decide (n < (↑((0 : Nat) + l.length) : Int))) = Value.bool true))
      (Done (Value.bool false = Value.bool true)))
      (Done (Value.bool false = Value.bool true))))))))
      (ifB (how.tmod (6 : Int) == (4 : Int))
      (Wr N (fun (x : Nat) => False) m' b
      (off + (IntKind.i64.wrap ((IntKind.u64.wrap pick).tmod (IntKind.u64.wrap (↑l.length : Int)))).toNat * (16 : Nat) +
      (0 : Nat))
      (1 : Nat) ∧
      ∃ (n : Int),
      ∃ (n_2 : Int),
      QSpec Try.prog (24 : Nat) [Value.slice a' ((0 : Nat) + l.length) c']
      (m'.setCells b
      (off +
      (IntKind.i64.wrap ((IntKind.u64.wrap pick).tmod (IntKind.u64.wrap (↑l.length : Int)))).toNat * (16 : Nat) +
      (0 : Nat))
      [Value.int IntKind.i64 (0 : Int)])
      (Value.tuple #[Value.int IntKind.i64 n, Value.int IntKind.i64 n_2]) ∧
      ifB (n_2 != (0 : Int))
      (ifB (decide (n ≥ (0 : Int))) (Done (Value.bool (decide (n < (↑((0 : Nat) + l.length) : Int))) = Value.bool true))
      (Done (Value.bool false = Value.bool true)))
      (Done (Value.bool false = Value.bool true)))
      (Wr N (fun (x : Nat) => False) m' b
      (off + (IntKind.i64.wrap ((IntKind.u64.wrap pick).tmod (IntKind.u64.wrap (↑l.length : Int)))).toNat * (16 : Nat) +
      (9 : Nat))
      (1 : Nat) ∧
      ∃ (n : Int),
      ∃ (n_2 : Int),
      QSpec Try.prog (24 : Nat) [Value.slice a' ((0 : Nat) + l.length) c']
      (m'.setCells b
      (off +
      (IntKind.i64.wrap ((IntKind.u64.wrap pick).tmod (IntKind.u64.wrap (↑l.length : Int)))).toNat * (16 : Nat) +
      (9 : Nat))
      [Value.int IntKind.i64 (0 : Int)])
      (Value.tuple #[Value.int IntKind.i64 n, Value.int IntKind.i64 n_2]) ∧
      ifB (n_2 != (0 : Int))
      (ifB (decide (n ≥ (0 : Int))) (Done (Value.bool (decide (n < (↑((0 : Nat) + l.length) : Int))) = Value.bool true))
      (Done (Value.bool false = Value.bool true)))
      (Done (Value.bool false = Value.bool true))))))))))) (by kernel_rfl) ?_
  have h' := h.sz hN
  refine ⟨rfl, _, _, wLegal_q a cp l hn hcp hl _ h', _, wawake_q _, ifB_false ?_⟩
  rcases leg_cases l with ⟨hg, e⟩ | ⟨h1, h2, h3⟩
  case inr => exact ifB_true' (by simpa using h1) ⟨_, wawake_q _, ⟨rfl⟩⟩
  rw [e]
  refine ifB_false (ifB_intro (fun h0 => ⟨_, wawake_q _, ⟨rfl⟩⟩) (fun h0 => ?_))
  have hpos : 0 < l.length := by simp at h0; exact List.length_pos_iff.2 h0
  obtain ⟨k, hk, ek⟩ := pickN pick hpos hn
  rw [ek]
  have eu : IntKind.u64.wrap (l.length : Int) = (l.length : Int) := by simp [IntKind.wrap_u64]; omega
  refine ⟨by rw [eu]; omega, rfl, fun b hb => ?_⟩
  have ho : OwnB N (fun _ => False) (({ m with sz := N } : M).newBlock b []) 16 (some ⟨b, 0, none⟩) 0 0 [] := OwnB.fresh hb rfl
  have hr : Row (({ m with sz := N } : M).newBlock b []) a (cls l) := h'.newBlock hb
  refine ⟨_, _, ho.appPre hr (cl_len l) (cl_one l) (by omega), fun a' c' m' hp' => ?_⟩
  have O := ho.append hp' (cl_len l) cl_zr (by simp only [M.newBlock]; omega)
  simp only [Nat.zero_add, List.nil_append] at O ⊢
  obtain ⟨b2, o2, rfl, hc⟩ := O.row.cells (by rw [cl_len]; omega)
  have hcap := O.capLe
  have hwk : l[k].wf := hl _ (List.getElem_mem hk)
  obtain ⟨y1, y2, y3, y4, y5, y6, y7, y8, y9, y10, y11, y12, y13, y14, y15, y16⟩ := id hwk
  have zI : In64 0 := by decide
  have wI : ∀ x, In64 (IntKind.i64.wrap x) := fun x => by unfold In64; simp [IntKind.wrap_i64]; omega
  have ekc := clA_at hk
  have hd : ∀ how : Int, IntKind.i64.wrap how = how → True := fun _ _ => trivial
  simp only [Int.toNat_natCast]
  have fin : ∀ (c2 : Cl) (m2 : M), c2.wf → ¬ LegO (l.set k c2) → Row m2 (some ⟨b2, o2, none⟩) (cls (l.set k c2)) → ∃ n n_2, QSpec Try.prog 24 [.slice (some ⟨b2, o2, none⟩) l.length c'] m2 (.tuple #[I n, I n_2]) ∧ ifB (n_2 != 0) (ifB (decide (n ≥ 0)) (Done (Value.bool (decide (n < (l.length : Int))) = Value.bool true)) (Done (Value.bool false = Value.bool true))) (Done (Value.bool false = Value.bool true)) := fun c2 m2 hw hno hr2 => by
    have hL := wLegal_q (some ⟨b2, o2, none⟩) c' (l.set k c2) (by rw [List.length_set]; exact hn) (by rw [List.length_set]; exact hcap) (fun x hx => by
      rcases List.mem_or_eq_of_mem_set hx with g | g
      · exact hl x g
      · rw [g]; exact hw) _ hr2
    rcases leg_cases (l.set k c2) with ⟨g1, -⟩ | ⟨g1, g2, g3⟩
    · exact absurd g1 hno
    · rw [List.length_set] at hL g3
      refine ⟨_, _, hL, ifB_true' (by simpa using g1) (ifB_true' (by simpa using g2) ⟨?_⟩)⟩
      simp [g3]
  have f : ∀ (j : Nat) (v : Value), (encCl l[k])[j]? = some v → CellsAt m' b2 (o2 + k * 16 + j) [v] := fun j v hv => fld_at hc hk j v hv
  have s := fun (j : Nat) (x v : Value) (c2 : Cl) e1 e2 hp => set_fld O hk j x v c2 e1 e2 hp
  refine ⟨b2, o2, rfl, by omega, by decide, ifB_intro (fun q0 => ?_) (fun q0 => ifB_intro (fun q1 => ?_) (fun q1 => ifB_intro (fun q2 => ?_) (fun q2 => ifB_intro (fun q3 => ?_) (fun q3 => ifB_intro (fun q4 => ?_) (fun q4 => ?_)))))⟩
  · refine ⟨_, by simpa using f 3 _ rfl, ifB_intro (fun g1 => ⟨by trivial⟩) (fun g1 => ⟨_, by simpa using f 11 _ rfl, ifB_intro (fun g2 => ⟨by trivial⟩) (fun g2 => ⟨_, by simpa using f 10 _ rfl, ifB_intro (fun g3 => ⟨by trivial⟩) (fun g3 => ⟨_, by simpa using f 12 _ rfl, ifB_intro (fun g4 => ⟨by trivial⟩) (fun g4 => ⟨_, by simpa using f 13 _ rfl, ?_⟩)⟩)⟩)⟩)⟩
    obtain ⟨w1, w2⟩ := s 13 _ (.int .i64 (IntKind.i64.wrap (l[k].an_va + 1))) { l[k] with an_va := IntKind.i64.wrap (l[k].an_va + 1) } rfl rfl rfl
    refine ⟨by simpa using w1, fin _ _ ?_ (fun hG => ?_) (by simpa using w2)⟩
    · exact ⟨y1, y2, y3, y4, y5, y6, y7, y8, y9, y10, y11, y12, y13, wI _, y15, y16⟩
    · simp at g1 g2 g3 g4
      obtain ⟨A, r1, r2⟩ := set_rig (c' := { l[k] with an_va := IntKind.i64.wrap (l[k].an_va + 1) }) hg hk (by rw [ekc]; exact g3) (by rw [ekc]) (by rw [ekc]; rfl) hG
      rw [ekc] at r1
      have k1 := rig_fields r1 g2
      have k2 := rig_fields r2 g2
      have e0 : A.er = 0 := by rw [k1.1, g4]
      have u1 := (k1.2 e0).1 g1
      have u2 := (k2.2 e0).1 g1
      rw [u1] at u2
      simp [IntKind.wrap_i64] at u2
      omega
  · refine ⟨_, by simpa using f 11 _ rfl, ifB_intro (fun g1 => ⟨by trivial⟩) (fun g1 => ⟨_, by simpa using f 12 _ rfl, ifB_intro (fun g2 => ⟨by trivial⟩) (fun g2 => ?_)⟩)⟩
    obtain ⟨w1, w2⟩ := s 10 _ (I 0) { l[k] with mo := 0 } rfl rfl rfl
    refine ⟨by simpa using w1, fin _ _ ?_ (set_frm hk fun e he => ?_) (by simpa using w2)⟩
    · exact ⟨y1, y2, y3, y4, y5, y6, y7, y8, y9, y10, zI, y12, y13, y14, y15, y16⟩
    · simp at g1 g2
      have := he.non
      simp [nonB, g1, g2, noEff] at this
  · refine ⟨_, by simpa using f 11 _ rfl, ifB_intro (fun g1 => ⟨by trivial⟩) (fun g1 => ⟨_, by simpa using f 10 _ rfl, ifB_intro (fun g2 => ⟨by trivial⟩) (fun g2 => ⟨_, by simpa using f 11 _ rfl, ifB_intro (fun g3 => ⟨by trivial⟩) (fun g3 => ⟨_, by simpa using f 11 _ rfl, ?_⟩)⟩)⟩)⟩
    obtain ⟨w1, w2⟩ := s 10 _ (.int .i64 (IntKind.i64.wrap (l[k].aw + 1))) { l[k] with mo := IntKind.i64.wrap (l[k].aw + 1) } rfl rfl rfl
    refine ⟨by simpa using w1, fin _ _ ?_ (set_frm hk fun e he => ?_) (by simpa using w2)⟩
    · exact ⟨y1, y2, y3, y4, y5, y6, y7, y8, y9, y10, wI _, y12, y13, y14, y15, y16⟩
    · simp at g1 g2 g3
      have h4 := hg.frm k hk
      rw [ekc] at h4
      have h5 := old_no h4.old g2
      have ha : In64 l[k].aw := hwk.2.2.2.2.2.2.2.2.2.2.2.1
      unfold In64 at ha
      have hw : IntKind.i64.wrap (l[k].aw + 1) = l[k].aw + 1 := by simp [IntKind.wrap_i64]; omega
      have := old_no he.old (by simp only; rw [hw]; omega)
      simp only [hw] at this
      omega
  · refine ⟨_, by simpa using f 11 _ rfl, ifB_intro (fun g1 => ⟨by trivial⟩) (fun g1 => ⟨_, by simpa using f 10 _ rfl, ifB_intro (fun g2 => ⟨by trivial⟩) (fun g2 => ⟨_, by simpa using f 12 _ rfl, ifB_intro (fun g3 => ?_) (fun g3 => ?_)⟩)⟩)⟩
    · obtain ⟨w1, w2⟩ := s 12 _ (I 150) { l[k] with an_er := 150 } rfl rfl rfl
      refine ⟨by simpa using w1, fin _ _ ?_ (fun hG => ?_) (by simpa using w2)⟩
      · exact ⟨y1, y2, y3, y4, y5, y6, y7, y8, y9, y10, y11, y12, (by decide : In64 150), y14, y15, y16⟩
      · simp at g1 g2 g3
        obtain ⟨A, r1, r2⟩ := set_rig (c' := { l[k] with an_er := 150 }) hg hk (by rw [ekc]; exact g2) (by rw [ekc]) (by rw [ekc]; rfl) hG
        rw [ekc] at r1
        have k1 := (rig_fields r1 g1).1
        have k2 := (rig_fields r2 g1).1
        simp only at k2
        omega
    · obtain ⟨w1, w2⟩ := s 12 _ (I 0) { l[k] with an_er := 0 } rfl rfl rfl
      have O2 : CellsAt (m'.setCells b2 (o2 + k * 16 + 12) [I 0]) b2 o2 (cls (l.set k { l[k] with an_er := 0 })) := by
        obtain ⟨b3, o3, e3, hc3⟩ := w2.cells (by rw [cl_len, List.length_set]; omega)
        cases e3; exact hc3
      have hk2 : k < (l.set k { l[k] with an_er := 0 }).length := by rw [List.length_set]; exact hk
      have f3 := fld_at O2 hk2 3 (I l[k].op_kd) (by rw [List.getElem_set_self]; rfl)
      refine ⟨by simpa using w1, _, by simpa using f3, ifB_intro (fun g4 => ⟨by trivial⟩) (fun g4 => ⟨_, by simpa using f3, ifB_intro (fun g5 => ⟨by trivial⟩) (fun g5 => fin _ _ ?_ (fun hG => ?_) (by simpa using w2))⟩)⟩
      · exact ⟨y1, y2, y3, y4, y5, y6, y7, y8, y9, y10, y11, y12, zI, y14, y15, y16⟩
      · simp at g1 g2 g3
        obtain ⟨A, r1, r2⟩ := set_rig (c' := { l[k] with an_er := 0 }) hg hk (by rw [ekc]; exact g2) (by rw [ekc]) (by rw [ekc]; rfl) hG
        rw [ekc] at r1
        have k1 := (rig_fields r1 g1).1
        have k2 := (rig_fields r2 g1).1
        simp only at k2
        omega
  · obtain ⟨w1, w2⟩ := s 0 _ (I 0) { l[k] with cl := 0 } rfl rfl rfl
    refine ⟨by simpa using w1, fin _ _ ?_ (set_frm hk fun e he => ?_) (by simpa using w2)⟩
    · exact ⟨zI, y2, y3, y4, y5, y6, y7, y8, y9, y10, y11, y12, y13, y14, y15, y16⟩
    · have := he.bad
      simp [badB] at this
  · obtain ⟨w1, w2⟩ := s 9 _ (I 0) { l[k] with ca := 0 } rfl rfl rfl
    refine ⟨by simpa using w1, fin _ _ ?_ (set_frm hk fun e he => ?_) (by simpa using w2)⟩
    · exact ⟨y1, y2, y3, y4, y5, y6, y7, y8, y9, zI, y11, y12, y13, y14, y15, y16⟩
    · have := he.bad
      simp [badB] at this

end Go.Proofs.Ytbhlhnkjmncloaa
