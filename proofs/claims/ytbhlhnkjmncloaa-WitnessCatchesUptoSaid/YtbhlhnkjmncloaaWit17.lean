/-
  Contracts of functions of this seat: what each hands back, and what it leaves of memory (wit17). Nothing here is trusted: Lean checks it.
-/
import Derived.Test.YtbhlhnkjmncloaaWit16
set_option linter.unusedVariables false
set_option linter.unusedSimpArgs false
namespace Go.Proofs.Ytbhlhnkjmncloaa
open Go.Vc Go.RowKit
set_option maxRecDepth 100000

theorem moA_rev {l : List Cl} {i : Nat} (h : i < l.length) : moA l.reverse i = moA l (l.length - 1 - i) ∧ clA l.reverse i = clA l (l.length - 1 - i) := by
  have : l.reverse[i]? = l[l.length - 1 - i]? := List.getElem?_reverse h
  simp [moA, clA, this]

theorem strict_mo {l : List Cl} (h : ∀ k (hk : k < (ordC l).length), 1 ≤ k → (ordC l)[k].mo ≠ ((ordC l)[k - 1]'(by omega)).mo) : ∀ i k (hik : i < k) (hk : k < (ordL l).length), moA l ((ordL l)[i]'(by omega)) < moA l (ordL l)[k] := by
  intro i k
  induction k with
  | zero => intro hik; omega
  | succ k ih =>
    intro hik hk
    have h1 := h (k + 1) (by rw [ordC_len]; exact hk) (by omega)
    rw [ordC_get hk] at h1
    have h2 : ((ordC l)[k + 1 - 1]'(by rw [ordC_len]; omega)).mo = moA l ((ordL l)[k]'(by omega)) := by
      rw [moA_cl, ← ordC_get]
      rfl
    rw [h2, ← moA_cl] at h1
    have h3 := mo_le (show k < k + 1 by omega) hk
    rw [← moA_cl, ← moA_cl] at h3
    by_cases e : i = k
    · subst e; omega
    · have := ih (by omega) (by omega)
      omega

theorem ordL_rev {l : List Cl} (h : ∀ k (hk : k < (ordC l).length), 1 ≤ k → (ordC l)[k].mo ≠ ((ordC l)[k - 1]'(by omega)).mo) : ordL l.reverse = (ordL l).map fun i => l.length - 1 - i := by
  have hs := strict_mo h
  refine (ordL_is l.reverse).uniq ⟨?_, fun i => ?_⟩
  · rw [List.pairwise_map, List.pairwise_iff_getElem]
    intro i k hi hk hik
    have h1 := ordL_lt (List.getElem_mem hi)
    have h2 := ordL_lt (List.getElem_mem hk)
    refine .inl ?_
    rw [(moA_rev (show l.length - 1 - (ordL l)[i] < l.length by omega)).1, (moA_rev (show l.length - 1 - (ordL l)[k] < l.length by omega)).1]
    rw [show l.length - 1 - (l.length - 1 - (ordL l)[i]) = (ordL l)[i] by omega, show l.length - 1 - (l.length - 1 - (ordL l)[k]) = (ordL l)[k] by omega]
    exact hs i k hik hk
  · rw [List.mem_map, List.length_reverse]
    constructor
    · rintro ⟨j, hj, rfl⟩
      have h1 := ((ordL_is l).mem j).1 hj
      refine ⟨by omega, ?_⟩
      rw [(moA_rev (show l.length - 1 - j < l.length by omega)).1, show l.length - 1 - (l.length - 1 - j) = j by omega]
      exact h1.2
    · rintro ⟨h1, h2⟩
      rw [(moA_rev h1).1] at h2
      exact ⟨l.length - 1 - i, ((ordL_is l).mem _).2 ⟨by omega, h2⟩, by omega⟩

theorem ordC_rev {l : List Cl} (h : ∀ k (hk : k < (ordC l).length), 1 ≤ k → (ordC l)[k].mo ≠ ((ordC l)[k - 1]'(by omega)).mo) : ordC l.reverse = ordC l := by
  unfold ordC
  rw [ordL_rev h, List.map_map]
  refine List.map_congr_left fun i hi => ?_
  have h1 := ordL_lt hi
  simp only [Function.comp]
  rw [(moA_rev (show l.length - 1 - i < l.length by omega)).2, show l.length - 1 - (l.length - 1 - i) = i by omega]

structure WrX where
  i : Nat
  la : Int
  x : Option Addr
  d : Nat
  a : Option Addr
  c : Nat
  z : Option Addr
  e : Nat
  m1 : M
  m : M

structure WrI (l : List Cl) (al : Option Addr) (y : WrX) : Prop where
  ns : Row y.m y.x (cls (ordC l))
  src : Row y.m al (cls l)

theorem witnessruns (a : Option Addr) (cp : Nat) (l : List Cl) (hn : l.length ≤ 1048576) (hl : ∀ x ∈ l, x.wf) (m : M) (h : Row m a (cls l)) :
    QSpec Try.prog 5 [.slice a l.length cp] m (.bool true) := by
  refine QSpec.of_vc Try.func5 (ann := fun n r => match r with
    | 5 => { A := WrX, inv := fun y => WrI l a y ∧ n ≤ y.m.sz ∧ y.i ≤ (ordC l).length ∧ Row y.m y.a (tts (runC ((ordC l).take y.i) [])) ∧ (∀ k (hk : k < (ordC l).length), y.i ≤ k → y.la ≤ (ordC l)[k].mo), st := fun y => [(6, .val (I y.i)), (4, .val (.slice y.x (ordC l).length y.d)), (5, .val (I y.la)), (3, .val (.slice y.a (runC ((ordC l).take y.i) []).length y.c)), (0, .val (.slice a l.length cp))], own := fun _ => [], m := fun y => y.m, μ := fun y => (ordC l).length - y.i }
    | 15 => { A := WrX, inv := fun y => WrI l a { y with m := y.m1 } ∧ y.i ≤ l.length ∧ Row y.m1 y.a (tts (runC (ordC l) [])) ∧ NewR y.m1.sz (fun _ => False) y.m 16 y.z (l.length - y.i) y.e (cls ((l.drop y.i).reverse)) ∧ n ≤ y.m1.sz ∧ Agree y.m1.sz y.m1 y.m, st := fun y => [(8, .val (I ((y.i : Int) - 1))), (4, .val (.slice y.x (ordC l).length y.d)), (7, .val (.slice y.z (l.length - y.i) y.e)), (3, .val (.slice y.a (runC (ordC l) []).length y.c)), (0, .val (.slice a l.length cp))], own := fun _ => [], m := fun y => y.m, μ := fun y => y.i }
    | 19 => { A := WrX, inv := fun y => WrI l a y ∧ 1 ≤ y.i ∧ Row y.m y.a (tts (runC (ordC l) [])) ∧ Row y.m y.z (cls l.reverse) ∧ (∀ k (hk : k < (ordC l).length), 1 ≤ k → k < y.i → (ordC l)[k].mo ≠ ((ordC l)[k - 1]'(by omega)).mo), st := fun y => [(9, .val (I y.i)), (4, .val (.slice y.x (ordC l).length y.d)), (7, .val (.slice y.z l.length y.e)), (3, .val (.slice y.a (runC (ordC l) []).length y.c))], own := fun _ => [], m := fun y => y.m, μ := fun y => (ordC l).length - y.i }
    | _ => noAnn 0) fun N hN => ?_
  refine vc_by (X :=
      true = true ∧
      ∃ (S' : Nat → Prop),
      (∀ (b : Nat), S' b → m.uf b ∧ (N ≤ b ∨ False)) ∧
      ∀ (n : Nat),
      N ≤ n →
      SpecW Try.prog (21 : Nat) [Value.slice a l.length cp] { π := m.π, sz := n, uf := m.uf : M } S' fun (v : Value) (m' : M) =>
      ∃ (a_2 : Option Addr),
      ∃ (n : Nat),
      ∃ (c : Nat),
      v = Value.slice a_2 n c ∧
      (∃ (a_3 : WrX),
      (WrI l a a_3 ∧
      N ≤ a_3.m.sz ∧
      a_3.i ≤ (ordC l).length ∧
      Row a_3.m a_3.a (tts (runC (List.take a_3.i (ordC l)) [])) ∧ ∀ (k : Nat) (hk : k < (ordC l).length), a_3.i ≤ k → a_3.la ≤ (ordC l)[k].mo) ∧
      m' = a_3.m ∧
      ((SV.val (Value.int IntKind.i64 (0 : Int)) = SV.val (Value.int IntKind.i64 (↑a_3.i : Int)) ∧ true = true) ∧
      (SV.val (Value.slice a_2 n c) = SV.val (Value.slice a_3.x (ordC l).length a_3.d) ∧ true = true) ∧
      (SV.val (Value.int IntKind.i64 (0 : Int)) = SV.val (Value.int IntKind.i64 a_3.la) ∧ true = true) ∧
      (SV.val (Value.slice none (0 : Nat) (0 : Nat)) = SV.val (Value.slice a_3.a (runC (List.take a_3.i (ordC l)) []).length a_3.c) ∧ true = true) ∧
      (SV.val (Value.slice a l.length cp) = SV.val (Value.slice a l.length cp) ∧ true = true) ∧ True) ∧
      True) ∧
      ∀ (a_3 : WrX),
      (WrI l a a_3 ∧
      N ≤ a_3.m.sz ∧
      a_3.i ≤ (ordC l).length ∧
      Row a_3.m a_3.a (tts (runC (List.take a_3.i (ordC l)) [])) ∧ ∀ (k : Nat) (hk : k < (ordC l).length), a_3.i ≤ k → a_3.la ≤ (ordC l)[k].mo) →
      ifB (decide ((↑a_3.i : Int) < (↑(ordC l).length : Int)))
      (∃ (b : Nat),
      ∃ (off : Nat),
      a_3.x = some { block := b, off := off : Addr } ∧
      ((0 : Int) ≤ (↑a_3.i : Int) ∧ (↑a_3.i : Int) < (↑(ordC l).length : Int)) ∧
      ∃ (n : Int),
      CellsAt a_3.m b (off + (↑a_3.i : Int).toNat * (16 : Nat) + (10 : Nat)) [Value.int IntKind.i64 n] ∧
      ifB (decide (n ≤ (0 : Int))) (Done (Value.bool false = Value.bool true))
      (∃ (b : Nat),
      ∃ (off : Nat),
      a_3.x = some { block := b, off := off : Addr } ∧
      ((0 : Int) ≤ (↑a_3.i : Int) ∧ (↑a_3.i : Int) < (↑(ordC l).length : Int)) ∧
      ∃ (n : Int),
      CellsAt a_3.m b (off + (↑a_3.i : Int).toNat * (16 : Nat) + (10 : Nat)) [Value.int IntKind.i64 n] ∧
      ifB (decide (n < a_3.la)) (Done (Value.bool false = Value.bool true))
      (∃ (b : Nat),
      ∃ (off : Nat),
      a_3.x = some { block := b, off := off : Addr } ∧
      ((0 : Int) ≤ (↑a_3.i : Int) ∧ (↑a_3.i : Int) < (↑(ordC l).length : Int)) ∧
      ∃ (n : Int),
      CellsAt a_3.m b (off + (↑a_3.i : Int).toNat * (16 : Nat) + (10 : Nat)) [Value.int IntKind.i64 n] ∧
      ∃ (b : Nat),
      ∃ (off : Nat),
      a_3.x = some { block := b, off := off : Addr } ∧
      ((0 : Int) ≤ (↑a_3.i : Int) ∧ (↑a_3.i : Int) < (↑(ordC l).length : Int)) ∧
      ∃ (n_1 : Int),
      ∃ (s : ByteArray),
      ∃ (s_1 : ByteArray),
      ∃ (n_2 : Int),
      ∃ (n_3 : Int),
      ∃ (n_4 : Int),
      CellsAt a_3.m b (off + (↑a_3.i : Int).toNat * (16 : Nat) + (3 : Nat))
      [Value.int IntKind.i64 n_1, Value.string s, Value.string s_1, Value.int IntKind.i64 n_2,
      Value.int IntKind.i64 n_3, Value.int IntKind.i64 n_4] ∧
      ∃ (S' : Nat → Prop),
      (∀ (b : Nat), S' b → a_3.m.uf b ∧ (N ≤ b ∨ False)) ∧
      ∀ (n_5 : Nat),
      a_3.m.sz ≤ n_5 →
      SpecW Try.prog (12 : Nat)
      [Value.slice a_3.a (runC (List.take a_3.i (ordC l)) []).length a_3.c,
      Value.agg
      #[Value.int IntKind.i64 n_1, Value.string s, Value.string s_1,
      Value.int IntKind.i64 n_2, Value.int IntKind.i64 n_3,
      Value.int IntKind.i64 n_4]]
      { π := a_3.m.π, sz := n_5, uf := a_3.m.uf : M } S' fun (v : Value) (m' : M) =>
      ∃ (a_6 : Option Addr),
      ∃ (n_6 : Nat),
      ∃ (c : Nat),
      ∃ (n_7 : Int),
      ∃ (n_8 : Int),
      ∃ (n_9 : Int),
      ∃ (n_10 : Int),
      v =
      Value.tuple
      #[Value.slice a_6 n_6 c,
      Value.agg
      #[Value.int IntKind.i64 n_7, Value.int IntKind.i64 n_8,
      Value.int IntKind.i64 n_9,
      Value.int IntKind.i64 n_10]] ∧
      ∃ (a' : WrX),
      ((WrI l a a' ∧
      N ≤ a'.m.sz ∧
      a'.i ≤ (ordC l).length ∧
      Row a'.m a'.a
      (tts (runC (List.take a'.i (ordC l)) [])) ∧
      ∀ (k : Nat) (hk : k < (ordC l).length),
      a'.i ≤ k → a'.la ≤ (ordC l)[k].mo) ∧
      m' = a'.m ∧
      ((SV.val
      (Value.int IntKind.i64
      (IntKind.i64.wrap
      ((↑a_3.i : Int) + (1 : Int)))) =
      SV.val (Value.int IntKind.i64 (↑a'.i : Int)) ∧
      true = true) ∧
      (SV.val (Value.slice a_3.x (ordC l).length a_3.d) =
      SV.val
      (Value.slice a'.x (ordC l).length a'.d) ∧
      true = true) ∧
      (SV.val (Value.int IntKind.i64 n) =
      SV.val (Value.int IntKind.i64 a'.la) ∧
      true = true) ∧
      (SV.val (Value.slice a_6 n_6 c) =
      SV.val
      (Value.slice a'.a
      (runC (List.take a'.i (ordC l))
      []).length
      a'.c) ∧
      true = true) ∧
      (SV.val (Value.slice a l.length cp) =
      SV.val (Value.slice a l.length cp) ∧
      true = true) ∧
      True) ∧
      True) ∧
      (ordC l).length - a'.i < (ordC l).length - a_3.i)))
      (∃ (b : Bool),
      QSpec Try.prog (14 : Nat) [] a_3.m (Value.bool b) ∧
      ifB (!b) (Done (Value.bool false = Value.bool true))
      (∃ (S' : Nat → Prop),
      (∀ (b : Nat), S' b → a_3.m.uf b ∧ (N ≤ b ∨ False)) ∧
      ∀ (n : Nat),
      a_3.m.sz ≤ n →
      SpecW Try.prog (22 : Nat) [Value.slice a l.length cp] { π := a_3.m.π, sz := n, uf := a_3.m.uf : M } S' fun (v : Value) (m' : M) =>
      ∃ (a_6 : Option Addr),
      ∃ (n : Nat),
      ∃ (c : Nat),
      v = Value.slice a_6 n c ∧
      ∃ (b : Bool),
      QSpec Try.prog (16 : Nat) [Value.slice a_3.a (runC (List.take a_3.i (ordC l)) []).length a_3.c, Value.slice a_6 n c] m'
      (Value.bool b) ∧
      ifB (!b) (Done (Value.bool false = Value.bool true))
      (∃ (n : Int),
      QSpec Try.prog (15 : Nat) [Value.slice a_3.a (runC (List.take a_3.i (ordC l)) []).length a_3.c] m'
      (Value.int IntKind.i64 n) ∧
      ifB (n != (0 : Int)) (Done (Value.bool false = Value.bool true))
      ((∃ (a_7 : WrX),
      (WrI l a
      { i := a_7.i, la := a_7.la, x := a_7.x, d := a_7.d, a := a_7.a, c := a_7.c, z := a_7.z, e := a_7.e, m1 := a_7.m1, m := a_7.m1 : WrX } ∧
      a_7.i ≤ l.length ∧
      Row a_7.m1 a_7.a (tts (runC (ordC l) [])) ∧
      NewR a_7.m1.sz (fun (x : Nat) => False) a_7.m (16 : Nat) a_7.z (l.length - a_7.i) a_7.e
      (cls (List.drop a_7.i l).reverse) ∧
      N ≤ a_7.m1.sz ∧ Agree a_7.m1.sz a_7.m1 a_7.m) ∧
      m' = a_7.m ∧
      ((SV.val (Value.int IntKind.i64 (IntKind.i64.wrap ((↑l.length : Int) - (1 : Int)))) =
      SV.val (Value.int IntKind.i64 ((↑a_7.i : Int) - (1 : Int))) ∧
      true = true) ∧
      (SV.val (Value.slice a_3.x (ordC l).length a_3.d) = SV.val (Value.slice a_7.x (ordC l).length a_7.d) ∧
      true = true) ∧
      (SV.val (Value.slice none (0 : Nat) (0 : Nat)) = SV.val (Value.slice a_7.z (l.length - a_7.i) a_7.e) ∧
      true = true) ∧
      (SV.val (Value.slice a_3.a (runC (List.take a_3.i (ordC l)) []).length a_3.c) =
      SV.val (Value.slice a_7.a (runC (ordC l) []).length a_7.c) ∧
      true = true) ∧
      (SV.val (Value.slice a l.length cp) = SV.val (Value.slice a l.length cp) ∧ true = true) ∧ True) ∧
      True) ∧
      ∀ (a_7 : WrX),
      WrI l a
      { i := a_7.i, la := a_7.la, x := a_7.x, d := a_7.d, a := a_7.a, c := a_7.c, z := a_7.z, e := a_7.e, m1 := a_7.m1, m := a_7.m1 : WrX } ∧
      a_7.i ≤ l.length ∧
      Row a_7.m1 a_7.a (tts (runC (ordC l) [])) ∧
      NewR a_7.m1.sz (fun (x : Nat) => False) a_7.m (16 : Nat) a_7.z (l.length - a_7.i) a_7.e
      (cls (List.drop a_7.i l).reverse) ∧
      N ≤ a_7.m1.sz ∧ Agree a_7.m1.sz a_7.m1 a_7.m →
      ifB (decide ((↑a_7.i : Int) - (1 : Int) ≥ (0 : Int)))
      (∃ (b : Nat),
      ∃ (off : Nat),
      a = some { block := b, off := off : Addr } ∧
      ((0 : Int) ≤ (↑a_7.i : Int) - (1 : Int) ∧ (↑a_7.i : Int) - (1 : Int) < (↑l.length : Int)) ∧
      ∃ (n : Int),
      ∃ (n_1 : Int),
      ∃ (n_2 : Int),
      ∃ (n_3 : Int),
      ∃ (s : ByteArray),
      ∃ (s_1 : ByteArray),
      ∃ (n_4 : Int),
      ∃ (n_5 : Int),
      ∃ (n_6 : Int),
      ∃ (n_7 : Int),
      ∃ (n_8 : Int),
      ∃ (n_9 : Int),
      ∃ (n_10 : Int),
      ∃ (n_11 : Int),
      ∃ (n_12 : Int),
      ∃ (n_13 : Int),
      CellsAt a_7.m b
      (off + ((↑a_7.i : Int) - (1 : Int)).toNat * (16 : Nat))
      [Value.int IntKind.i64 n, Value.int IntKind.i64 n_1,
      Value.int IntKind.i64 n_2, Value.int IntKind.i64 n_3,
      Value.string s, Value.string s_1, Value.int IntKind.i64 n_4,
      Value.int IntKind.i64 n_5, Value.int IntKind.i64 n_6,
      Value.int IntKind.i64 n_7, Value.int IntKind.i64 n_8,
      Value.int IntKind.i64 n_9, Value.int IntKind.i64 n_10,
      Value.int IntKind.i64 n_11, Value.int IntKind.i64 n_12,
      Value.int IntKind.i64 n_13] ∧
      true = true ∧
      ∀ (b : Nat),
      a_7.m.sz ≤ b →
      ∃ (old : List Value),
      ∃ (src : List Value),
      AppPre N (fun (x : Nat) => False)
      (a_7.m.newBlock b
      [Value.int IntKind.i64 n,
      Value.int IntKind.i64 n_1,
      Value.int IntKind.i64 n_2,
      Value.int IntKind.i64 n_3, Value.string s,
      Value.string s_1, Value.int IntKind.i64 n_4,
      Value.int IntKind.i64 n_5,
      Value.int IntKind.i64 n_6,
      Value.int IntKind.i64 n_7,
      Value.int IntKind.i64 n_8,
      Value.int IntKind.i64 n_9,
      Value.int IntKind.i64 n_10,
      Value.int IntKind.i64 n_11,
      Value.int IntKind.i64 n_12,
      Value.int IntKind.i64 n_13])
      (16 : Nat) (144 : Nat) a_7.z (l.length - a_7.i)
      a_7.e (some { block := b, off := (0 : Nat) : Addr })
      (1 : Nat) old src ∧
      ∀ (a' : Option Addr) (c' : Nat) (m' : M),
      AppPost Try.prog (51 : Nat)
      (a_7.m.newBlock b
      [Value.int IntKind.i64 n,
      Value.int IntKind.i64 n_1,
      Value.int IntKind.i64 n_2,
      Value.int IntKind.i64 n_3, Value.string s,
      Value.string s_1, Value.int IntKind.i64 n_4,
      Value.int IntKind.i64 n_5,
      Value.int IntKind.i64 n_6,
      Value.int IntKind.i64 n_7,
      Value.int IntKind.i64 n_8,
      Value.int IntKind.i64 n_9,
      Value.int IntKind.i64 n_10,
      Value.int IntKind.i64 n_11,
      Value.int IntKind.i64 n_12,
      Value.int IntKind.i64 n_13])
      (16 : Nat) a_7.z (l.length - a_7.i) a_7.e
      (1 : Nat) old src a' c' m' →
      ∃ (a'_1 : WrX),
      ((WrI l a
      { i := a'_1.i, la := a'_1.la, x := a'_1.x, d := a'_1.d, a := a'_1.a, c := a'_1.c, z := a'_1.z, e := a'_1.e, m1 := a'_1.m1, m := a'_1.m1 : WrX } ∧
      a'_1.i ≤ l.length ∧
      Row a'_1.m1 a'_1.a
      (tts (runC (ordC l) [])) ∧
      NewR a'_1.m1.sz
      (fun (x : Nat) => False) a'_1.m
      (16 : Nat) a'_1.z
      (l.length - a'_1.i) a'_1.e
      (cls
      (List.drop a'_1.i l).reverse) ∧
      N ≤ a'_1.m1.sz ∧
      Agree a'_1.m1.sz a'_1.m1 a'_1.m) ∧
      m' = a'_1.m ∧
      ((SV.val
      (Value.int IntKind.i64
      (IntKind.i64.wrap
      ((↑a_7.i : Int) -
      (1 : Int) -
      (1 : Int)))) =
      SV.val
      (Value.int IntKind.i64
      ((↑a'_1.i : Int) -
      (1 : Int))) ∧
      true = true) ∧
      (SV.val
      (Value.slice a_7.x
      (ordC l).length a_7.d) =
      SV.val
      (Value.slice a'_1.x
      (ordC l).length a'_1.d) ∧
      true = true) ∧
      (SV.val
      (Value.slice a'
      (l.length - a_7.i +
      (1 : Nat))
      c') =
      SV.val
      (Value.slice a'_1.z
      (l.length - a'_1.i)
      a'_1.e) ∧
      true = true) ∧
      (SV.val
      (Value.slice a_7.a
      (runC (ordC l)
      []).length
      a_7.c) =
      SV.val
      (Value.slice a'_1.a
      (runC (ordC l)
      []).length
      a'_1.c) ∧
      true = true) ∧
      (SV.val
      (Value.slice a l.length
      cp) =
      SV.val
      (Value.slice a l.length
      cp) ∧
      true = true) ∧
      True) ∧
      True) ∧
      a'_1.i < a_7.i)
      ((∃ (a_9 : WrX),
      (WrI l a a_9 ∧
      (1 : Nat) ≤ a_9.i ∧
      Row a_9.m a_9.a (tts (runC (ordC l) [])) ∧
      Row a_9.m a_9.z (cls l.reverse) ∧
      ∀ (k : Nat) (hk : k < (ordC l).length),
      (1 : Nat) ≤ k → k < a_9.i → (ordC l)[k].mo ≠ (ordC l)[k - (1 : Nat)].mo) ∧
      a_7.m = a_9.m ∧
      ((SV.val (Value.int IntKind.i64 (1 : Int)) = SV.val (Value.int IntKind.i64 (↑a_9.i : Int)) ∧
      true = true) ∧
      (SV.val (Value.slice a_7.x (ordC l).length a_7.d) =
      SV.val (Value.slice a_9.x (ordC l).length a_9.d) ∧
      true = true) ∧
      (SV.val (Value.slice a_7.z (l.length - a_7.i) a_7.e) =
      SV.val (Value.slice a_9.z l.length a_9.e) ∧
      true = true) ∧
      (SV.val (Value.slice a_7.a (runC (ordC l) []).length a_7.c) =
      SV.val (Value.slice a_9.a (runC (ordC l) []).length a_9.c) ∧
      true = true) ∧
      True) ∧
      True) ∧
      ∀ (a_9 : WrX),
      (WrI l a a_9 ∧
      (1 : Nat) ≤ a_9.i ∧
      Row a_9.m a_9.a (tts (runC (ordC l) [])) ∧
      Row a_9.m a_9.z (cls l.reverse) ∧
      ∀ (k : Nat) (hk : k < (ordC l).length),
      (1 : Nat) ≤ k → k < a_9.i → (ordC l)[k].mo ≠ (ordC l)[k - (1 : Nat)].mo) →
      ifB (decide ((↑a_9.i : Int) < (↑(ordC l).length : Int)))
      (true = true ∧
      ∃ (b : Nat),
      ∃ (off : Nat),
      a_9.x = some { block := b, off := off : Addr } ∧
      ((0 : Int) ≤ (↑a_9.i : Int) ∧ (↑a_9.i : Int) < (↑(ordC l).length : Int)) ∧
      ∃ (n : Int),
      CellsAt a_9.m b (off + (↑a_9.i : Int).toNat * (16 : Nat) + (10 : Nat))
      [Value.int IntKind.i64 n] ∧
      ∃ (b : Nat),
      ∃ (off : Nat),
      a_9.x = some { block := b, off := off : Addr } ∧
      ((0 : Int) ≤ IntKind.i64.wrap ((↑a_9.i : Int) - (1 : Int)) ∧
      IntKind.i64.wrap ((↑a_9.i : Int) - (1 : Int)) < (↑(ordC l).length : Int)) ∧
      ∃ (n_1 : Int),
      CellsAt a_9.m b
      (off +
      (IntKind.i64.wrap ((↑a_9.i : Int) - (1 : Int))).toNat * (16 : Nat) +
      (10 : Nat))
      [Value.int IntKind.i64 n_1] ∧
      ifB (n == n_1) (Done (Value.bool true = Value.bool true))
      (∃ (a' : WrX),
      ((WrI l a a' ∧
      (1 : Nat) ≤ a'.i ∧
      Row a'.m a'.a (tts (runC (ordC l) [])) ∧
      Row a'.m a'.z (cls l.reverse) ∧
      ∀ (k : Nat) (hk : k < (ordC l).length),
      (1 : Nat) ≤ k →
      k < a'.i →
      (ordC l)[k].mo ≠ (ordC l)[k - (1 : Nat)].mo) ∧
      a_9.m = a'.m ∧
      ((SV.val
      (Value.int IntKind.i64
      (IntKind.i64.wrap ((↑a_9.i : Int) + (1 : Int)))) =
      SV.val (Value.int IntKind.i64 (↑a'.i : Int)) ∧
      true = true) ∧
      (SV.val (Value.slice a_9.x (ordC l).length a_9.d) =
      SV.val (Value.slice a'.x (ordC l).length a'.d) ∧
      true = true) ∧
      (SV.val (Value.slice a_9.z l.length a_9.e) =
      SV.val (Value.slice a'.z l.length a'.e) ∧
      true = true) ∧
      (SV.val
      (Value.slice a_9.a (runC (ordC l) []).length
      a_9.c) =
      SV.val
      (Value.slice a'.a (runC (ordC l) []).length
      a'.c) ∧
      true = true) ∧
      True) ∧
      True) ∧
      (ordC l).length - a'.i < (ordC l).length - a_9.i))
      (∃ (S' : Nat → Prop),
      (∀ (b : Nat), S' b → a_9.m.uf b ∧ (N ≤ b ∨ False)) ∧
      ∀ (n : Nat),
      a_9.m.sz ≤ n →
      SpecW Try.prog (21 : Nat) [Value.slice a_9.z l.length a_9.e]
      { π := a_9.m.π, sz := n, uf := a_9.m.uf : M } S' fun (v : Value) (m' : M) =>
      ∃ (a : Option Addr),
      ∃ (n : Nat),
      ∃ (c : Nat),
      v = Value.slice a n c ∧
      ∃ (b : Bool),
      QSpec Try.prog (23 : Nat)
      [Value.slice a n c, Value.slice a_9.x (ordC l).length a_9.d] m'
      (Value.bool b) ∧
      ifB b
      (∃ (S' : Nat → Prop),
      (∀ (b : Nat), S' b → m'.uf b ∧ (N ≤ b ∨ False)) ∧
      ∀ (n : Nat),
      m'.sz ≤ n →
      SpecW Try.prog (22 : Nat) [Value.slice a_9.z l.length a_9.e]
      { π := m'.π, sz := n, uf := m'.uf : M } S'
      fun (v : Value) (m' : M) =>
      ∃ (a : Option Addr),
      ∃ (n : Nat),
      ∃ (c : Nat),
      v = Value.slice a n c ∧
      ∃ (b : Bool),
      QSpec Try.prog (16 : Nat)
      [Value.slice a n c,
      Value.slice a_9.a (runC (ordC l) []).length a_9.c]
      m' (Value.bool b) ∧
      Done (Value.bool b = Value.bool true))
      (Done (Value.bool false = Value.bool true))))))))) (by kernel_rfl) ?_
  have h' := h.sz hN
  have hle := ordC_le l
  have hpos : ∀ k (hk : k < (ordC l).length), 0 < (ordC l)[k].mo := fun k hk => by
    rw [ordC_get (by rw [← ordC_len]; exact hk)]; exact ord_pos _
  have hmono : ∀ i k (hik : i < k) (hk : k < (ordC l).length), ((ordC l)[i]'(by omega)).mo ≤ (ordC l)[k].mo := fun i k hik hk => by
    have hk2 : k < (ordL l).length := by rw [← ordC_len]; exact hk
    rw [ordC_get hk2, ordC_get (show i < (ordL l).length by omega)]; exact mo_le hik hk2
  have w : ∀ k, k < l.length → IntKind.i64.wrap ((k : Int) + 1) = ((k + 1 : Nat) : Int) := fun k hk => by simp [IntKind.wrap_i64]; omega
  refine ⟨rfl, _, noS, fun N1 hN1 => (wOrder_s a cp l hn _ (h'.sz hN1)).monoW fun v1 m1 ag1 q1 => ?_⟩
  obtain ⟨x, d, e1, r1⟩ := q1
  refine ⟨x, _, d, e1, ⟨⟨0, 0, x, d, none, 0, none, 0, m1, m1⟩, ⟨⟨r1, (h'.sz hN1).agree ag1⟩, by have := ag1.2.2; simp only at this ⊢; omega, Nat.zero_le _, .nil _, fun k hk _ => Int.le_of_lt (hpos k hk)⟩, rfl, by simp [runC]⟩, fun y ⟨Y, yN, yi, yt, yl⟩ => ifB_intro (fun hb => ?_) (fun hb => ?_)⟩
  · have hi : y.i < (ordC l).length := by simpa using hb
    have hi2 : y.i < (ordL l).length := by rw [← ordC_len]; exact hi
    obtain ⟨b, o, hx, hc⟩ := Y.ns.cells (by rw [cl_len]; omega)
    have T := run_tot hl y.i
    have tl := T.len
    have e := run_take hi2
    rw [← ordC_get hi2] at e
    have hown := ordC_wf hl _ (List.getElem_mem hi)
    have hop : CellsAt y.m b (o + y.i * 16 + 3) (encOq (opC (ordC l)[y.i])) := CellsAt.field cl_k hc hi (p := [I (ordC l)[y.i].cl, I (ordC l)[y.i].sq, I (ordC l)[y.i].nd]) (old := encOq (opC (ordC l)[y.i])) (q := [I (ordC l)[y.i].ca, I (ordC l)[y.i].mo, I (ordC l)[y.i].aw, I (ordC l)[y.i].an_er, I (ordC l)[y.i].an_va, I (ordC l)[y.i].an_le, I (ordC l)[y.i].an_mo]) rfl
    have f10 := fld_at hc hi 10 _ rfl
    have p1 := hpos y.i hi
    have p2 := yl y.i hi (Nat.le_refl _)
    refine ⟨b, o, hx, by omega, _, by simpa using f10, ifB_false' (by simp; omega) ⟨b, o, hx, by omega, _, by simpa using f10, ifB_false' (by simp; omega) ⟨b, o, hx, by omega, _, by simpa using f10, b, o, hx, by omega, _, _, _, _, _, _, by simpa using hop, ?_⟩⟩⟩
    refine ⟨_, noS, fun N2 hN2 => (wdo_s y.a y.c _ (opC (ordC l)[y.i]) (by omega) T.wf (opC_wf hown) _ (yt.sz hN2)).monoW fun v2 m2 hag2 q2 => ?_⟩
    obtain ⟨x2, d2, hv2, hr2⟩ := q2
    refine ⟨_, _, _, _, _, _, _, hv2, ⟨y.i + 1, (ordC l)[y.i].mo, y.x, y.d, x2, d2, none, 0, m2, m2⟩, ⟨⟨⟨(Y.ns.sz hN2).agree hag2, (Y.src.sz hN2).agree hag2⟩, by have := hag2.2.2; simp only at this ⊢; omega, hi, by simp only; rw [e]; exact hr2, fun k hk hk2 => hmono _ _ hk2 hk⟩, rfl, by simp only [e]; simp [w _ (show y.i < l.length by omega)]⟩, by simp only; omega⟩
  · have hi : y.i = (ordC l).length := by simp at hb; omega
    rw [hi, List.take_length] at yt ⊢
    have T := runC_ok (ordC l) (TotI.nil (n := 0)) (ordC_wf hl)
    have tl := T.len
    refine ⟨_, wawake_q _, ifB_false ⟨_, noS, fun N2 hN2 => (wRun_s a cp l hn hl _ (Y.src.sz hN2)).monoW fun v2 m2 hag2 q2 => ?_⟩⟩
    obtain ⟨x2, d2, hv2, hr2⟩ := q2
    have hns := (Y.ns.sz hN2).agree hag2
    have hsrc := (Y.src.sz hN2).agree hag2
    have ht := (yt.sz hN2).agree hag2
    have hsz := hag2.2.2
    simp only at hsz
    have hpl := tt_plain y.a x2 y.c d2 _ _ (by omega) _ ht hr2
    rw [decide_eq_true (rfl : runC (ordC l) [] = runC (ordC l) [])] at hpl
    have hck := wcheck_q y.a y.c (runC (ordC l) []) (by omega) _ ht
    rw [T.right, if_pos rfl] at hck
    have w1 : IntKind.i64.wrap ((l.length : Int) - 1) = (l.length : Int) - 1 := by simp [IntKind.wrap_i64]; omega
    refine ⟨_, _, _, hv2, _, hpl, ifB_false ⟨_, hck, ifB_false' rfl ⟨⟨⟨l.length, 0, y.x, y.d, y.a, y.c, none, 0, m2, m2⟩, ⟨⟨hns, hsrc⟩, Nat.le_refl _, ht, by simp only [Nat.sub_self, List.drop_length]; exact .nil _, by simp only; omega, Agree.refl _ _⟩, rfl, by simp [w1]⟩, fun z ⟨Z, zi, zt, zo, zN, zag⟩ => ifB_intro (fun hb => ?_) (fun hb => ?_)⟩⟩⟩
    · have hk : 1 ≤ z.i := by simp at hb; omega
      have hk2 : z.i - 1 < l.length := by omega
      obtain ⟨b, o, hx, hc⟩ := (Z.src.agree zag).cells (by rw [cl_len]; omega)
      have ei : (z.i : Int) - 1 = ((z.i - 1 : Nat) : Int) := by omega
      have w2 : IntKind.i64.wrap ((z.i : Int) - 1 - 1) = ((z.i - 1 : Nat) : Int) - 1 := by simp [IntKind.wrap_i64]; omega
      rw [w2, ei]
      refine ⟨b, o, hx, by omega, _, _, _, _, _, _, _, _, _, _, _, _, _, _, _, _, by simpa using cl_at hc hk2, rfl, fun b3 hb3 => ?_⟩
      obtain ⟨p1, -⟩ := (zo.lower zN).push (P := Try.prog) (e := 51) (bytes := 144) (src := encCl l[z.i - 1]) hb3 (Nat.le_trans zN zag.2.2) rfl rfl (by omega) cl_zr
      obtain ⟨-, p2⟩ := zo.push (P := Try.prog) (e := 51) (bytes := 144) (src := encCl l[z.i - 1]) hb3 zag.2.2 rfl rfl (by omega) cl_zr
      refine ⟨_, _, p1, fun a' c' m' hp => ?_⟩
      obtain ⟨g1, g2⟩ := p2 a' c' m' hp
      have el : l.length - z.i + 1 = l.length - (z.i - 1) := by omega
      have ed : (l.drop (z.i - 1)).reverse = (l.drop z.i).reverse ++ [l[z.i - 1]] := by
        rw [List.drop_eq_getElem_cons hk2, List.reverse_cons, show z.i - 1 + 1 = z.i by omega]
      refine ⟨⟨z.i - 1, 0, z.x, z.d, z.a, z.c, a', c', z.m1, m'⟩, ⟨⟨⟨Z.ns, Z.src⟩, by simp only; omega, zt, ?_, zN, zag.trans g2⟩, rfl, by simp [el]⟩, by simp only; omega⟩
      simp only
      rw [← el, ed, show cls ((l.drop z.i).reverse ++ [l[z.i - 1]]) = cls ((l.drop z.i).reverse) ++ encCl l[z.i - 1] by simp [cls]]
      exact g1
    · have hk : z.i = 0 := by simp at hb; omega
      have hz := zo.row
      rw [hk, List.drop_zero] at hz
      rw [hk]
      refine ⟨⟨⟨1, 0, z.x, z.d, z.a, z.c, z.z, z.e, z.m, z.m⟩, ⟨⟨Z.ns.agree zag, Z.src.agree zag⟩, Nat.le_refl _, zt.agree zag, hz, fun k hk h1 h2 => by simp only at h2; omega⟩, rfl, by simp⟩, fun u ⟨U, u1, ut, uz, uq⟩ => ifB_intro (fun hb2 => ?_) (fun hb2 => ?_)⟩
      · have hi : u.i < (ordC l).length := by simpa using hb2
        have hi3 : u.i - 1 < (ordC l).length := by omega
        obtain ⟨b, o, hx, hc⟩ := U.ns.cells (by rw [cl_len]; omega)
        have w2 : IntKind.i64.wrap ((u.i : Int) - 1) = ((u.i - 1 : Nat) : Int) := by simp [IntKind.wrap_i64]; omega
        rw [w2]
        refine ⟨rfl, b, o, hx, by omega, _, by simpa using fld_at hc hi 10 _ rfl, b, o, hx, by omega, _, by simpa using fld_at hc hi3 10 _ rfl, ifB_intro (fun h1 => ⟨rfl⟩) (fun h1 => ⟨⟨u.i + 1, 0, u.x, u.d, u.a, u.c, u.z, u.e, u.m, u.m⟩, ⟨⟨⟨U.ns, U.src⟩, by simp only; omega, ut, uz, fun k hk k1 k2 => ?_⟩, rfl, by simp [w _ (show u.i < l.length by omega)]⟩, by simp only; omega⟩)⟩
        by_cases ek : k = u.i
        · subst ek; simpa using h1
        · exact uq k hk k1 (by simp only at k2; omega)
      · have hi : (ordC l).length ≤ u.i := by simp at hb2; omega
        have hrev := ordC_rev (l := l) fun k hk k1 => uq k hk k1 (by omega)
        have hlr : l.reverse.length = l.length := List.length_reverse
        have hwr : ∀ x ∈ l.reverse, x.wf := fun x hx => hl x (List.mem_reverse.1 hx)
        refine ⟨_, noS, fun N3 hN3 => ?_⟩
        have Q := wOrder_s u.z u.e l.reverse (by omega) _ (uz.sz hN3)
        rw [hlr, hrev] at Q
        refine Q.monoW fun v3 m3 hag3 q3 => ?_
        obtain ⟨x3, d3, hv3, hr3⟩ := q3
        have hpl3 := cl_plain x3 u.x d3 u.d _ _ (by omega) _ hr3 ((U.ns.sz hN3).agree hag3)
        rw [decide_eq_true (rfl : ordC l = ordC l)] at hpl3
        refine ⟨_, _, _, hv3, _, hpl3, ifB_true ⟨_, noS, fun N4 hN4 => ?_⟩⟩
        have Q := wRun_s u.z u.e l.reverse (by omega) hwr _ (((uz.sz hN3).agree hag3).sz hN4)
        rw [hlr, hrev] at Q
        refine Q.monoW fun v4 m4 hag4 q4 => ?_
        obtain ⟨x4, d4, hv4, hr4⟩ := q4
        have hpl4 := tt_plain x4 u.a d4 u.c _ _ (by omega) _ hr4 ((((ut.sz hN3).agree hag3).sz hN4).agree hag4)
        rw [decide_eq_true (rfl : runC (ordC l) [] = runC (ordC l) [])] at hpl4
        exact ⟨_, _, _, hv4, _, hpl4, ⟨rfl⟩⟩

end Go.Proofs.Ytbhlhnkjmncloaa
