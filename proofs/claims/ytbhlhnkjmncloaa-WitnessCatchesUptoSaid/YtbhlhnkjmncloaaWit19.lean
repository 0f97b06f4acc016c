/-
  Contracts of functions of this seat: what each hands back, and what it leaves of memory (wit19). Nothing here is trusted: Lean checks it.
-/
import Derived.Test.YtbhlhnkjmncloaaWit18
set_option linter.unusedVariables false
set_option linter.unusedSimpArgs false
namespace Go.Proofs.Ytbhlhnkjmncloaa
open Go.Vc Go.RowKit
set_option maxRecDepth 100000

theorem pickN (x : Int) {n : Nat} (h : 0 < n) (hn : n ≤ 1048576) : ∃ k : Nat, k < n ∧ IntKind.i64.wrap ((IntKind.u64.wrap x).tmod (IntKind.u64.wrap (n : Int))) = (k : Int) := by
  have e : IntKind.u64.wrap (n : Int) = (n : Int) := by simp [IntKind.wrap_u64]; omega
  have h0 : 0 ≤ IntKind.u64.wrap x := by simp [IntKind.wrap_u64]; omega
  rw [e]
  have h1 := Int.tmod_nonneg (n : Int) h0
  have h2 := Int.tmod_lt_of_pos (IntKind.u64.wrap x) (show (0 : Int) < (n : Int) by omega)
  obtain ⟨k, hk⟩ := Int.eq_ofNat_of_zero_le h1
  rw [hk] at h2 ⊢
  exact ⟨k, by omega, by simp [IntKind.wrap_i64]; omega⟩

section
variable {l : List Cl} {k : Nat} {c' : Cl}

theorem clA_set (hk : k < l.length) (i : Nat) : clA (l.set k c') i = if i = k then c' else clA l i := by
  unfold clA
  by_cases e : i = k
  · subst e; rw [if_pos rfl, List.getElem?_set_self hk]; rfl
  · rw [if_neg e, List.getElem?_set_ne (Ne.symm e)]

/-- where moments and operations stay, the order and what comes of it stay -/
theorem set_ord (hk : k < l.length) (hm : c'.mo = (clA l k).mo) : ordL (l.set k c') = ordL l := by
  have e : ∀ i, moA (l.set k c') i = moA l i := fun i => by
    rw [moA_cl, moA_cl, clA_set hk]
    by_cases e : i = k
    · rw [if_pos e, e, hm]
    · rw [if_neg e]
  refine (ordL_is (l.set k c')).uniq ⟨?_, fun i => ?_⟩
  · refine (ordL_is l).pw.imp fun {a b} h => ?_
    unfold lexC at h ⊢
    rw [e, e]; exact h
  · rw [(ordL_is l).mem, e, List.length_set]

theorem runC_op : ∀ {a b : List Cl} {t : List Tt}, a.map opC = b.map opC → runC a t = runC b t
  | [], [], _, _ => rfl
  | [], _ :: _, _, h => by simp at h
  | _ :: _, [], _, h => by simp at h
  | x :: xs, y :: ys, t, h => by
    simp only [List.map_cons, List.cons.injEq] at h
    show runC xs (doT t (opC x)).1 = runC ys (doT t (opC y)).1
    rw [h.1]
    exact runC_op h.2

theorem set_run (hk : k < l.length) (hm : c'.mo = (clA l k).mo) (ho : opC c' = opC (clA l k)) (j : Nat) : runC ((ordC (l.set k c')).take j) [] = runC ((ordC l).take j) [] := by
  refine runC_op ?_
  rw [List.map_take, List.map_take]
  congr 1
  unfold ordC
  rw [set_ord hk hm, List.map_map, List.map_map]
  refine List.map_congr_left fun i _ => ?_
  simp only [Function.comp]
  rw [clA_set hk]
  by_cases e : i = k
  · rw [if_pos e, e, ho]
  · rw [if_neg e]

/-- a call that was told rightly is told rightly in one way -/
theorem set_rig (h : LegO l) (hk : k < l.length) (hpos : 0 < (clA l k).mo) (hm : c'.mo = (clA l k).mo) (ho : opC c' = opC (clA l k)) (h2 : LegO (l.set k c')) : ∃ A, rigB (clA l k) A = true ∧ rigB c' A = true := by
  have hmem : k ∈ ordL l := ((ordL_is l).mem k).2 ⟨hk, by rw [moA_cl]; exact hpos⟩
  obtain ⟨j, hj, e⟩ := List.mem_iff_getElem.1 hmem
  have g1 := (sec_at h.sec j (by omega)).2 hj
  have hj2 : j < (ordL (l.set k c')).length := by rw [set_ord hk hm]; exact hj
  have g2 := (sec_at h2.sec j (by omega)).2 hj2
  have e2 : (ordL (l.set k c'))[j] = k := by
    have h1 : (ordL (l.set k c'))[j]? = (ordL l)[j]? := by rw [set_ord hk hm]
    rw [List.getElem?_eq_getElem hj, List.getElem?_eq_getElem hj2] at h1
    exact (Option.some.inj h1).trans e
  rw [e2, set_run hk hm ho, clA_set hk, if_pos rfl, ho] at g2
  rw [e] at g1
  exact ⟨_, g1, g2⟩

theorem set_frm (hk : k < l.length) (h : ∀ e, WrgZ c' e → False) : ¬ LegO (l.set k c') := fun h2 => by
  have := h2.frm k (by rw [List.length_set]; exact hk)
  rw [clA_set hk, if_pos rfl] at this
  exact h _ this
end

theorem set_fld {B : Nat} {S : Nat → Prop} {m : M} {b o len cap : Nat} {l : List Cl} {k : Nat} (h : OwnB B S m 16 (some ⟨b, o, none⟩) len cap (cls l)) (hk : k < l.length) (j : Nat) (x v : Value) (c' : Cl)
    (e1 : encCl l[k] = (encCl l[k]).take j ++ ([x] ++ (encCl l[k]).drop (j + 1))) (e2 : encCl c' = (encCl l[k]).take j ++ ([v] ++ (encCl l[k]).drop (j + 1))) (hp : ((encCl l[k]).take j).length = j) :
    Wr B S m b (o + k * 16 + j) 1 ∧ Row (m.setCells b (o + k * 16 + j) [v]) (some ⟨b, o, none⟩) (cls (l.set k c')) := by
  obtain ⟨p1, p2⟩ := OwnB.setField cl_k h hk c' e1 e2 rfl
  rw [hp] at p1 p2
  exact ⟨p1, p2.row⟩

theorem witnesscatches (a : Option Addr) (cp : Nat) (l : List Cl) (pick how : Int) (hn : l.length ≤ 1048576) (hcp : l.length ≤ cp) (hl : ∀ x ∈ l, x.wf) (hp : In64 pick) (hh : In64 how) (m : M) (h : Row m a (cls l)) :
    QSpec Try.prog 6 [.slice a l.length cp, I pick, I how] m (.bool true) := by
  refine QSpec.of_vc Try.func6 (ann := fun _ _ => noAnn 0) fun N hN => ?_
  refine vc_by (X :=
      true = true ∧
      ∃ (n : Int),
      ∃ (n_1 : Int),
      QSpec Try.prog (24 : Nat) [Value.slice a l.length cp] { π := m.π, sz := N, uf := m.uf : M } (Value.tuple #[Value.int IntKind.i64 n, Value.int IntKind.i64 n_1]) ∧
      ∃ (b : Bool),
      QSpec Try.prog (14 : Nat) [] { π := m.π, sz := N, uf := m.uf : M } (Value.bool b) ∧
      ifB (!b) (∃ (b : Bool), QSpec Try.prog (14 : Nat) [] { π := m.π, sz := N, uf := m.uf : M } (Value.bool b) ∧ Done (Value.bool b = Value.bool true))
      (ifB (n_1 != (0 : Int)) (∃ (b : Bool), QSpec Try.prog (14 : Nat) [] { π := m.π, sz := N, uf := m.uf : M } (Value.bool b) ∧ Done (Value.bool b = Value.bool true))
      (ifB ((↑l.length : Int) == (0 : Int))
      (∃ (b : Bool), QSpec Try.prog (14 : Nat) [] { π := m.π, sz := N, uf := m.uf : M } (Value.bool b) ∧ Done (Value.bool b = Value.bool true))
      (IntKind.u64.wrap (↑l.length : Int) ≠ (0 : Int) ∧
      true = true ∧
      ∀ (b : Nat),
      N ≤ b →
      ∃ (old : List Value),
      ∃ (src : List Value),
      AppPre N (fun (x : Nat) => False) ({ π := m.π, sz := N, uf := m.uf : M }.newBlock b []) (16 : Nat) (144 : Nat)
      (some { block := b, off := (0 : Nat) : Addr }) (0 : Nat) (0 : Nat) a l.length old src ∧
      ∀ (a' : Option Addr) (c' : Nat) (m' : M),
      AppPost Try.prog (51 : Nat) ({ π := m.π, sz := N, uf := m.uf : M }.newBlock b []) (16 : Nat) (some { block := b, off := (0 : Nat) : Addr })
      (0 : Nat) (0 : Nat) l.length old src a' c' m' →
      ∃ (b : Nat),
      ∃ (off : Nat),
      a' = some { block := b, off := off : Addr } ∧
      ((0 : Int) ≤ IntKind.i64.wrap ((IntKind.u64.wrap pick).tmod (IntKind.u64.wrap (↑l.length : Int))) ∧
      IntKind.i64.wrap ((IntKind.u64.wrap pick).tmod (IntKind.u64.wrap (↑l.length : Int))) < (↑((0 : Nat) + l.length) : Int)) ∧
      (6 : Int) ≠ (0 : Int) ∧
      ifB (how.tmod (6 : Int) == (0 : Int))
      (∃ (n : Int),
      CellsAt m' b
      (off + (IntKind.i64.wrap ((IntKind.u64.wrap pick).tmod (IntKind.u64.wrap (↑l.length : Int)))).toNat * (16 : Nat) + (3 : Nat) +
      (0 : Nat))
      [Value.int IntKind.i64 n] ∧
      ifB (n != (4 : Int)) (Done (Value.bool true = Value.bool true))
      (∃ (n : Int),
      CellsAt m' b
      (off + (IntKind.i64.wrap ((IntKind.u64.wrap pick).tmod (IntKind.u64.wrap (↑l.length : Int)))).toNat * (16 : Nat) +
      (11 : Nat))
      [Value.int IntKind.i64 n] ∧
      ifB (n == (0 : Int)) (Done (Value.bool true = Value.bool true))
      (∃ (n : Int),
      CellsAt m' b
      (off + (IntKind.i64.wrap ((IntKind.u64.wrap pick).tmod (IntKind.u64.wrap (↑l.length : Int)))).toNat * (16 : Nat) +
      (10 : Nat))
      [Value.int IntKind.i64 n] ∧
      ifB (decide (n ≤ (0 : Int))) (Done (Value.bool true = Value.bool true))
      (∃ (n : Int),
      CellsAt m' b
      (off +
      (IntKind.i64.wrap ((IntKind.u64.wrap pick).tmod (IntKind.u64.wrap (↑l.length : Int)))).toNat *
      (16 : Nat) +
      (12 : Nat) +
      (0 : Nat))
      [Value.int IntKind.i64 n] ∧
      ifB (n != (0 : Int)) (Done (Value.bool true = Value.bool true))
      (∃ (n : Int),
      CellsAt m' b
      (off +
      (IntKind.i64.wrap ((IntKind.u64.wrap pick).tmod (IntKind.u64.wrap (↑l.length : Int)))).toNat *
      (16 : Nat) +
      (12 : Nat) +
      (1 : Nat))
      [Value.int IntKind.i64 n] ∧
      Wr N (fun (x : Nat) => False) m' b
      (off +
      (IntKind.i64.wrap ((IntKind.u64.wrap pick).tmod (IntKind.u64.wrap (↑l.length : Int)))).toNat *
      (16 : Nat) +
      (12 : Nat) +
      (1 : Nat))
      #[Value.int IntKind.i64 (IntKind.i64.wrap (n + (1 : Int)))].size ∧
      ∃ (n_2 : Int),
      ∃ (n_3 : Int),
      QSpec Try.prog (24 : Nat) [Value.slice a' ((0 : Nat) + l.length) c']
      (m'.setCells b
      (off +
      (IntKind.i64.wrap
      ((IntKind.u64.wrap pick).tmod (IntKind.u64.wrap (↑l.length : Int)))).toNat *
      (16 : Nat) +
      (12 : Nat) +
      (1 : Nat))
      [Value.int IntKind.i64 (IntKind.i64.wrap (n + (1 : Int)))])
      (Value.tuple #[Value.int IntKind.i64 n_2, Value.int IntKind.i64 n_3]) ∧
      ifB (n_3 != (0 : Int))
      (ifB (decide (n_2 ≥ (0 : Int)))
      (Done (Value.bool (decide (n_2 < (↑((0 : Nat) + l.length) : Int))) = Value.bool true))
      (Done (Value.bool false = Value.bool true)))
      (Done (Value.bool false = Value.bool true)))))))
      (ifB (how.tmod (6 : Int) == (1 : Int))
      (∃ (n : Int),
      CellsAt m' b
      (off + (IntKind.i64.wrap ((IntKind.u64.wrap pick).tmod (IntKind.u64.wrap (↑l.length : Int)))).toNat * (16 : Nat) +
      (11 : Nat))
      [Value.int IntKind.i64 n] ∧
      ifB (n == (0 : Int)) (Done (Value.bool true = Value.bool true))
      (∃ (n : Int),
      CellsAt m' b
      (off + (IntKind.i64.wrap ((IntKind.u64.wrap pick).tmod (IntKind.u64.wrap (↑l.length : Int)))).toNat * (16 : Nat) +
      (12 : Nat) +
      (0 : Nat))
      [Value.int IntKind.i64 n] ∧
      ifB (n != (0 : Int)) (Done (Value.bool true = Value.bool true))
      (Wr N (fun (x : Nat) => False) m' b
      (off + (IntKind.i64.wrap ((IntKind.u64.wrap pick).tmod (IntKind.u64.wrap (↑l.length : Int)))).toNat * (16 : Nat) +
      (10 : Nat))
      (1 : Nat) ∧
      ∃ (n : Int),
      ∃ (n_2 : Int),
      QSpec Try.prog (24 : Nat) [Value.slice a' ((0 : Nat) + l.length) c']
      (m'.setCells b
      (off +
      (IntKind.i64.wrap ((IntKind.u64.wrap pick).tmod (IntKind.u64.wrap (↑l.length : Int)))).toNat *
      (16 : Nat) +
      (10 : Nat))
      [Value.int IntKind.i64 (0 : Int)])
      (Value.tuple #[Value.int IntKind.i64 n, Value.int IntKind.i64 n_2]) ∧
      ifB (n_2 != (0 : Int))
      (ifB (decide (n ≥ (0 : Int)))
      (Done (Value.bool (decide (n < (↑((0 : Nat) + l.length) : Int))) = Value.bool true))
      (Done (Value.bool false = Value.bool true)))
      (Done (Value.bool false = Value.bool true)))))
      (ifB (how.tmod (6 : Int) == (2 : Int))
      (∃ (n : Int),
      CellsAt m' b
      (off + (IntKind.i64.wrap ((IntKind.u64.wrap pick).tmod (IntKind.u64.wrap (↑l.length : Int)))).toNat * (16 : Nat) +
      (11 : Nat))
      [Value.int IntKind.i64 n] ∧
      ifB (n == (0 : Int)) (Done (Value.bool true = Value.bool true))
      (∃ (n : Int),
      CellsAt m' b
      (off + (IntKind.i64.wrap ((IntKind.u64.wrap pick).tmod (IntKind.u64.wrap (↑l.length : Int)))).toNat * (16 : Nat) +
      (10 : Nat))
      [Value.int IntKind.i64 n] ∧
      ifB (decide (n ≤ (0 : Int))) (Done (Value.bool true = Value.bool true))
      (∃ (n : Int),
      CellsAt m' b
      (off +
      (IntKind.i64.wrap ((IntKind.u64.wrap pick).tmod (IntKind.u64.wrap (↑l.length : Int)))).toNat *
      (16 : Nat) +
      (11 : Nat))
      [Value.int IntKind.i64 n] ∧
      ifB (n == (9223372036854775807 : Int)) (Done (Value.bool true = Value.bool true))
      (∃ (n : Int),
      CellsAt m' b
      (off +
      (IntKind.i64.wrap ((IntKind.u64.wrap pick).tmod (IntKind.u64.wrap (↑l.length : Int)))).toNat *
      (16 : Nat) +
      (11 : Nat))
      [Value.int IntKind.i64 n] ∧
      Wr N (fun (x : Nat) => False) m' b
      (off +
      (IntKind.i64.wrap ((IntKind.u64.wrap pick).tmod (IntKind.u64.wrap (↑l.length : Int)))).toNat *
      (16 : Nat) +
      (10 : Nat))
      #[Value.int IntKind.i64 (IntKind.i64.wrap (n + (1 : Int)))].size ∧
      ∃ (n_2 : Int),
      ∃ (n_3 : Int),
      QSpec Try.prog (24 : Nat) [Value.slice a' ((0 : Nat) + l.length) c']
      (m'.setCells b
      (off +
      (IntKind.i64.wrap
      ((IntKind.u64.wrap pick).tmod (IntKind.u64.wrap (↑l.length : Int)))).toNat *
      (16 : Nat) +
      (10 : Nat))
      [Value.int IntKind.i64 (IntKind.i64.wrap (n + (1 : Int)))])
      (Value.tuple #[Value.int IntKind.i64 n_2, Value.int IntKind.i64 n_3]) ∧
      ifB (n_3 != (0 : Int))
      (ifB (decide (n_2 ≥ (0 : Int)))
      (Done (Value.bool (decide (n_2 < (↑((0 : Nat) + l.length) : Int))) = Value.bool true))
      (Done (Value.bool false = Value.bool true)))
      (Done (Value.bool false = Value.bool true))))))
      (ifB (how.tmod (6 : Int) == (3 : Int))
      (∃ (n : Int),
      CellsAt m' b
      (off + (IntKind.i64.wrap ((IntKind.u64.wrap pick).tmod (IntKind.u64.wrap (↑l.length : Int)))).toNat * (16 : Nat) +
      (11 : Nat))
      [Value.int IntKind.i64 n] ∧
      ifB (n == (0 : Int)) (Done (Value.bool true = Value.bool true))
      (∃ (n : Int),
      CellsAt m' b
      (off + (IntKind.i64.wrap ((IntKind.u64.wrap pick).tmod (IntKind.u64.wrap (↑l.length : Int)))).toNat * (16 : Nat) +
      (10 : Nat))
      [Value.int IntKind.i64 n] ∧
      ifB (decide (n ≤ (0 : Int))) (Done (Value.bool true = Value.bool true))
      (∃ (n : Int),
      CellsAt m' b
      (off +
      (IntKind.i64.wrap ((IntKind.u64.wrap pick).tmod (IntKind.u64.wrap (↑l.length : Int)))).toNat *
      (16 : Nat) +
      (12 : Nat) +
      (0 : Nat))
      [Value.int IntKind.i64 n] ∧
      ifB (n == (0 : Int))
      (Wr N (fun (x : Nat) => False) m' b
      (off +
      (IntKind.i64.wrap ((IntKind.u64.wrap pick).tmod (IntKind.u64.wrap (↑l.length : Int)))).toNat *
      (16 : Nat) +
      (12 : Nat) +
      (0 : Nat))
      (1 : Nat) ∧
      ∃ (n : Int),
      ∃ (n_2 : Int),
      QSpec Try.prog (24 : Nat) [Value.slice a' ((0 : Nat) + l.length) c']
      (m'.setCells b
      (off +
      (IntKind.i64.wrap
      ((IntKind.u64.wrap pick).tmod (IntKind.u64.wrap (↑l.length : Int)))).toNat *
      (16 : Nat) +
      (12 : Nat) +
      (0 : Nat))
      [Value.int IntKind.i64 (150 : Int)])
      (Value.tuple #[Value.int IntKind.i64 n, Value.int IntKind.i64 n_2]) ∧
      ifB (n_2 != (0 : Int))
      (ifB (decide (n ≥ (0 : Int)))
      (Done (Value.bool (decide (n < (↑((0 : Nat) + l.length) : Int))) = Value.bool true))
      (Done (Value.bool false = Value.bool true)))
      (Done (Value.bool false = Value.bool true)))
      (Wr N (fun (x : Nat) => False) m' b
      (off +
      (IntKind.i64.wrap ((IntKind.u64.wrap pick).tmod (IntKind.u64.wrap (↑l.length : Int)))).toNat *
      (16 : Nat) +
      (12 : Nat) +
      (0 : Nat))
      (1 : Nat) ∧
      ∃ (n : Int),
      CellsAt
      (m'.setCells b
      (off +
      (IntKind.i64.wrap
      ((IntKind.u64.wrap pick).tmod (IntKind.u64.wrap (↑l.length : Int)))).toNat *
      (16 : Nat) +
      (12 : Nat) +
      (0 : Nat))
      [Value.int IntKind.i64 (0 : Int)])
      b
      (off +
      (IntKind.i64.wrap ((IntKind.u64.wrap pick).tmod (IntKind.u64.wrap (↑l.length : Int)))).toNat *
      (16 : Nat) +
      (3 : Nat) +
      (0 : Nat))
      [Value.int IntKind.i64 n] ∧
      ifB (n == (4 : Int)) (Done (Value.bool true = Value.bool true))
      (∃ (n : Int),
      CellsAt
      (m'.setCells b
      (off +
      (IntKind.i64.wrap
      ((IntKind.u64.wrap pick).tmod (IntKind.u64.wrap (↑l.length : Int)))).toNat *
      (16 : Nat) +
      (12 : Nat) +
      (0 : Nat))
      [Value.int IntKind.i64 (0 : Int)])
      b
      (off +
      (IntKind.i64.wrap
      ((IntKind.u64.wrap pick).tmod (IntKind.u64.wrap (↑l.length : Int)))).toNat *
      (16 : Nat) +
      (3 : Nat) +
      (0 : Nat))
      [Value.int IntKind.i64 n] ∧
      ifB (n == (3 : Int)) (Done (Value.bool true = Value.bool true))
      (∃ (n : Int),
      ∃ (n_2 : Int),
      QSpec Try.prog (24 : Nat) [Value.slice a' ((0 : Nat) + l.length) c']
      (m'.setCells b
      (off +
      (IntKind.i64.wrap
      ((IntKind.u64.wrap pick).tmod
      (IntKind.u64.wrap (↑l.length : Int)))).toNat *
      (16 : Nat) +
      (12 : Nat) +
      (0 : Nat))
      [Value.int IntKind.i64 (0 : Int)])
      (Value.tuple #[Value.int IntKind.i64 n, Value.int IntKind.i64 n_2]) ∧
      ifB (n_2 != (0 : Int))
      (ifB (decide (n ≥ (0 : Int)))
      (Done (Value.bool (decide (n < (↑((0 : Nat) + l.length) : Int))) = Value.bool true))
      (Done (Value.bool false = Value.bool true)))
      (Done (Value.bool false = Value.bool true))))))))
      (ifB (how.tmod (6 : Int) == (4 : Int))
      (Wr N (fun (x : Nat) => False) m' b
      (off + (IntKind.i64.wrap ((IntKind.u64.wrap pick).tmod (IntKind.u64.wrap (↑l.length : Int)))).toNat * (16 : Nat) +
      (0 : Nat))
      (1 : Nat) ∧
      ∃ (n : Int),
      ∃ (n_2 : Int),
      QSpec Try.prog (24 : Nat) [Value.slice a' ((0 : Nat) + l.length) c']
      (m'.setCells b
      (off +
      (IntKind.i64.wrap ((IntKind.u64.wrap pick).tmod (IntKind.u64.wrap (↑l.length : Int)))).toNat * (16 : Nat) +
      (0 : Nat))
      [Value.int IntKind.i64 (0 : Int)])
      (Value.tuple #[Value.int IntKind.i64 n, Value.int IntKind.i64 n_2]) ∧
      ifB (n_2 != (0 : Int))
      (ifB (decide (n ≥ (0 : Int))) (Done (Value.bool (decide (n < (↑((0 : Nat) + l.length) : Int))) = Value.bool true))
      (Done (Value.bool false = Value.bool true)))
      (Done (Value.bool false = Value.bool true)))
      (Wr N (fun (x : Nat) => False) m' b
      (off + (IntKind.i64.wrap ((IntKind.u64.wrap pick).tmod (IntKind.u64.wrap (↑l.length : Int)))).toNat * (16 : Nat) +
      (9 : Nat))
      (1 : Nat) ∧
      ∃ (n : Int),
      ∃ (n_2 : Int),
      QSpec Try.prog (24 : Nat) [Value.slice a' ((0 : Nat) + l.length) c']
      (m'.setCells b
      (off +
      (IntKind.i64.wrap ((IntKind.u64.wrap pick).tmod (IntKind.u64.wrap (↑l.length : Int)))).toNat * (16 : Nat) +
      (9 : Nat))
      [Value.int IntKind.i64 (0 : Int)])
      (Value.tuple #[Value.int IntKind.i64 n, Value.int IntKind.i64 n_2]) ∧
      ifB (n_2 != (0 : Int))
      (ifB (decide (n ≥ (0 : Int))) (Done (Value.bool (decide (n < (↑((0 : Nat) + l.length) : Int))) = Value.bool true))
      (Done (Value.bool false = Value.bool true)))
      (Done (Value.bool false = Value.bool true))))))))))) (by kernel_rfl) ?_
  have h' := h.sz hN
  refine ⟨rfl, _, _, wLegal_q a cp l hn hcp hl _ h', _, wawake_q _, ifB_false ?_⟩
  rcases leg_cases l with ⟨hg, e⟩ | ⟨h1, h2, h3⟩
  case inr => exact ifB_true' (by simpa using h1) ⟨_, wawake_q _, ⟨rfl⟩⟩
  rw [e]
  refine ifB_false (ifB_intro (fun h0 => ⟨_, wawake_q _, ⟨rfl⟩⟩) (fun h0 => ?_))
  have hpos : 0 < l.length := by simp at h0; exact List.length_pos_iff.2 h0
  obtain ⟨k, hk, ek⟩ := pickN pick hpos hn
  rw [ek]
  have eu : IntKind.u64.wrap (l.length : Int) = (l.length : Int) := by simp [IntKind.wrap_u64]; omega
  refine ⟨by rw [eu]; omega, rfl, fun b hb => ?_⟩
  have ho : OwnB N (fun _ => False) (({ m with sz := N } : M).newBlock b []) 16 (some ⟨b, 0, none⟩) 0 0 [] := OwnB.fresh hb rfl
  have hr : Row (({ m with sz := N } : M).newBlock b []) a (cls l) := h'.newBlock hb
  refine ⟨_, _, ho.appPre hr (cl_len l) (cl_one l) (by omega), fun a' c' m' hp' => ?_⟩
  have O := ho.append hp' (cl_len l) cl_zr (by simp only [M.newBlock]; omega)
  simp only [Nat.zero_add, List.nil_append] at O ⊢
  obtain ⟨b2, o2, rfl, hc⟩ := O.row.cells (by rw [cl_len]; omega)
  have hcap := O.capLe
  have hwk : l[k].wf := hl _ (List.getElem_mem hk)
  obtain ⟨y1, y2, y3, y4, y5, y6, y7, y8, y9, y10, y11, y12, y13, y14, y15, y16⟩ := id hwk
  have zI : In64 0 := by decide
  have wI : ∀ x, In64 (IntKind.i64.wrap x) := fun x => by unfold In64; simp [IntKind.wrap_i64]; omega
  have ekc := clA_at hk
  have hd : ∀ how : Int, IntKind.i64.wrap how = how → True := fun _ _ => trivial
  simp only [Int.toNat_natCast]
  have fin : ∀ (c2 : Cl) (m2 : M), c2.wf → ¬ LegO (l.set k c2) → Row m2 (some ⟨b2, o2, none⟩) (cls (l.set k c2)) → ∃ n n_2, QSpec Try.prog 24 [.slice (some ⟨b2, o2, none⟩) l.length c'] m2 (.tuple #[I n, I n_2]) ∧ ifB (n_2 != 0) (ifB (decide (n ≥ 0)) (Done (Value.bool (decide (n < (l.length : Int))) = Value.bool true)) (Done (Value.bool false = Value.bool true))) (Done (Value.bool false = Value.bool true)) := fun c2 m2 hw hno hr2 => by
    have hL := wLegal_q (some ⟨b2, o2, none⟩) c' (l.set k c2) (by rw [List.length_set]; exact hn) (by rw [List.length_set]; exact hcap) (fun x hx => by
      rcases List.mem_or_eq_of_mem_set hx with g | g
      · exact hl x g
      · rw [g]; exact hw) _ hr2
    rcases leg_cases (l.set k c2) with ⟨g1, -⟩ | ⟨g1, g2, g3⟩
    · exact absurd g1 hno
    · rw [List.length_set] at hL g3
      refine ⟨_, _, hL, ifB_true' (by simpa using g1) (ifB_true' (by simpa using g2) ⟨?_⟩)⟩
      simp [g3]
  have f : ∀ (j : Nat) (v : Value), (encCl l[k])[j]? = some v → CellsAt m' b2 (o2 + k * 16 + j) [v] := fun j v hv => fld_at hc hk j v hv
  have s := fun (j : Nat) (x v : Value) (c2 : Cl) e1 e2 hp => set_fld O hk j x v c2 e1 e2 hp
  refine ⟨b2, o2, rfl, by omega, by decide, ifB_intro (fun q0 => ?_) (fun q0 => ifB_intro (fun q1 => ?_) (fun q1 => ifB_intro (fun q2 => ?_) (fun q2 => ifB_intro (fun q3 => ?_) (fun q3 => ifB_intro (fun q4 => ?_) (fun q4 => ?_)))))⟩
  · refine ⟨_, by simpa using f 3 _ rfl, ifB_intro (fun g1 => ⟨by trivial⟩) (fun g1 => ⟨_, by simpa using f 11 _ rfl, ifB_intro (fun g2 => ⟨by trivial⟩) (fun g2 => ⟨_, by simpa using f 10 _ rfl, ifB_intro (fun g3 => ⟨by trivial⟩) (fun g3 => ⟨_, by simpa using f 12 _ rfl, ifB_intro (fun g4 => ⟨by trivial⟩) (fun g4 => ⟨_, by simpa using f 13 _ rfl, ?_⟩)⟩)⟩)⟩)⟩
    obtain ⟨w1, w2⟩ := s 13 _ (.int .i64 (IntKind.i64.wrap (l[k].an_va + 1))) { l[k] with an_va := IntKind.i64.wrap (l[k].an_va + 1) } rfl rfl rfl
    refine ⟨by simpa using w1, fin _ _ ?_ (fun hG => ?_) (by simpa using w2)⟩
    · exact ⟨y1, y2, y3, y4, y5, y6, y7, y8, y9, y10, y11, y12, y13, wI _, y15, y16⟩
    · simp at g1 g2 g3 g4
      obtain ⟨A, r1, r2⟩ := set_rig (c' := { l[k] with an_va := IntKind.i64.wrap (l[k].an_va + 1) }) hg hk (by rw [ekc]; exact g3) (by rw [ekc]) (by rw [ekc]; rfl) hG
      rw [ekc] at r1
      have k1 := rig_fields r1 g2
      have k2 := rig_fields r2 g2
      have e0 : A.er = 0 := by rw [k1.1, g4]
      have u1 := (k1.2 e0).1 g1
      have u2 := (k2.2 e0).1 g1
      rw [u1] at u2
      simp [IntKind.wrap_i64] at u2
      omega
  · refine ⟨_, by simpa using f 11 _ rfl, ifB_intro (fun g1 => ⟨by trivial⟩) (fun g1 => ⟨_, by simpa using f 12 _ rfl, ifB_intro (fun g2 => ⟨by trivial⟩) (fun g2 => ?_)⟩)⟩
    obtain ⟨w1, w2⟩ := s 10 _ (I 0) { l[k] with mo := 0 } rfl rfl rfl
    refine ⟨by simpa using w1, fin _ _ ?_ (set_frm hk fun e he => ?_) (by simpa using w2)⟩
    · exact ⟨y1, y2, y3, y4, y5, y6, y7, y8, y9, y10, zI, y12, y13, y14, y15, y16⟩
    · simp at g1 g2
      have := he.non
      simp [nonB, g1, g2, noEff] at this
  · refine ⟨_, by simpa using f 11 _ rfl, ifB_intro (fun g1 => ⟨by trivial⟩) (fun g1 => ⟨_, by simpa using f 10 _ rfl, ifB_intro (fun g2 => ⟨by trivial⟩) (fun g2 => ⟨_, by simpa using f 11 _ rfl, ifB_intro (fun g3 => ⟨by trivial⟩) (fun g3 => ⟨_, by simpa using f 11 _ rfl, ?_⟩)⟩)⟩)⟩
    obtain ⟨w1, w2⟩ := s 10 _ (.int .i64 (IntKind.i64.wrap (l[k].aw + 1))) { l[k] with mo := IntKind.i64.wrap (l[k].aw + 1) } rfl rfl rfl
    refine ⟨by simpa using w1, fin _ _ ?_ (set_frm hk fun e he => ?_) (by simpa using w2)⟩
    · exact ⟨y1, y2, y3, y4, y5, y6, y7, y8, y9, y10, wI _, y12, y13, y14, y15, y16⟩
    · simp at g1 g2 g3
      have h4 := hg.frm k hk
      rw [ekc] at h4
      have h5 := old_no h4.old g2
      have ha : In64 l[k].aw := hwk.2.2.2.2.2.2.2.2.2.2.2.1
      unfold In64 at ha
      have hw : IntKind.i64.wrap (l[k].aw + 1) = l[k].aw + 1 := by simp [IntKind.wrap_i64]; omega
      have := old_no he.old (by simp only; rw [hw]; omega)
      simp only [hw] at this
      omega
  · refine ⟨_, by simpa using f 11 _ rfl, ifB_intro (fun g1 => ⟨by trivial⟩) (fun g1 => ⟨_, by simpa using f 10 _ rfl, ifB_intro (fun g2 => ⟨by trivial⟩) (fun g2 => ⟨_, by simpa using f 12 _ rfl, ifB_intro (fun g3 => ?_) (fun g3 => ?_)⟩)⟩)⟩
    · obtain ⟨w1, w2⟩ := s 12 _ (I 150) { l[k] with an_er := 150 } rfl rfl rfl
      refine ⟨by simpa using w1, fin _ _ ?_ (fun hG => ?_) (by simpa using w2)⟩
      · exact ⟨y1, y2, y3, y4, y5, y6, y7, y8, y9, y10, y11, y12, (by decide : In64 150), y14, y15, y16⟩
      · simp at g1 g2 g3
        obtain ⟨A, r1, r2⟩ := set_rig (c' := { l[k] with an_er := 150 }) hg hk (by rw [ekc]; exact g2) (by rw [ekc]) (by rw [ekc]; rfl) hG
        rw [ekc] at r1
        have k1 := (rig_fields r1 g1).1
        have k2 := (rig_fields r2 g1).1
        simp only at k2
        omega
    · obtain ⟨w1, w2⟩ := s 12 _ (I 0) { l[k] with an_er := 0 } rfl rfl rfl
      have O2 : CellsAt (m'.setCells b2 (o2 + k * 16 + 12) [I 0]) b2 o2 (cls (l.set k { l[k] with an_er := 0 })) := by
        obtain ⟨b3, o3, e3, hc3⟩ := w2.cells (by rw [cl_len, List.length_set]; omega)
        cases e3; exact hc3
      have hk2 : k < (l.set k { l[k] with an_er := 0 }).length := by rw [List.length_set]; exact hk
      have f3 := fld_at O2 hk2 3 (I l[k].op_kd) (by rw [List.getElem_set_self]; rfl)
      refine ⟨by simpa using w1, _, by simpa using f3, ifB_intro (fun g4 => ⟨by trivial⟩) (fun g4 => ⟨_, by simpa using f3, ifB_intro (fun g5 => ⟨by trivial⟩) (fun g5 => fin _ _ ?_ (fun hG => ?_) (by simpa using w2))⟩)⟩
      · exact ⟨y1, y2, y3, y4, y5, y6, y7, y8, y9, y10, y11, y12, zI, y14, y15, y16⟩
      · simp at g1 g2 g3
        obtain ⟨A, r1, r2⟩ := set_rig (c' := { l[k] with an_er := 0 }) hg hk (by rw [ekc]; exact g2) (by rw [ekc]) (by rw [ekc]; rfl) hG
        rw [ekc] at r1
        have k1 := (rig_fields r1 g1).1
        have k2 := (rig_fields r2 g1).1
        simp only at k2
        omega
  · obtain ⟨w1, w2⟩ := s 0 _ (I 0) { l[k] with cl := 0 } rfl rfl rfl
    refine ⟨by simpa using w1, fin _ _ ?_ (set_frm hk fun e he => ?_) (by simpa using w2)⟩
    · exact ⟨zI, y2, y3, y4, y5, y6, y7, y8, y9, y10, y11, y12, y13, y14, y15, y16⟩
    · have := he.bad
      simp [badB] at this
  · obtain ⟨w1, w2⟩ := s 9 _ (I 0) { l[k] with ca := 0 } rfl rfl rfl
    refine ⟨by simpa using w1, fin _ _ ?_ (set_frm hk fun e he => ?_) (by simpa using w2)⟩
    · exact ⟨y1, y2, y3, y4, y5, y6, y7, y8, y9, zI, y11, y12, y13, y14, y15, y16⟩
    · have := he.bad
      simp [badB] at this

end Go.Proofs.Ytbhlhnkjmncloaa
