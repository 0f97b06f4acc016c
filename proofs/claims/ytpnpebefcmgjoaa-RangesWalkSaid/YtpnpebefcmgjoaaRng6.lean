/-
  Contracts of functions of this seat: what each hands back, and what it leaves of memory (rng6). Nothing here is trusted: Lean checks it.
-/
import Derived.Test.YtpnpebefcmgjoaaRng5
set_option linter.unusedVariables false
set_option linter.unusedSimpArgs false
namespace Go.Proofs.Ytpnpebefcmgjoaa
open Go.Vc Go.RowKit
set_option maxRecDepth 100000

theorem nd_len : ∀ (n : Nat) (s : List Int), s.Nodup → (∀ g ∈ s, 1 ≤ g ∧ g ≤ n) → s.length ≤ n
  | 0, s, _, h => by
    cases s with
    | nil => simp
    | cons g r => have := h g (by simp); omega
  | n + 1, s, hd, h => by
    by_cases hm : ((n + 1 : Nat) : Int) ∈ s
    · have h1 := nd_len n (s.erase ((n + 1 : Nat) : Int)) (hd.erase _) fun g hg => by
        have h2 := h g (List.mem_of_mem_erase hg)
        have h3 : g ≠ ((n + 1 : Nat) : Int) := fun e => by subst e; exact hd.not_mem_erase hg
        omega
      rw [List.length_erase_of_mem hm] at h1
      omega
    · have := nd_len n s hd fun g hg => by
        have h2 := h g hg
        have h3 : g ≠ ((n + 1 : Nat) : Int) := fun e => hm (e ▸ hg)
        omega
      omega

theorem chk_len : ∀ (l : List Pl) (seen : List Int) (last : Option ByteArray), seen.Nodup → (∀ g ∈ seen, 1 ≤ g ∧ g ≤ ((7 : Nat) : Int)) → chk seen last l = true → seen.length + l.length ≤ 7
  | [], seen, last, hd, h, _ => by simpa using nd_len 7 seen hd h
  | x :: xs, seen, last, hd, h, hc => by
    simp only [chk, Bool.and_eq_true, Bool.not_eq_true'] at hc
    obtain ⟨h1, h2, h3, h4⟩ := hc
    have hg : 1 ≤ x.gr ∧ x.gr < 8 := by
      simp only [plB, grpB, Bool.and_eq_true, decide_eq_true_eq] at h1
      exact h1.1
    have hni : x.gr ∉ seen := by simpa using h2
    have := chk_len xs (seen ++ [x.gr]) (some x.fr) (List.nodup_append.2 ⟨hd, by simp, fun a ha b hb e => by simp at hb; subst hb; subst e; exact hni ha⟩) (fun g hg2 => by
      rcases List.mem_append.1 hg2 with hg2 | hg2
      · exact h g hg2
      · simp at hg2; subst hg2; omega) h4
    simp at this ⊢
    omega

theorem right_len {l : List Pl} (h : rightB l = true) : l.length ≤ 7 := by
  simp only [rightB, Bool.and_eq_true] at h
  have := chk_len l [] none (by simp) (by simp) h.2.2
  simpa using this

structure RtX where
  i : Nat
  k : Nat

theorem rf_right (l : List Pl) (a : Option Addr) (c : Nat) (hl : l.length ≤ 9223372036854775807) (m : M) (h : Row m a (pls l)) :
    QSpec Try.prog 17 [.slice a l.length c] m (.bool (rightB l)) := by
  refine QSpec.of_vc Try.func17 (ann := fun n r => if r = 4 then { A := Nat, inv := fun i => i ≤ l.length ∧ (1 ≤ l.length ∧ l.length ≤ 7 ∧ emptyB (hdF l) = true) ∧ chk (gsL l i) (lastF l i) (l.drop i) = chk [] none l, st := fun i => [(3, .val (I i)), (0, .val (.slice a l.length c))], own := fun _ => [], m := fun _ => { m with sz := n }, μ := fun i => l.length - i }
    else { A := RtX, inv := fun x => (x.i < l.length ∧ x.k ≤ x.i) ∧ (1 ≤ l.length ∧ l.length ≤ 7 ∧ emptyB (hdF l) = true) ∧ chk (gsL l x.i) (lastF l x.i) (l.drop x.i) = chk [] none l ∧ (∀ p, l[x.i]? = some p → plB p = true ∧ aftB (lastF l x.i) p = true ∧ (gsL l x.k).contains p.gr = false), st := fun x => [(5, .val (I x.k)), (3, .val (I x.i)), (0, .val (.slice a l.length c)), (4, .own 25 0)], own := fun x => [(25, ⟨39, encPl (l[x.i]?.getD ⟨0, .empty, 0⟩)⟩)], m := fun _ => { m with sz := n }, μ := fun x => x.i - x.k, link := some fun x ctx => ctx = [l.length - x.i] }) fun n hn => ?_
  refine vc_by (X :=
      true = true ∧
      ifB (decide ((↑l.length : Int) < (1 : Int))) (Done (Value.bool false = Value.bool (rightB l)))
      (ifB (decide ((↑l.length : Int) > (7 : Int))) (Done (Value.bool false = Value.bool (rightB l)))
      (∃ (b : Nat),
      ∃ (off : Nat),
      a = some { block := b, off := off : Addr } ∧
      ((0 : Int) ≤ (0 : Int) ∧ (0 : Int) < (↑l.length : Int)) ∧
      ∃ (s : ByteArray),
      CellsAt { π := m.π, sz := n, uf := m.uf : M } b (off + (0 : Nat) + (1 : Nat)) [Value.string s] ∧
      ifB (!s.toList == []) (Done (Value.bool false = Value.bool (rightB l)))
      ((∃ (a_1 : Nat),
      (a_1 ≤ l.length ∧ ((1 : Nat) ≤ l.length ∧ l.length ≤ (7 : Nat) ∧ emptyB (hdF l) = true) ∧ chk (gsL l a_1) (lastF l a_1) (List.drop a_1 l) = chk [] none l) ∧
      { π := m.π, sz := n, uf := m.uf : M } = { π := m.π, sz := n, uf := m.uf : M } ∧
      ((SV.val (Value.int IntKind.i64 (0 : Int)) = SV.val (Value.int IntKind.i64 (↑a_1 : Int)) ∧ true = true) ∧
      (SV.val (Value.slice a l.length c) = SV.val (Value.slice a l.length c) ∧ true = true) ∧ True) ∧
      True) ∧
      ∀ (a_1 : Nat),
      a_1 ≤ l.length ∧ ((1 : Nat) ≤ l.length ∧ l.length ≤ (7 : Nat) ∧ emptyB (hdF l) = true) ∧ chk (gsL l a_1) (lastF l a_1) (List.drop a_1 l) = chk [] none l →
      ifB (decide ((↑a_1 : Int) < (↑l.length : Int)))
      (∃ (b : Nat),
      ∃ (off : Nat),
      a = some { block := b, off := off : Addr } ∧
      ((0 : Int) ≤ (↑a_1 : Int) ∧ (↑a_1 : Int) < (↑l.length : Int)) ∧
      ∃ (n_1 : Int),
      ∃ (s : ByteArray),
      ∃ (n_2 : Int),
      CellsAt { π := m.π, sz := n, uf := m.uf : M } b (off + (↑a_1 : Int).toNat * (3 : Nat))
      [Value.int IntKind.i64 n_1, Value.string s, Value.int IntKind.i64 n_2] ∧
      true = true ∧
      ifB (decide (n_1 < (1 : Int))) (Done (Value.bool false = Value.bool (rightB l)))
      (ifB (decide (n_1 ≥ (8 : Int))) (Done (Value.bool false = Value.bool (rightB l)))
      (ifB (decide (n_2 < (1 : Int))) (Done (Value.bool false = Value.bool (rightB l)))
      (ifB (decide (n_2 > (4611686018427387904 : Int))) (Done (Value.bool false = Value.bool (rightB l)))
      (ifB (decide ((↑s.size : Int) > (16 : Int))) (Done (Value.bool false = Value.bool (rightB l)))
      (ifB (decide ((↑a_1 : Int) > (0 : Int)))
      (∃ (b : Nat),
      ∃ (off : Nat),
      a = some { block := b, off := off : Addr } ∧
      ((0 : Int) ≤ IntKind.i64.wrap ((↑a_1 : Int) - (1 : Int)) ∧
      IntKind.i64.wrap ((↑a_1 : Int) - (1 : Int)) < (↑l.length : Int)) ∧
      ∃ (s_1 : ByteArray),
      CellsAt { π := m.π, sz := n, uf := m.uf : M } b
      (off + (IntKind.i64.wrap ((↑a_1 : Int) - (1 : Int))).toNat * (3 : Nat) + (1 : Nat)) [Value.string s_1] ∧
      ifB (Op.bytesLess s.toList s_1.toList || s.toList == s_1.toList)
      (Done (Value.bool false = Value.bool (rightB l)))
      ((∃ (a_3 : RtX),
      (((a_3.i < l.length ∧ a_3.k ≤ a_3.i) ∧
      ((1 : Nat) ≤ l.length ∧ l.length ≤ (7 : Nat) ∧ emptyB (hdF l) = true) ∧
      chk (gsL l a_3.i) (lastF l a_3.i) (List.drop a_3.i l) = chk [] none l ∧
      ∀ (p : Pl),
      l[a_3.i]? = some p →
      plB p = true ∧ aftB (lastF l a_3.i) p = true ∧ (gsL l a_3.k).contains p.gr = false) ∧
      { π := m.π, sz := n, uf := m.uf : M } = { π := m.π, sz := n, uf := m.uf : M } ∧
      ((SV.val (Value.int IntKind.i64 (0 : Int)) = SV.val (Value.int IntKind.i64 (↑a_3.k : Int)) ∧
      true = true) ∧
      (SV.val (Value.int IntKind.i64 (↑a_1 : Int)) = SV.val (Value.int IntKind.i64 (↑a_3.i : Int)) ∧
      true = true) ∧
      (SV.val (Value.slice a l.length c) = SV.val (Value.slice a l.length c) ∧ true = true) ∧
      (SV.own ((0 : Nat) + (1 : Nat) + (15 : Nat) + (1 : Nat) + (4 : Nat) + (4 : Nat))
      (0 : Nat) =
      SV.own (25 : Nat) (0 : Nat) ∧
      true = true) ∧
      True) ∧
      (some
      { ty := (39 : Nat), cs := [Value.int IntKind.i64 n_1, Value.string s, Value.int IntKind.i64 n_2] : Bx } =
      some
      { ty := (39 : TypeId), cs := [Value.int IntKind.i64 (l[a_3.i]?.getD { gr := (0 : Int), fr := ByteArray.empty, ep := (0 : Int) : Pl }).gr, Value.string (l[a_3.i]?.getD { gr := (0 : Int), fr := ByteArray.empty, ep := (0 : Int) : Pl }).fr, Value.int IntKind.i64 (l[a_3.i]?.getD { gr := (0 : Int), fr := ByteArray.empty, ep := (0 : Int) : Pl }).ep] : Bx } ∧
      true = true) ∧
      True) ∧
      [l.length - a_1] = [l.length - a_3.i]) ∧
      ∀ (a_3 : RtX),
      ((a_3.i < l.length ∧ a_3.k ≤ a_3.i) ∧
      ((1 : Nat) ≤ l.length ∧ l.length ≤ (7 : Nat) ∧ emptyB (hdF l) = true) ∧
      chk (gsL l a_3.i) (lastF l a_3.i) (List.drop a_3.i l) = chk [] none l ∧
      ∀ (p : Pl),
      l[a_3.i]? = some p →
      plB p = true ∧ aftB (lastF l a_3.i) p = true ∧ (gsL l a_3.k).contains p.gr = false) ∧
      [l.length - a_1] = [l.length - a_3.i] →
      ifB (decide ((↑a_3.k : Int) < (↑a_3.i : Int)))
      (true = true ∧
      ∃ (b : Nat),
      ∃ (off : Nat),
      a = some { block := b, off := off : Addr } ∧
      ((0 : Int) ≤ (↑a_3.k : Int) ∧ (↑a_3.k : Int) < (↑l.length : Int)) ∧
      ∃ (n_3 : Int),
      CellsAt { π := m.π, sz := n, uf := m.uf : M } b
      (off + (↑a_3.k : Int).toNat * (3 : Nat) + (0 : Nat)) [Value.int IntKind.i64 n_3] ∧
      ifB
      (n_3 ==
      (l[a_3.i]?.getD
      { gr := (0 : Int), fr := ByteArray.empty, ep := (0 : Int) : Pl }).gr)
      (Done (Value.bool false = Value.bool (rightB l)))
      (∃ (a' : RtX),
      ((((a'.i < l.length ∧ a'.k ≤ a'.i) ∧
      ((1 : Nat) ≤ l.length ∧ l.length ≤ (7 : Nat) ∧ emptyB (hdF l) = true) ∧
      chk (gsL l a'.i) (lastF l a'.i) (List.drop a'.i l) = chk [] none l ∧
      ∀ (p : Pl),
      l[a'.i]? = some p →
      plB p = true ∧
      aftB (lastF l a'.i) p = true ∧
      (gsL l a'.k).contains p.gr = false) ∧
      { π := m.π, sz := n, uf := m.uf : M } =
      { π := m.π, sz := n, uf := m.uf : M } ∧
      ((SV.val
      (Value.int IntKind.i64
      (IntKind.i64.wrap ((↑a_3.k : Int) + (1 : Int)))) =
      SV.val (Value.int IntKind.i64 (↑a'.k : Int)) ∧
      true = true) ∧
      (SV.val (Value.int IntKind.i64 (↑a_3.i : Int)) =
      SV.val (Value.int IntKind.i64 (↑a'.i : Int)) ∧
      true = true) ∧
      (SV.val (Value.slice a l.length c) =
      SV.val (Value.slice a l.length c) ∧
      true = true) ∧
      (SV.own (25 : Nat) (0 : Nat) = SV.own (25 : Nat) (0 : Nat) ∧
      true = true) ∧
      True) ∧
      (some
      { ty := (39 : TypeId), cs := [Value.int IntKind.i64 (l[a_3.i]?.getD { gr := (0 : Int), fr := ByteArray.empty, ep := (0 : Int) : Pl }).gr, Value.string (l[a_3.i]?.getD { gr := (0 : Int), fr := ByteArray.empty, ep := (0 : Int) : Pl }).fr, Value.int IntKind.i64 (l[a_3.i]?.getD { gr := (0 : Int), fr := ByteArray.empty, ep := (0 : Int) : Pl }).ep] : Bx } =
      some
      { ty := (39 : TypeId), cs := [Value.int IntKind.i64 (l[a'.i]?.getD { gr := (0 : Int), fr := ByteArray.empty, ep := (0 : Int) : Pl }).gr, Value.string (l[a'.i]?.getD { gr := (0 : Int), fr := ByteArray.empty, ep := (0 : Int) : Pl }).fr, Value.int IntKind.i64 (l[a'.i]?.getD { gr := (0 : Int), fr := ByteArray.empty, ep := (0 : Int) : Pl }).ep] : Bx } ∧
      true = true) ∧
      True) ∧
      [l.length - a_1] = [l.length - a'.i]) ∧
      a'.i - a'.k < a_3.i - a_3.k))
      (∃ (a' : Nat),
      ((a' ≤ l.length ∧
      ((1 : Nat) ≤ l.length ∧ l.length ≤ (7 : Nat) ∧ emptyB (hdF l) = true) ∧
      chk (gsL l a') (lastF l a') (List.drop a' l) = chk [] none l) ∧
      { π := m.π, sz := n, uf := m.uf : M } = { π := m.π, sz := n, uf := m.uf : M } ∧
      ((SV.val (Value.int IntKind.i64 (IntKind.i64.wrap ((↑a_3.i : Int) + (1 : Int)))) =
      SV.val (Value.int IntKind.i64 (↑a' : Int)) ∧
      true = true) ∧
      (SV.val (Value.slice a l.length c) = SV.val (Value.slice a l.length c) ∧ true = true) ∧
      True) ∧
      True) ∧
      l.length - a' < l.length - a_1)))
      ((∃ (a_3 : RtX),
      (((a_3.i < l.length ∧ a_3.k ≤ a_3.i) ∧
      ((1 : Nat) ≤ l.length ∧ l.length ≤ (7 : Nat) ∧ emptyB (hdF l) = true) ∧
      chk (gsL l a_3.i) (lastF l a_3.i) (List.drop a_3.i l) = chk [] none l ∧
      ∀ (p : Pl),
      l[a_3.i]? = some p → plB p = true ∧ aftB (lastF l a_3.i) p = true ∧ (gsL l a_3.k).contains p.gr = false) ∧
      { π := m.π, sz := n, uf := m.uf : M } = { π := m.π, sz := n, uf := m.uf : M } ∧
      ((SV.val (Value.int IntKind.i64 (0 : Int)) = SV.val (Value.int IntKind.i64 (↑a_3.k : Int)) ∧ true = true) ∧
      (SV.val (Value.int IntKind.i64 (↑a_1 : Int)) = SV.val (Value.int IntKind.i64 (↑a_3.i : Int)) ∧
      true = true) ∧
      (SV.val (Value.slice a l.length c) = SV.val (Value.slice a l.length c) ∧ true = true) ∧
      (SV.own ((0 : Nat) + (1 : Nat) + (15 : Nat) + (1 : Nat) + (4 : Nat) + (4 : Nat)) (0 : Nat) =
      SV.own (25 : Nat) (0 : Nat) ∧
      true = true) ∧
      True) ∧
      (some
      { ty := (39 : Nat), cs := [Value.int IntKind.i64 n_1, Value.string s, Value.int IntKind.i64 n_2] : Bx } =
      some
      { ty := (39 : TypeId), cs := [Value.int IntKind.i64 (l[a_3.i]?.getD { gr := (0 : Int), fr := ByteArray.empty, ep := (0 : Int) : Pl }).gr, Value.string (l[a_3.i]?.getD { gr := (0 : Int), fr := ByteArray.empty, ep := (0 : Int) : Pl }).fr, Value.int IntKind.i64 (l[a_3.i]?.getD { gr := (0 : Int), fr := ByteArray.empty, ep := (0 : Int) : Pl }).ep] : Bx } ∧
      true = true) ∧
      True) ∧
      [l.length - a_1] = [l.length - a_3.i]) ∧
      ∀ (a_3 : RtX),
      ((a_3.i < l.length ∧ a_3.k ≤ a_3.i) ∧
      ((1 : Nat) ≤ l.length ∧ l.length ≤ (7 : Nat) ∧ emptyB (hdF l) = true) ∧
      chk (gsL l a_3.i) (lastF l a_3.i) (List.drop a_3.i l) = chk [] none l ∧
      ∀ (p : Pl),
      l[a_3.i]? = some p → plB p = true ∧ aftB (lastF l a_3.i) p = true ∧ (gsL l a_3.k).contains p.gr = false) ∧
      [l.length - a_1] = [l.length - a_3.i] →
      ifB (decide ((↑a_3.k : Int) < (↑a_3.i : Int)))
      (true = true ∧
      ∃ (b : Nat),
      ∃ (off : Nat),
      a = some { block := b, off := off : Addr } ∧
      ((0 : Int) ≤ (↑a_3.k : Int) ∧ (↑a_3.k : Int) < (↑l.length : Int)) ∧
      ∃ (n_3 : Int),
      CellsAt { π := m.π, sz := n, uf := m.uf : M } b (off + (↑a_3.k : Int).toNat * (3 : Nat) + (0 : Nat))
      [Value.int IntKind.i64 n_3] ∧
      ifB (n_3 == (l[a_3.i]?.getD { gr := (0 : Int), fr := ByteArray.empty, ep := (0 : Int) : Pl }).gr)
      (Done (Value.bool false = Value.bool (rightB l)))
      (∃ (a' : RtX),
      ((((a'.i < l.length ∧ a'.k ≤ a'.i) ∧
      ((1 : Nat) ≤ l.length ∧ l.length ≤ (7 : Nat) ∧ emptyB (hdF l) = true) ∧
      chk (gsL l a'.i) (lastF l a'.i) (List.drop a'.i l) = chk [] none l ∧
      ∀ (p : Pl),
      l[a'.i]? = some p →
      plB p = true ∧
      aftB (lastF l a'.i) p = true ∧ (gsL l a'.k).contains p.gr = false) ∧
      { π := m.π, sz := n, uf := m.uf : M } = { π := m.π, sz := n, uf := m.uf : M } ∧
      ((SV.val (Value.int IntKind.i64 (IntKind.i64.wrap ((↑a_3.k : Int) + (1 : Int)))) =
      SV.val (Value.int IntKind.i64 (↑a'.k : Int)) ∧
      true = true) ∧
      (SV.val (Value.int IntKind.i64 (↑a_3.i : Int)) =
      SV.val (Value.int IntKind.i64 (↑a'.i : Int)) ∧
      true = true) ∧
      (SV.val (Value.slice a l.length c) = SV.val (Value.slice a l.length c) ∧
      true = true) ∧
      (SV.own (25 : Nat) (0 : Nat) = SV.own (25 : Nat) (0 : Nat) ∧ true = true) ∧
      True) ∧
      (some
      { ty := (39 : TypeId), cs := [Value.int IntKind.i64 (l[a_3.i]?.getD { gr := (0 : Int), fr := ByteArray.empty, ep := (0 : Int) : Pl }).gr, Value.string (l[a_3.i]?.getD { gr := (0 : Int), fr := ByteArray.empty, ep := (0 : Int) : Pl }).fr, Value.int IntKind.i64 (l[a_3.i]?.getD { gr := (0 : Int), fr := ByteArray.empty, ep := (0 : Int) : Pl }).ep] : Bx } =
      some
      { ty := (39 : TypeId), cs := [Value.int IntKind.i64 (l[a'.i]?.getD { gr := (0 : Int), fr := ByteArray.empty, ep := (0 : Int) : Pl }).gr, Value.string (l[a'.i]?.getD { gr := (0 : Int), fr := ByteArray.empty, ep := (0 : Int) : Pl }).fr, Value.int IntKind.i64 (l[a'.i]?.getD { gr := (0 : Int), fr := ByteArray.empty, ep := (0 : Int) : Pl }).ep] : Bx } ∧
      true = true) ∧
      True) ∧
      [l.length - a_1] = [l.length - a'.i]) ∧
      a'.i - a'.k < a_3.i - a_3.k))
      (∃ (a' : Nat),
      ((a' ≤ l.length ∧
      ((1 : Nat) ≤ l.length ∧ l.length ≤ (7 : Nat) ∧ emptyB (hdF l) = true) ∧
      chk (gsL l a') (lastF l a') (List.drop a' l) = chk [] none l) ∧
      { π := m.π, sz := n, uf := m.uf : M } = { π := m.π, sz := n, uf := m.uf : M } ∧
      ((SV.val (Value.int IntKind.i64 (IntKind.i64.wrap ((↑a_3.i : Int) + (1 : Int)))) =
      SV.val (Value.int IntKind.i64 (↑a' : Int)) ∧
      true = true) ∧
      (SV.val (Value.slice a l.length c) = SV.val (Value.slice a l.length c) ∧ true = true) ∧ True) ∧
      True) ∧
      l.length - a' < l.length - a_1))))))))
      (Done (Value.bool true = Value.bool (rightB l))))))) (by kernel_rfl) ?_
  have hr0 := h.sz hn
  refine ⟨rfl, ifB_intro (fun h1 => ⟨?_⟩) (fun h1 => ifB_intro (fun h2 => ⟨?_⟩) (fun h2 => ?_))⟩
  · have : l = [] := List.eq_nil_of_length_eq_zero (by simp at h1; omega)
    subst this
    rfl
  · have : rightB l = false := by
      cases hq : rightB l with
      | false => rfl
      | true => have := right_len hq; simp at h2; omega
    rw [this]
  · have hlen : 0 < l.length := by simp at h1; omega
    have hlen7 : l.length ≤ 7 := by simp at h2; omega
    obtain ⟨b0, o0, rfl, hc⟩ := hr0.cells (by rw [pl_len]; omega)
    have hhd : hdF l = l[0].fr := by cases l with | nil => simp at hlen | cons x xs => rfl
    have hne : l.isEmpty = false := by cases l with | nil => simp at hlen | cons x xs => rfl
    refine ⟨b0, o0, rfl, by omega, l[0].fr, by simpa using pl_frc hc hlen, ifB_intro (fun h3 => ⟨?_⟩) (fun h3 => ?_)⟩
    · have : emptyB (hdF l) = false := by rw [hhd]; simpa [emptyB] using h3
      simp [rightB, this]
    · have hemp : emptyB (hdF l) = true := by rw [hhd]; simpa [emptyB] using h3
      have bad : ∀ x : Bool, x = false → chk [] none l = x → Value.bool false = Value.bool (rightB l) := fun x hx e => by
        have : rightB l = false := by simp [rightB, e, hx]
        rw [this]
      refine ⟨⟨0, ⟨Nat.zero_le _, ⟨hlen, hlen7, hemp⟩, rfl⟩, by simp⟩, fun i ⟨hi, _, hf⟩ => ifB_intro (fun h4 => ?_) (fun h4 => ⟨?_⟩)⟩
      · have hlt : i < l.length := by simpa using h4
        rw [chk_at hlt] at hf
        have hf' := hf
        rw [← chk_at hlt] at hf'
        refine ⟨b0, o0, rfl, by omega, _, _, _, by simpa using pl_at hc hlt, by trivial, ifB_intro (fun h5 => ⟨?_⟩) (fun h5 => ifB_intro (fun h6 => ⟨?_⟩) (fun h6 => ifB_intro (fun h7 => ⟨?_⟩) (fun h7 => ifB_intro (fun h8 => ⟨?_⟩) (fun h8 => ifB_intro (fun h9 => ⟨?_⟩) (fun h9 => ifB_intro (fun h10 => ?_) (fun h10 => ?_))))))⟩
        · refine bad _ ?_ hf.symm
          have : ¬ 1 ≤ l[i].gr := by simp at h5; omega
          simp [plB, grpB, this]
        · refine bad _ ?_ hf.symm
          have : ¬ l[i].gr < 8 := by simp at h6; omega
          simp [plB, grpB, this]
        · refine bad _ ?_ hf.symm
          have : ¬ 1 ≤ l[i].ep := by simp at h7; omega
          simp [plB, this]
        · refine bad _ ?_ hf.symm
          have : ¬ l[i].ep ≤ 4611686018427387904 := by simp at h8; omega
          simp [plB, this]
        · refine bad _ ?_ hf.symm
          have : ¬ l[i].fr.size ≤ 16 := by simp at h9; omega
          simp [plB, this]
        · have hk0 : 0 < i := by simp at h10; omega
          have wm : IntKind.i64.wrap ((i : Int) - 1) = ((i - 1 : Nat) : Int) := by rw [IntKind.wrap_i64]; omega
          have hla : lastF l i = some l[i - 1].fr := by
            unfold lastF
            rw [if_neg (by omega), List.getElem?_eq_getElem (by omega)]
            rfl
          rw [wm]
          refine ⟨b0, o0, rfl, by omega, l[i - 1].fr, by simpa using pl_frc hc (by omega : i - 1 < l.length), ?_⟩
          rw [ltS_leq]
          refine ifB_intro (fun h11 => ⟨?_⟩) (fun h11 => ?_)
          · refine bad _ ?_ hf.symm
            have : aftB (lastF l i) l[i] = false := by rw [hla]; simpa [aftB] using h11
            rw [this]; simp
          · have ha : aftB (lastF l i) l[i] = true := by rw [hla]; simpa [aftB] using h11
            have hpl : plB l[i] = true := by simp at h5 h6 h7 h8 h9; simp [plB, grpB]; omega
            have hgi : l[i]?.getD ⟨0, .empty, 0⟩ = l[i] := by rw [List.getElem?_eq_getElem hlt]; rfl
            refine ⟨⟨⟨i, 0⟩, ⟨⟨⟨hlt, Nat.zero_le _⟩, ⟨hlen, hlen7, hemp⟩, hf', fun p hp => ?_⟩, by trivial, by simp, ?_⟩, by trivial⟩, fun x ⟨⟨⟨hxi, hxk⟩, _, hxf, hxp⟩, hctx⟩ => ifB_intro (fun h12 => ?_) (fun h12 => ?_)⟩
            · rw [List.getElem?_eq_getElem hlt] at hp
              cases hp
              exact ⟨hpl, ha, rfl⟩
            · simp [hgi]
            · obtain ⟨xi, xk⟩ := x
              simp only at hxi hxk hxf hxp hctx h12 ⊢
              have hk : xk < xi := by simpa using h12
              have hgx : l[xi]?.getD ⟨0, .empty, 0⟩ = l[xi] := by rw [List.getElem?_eq_getElem hxi]; rfl
              obtain ⟨p1, p2, p3⟩ := hxp _ (List.getElem?_eq_getElem hxi)
              rw [hgx]
              refine ⟨by trivial, b0, o0, rfl, by omega, _, by simpa using pl_grc hc (by omega : xk < l.length), ifB_intro (fun h13 => ⟨?_⟩) (fun h13 => ?_)⟩
              · rw [chk_at hxi] at hxf
                refine bad _ ?_ hxf.symm
                have : (gsL l xi).contains l[xi].gr = true := by
                  have e : l[xk].gr = l[xi].gr := by simpa using h13
                  rw [← e]
                  simp only [gsL, List.contains_iff_mem, List.mem_map]
                  exact ⟨l[xk], List.mem_take_iff_getElem.2 ⟨xk, by omega, rfl⟩, rfl⟩
                rw [this]; simp
              · rw [wrap1 (by omega : xk < l.length) hl]
                refine ⟨⟨xi, xk + 1⟩, ⟨⟨⟨⟨hxi, hk⟩, ⟨hlen, hlen7, hemp⟩, hxf, fun p hp => ?_⟩, by trivial, by simp, ?_⟩, hctx⟩, by simp only; omega⟩
                · rw [List.getElem?_eq_getElem hxi] at hp
                  cases hp
                  refine ⟨p1, p2, ?_⟩
                  rw [gs_succ (by omega : xk < l.length)]
                  have e : ¬ l[xi].gr = l[xk].gr := fun e => by simp [e] at h13
                  simp only [List.contains_iff_mem, Bool.eq_false_iff, ne_eq] at p3 ⊢
                  simp [List.mem_append, p3, e]
                · simp [hgx]
            · obtain ⟨xi, xk⟩ := x
              simp only at hxi hxk hxf hxp hctx h12 ⊢
              have hk : xk = xi := by simp at h12; omega
              subst hk
              obtain ⟨p1, p2, p3⟩ := hxp _ (List.getElem?_eq_getElem hxi)
              have hei : xk = i := by simp at hctx; omega
              subst hei
              rw [chk_at hxi] at hxf
              rw [wrap1 hxi hl]
              refine ⟨xk + 1, ⟨⟨hxi, ⟨hlen, hlen7, hemp⟩, ?_⟩, by trivial, by simp⟩, by omega⟩
              rw [← hxf, p1, p2, p3]; simp
        · have hk0 : i = 0 := by simp at h10; omega
          have ha : aftB (lastF l i) l[i] = true := by
            have : lastF l i = none := by rw [hk0]; rfl
            rw [this]; rfl
          have hpl : plB l[i] = true := by simp at h5 h6 h7 h8 h9; simp [plB, grpB]; omega
          have hgi : l[i]?.getD ⟨0, .empty, 0⟩ = l[i] := by rw [List.getElem?_eq_getElem hlt]; rfl
          refine ⟨⟨⟨i, 0⟩, ⟨⟨⟨hlt, Nat.zero_le _⟩, ⟨hlen, hlen7, hemp⟩, hf', fun p hp => ?_⟩, by trivial, by simp, ?_⟩, by trivial⟩, fun x ⟨⟨⟨hxi, hxk⟩, _, hxf, hxp⟩, hctx⟩ => ifB_intro (fun h12 => ?_) (fun h12 => ?_)⟩
          · rw [List.getElem?_eq_getElem hlt] at hp
            cases hp
            exact ⟨hpl, ha, rfl⟩
          · simp [hgi]
          · obtain ⟨xi, xk⟩ := x
            simp only at hxi hxk hxf hxp hctx h12 ⊢
            have hk : xk < xi := by simpa using h12
            have hgx : l[xi]?.getD ⟨0, .empty, 0⟩ = l[xi] := by rw [List.getElem?_eq_getElem hxi]; rfl
            obtain ⟨p1, p2, p3⟩ := hxp _ (List.getElem?_eq_getElem hxi)
            rw [hgx]
            refine ⟨by trivial, b0, o0, rfl, by omega, _, by simpa using pl_grc hc (by omega : xk < l.length), ifB_intro (fun h13 => ⟨?_⟩) (fun h13 => ?_)⟩
            · rw [chk_at hxi] at hxf
              refine bad _ ?_ hxf.symm
              have : (gsL l xi).contains l[xi].gr = true := by
                have e : l[xk].gr = l[xi].gr := by simpa using h13
                rw [← e]
                simp only [gsL, List.contains_iff_mem, List.mem_map]
                exact ⟨l[xk], List.mem_take_iff_getElem.2 ⟨xk, by omega, rfl⟩, rfl⟩
              rw [this]; simp
            · rw [wrap1 (by omega : xk < l.length) hl]
              refine ⟨⟨xi, xk + 1⟩, ⟨⟨⟨⟨hxi, hk⟩, ⟨hlen, hlen7, hemp⟩, hxf, fun p hp => ?_⟩, by trivial, by simp, ?_⟩, hctx⟩, by simp only; omega⟩
              · rw [List.getElem?_eq_getElem hxi] at hp
                cases hp
                refine ⟨p1, p2, ?_⟩
                rw [gs_succ (by omega : xk < l.length)]
                have e : ¬ l[xi].gr = l[xk].gr := fun e => by simp [e] at h13
                simp only [List.contains_iff_mem, Bool.eq_false_iff, ne_eq] at p3 ⊢
                simp [List.mem_append, p3, e]
              · simp [hgx]
          · obtain ⟨xi, xk⟩ := x
            simp only at hxi hxk hxf hxp hctx h12 ⊢
            have hk : xk = xi := by simp at h12; omega
            subst hk
            obtain ⟨p1, p2, p3⟩ := hxp _ (List.getElem?_eq_getElem hxi)
            have hei : xk = i := by simp at hctx; omega
            subst hei
            rw [chk_at hxi] at hxf
            rw [wrap1 hxi hl]
            refine ⟨xk + 1, ⟨⟨hxi, ⟨hlen, hlen7, hemp⟩, ?_⟩, by trivial, by simp⟩, by omega⟩
            rw [← hxf, p1, p2, p3]; simp
      · have : i = l.length := by simp at h4; omega
        subst this
        rw [List.drop_length] at hf
        have hch : chk [] none l = true := hf.symm
        simp [rightB, hne, hemp, hch]

end Go.Proofs.Ytpnpebefcmgjoaa
