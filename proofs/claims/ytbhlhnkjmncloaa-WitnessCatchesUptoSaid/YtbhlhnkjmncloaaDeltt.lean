/-
  Contracts of functions of this seat: what each hands back, and what it leaves of memory (del_tt). Nothing here is trusted: Lean checks it.
-/
import Derived.Test.YtbhlhnkjmncloaaInstt
import Derived.Test.YtbhlhnkjmncloaaVcOver
set_option linter.unusedVariables false
set_option linter.unusedSimpArgs false
namespace Go.Proofs.Ytbhlhnkjmncloaa
open Go.Vc Go.RowKit
set_option maxRecDepth 100000

theorem tt_delete (a : Option Addr) (c : Nat) (l : List Tt) (i : Nat) (S : Nat → Prop) (hn : l.length ≤ 4194304) (hi : i < l.length) (m : M) (h : OwnB m.sz S m 4 a l.length c (l.flatMap encTt)) :
    SpecW Try.prog 53 [.slice a l.length c, I i, I ((i + 1 : Nat) : Int)] m S fun v m' => v = .slice a (l.length - 1) c ∧ OwnB m.sz S m' 4 a (l.length - 1) c ((l.take i ++ l.drop (i + 1)).flatMap encTt) := by
  refine SpecW.of_vc Try.func53 (ann := noAnn) ?_
  refine vc_by (X :=
      true = true ∧
      (true = true ∧ (0 : Int) ≤ (↑i : Int) ∧ (↑i : Int) ≤ (↑(i + (1 : Nat)) : Int) ∧ (↑(i + (1 : Nat)) : Int) ≤ (↑l.length : Int) ∧ (↑l.length : Int) ≤ (↑c : Int)) ∧
      ifB ((↑i : Int) == (↑(i + (1 : Nat)) : Int))
      (Done
      (Value.slice a l.length c = Value.slice a (l.length - (1 : Nat)) c ∧
      OwnB m.sz S m (4 : Nat) a (l.length - (1 : Nat)) c (List.flatMap encTt (List.take i l ++ List.drop (i + (1 : Nat)) l))))
      (true = true ∧
      (true = true ∧ (0 : Int) ≤ (0 : Int) ∧ (0 : Int) ≤ (↑i : Int) ∧ (↑i : Int) ≤ (↑c : Int) ∧ True) ∧
      (true = true ∧ (0 : Int) ≤ (↑(i + (1 : Nat)) : Int) ∧ (↑(i + (1 : Nat)) : Int) ≤ (↑l.length : Int) ∧ True ∧ True) ∧
      (∃ (old : List Value),
      ∃ (src : List Value),
      AppPre m.sz S m (4 : Nat) (40 : Nat) (if (↑c : Int).toNat = (0 : Nat) then a else Option.map (fun (x : Addr) => x) a) ((↑i : Int).toNat - (0 : Nat))
      ((↑c : Int).toNat - (0 : Nat))
      (if (↑c : Int).toNat = (↑(i + (1 : Nat)) : Int).toNat then a
      else Option.map (fun (x : Addr) => { block := x.block, off := x.off + (↑(i + (1 : Nat)) : Int).toNat * (4 : Nat) : Addr }) a)
      ((↑l.length : Int).toNat - (↑(i + (1 : Nat)) : Int).toNat) old src ∧
      ∀ (a' : Option Addr) (c' : Nat) (m' : M),
      AppPost Try.prog (29 : Nat) m (4 : Nat) (if (↑c : Int).toNat = (0 : Nat) then a else Option.map (fun (x : Addr) => x) a) ((↑i : Int).toNat - (0 : Nat))
      ((↑c : Int).toNat - (0 : Nat)) ((↑l.length : Int).toNat - (↑(i + (1 : Nat)) : Int).toNat) old src a' c' m' →
      (true = true ∧
      (0 : Int) ≤ (↑((↑i : Int).toNat - (0 : Nat) + ((↑l.length : Int).toNat - (↑(i + (1 : Nat)) : Int).toNat)) : Int) ∧
      (↑((↑i : Int).toNat - (0 : Nat) + ((↑l.length : Int).toNat - (↑(i + (1 : Nat)) : Int).toNat)) : Int) ≤ (↑l.length : Int) ∧
      (↑l.length : Int) ≤ (↑c' : Int) ∧ True) ∧
      true = true ∧
      ((↑l.length : Int).toNat - (↑((↑i : Int).toNat - (0 : Nat) + ((↑l.length : Int).toNat - (↑(i + (1 : Nat)) : Int).toNat)) : Int).toNat ≠ (0 : Nat) →
      ∃ (b : Nat),
      ∃ (o : Nat),
      (if (↑c' : Int).toNat = (↑((↑i : Int).toNat - (0 : Nat) + ((↑l.length : Int).toNat - (↑(i + (1 : Nat)) : Int).toNat)) : Int).toNat then a'
      else
      Option.map
      (fun (x : Addr) =>
      x.add
      ((↑((↑i : Int).toNat - Int.toNat (0 : Int) + ((↑l.length : Int).toNat - (↑(i + (1 : Nat)) : Int).toNat)) : Int).toNat *
      Try.prog.types[(29 : Nat)].size))
      a') =
      some { block := b, off := o : Addr } ∧
      Wr m.sz S m' b o
      (((↑l.length : Int).toNat - (↑((↑i : Int).toNat - (0 : Nat) + ((↑l.length : Int).toNat - (↑(i + (1 : Nat)) : Int).toNat)) : Int).toNat) *
      (4 : Nat))) ∧
      ∀ (m'_1 : M),
      CopyPost m'
      (if (↑c' : Int).toNat = (↑((↑i : Int).toNat - (0 : Nat) + ((↑l.length : Int).toNat - (↑(i + (1 : Nat)) : Int).toNat)) : Int).toNat then a'
      else
      Option.map
      (fun (x : Addr) =>
      x.add
      ((↑((↑i : Int).toNat - Int.toNat (0 : Int) + ((↑l.length : Int).toNat - (↑(i + (1 : Nat)) : Int).toNat)) : Int).toNat *
      Try.prog.types[(29 : Nat)].size))
      a')
      (zeroRow Try.prog (29 : Nat)
      ((↑l.length : Int).toNat - (↑((↑i : Int).toNat - (0 : Nat) + ((↑l.length : Int).toNat - (↑(i + (1 : Nat)) : Int).toNat)) : Int).toNat))
      m'_1 →
      Done
      (Value.slice a' ((↑i : Int).toNat - (0 : Nat) + ((↑l.length : Int).toNat - (↑(i + (1 : Nat)) : Int).toNat)) c' =
      Value.slice a (l.length - (1 : Nat)) c ∧
      OwnB m.sz S m'_1 (4 : Nat) a (l.length - (1 : Nat)) c (List.flatMap encTt (List.take i l ++ List.drop (i + (1 : Nat)) l)))) ∧
      True)) (by kernel_rfl) ?_
  have hk : ∀ x, (encTt x).length = 4 := fun _ => rfl
  have es : Try.prog.types[29].size = 4 := by kernel_rfl
  have zl : ∀ k, (zeroRow Try.prog 29 k).length = k * 4 := zrLen (by kernel_rfl)
  have e0 : i - Int.toNat 0 + (l.length - (i + 1)) = l.length - 1 := by simp; omega
  have e1 : i + (l.length - (i + 1)) = l.length - 1 := by omega
  have e2 : l.length - (l.length - 1) = 1 := by omega
  simp only [es, Int.toNat_natCast, Nat.sub_zero, Option.map_id_fun', id_eq, ite_self, e0, e1, e2]
  have hcl := h.capLe
  have hTl : ((l.take i).flatMap encTt).length = i * 4 := by rw [flat_len hk, List.length_take]; congr 1; omega
  have hDl : ((l.drop (i + 1)).flatMap encTt).length = (l.length - (i + 1)) * 4 := by rw [flat_len hk, List.length_drop]
  have hD1 : oneCells ((l.drop (i + 1)).flatMap encTt) = true := by
    rw [oneCells_iff]; intro v hv
    obtain ⟨w, -, hw⟩ := List.mem_flatMap.1 hv
    exact oneCells_iff.1 (rfl : oneCells (encTt w) = true) v hw
  obtain ⟨b, o, rfl, hcells⟩ := h.row.cells (by rw [flat_len hk]; omega)
  rw [List.flatMap_append]
  rw [flat_split l i hi] at h hcells
  generalize hT : (l.take i).flatMap encTt = T at *
  generalize hD : (l.drop (i + 1)).flatMap encTt = D at *
  have hEl := hk l[i]
  generalize hE : encTt l[i] = E at *
  have hED : (E ++ D).length = D.length + 4 := by rw [List.length_append, hEl]; omega
  have hX : E ++ D = (E ++ D).take D.length ++ (E ++ D).drop D.length := (List.take_append_drop _ _).symm
  have hXl : ((E ++ D).take D.length).length = D.length := by rw [List.length_take, hED]; omega
  have hZl : ((E ++ D).drop D.length).length = 4 := by rw [List.length_drop, hED]; omega
  have q1 : OwnB m.sz S m 4 (some ⟨b, o, none⟩) l.length c (T ++ ((E ++ D).take D.length ++ (E ++ D).drop D.length)) := by rw [← hX]; exact h
  obtain ⟨g1, q2⟩ := q1.set (new := D) hXl.symm
  rw [hTl] at g1 q2
  have q3 : OwnB m.sz S (m.setCells b (o + i * 4) D) 4 (some ⟨b, o, none⟩) l.length c ((T ++ D) ++ (E ++ D).drop D.length) := by rw [List.append_assoc]; exact q2
  have hTD : (T ++ D).length = (l.length - 1) * 4 := by rw [List.length_append, hTl, hDl]; omega
  obtain ⟨g3, q4⟩ := q3.overTail (i := l.length - 1) (new := zeroRow Try.prog 29 1) hTD (by omega) (by rw [zl, hZl])
  rw [zl] at g3
  have hsub : c ≠ l.length - 1 := by omega
  refine ⟨trivial, ⟨trivial, by omega, by omega, by omega, by omega⟩, ifB_intro (fun hb => ?_) (fun _ => ⟨trivial, ⟨trivial, by omega, by omega, by omega, trivial⟩, ⟨trivial, by omega, by omega, trivial, trivial⟩, ⟨T, D, ⟨?_, hTl, ?_, hDl, hD1, by omega, (fun e => by cases e), fun hn0 _ => ⟨b, o, rfl, ?_⟩⟩, fun a' c' m' hp => ?_⟩, trivial⟩)⟩
  · exfalso; simp at hb; omega
  · exact .inr ⟨b, o, rfl, hcells.take⟩
  · by_cases hci : c = i + 1
    · refine .inl (List.eq_nil_of_length_eq_zero ?_)
      rw [hDl]
      have : l.length - (i + 1) = 0 := by omega
      rw [this, Nat.zero_mul]
    · rw [if_neg hci]
      have hdd := hcells.drop.drop
      rw [hTl, hEl] at hdd
      refine .inr ⟨b, o + (i + 1) * 4, rfl, ?_⟩
      rw [show o + (i + 1) * 4 = o + i * 4 + 4 by omega]
      exact hdd
  · have hne : D.length = (l.length - (i + 1)) * 4 := hDl
    rw [← hne]
    exact g1
  · have hm' : a' = some ⟨b, o, none⟩ ∧ c' = c ∧ m' = m.setCells b (o + i * 4) D := by
      rcases hp with ⟨-, rfl, rfl, ⟨h0, rfl⟩ | ⟨b', o', e, rfl⟩⟩ | ⟨hlt, -⟩
      · have : D = [] := List.eq_nil_of_length_eq_zero (by rw [hDl, h0, Nat.zero_mul])
        rw [this, setCells_nil]
        exact ⟨rfl, rfl, rfl⟩
      · cases e; exact ⟨rfl, rfl, rfl⟩
      · omega
    obtain ⟨rfl, rfl, rfl⟩ := hm'
    refine ⟨⟨trivial, by omega, by omega, by omega, trivial⟩, trivial, fun _ => ⟨b, _, sub_addr hsub, g3⟩, fun m2 hp2 => ⟨⟨rfl, ?_⟩⟩⟩
    rw [hp2.atc (sub_addr hsub)]
    exact q4

end Go.Proofs.Ytbhlhnkjmncloaa
