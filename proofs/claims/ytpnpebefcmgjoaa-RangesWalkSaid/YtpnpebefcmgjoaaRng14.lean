/-
  Contracts of functions of this seat: what each hands back, and what it leaves of memory (rng14). Nothing here is trusted: Lean checks it.
-/
import Derived.Test.YtpnpebefcmgjoaaRng13
set_option linter.unusedVariables false
set_option linter.unusedSimpArgs false
namespace Go.Proofs.Ytpnpebefcmgjoaa
open Go.Vc Go.RowKit
set_option maxRecDepth 100000

theorem split_ok {l : List Pl} {key : ByteArray} {g : Int} (h : (splitL l key g).2 = 0) : rightB l = true ∧ key.size ≤ 16 ∧ grpB g = true ∧ (∀ x ∈ l, x.gr ≠ g) ∧ (∀ x, l[findL key l 0 0]? = some x → x.fr ≠ key) ∧ epochL l < 4611686018427387904 ∧ splitL l key g = (insS l key g (findL key l 0 0) (epochL l + 1), 0) := by
  unfold splitL at h ⊢
  split at h
  · cases h
  rename_i h1
  have hR : rightB l = true := by simpa using h1
  split at h
  · cases h
  rename_i h2
  split at h
  · cases h
  rename_i h3
  split at h
  · cases h
  rename_i h4
  rw [if_neg h1, if_neg h2, if_neg h3, if_neg h4]
  have h2' : (decide (1 ≤ key.size) && (decide (key.size ≤ 16) && grpB g)) = true := by simpa using h2
  simp only [Bool.and_eq_true, decide_eq_true_eq] at h2'
  simp only [Bool.or_eq_true, decide_eq_true_eq, not_or] at h3
  refine ⟨hR, h2'.2.1, h2'.2.2, fun x hx e => h3.1 ?_, fun x hx e => h3.2 ?_, by omega, rfl⟩
  · exact List.findIdx_lt_length.2 ⟨x, hx, by simp [e]⟩
  · rw [hx]; exact e

theorem split_bad {l : List Pl} {key : ByteArray} {g : Int} (h : (splitL l key g).2 ≠ 0) : (splitL l key g).1 = [] := by
  unfold splitL at h ⊢
  repeat' split
  all_goals first | rfl | skip
  rename_i h1 h2 h3 h4
  rw [if_neg h1, if_neg h2, if_neg h3, if_neg h4] at h
  exact absurd rfl h

theorem end_none {l : List Pl} {f : Nat} (h : l[f + 1]? = none) : endP l f = .empty := by simp [endP, h]

theorem split_find {l : List Pl} {key : ByteArray} {g e : Int} (probe : ByteArray) (hR : rightB l = true) (hne : ∀ x, l[findL key l 0 0]? = some x → x.fr ≠ key) :
    ∃ y w, (insS l key g (findL key l 0 0) e)[findL probe (insS l key g (findL key l 0 0) e) 0 0]? = some y ∧ l[findL key l 0 0]? = some w ∧
      (withinB key (endP l (findL key l 0 0)) probe = true → y = ⟨g, key, e⟩) ∧
      (withinB key (endP l (findL key l 0 0)) probe = false → (findL probe l 0 0 = findL key l 0 0 → y = { w with ep := e }) ∧ (findL probe l 0 0 ≠ findL key l 0 0 → l[findL probe l 0 0]? = some y)) := by
  obtain ⟨-, -, h4⟩ := right_iff.1 hR
  obtain ⟨y, s1, s2, s3⟩ := find_spec key hR
  obtain ⟨u, t1, t2, t3⟩ := find_spec probe hR
  generalize findL key l 0 0 = f at *
  generalize findL probe l 0 0 = i at *
  obtain ⟨hf, rfl⟩ := List.getElem?_eq_some_iff.1 s1
  have s4 : ltS l[f].fr key = true := by
    rcases ltS_tri l[f].fr key with h | h | h
    · exact h
    · exact absurd h (hne _ s1)
    · rw [h] at s2; cases s2
  have old : ∀ {a b : Nat} {u v : Pl}, a < b → l[a]? = some u → l[b]? = some v → okR u v := fun h a b => pw_lt h4 h a b
  cases hw : withinB key (endP l f) probe with
  | true =>
    simp only [withinB, Bool.and_eq_true, Bool.not_eq_true', Bool.or_eq_true] at hw
    have hk : findL probe (insS l key g f e) 0 0 = f + 1 := find_at (y := ⟨g, key, e⟩) (by rw [ins_get hf, if_neg (by omega), if_neg (by omega), if_pos rfl]) hw.1 fun j z hj hz => by
      rw [ins_get hf, if_neg (by omega), if_neg (by omega), if_neg (by omega)] at hz
      have hlt : f + 1 < l.length := by
        have := (List.getElem?_eq_some_iff.1 hz).1
        omega
      have hg : l[f + 1]? = some l[f + 1] := List.getElem?_eq_getElem hlt
      have he : endP l f = l[f + 1].fr := by simp [endP, hg]
      have hp : ltS probe l[f + 1].fr = true := by
        rw [he] at hw
        rcases hw.2 with h | h
        · have := lt_empty (old (by omega : f < f + 1) s1 hg).2
          rw [h] at this; cases this
        · exact h
      by_cases e1 : j - 1 = f + 1
      · rw [e1, hg] at hz; cases hz; exact hp
      · exact ltS_trans hp (old (by omega) hg hz).2
    rw [hk]
    exact ⟨⟨g, key, e⟩, _, by rw [ins_get hf, if_neg (by omega), if_neg (by omega), if_pos rfl], s1, fun _ => rfl, fun h => by cases h⟩
  | false =>
    by_cases hif : i = f
    · subst hif
      have hpk : ltS probe key = true := by
        cases hq : ltS probe key with
        | true => rfl
        | false =>
          exfalso
          simp only [withinB, hq, Bool.not_false, Bool.true_and, Bool.or_eq_false_iff] at hw
          cases hg : l[i + 1]? with
          | none => rw [end_none hg, emp_emp] at hw; cases hw.1
          | some z =>
            have he : endP l i = z.fr := by simp [endP, hg]
            rw [he, t3 _ z (by omega) hg] at hw
            cases hw.2
      have hk : findL probe (insS l key g i e) 0 0 = i := find_at (y := { l[i] with ep := e }) (by rw [ins_get hf, if_neg (by omega), if_pos rfl]) (by rw [s1] at t1; cases t1; exact t2) fun j z hj hz => by
        rw [ins_get hf, if_neg (by omega), if_neg (by omega)] at hz
        split at hz
        · cases hz; exact hpk
        · exact t3 _ z (by omega) hz
      rw [hk]
      exact ⟨{ l[i] with ep := e }, _, by rw [ins_get hf, if_neg (by omega), if_pos rfl], s1, fun h => by (cases h), fun _ => ⟨fun _ => rfl, fun h => absurd rfl h⟩⟩
    · by_cases hlt : i < f
      · have hpf := t3 f _ hlt s1
        have hpk : ltS probe key = true := ltS_trans hpf s4
        have hk : findL probe (insS l key g f e) 0 0 = i := find_at (y := u) (by rw [ins_get hf, if_pos hlt]; exact t1) t2 fun j z hj hz => by
          rw [ins_get hf] at hz
          split at hz
          · exact t3 _ z hj hz
          · split at hz
            · cases hz; exact hpf
            · split at hz
              · cases hz; exact hpk
              · exact t3 _ z (by omega) hz
        rw [hk]
        exact ⟨u, _, by rw [ins_get hf, if_pos hlt]; exact t1, s1, fun h => by (cases h), fun _ => ⟨fun h => absurd h hif, fun _ => t1⟩⟩
      · have hk : findL probe (insS l key g f e) 0 0 = i + 1 := find_at (y := u) (by rw [ins_get hf, if_neg (by omega), if_neg (by omega), if_neg (by omega)]; exact t1) t2 fun j z hj hz => by
          rw [ins_get hf, if_neg (by omega), if_neg (by omega), if_neg (by omega)] at hz
          exact t3 _ z (by omega) hz
        rw [hk]
        exact ⟨u, _, by rw [ins_get hf, if_neg (by omega), if_neg (by omega), if_neg (by omega)]; exact t1, s1, fun h => by (cases h), fun _ => ⟨fun h => absurd h hif, fun _ => t1⟩⟩

theorem find_lt_of {l : List Pl} {k : Nat} {y : Pl} (h : l[k]? = some y) : k < l.length := (List.getElem?_eq_some_iff.1 h).1

theorem pl_cell {m : M} {b o i : Nat} {l : List Pl} {y : Pl} (h : CellsAt m b o (pls l)) (hy : l[i]? = some y) : CellsAt m b (o + i * 3) [I y.gr, .string y.fr, I y.ep] ∧ CellsAt m b (o + i * 3 + 0) [I y.gr] ∧ CellsAt m b (o + i * 3 + 1) [.string y.fr] ∧ CellsAt m b (o + i * 3 + 2) [I y.ep] := by
  obtain ⟨hi, rfl⟩ := List.getElem?_eq_some_iff.1 hy
  exact ⟨pl_at h hi, pl_grc h hi, pl_frc h hi, pl_epc h hi⟩

theorem rangessplits (l : List Pl) (a : Option Addr) (c : Nat) (key : ByteArray) (g : Int) (probe : ByteArray) (hl : l.length ≤ 1048576) (m : M) (h : Row m a (pls l)) :
    QSpec Try.prog 5 [.slice a l.length c, .string key, I g, .string probe] m (.bool true) := by
  refine QSpec.of_vc Try.func5 (ann := fun _ => noAnn) fun n hn => ?_
  refine vc_by (X :=
      true = true ∧
      ∃ (b : Bool),
      QSpec Try.prog (12 : Nat) [] { π := m.π, sz := n, uf := m.uf : M } (Value.bool b) ∧
      ifB (!b) (Done (Value.bool false = Value.bool true))
      (∃ (S' : Nat → Prop),
      (∀ (b : Nat), S' b → m.uf b ∧ (n ≤ b ∨ False)) ∧
      ∀ (n_1 : Nat),
      n ≤ n_1 →
      SpecW Try.prog (9 : Nat) [Value.slice a l.length c] { π := m.π, sz := n_1, uf := m.uf : M } S' fun (v : Value) (m' : M) =>
      ∃ (a_2 : Option Addr),
      ∃ (n_2 : Nat),
      ∃ (c_1 : Nat),
      v = Value.slice a_2 n_2 c_1 ∧
      ∃ (S' : Nat → Prop),
      (∀ (b : Nat), S' b → m'.uf b ∧ (n ≤ b ∨ False)) ∧
      ∀ (n : Nat),
      m'.sz ≤ n →
      SpecW Try.prog (26 : Nat) [Value.slice a_2 n_2 c_1, Value.string key, Value.int IntKind.i64 g] { π := m'.π, sz := n, uf := m'.uf : M } S'
      fun (v : Value) (m' : M) =>
      ∃ (a_4 : Option Addr),
      ∃ (n : Nat),
      ∃ (c_2 : Nat),
      ∃ (n_3 : Int),
      v = Value.tuple #[Value.slice a_4 n c_2, Value.int IntKind.i64 n_3] ∧
      ifB (n_3 != (0 : Int)) (Done (Value.bool ((↑n : Int) == (0 : Int)) = Value.bool true))
      (∃ (n_4 : Int),
      QSpec Try.prog (19 : Nat) [Value.slice a_4 n c_2] m' (Value.int IntKind.i64 n_4) ∧
      ifB (n_4 != (0 : Int)) (Done (Value.bool false = Value.bool true))
      (ifB ((↑n : Int) != IntKind.i64.wrap ((↑l.length : Int) + (1 : Int))) (Done (Value.bool false = Value.bool true))
      (∃ (n_5 : Int),
      QSpec Try.prog (16 : Nat) [Value.slice a l.length c, Value.string probe] m' (Value.int IntKind.i64 n_5) ∧
      ∃ (n_6 : Int),
      QSpec Try.prog (16 : Nat) [Value.slice a_4 n c_2, Value.string probe] m' (Value.int IntKind.i64 n_6) ∧
      ∃ (n_7 : Int),
      QSpec Try.prog (16 : Nat) [Value.slice a l.length c, Value.string key] m' (Value.int IntKind.i64 n_7) ∧
      ∃ (s : ByteArray),
      QSpec Try.prog (18 : Nat) [Value.slice a l.length c, Value.int IntKind.i64 n_7] m' (Value.string s) ∧
      ∃ (b : Bool),
      QSpec Try.prog (13 : Nat) [Value.string key, Value.string s, Value.string probe] m' (Value.bool b) ∧
      ifB b
      (true = true ∧
      ∃ (b : Nat),
      ∃ (off : Nat),
      a_4 = some { block := b, off := off : Addr } ∧
      ((0 : Int) ≤ n_6 ∧ n_6 < (↑n : Int)) ∧
      ∃ (n_8 : Int),
      CellsAt m' b (off + n_6.toNat * (3 : Nat) + (0 : Nat)) [Value.int IntKind.i64 n_8] ∧
      ifB (n_8 == g)
      (∃ (b : Nat),
      ∃ (off : Nat),
      a_4 = some { block := b, off := off : Addr } ∧
      ((0 : Int) ≤ n_6 ∧ n_6 < (↑n : Int)) ∧
      ∃ (n : Int),
      CellsAt m' b (off + n_6.toNat * (3 : Nat) + (2 : Nat))
      [Value.int IntKind.i64 n] ∧
      ∃ (n_9 : Int),
      QSpec Try.prog (23 : Nat) [Value.slice a l.length c] m'
      (Value.int IntKind.i64 n_9) ∧
      Done (Value.bool (decide (n > n_9)) = Value.bool true))
      (Done (Value.bool false = Value.bool true)))
      (ifB (n_5 == n_7)
      (true = true ∧
      ∃ (b : Nat),
      ∃ (off : Nat),
      a_4 = some { block := b, off := off : Addr } ∧
      ((0 : Int) ≤ n_6 ∧ n_6 < (↑n : Int)) ∧
      ∃ (n_8 : Int),
      CellsAt m' b (off + n_6.toNat * (3 : Nat) + (0 : Nat)) [Value.int IntKind.i64 n_8] ∧
      ∃ (b : Nat),
      ∃ (off : Nat),
      a = some { block := b, off := off : Addr } ∧
      ((0 : Int) ≤ n_5 ∧ n_5 < (↑l.length : Int)) ∧
      ∃ (n_9 : Int),
      CellsAt m' b (off + n_5.toNat * (3 : Nat) + (0 : Nat))
      [Value.int IntKind.i64 n_9] ∧
      ifB (n_8 == n_9)
      (∃ (b : Nat),
      ∃ (off : Nat),
      a_4 = some { block := b, off := off : Addr } ∧
      ((0 : Int) ≤ n_6 ∧ n_6 < (↑n : Int)) ∧
      ∃ (n_10 : Int),
      CellsAt m' b (off + n_6.toNat * (3 : Nat) + (2 : Nat))
      [Value.int IntKind.i64 n_10] ∧
      ∃ (n_11 : Int),
      QSpec Try.prog (23 : Nat) [Value.slice a l.length c] m'
      (Value.int IntKind.i64 n_11) ∧
      ifB (decide (n_10 > n_11))
      (∃ (b : Nat),
      ∃ (off : Nat),
      a_4 = some { block := b, off := off : Addr } ∧
      ((0 : Int) ≤ n_6 ∧ n_6 < (↑n : Int)) ∧
      ∃ (s : ByteArray),
      CellsAt m' b
      (off + n_6.toNat * (3 : Nat) +
      (1 : Nat))
      [Value.string s] ∧
      ∃ (b : Nat),
      ∃ (off : Nat),
      a =
      some
      { block := b, off := off : Addr } ∧
      ((0 : Int) ≤ n_5 ∧
      n_5 < (↑l.length : Int)) ∧
      ∃ (s_1 : ByteArray),
      CellsAt m' b
      (off +
      n_5.toNat * (3 : Nat) +
      (1 : Nat))
      [Value.string s_1] ∧
      Done
      (Value.bool
      (s.toList ==
      s_1.toList) =
      Value.bool true))
      (Done (Value.bool false = Value.bool true)))
      (Done (Value.bool false = Value.bool true)))
      (true = true ∧
      ∃ (b : Nat),
      ∃ (off : Nat),
      a_4 = some { block := b, off := off : Addr } ∧
      ((0 : Int) ≤ n_6 ∧ n_6 < (↑n : Int)) ∧
      ∃ (n : Int),
      ∃ (s : ByteArray),
      ∃ (n_8 : Int),
      CellsAt m' b (off + n_6.toNat * (3 : Nat))
      [Value.int IntKind.i64 n, Value.string s, Value.int IntKind.i64 n_8] ∧
      ∃ (b : Nat),
      ∃ (off : Nat),
      a = some { block := b, off := off : Addr } ∧
      ((0 : Int) ≤ n_5 ∧ n_5 < (↑l.length : Int)) ∧
      ∃ (n_9 : Int),
      ∃ (s_1 : ByteArray),
      ∃ (n_10 : Int),
      CellsAt m' b (off + n_5.toNat * (3 : Nat))
      [Value.int IntKind.i64 n_9, Value.string s_1,
      Value.int IntKind.i64 n_10] ∧
      Done
      (Value.bool
      (n == n_9 &&
      (s.toList == s_1.toList && (n_8 == n_10 && true))) =
      Value.bool true)))))))) (by kernel_rfl) ?_
  have h0 := h.sz hn
  refine ⟨rfl, _, rg_awake _, ifB_intro (fun h1 => by cases h1) (fun _ => ⟨_, noS, fun n1 hn1 => (rg_own a c l hl _ (h0.sz hn1)).monoW fun v1 m1 g1 ⟨b, hv1, ro⟩ => ⟨_, _, _, hv1, ?_⟩⟩)⟩
  have r1 := (h0.sz hn1).agree g1
  refine ⟨_, noS, fun n2 hn2 => (rg_split l _ _ key g (by omega) _ (ro.take.sz hn2)).monoW fun v2 m2 g2 ⟨ax, cx, hv2, rx⟩ => ⟨_, _, _, _, hv2, ifB_intro (fun h2 => ⟨?_⟩) (fun h2 => ?_)⟩⟩
  · rw [split_bad (by simpa using h2)]; rfl
  have r2 := (r1.sz hn2).agree g2
  obtain ⟨hR, hk16, hG, hno, hne, hE, hsp⟩ := split_ok (l := l) (key := key) (g := g) (by simpa using h2)
  have hE0 : 0 ≤ epochL l := epoch_nn l 0
  have h7 := right_len hR
  have hp := right_pos hR
  have hfl := findL_len key hp
  have hxR := ins_right (e := epochL l + 1) hR hk16 hG ⟨by omega, by omega⟩ hno hne
  have hxl := ins_len l key g _ (epochL l + 1) hfl
  obtain ⟨y, w, f1, f2, f3, f4⟩ := split_find (g := g) (e := epochL l + 1) probe hR hne
  rw [hsp] at rx ⊢
  simp only at rx ⊢
  have w1 : IntKind.i64.wrap ((l.length : Int) + 1) = ((l.length + 1 : Nat) : Int) := by rw [IntKind.wrap_i64]; omega
  rw [w1, hxl]
  have hxk := find_lt_of f1
  rw [hxl] at hxk
  have hil := findL_len probe hp
  have cR := rg_check _ ax cx (by omega) m2 rx
  rw [hxl] at cR
  have fP := rg_find _ ax cx probe (by omega) m2 rx
  rw [hxl] at fP
  have he : endI l ((findL key l 0 0 : Nat) : Int) = endP l (findL key l 0 0) := by simp [endI]
  have eP := pl_end l a c ((findL key l 0 0 : Nat) : Int) ⟨by omega, by omega⟩ (by omega) m2 r2
  rw [he] at eP
  obtain ⟨bx, ox, rfl, hcx⟩ := rx.cells (by rw [pl_len]; omega)
  obtain ⟨bl, ol, rfl, hcl⟩ := r2.cells (by rw [pl_len]; omega)
  obtain ⟨c1, c2, c3, c4⟩ := pl_cell hcx f1
  have hEq := rg_epoch l _ c hl (row_h0 r2) m2 r2
  refine ⟨_, cR, ifB_intro (fun h3 => by simp [hxR] at h3) (fun h3 => ifB_intro (fun h4 => by simp at h4) (fun h4 => ⟨_, rg_find l _ c probe (by omega) m2 r2, _, fP, _, rg_find l _ c key (by omega) m2 r2, _, eP, _, rg_within _ _ _ m2, ifB_intro (fun h5 => ?_) (fun h5 => ifB_intro (fun h6 => ?_) (fun h6 => ?_))⟩))⟩
  · have := f3 h5
    subst this
    have q : decide (epochL l + 1 > epochL l) = true := by simp; omega
    refine ⟨by trivial, bx, ox, rfl, by omega, _, by simpa using c2, ?_⟩
    have q2 : (g == g) = true := by simp
    rw [q2]
    refine ifB_true ⟨bx, ox, rfl, by omega, _, by simpa using c4, _, hEq, ⟨by rw [q]⟩⟩
  · have e1 : findL probe l 0 0 = findL key l 0 0 := by
      have : ((findL probe l 0 0 : Nat) : Int) = ((findL key l 0 0 : Nat) : Int) := by simpa using h6
      omega
    have := (f4 h5).1 e1
    subst this
    obtain ⟨d1, d2, d3, d4⟩ := pl_cell hcl (e1 ▸ f2 : l[findL probe l 0 0]? = some w)
    have q : decide (epochL l + 1 > epochL l) = true := by simp; omega
    refine ⟨by trivial, bx, ox, rfl, by omega, _, by simpa using c2, bl, ol, rfl, by omega, _, by simpa using d2, ?_⟩
    have q2 : (w.gr == w.gr) = true := by simp
    rw [q2]
    refine ifB_true ⟨bx, ox, rfl, by omega, _, by simpa using c4, _, hEq, ?_⟩
    rw [q]
    exact ifB_true ⟨bx, ox, rfl, by omega, _, by simpa using c3, bl, ol, rfl, by omega, _, by simpa using d3, ⟨by simp⟩⟩
  · have e1 : findL probe l 0 0 ≠ findL key l 0 0 := fun e => by rw [e] at h6; simp at h6
    have f5 := (f4 h5).2 e1
    obtain ⟨d1, d2, d3, d4⟩ := pl_cell hcl f5
    exact ⟨by trivial, bx, ox, rfl, by omega, _, _, _, by simpa using c1, bl, ol, rfl, by omega, _, _, _, by simpa using d1, ⟨by simp⟩⟩

end Go.Proofs.Ytpnpebefcmgjoaa
