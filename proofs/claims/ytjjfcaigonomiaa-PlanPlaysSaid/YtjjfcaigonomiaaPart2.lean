/-
  Contracts of functions of this seat: what each hands back, and what it leaves of memory (rng15, l_mk, l_an, ses1, bs_mk, ins_mk, ses2, ses3, ses4, ses5, ses6, ses7, ses8, l_ef, pln1, pln2). Nothing here is trusted: Lean checks it.
-/
import Derived.Test.YtjjfcaigonomiaaPart1
import Derived.Test.YtjjfcaigonomiaaVcOver
import Derived.Test.YtjjfcaigonomiaaVcList
set_option linter.unusedVariables false
set_option linter.unusedSimpArgs false
namespace Go.Proofs.Ytjjfcaigonomiaa
open Go.Vc Go.RowKit
set_option maxRecDepth 100000

theorem merge_ok {l : List Pl} {i : Int} (h : (mergeL l i).2 = 0) : rightB l = true ∧ 0 ≤ i ∧ i.toNat + 1 < l.length ∧ epochL l < 4611686018427387904 ∧ mergeL l i = (delS l i.toNat (epochL l + 1), 0) := by
  unfold mergeL at h ⊢
  split at h
  · cases h
  rename_i h1
  have hR : rightB l = true := by simpa using h1
  split at h
  · cases h
  rename_i h2
  rw [if_neg h1, if_neg h2]
  simp only [Bool.or_eq_true, decide_eq_true_eq, not_or] at h2
  exact ⟨hR, by omega, by omega, by omega, rfl⟩

theorem merge_bad {l : List Pl} {i : Int} (h : (mergeL l i).2 ≠ 0) : (mergeL l i).1 = [] ∧ ((rightB l = true ∧ 0 ≤ i ∧ i.toNat + 1 < l.length) → (mergeL l i).2 = 170 ∧ epochL l ≥ 4611686018427387904) := by
  unfold mergeL at h ⊢
  split
  · rename_i h1
    exact ⟨rfl, fun h2 => by rw [h2.1] at h1; cases h1⟩
  · rename_i h1
    rw [if_neg h1] at h
    split
    · rename_i h2
      refine ⟨rfl, fun h3 => ⟨rfl, ?_⟩⟩
      simp only [Bool.or_eq_true, decide_eq_true_eq] at h2
      omega
    · rename_i h2
      rw [if_neg h2] at h
      exact absurd rfl h

theorem merge_find {l : List Pl} {f : Nat} {e : Int} (probe : ByteArray) (hR : rightB l = true) (hf1 : f + 1 < l.length) :
    ∃ y u w, (delS l f e)[findL probe (delS l f e) 0 0]? = some y ∧ l[findL probe l 0 0]? = some u ∧ l[f]? = some w ∧
      (withinB w.fr (endP l (f + 1)) probe = true → y = { w with ep := e }) ∧ (withinB w.fr (endP l (f + 1)) probe = false → y = u) := by
  obtain ⟨-, -, h4⟩ := right_iff.1 hR
  obtain ⟨u, t1, t2, t3⟩ := find_spec probe hR
  generalize findL probe l 0 0 = i at *
  have hf : f < l.length := by omega
  have s1 : l[f]? = some l[f] := List.getElem?_eq_getElem hf
  have old : ∀ {a b : Nat} {u v : Pl}, a < b → l[a]? = some u → l[b]? = some v → okR u v := fun h a b => pw_lt h4 h a b
  cases hw : withinB l[f].fr (endP l (f + 1)) probe with
  | true =>
    have hw' := hw
    simp only [withinB, Bool.and_eq_true, Bool.not_eq_true', Bool.or_eq_true] at hw
    have hk : findL probe (delS l f e) 0 0 = f := find_at (y := { l[f] with ep := e }) (by rw [del_get hf, if_neg (by omega), if_pos rfl]) hw.1 fun j z hj hz => by
      rw [del_get hf, if_neg (by omega), if_neg (by omega)] at hz
      have hlt : f + 1 + 1 < l.length := by
        have := (List.getElem?_eq_some_iff.1 hz).1
        omega
      have hg : l[f + 1 + 1]? = some l[f + 1 + 1] := List.getElem?_eq_getElem hlt
      have he : endP l (f + 1) = l[f + 1 + 1].fr := by simp [endP, hg]
      have hp : ltS probe l[f + 1 + 1].fr = true := by
        rw [he] at hw
        rcases hw.2 with h | h
        · have := lt_empty (old (by omega : f < f + 1 + 1) s1 hg).2
          rw [h] at this; cases this
        · exact h
      by_cases e1 : j + 1 = f + 1 + 1
      · rw [e1, hg] at hz; cases hz; exact hp
      · exact ltS_trans hp (old (by omega) hg hz).2
    rw [hk]
    exact ⟨{ l[f] with ep := e }, u, l[f], by rw [del_get hf, if_neg (by omega), if_pos rfl], t1, s1, fun _ => rfl, fun h => by rw [hw'] at h; cases h⟩
  | false =>
    have hcase : i < f ∨ f + 1 < i := by
      rcases Nat.lt_or_ge i f with h | h
      · exact .inl h
      · rcases Nat.lt_or_ge (f + 1) i with h' | h'
        · exact .inr h'
        · exfalso
          have hle : ltS probe l[f].fr = false := by
            by_cases e1 : i = f
            · subst e1; rw [s1] at t1; cases t1; exact t2
            · cases hq : ltS probe l[f].fr with
              | false => rfl
              | true =>
                have := ltS_trans hq (old (by omega : f < i) s1 t1).2
                rw [this] at t2; cases t2
          simp only [withinB, hle, Bool.not_false, Bool.true_and, Bool.or_eq_false_iff] at hw
          cases hg : l[f + 1 + 1]? with
          | none => rw [end_none hg, emp_emp] at hw; cases hw.1
          | some z =>
            have he : endP l (f + 1) = z.fr := by simp [endP, hg]
            rw [he, t3 _ z (by omega) hg] at hw
            cases hw.2
    rcases hcase with hlt | hgt
    · have hk : findL probe (delS l f e) 0 0 = i := find_at (y := u) (by rw [del_get hf, if_pos hlt]; exact t1) t2 fun j z hj hz => by
        rw [del_get hf] at hz
        split at hz
        · exact t3 _ z hj hz
        · split at hz
          · cases hz; have t := t3 f l[f] hlt s1; exact t
          · exact t3 _ z (by omega) hz
      rw [hk]
      exact ⟨u, u, l[f], by rw [del_get hf, if_pos hlt]; exact t1, t1, s1, fun h => (by rw [hw] at h; cases h), fun _ => rfl⟩
    · have hk : findL probe (delS l f e) 0 0 = i - 1 := find_at (y := u) (by rw [del_get hf, if_neg (by omega), if_neg (by omega), show i - 1 + 1 = i by omega]; exact t1) t2 fun j z hj hz => by
        rw [del_get hf, if_neg (by omega), if_neg (by omega)] at hz
        exact t3 _ z (by omega) hz
      rw [hk]
      exact ⟨u, u, l[f], by rw [del_get hf, if_neg (by omega), if_neg (by omega), show i - 1 + 1 = i by omega]; exact t1, t1, s1, fun h => (by rw [hw] at h; cases h), fun _ => rfl⟩

theorem del_ins {l : List Pl} {key : ByteArray} {g e e2 : Int} {f : Nat} (hf : f < l.length) : (delS (insS l key g f e) f e2).length = l.length ∧ ∀ (j : Nat) (u v : Pl), (delS (insS l key g f e) f e2)[j]? = some u → l[j]? = some v → u.gr = v.gr ∧ u.fr = v.fr := by
  have hl := ins_len l key g f e hf
  have hf2 : f < (insS l key g f e).length := by omega
  refine ⟨by rw [del_form hf2]; simp; omega, fun j u v hu hv => ?_⟩
  rw [del_get hf2] at hu
  split at hu
  · rename_i h
    rw [ins_get hf, if_pos h, hv] at hu
    cases hu; exact ⟨rfl, rfl⟩
  · split at hu
    · rename_i h
      subst h
      cases hu
      have h1 := ins_get (key := key) (g := g) (e := e) hf j
      rw [if_neg (by omega), if_pos rfl, List.getElem?_eq_getElem hf2] at h1
      rw [List.getElem?_eq_getElem hf] at hv
      cases hv
      have h1 := Option.some.inj h1
      rw [h1]; exact ⟨rfl, rfl⟩
    · rw [ins_get hf, if_neg (by omega), if_neg (by omega), if_neg (by omega), Nat.add_sub_cancel, hv] at hu
      cases hu; exact ⟨rfl, rfl⟩

theorem del_len {l : List Pl} {f : Nat} {e : Int} (hf : f + 1 < l.length) : (delS l f e).length = l.length - 1 := by
  rw [del_form (by omega)]; simp; omega

structure MgX where
  k : Nat
  m : M
  z : List Pl
  a : Option Addr
  c : Nat

end Go.Proofs.Ytjjfcaigonomiaa
set_option linter.unusedVariables false
set_option linter.unusedSimpArgs false
namespace Go.Proofs.Ytjjfcaigonomiaa
open Go.Vc Go.RowKit Go.ChangeShapes Go.WideShapes Go.ChangeAt
set_option maxRecDepth 100000

structure Mk where
  cl : Int
  sq : Int
  op : Bool
  an_er : Int
  an_va : Int
  an_le : Int
  an_mo : Int

def Mk.wf (x : Mk) : Prop := In64 x.cl ∧ In64 x.sq ∧ In64 x.an_er ∧ In64 x.an_va ∧ In64 x.an_le ∧ In64 x.an_mo

abbrev encMk (x : Mk) : List Value := [I x.cl, I x.sq, .bool x.op, I x.an_er, I x.an_va, I x.an_le, I x.an_mo]

abbrev mkv (x : Mk) : Value := .agg #[I x.cl, I x.sq, .bool x.op, I x.an_er, I x.an_va, I x.an_le, I x.an_mo]

abbrev mks (l : List Mk) : List Value := l.flatMap encMk

theorem mk_k (x : Mk) : (encMk x).length = 7 := rfl

theorem mk_len (l : List Mk) : (mks l).length = l.length * 7 := flat_len mk_k l

theorem mk_at {m : M} {b o i : Nat} {l : List Mk} (h : CellsAt m b o (mks l)) (hi : i < l.length) : CellsAt m b (o + i * 7) (encMk l[i]) := CellsAt.elem mk_k l o i hi h

theorem mk_ext {a b : Mk} : a = b ↔ a.cl = b.cl ∧ a.sq = b.sq ∧ a.op = b.op ∧ a.an_er = b.an_er ∧ a.an_va = b.an_va ∧ a.an_le = b.an_le ∧ a.an_mo = b.an_mo := by
  cases a; cases b; simp

instance : DecidableEq Mk := fun _ _ => decidable_of_iff' _ mk_ext

theorem mk_one (l : List Mk) : oneCells (mks l) = true := by
  rw [oneCells_iff]; intro v hv
  obtain ⟨w, -, hw⟩ := List.mem_flatMap.1 hv
  exact oneCells_iff.1 (rfl : oneCells (encMk w) = true) v hw

theorem mk_zr (k : Nat) : (zeroRow Try.prog 56 k).length = k * 7 := zrLen (by kernel_rfl) k

theorem mk_cells : Try.prog.cellsOf 56 = 7 := by kernel_rfl

theorem mk_rd {m : M} {N d : Nat} {cs : List Value} (h : Rd Try.prog m N (d + 3) 56 cs) (hN : N ≤ 9223372036854775807) : ∃ x : Mk, cs = encMk x ∧ x.wf := by
  have hc1 := (by kernel_rfl : Try.prog.cellsOf 4 = 1)
  have hc2 := (by kernel_rfl : Try.prog.cellsOf 3 = 1)
  have hc3 := (by kernel_rfl : Try.prog.cellsOf 32 = 1)
  have hc4 := (by kernel_rfl : Try.prog.cellsOf 43 = 4)
  simp only [Rd, Try.underlying56, Try.underlying4, Try.underlying3, Try.underlying32, Try.underlying43, fieldsD, mk_cells, hc1, hc2, hc3, hc4] at h
  obtain ⟨hl, ⟨k1, e1, w1⟩, ⟨k2, e2, w2⟩, ⟨k3, e3⟩, ⟨-, ⟨k4, e4, w4⟩, ⟨k5, e5, w5⟩, ⟨k6, e6, w6⟩, ⟨k7, e7, w7⟩, -⟩, -⟩ := h
  obtain ⟨c1, c2, c3, c4, c5, c6, c7, rfl⟩ : ∃ c1 c2 c3 c4 c5 c6 c7, cs = [c1, c2, c3, c4, c5, c6, c7] := by
    match cs, hl with
    | [c1, c2, c3, c4, c5, c6, c7], _ => exact ⟨_, _, _, _, _, _, _, rfl⟩
  simp at e1 e2 e3 e4 e5 e6 e7
  subst e1 e2 e3 e4 e5 e6 e7
  exact ⟨⟨k1, k2, k3, k4, k5, k6, k7⟩, rfl, in64_of w1, in64_of w2, in64_of w4, in64_of w5, in64_of w6, in64_of w7⟩

theorem open_mk {H : Type} {enc : TypeId × Value → H} {W : World} {r : Reach} {b0 : Nat} {v : Value} {d : DataW H} {p : List MemPlace} {N : Nat} {Bd : DataW H → Prop} (B : Bound N Bd) (hN : N ≤ 9223372036854775807) (hv : Value.okWide Try.prog W r b0 56 v) (h : DataW.Trod enc Try.prog W 0 (fun _ => true) true 56 v d p) (hb : Bd d) : ∃ x : Mk, v = mkv x ∧ x.wf := by
  obtain ⟨cs, rfl, hl⟩ := open_agg Try.underlying56 mk_cells hv
  obtain ⟨fuel, hf⟩ := h
  have hr := rd_of_trod B 3 fuel 56 _ _ hf hb
  simp only [Value.cells] at hr
  obtain ⟨x, he, hw⟩ := mk_rd (d := 0) hr hN
  exact ⟨x, by rw [show cs = encMk x from he], hw⟩

theorem open_mks {H : Type} {enc : TypeId × Value → H} {W : World} {r : Reach} {b0 : Nat} {v : Value} {d : DataW H} {p : List MemPlace} {N : Nat} {Bd : DataW H → Prop} (B : Bound N Bd) (hN : N ≤ 9223372036854775807) (hv : Value.okWide Try.prog W r b0 26 v) (h : DataW.Trod enc Try.prog W 0 (fun _ => true) true 26 v d p) (hb : Bd d) :
    ∃ (a : Option Addr) (c : Nat) (z : List Mk), v = .slice a z.length c ∧ z.length ≤ N ∧ (∀ x ∈ z, x.wf) ∧ (a = none → z = []) ∧ Row (M.all W) a (mks z) := by
  obtain ⟨a, len, cap, rfl⟩ := okWide_slice Try.underlying26 hv
  obtain ⟨fuel, hf⟩ := h
  have hr := rd_of_trod B 4 fuel 26 _ _ hf hb
  rw [Rd] at hr
  simp only [Try.underlying26] at hr
  obtain ⟨a', cap', rows, hcs, h1, h2, h3, h4, h5⟩ := hr
  obtain ⟨z, hz, he, hi⟩ := rows_list (α := Mk) (e := encMk) (p := Mk.wf) rows fun r hr => mk_rd (d := 0) (h4 r hr).2 hN
  simp [Value.cells] at hcs
  obtain ⟨rfl, rfl, rfl⟩ := hcs
  rw [he] at h5
  exact ⟨a, cap, z, by rw [hz], by omega, hi, fun e => List.eq_nil_of_length_eq_zero (by have := h3 e; omega), h5⟩

theorem mk_plain (a a2 : Option Addr) (c c2 : Nat) (l l2 : List Mk) (hn1 : l.length ≤ 9223372036854775807) (m : M) (h : Row m a (mks l)) (h2 : Row m a2 (mks l2)) :
    QSpec Try.prog 37 [.slice a l.length c, .slice a2 l2.length c2] m (.bool (decide (l = l2))) := by
  refine QSpec.of_vc Try.func37 (ann := fun n _ => { A := Nat, inv := fun k => k ≤ l.length ∧ l.take k = l2.take k, st := fun k => [(5, .val (I k)), (0, .val (.slice a l.length c)), (1, .val (.slice a2 l2.length c2))], own := fun _ => [], m := fun _ => { m with sz := n }, μ := fun k => (l.length - k) }) fun n hn => ?_
  refine vc_by (X :=
      true = true ∧
      ifB ((↑l.length : Int) != (↑l2.length : Int)) (Done (Value.bool false = Value.bool (decide (l = l2))))
      ((∃ (a_1 : Nat),
      (a_1 ≤ l.length ∧ List.take a_1 l = List.take a_1 l2) ∧
      { π := m.π, sz := n, uf := m.uf : M } = { π := m.π, sz := n, uf := m.uf : M } ∧
      ((SV.val (Value.int IntKind.i64 (0 : Int)) = SV.val (Value.int IntKind.i64 (↑a_1 : Int)) ∧ true = true) ∧
      (SV.val (Value.slice a l.length c) = SV.val (Value.slice a l.length c) ∧ true = true) ∧
      (SV.val (Value.slice a2 l2.length c2) = SV.val (Value.slice a2 l2.length c2) ∧ true = true) ∧ True) ∧
      True) ∧
      ∀ (a_1 : Nat),
      a_1 ≤ l.length ∧ List.take a_1 l = List.take a_1 l2 →
      ifB (decide ((↑a_1 : Int) < (↑l.length : Int)))
      (true = true ∧
      ∃ (b : Nat),
      ∃ (off : Nat),
      a = some { block := b, off := off : Addr } ∧
      ((0 : Int) ≤ (↑a_1 : Int) ∧ (↑a_1 : Int) < (↑l.length : Int)) ∧
      ∃ (n_1 : Int),
      ∃ (n_2 : Int),
      ∃ (b_1 : Bool),
      ∃ (n_3 : Int),
      ∃ (n_4 : Int),
      ∃ (n_5 : Int),
      ∃ (n_6 : Int),
      CellsAt { π := m.π, sz := n, uf := m.uf : M } b (off + (↑a_1 : Int).toNat * (7 : Nat))
      [Value.int IntKind.i64 n_1, Value.int IntKind.i64 n_2, Value.bool b_1, Value.int IntKind.i64 n_3, Value.int IntKind.i64 n_4,
      Value.int IntKind.i64 n_5, Value.int IntKind.i64 n_6] ∧
      ∃ (b : Nat),
      ∃ (off : Nat),
      a2 = some { block := b, off := off : Addr } ∧
      ((0 : Int) ≤ (↑a_1 : Int) ∧ (↑a_1 : Int) < (↑l2.length : Int)) ∧
      ∃ (n_7 : Int),
      ∃ (n_8 : Int),
      ∃ (b_2 : Bool),
      ∃ (n_9 : Int),
      ∃ (n_10 : Int),
      ∃ (n_11 : Int),
      ∃ (n_12 : Int),
      CellsAt { π := m.π, sz := n, uf := m.uf : M } b (off + (↑a_1 : Int).toNat * (7 : Nat))
      [Value.int IntKind.i64 n_7, Value.int IntKind.i64 n_8, Value.bool b_2, Value.int IntKind.i64 n_9,
      Value.int IntKind.i64 n_10, Value.int IntKind.i64 n_11, Value.int IntKind.i64 n_12] ∧
      ifB
      (!(n_1 == n_7 &&
      (n_2 == n_8 &&
      (b_1 == b_2 && (n_3 == n_9 && (n_4 == n_10 && (n_5 == n_11 && (n_6 == n_12 && true))) && true)))))
      (Done (Value.bool false = Value.bool (decide (l = l2))))
      (∃ (a' : Nat),
      ((a' ≤ l.length ∧ List.take a' l = List.take a' l2) ∧
      { π := m.π, sz := n, uf := m.uf : M } = { π := m.π, sz := n, uf := m.uf : M } ∧
      ((SV.val (Value.int IntKind.i64 (IntKind.i64.wrap ((↑a_1 : Int) + (1 : Int)))) =
      SV.val (Value.int IntKind.i64 (↑a' : Int)) ∧
      true = true) ∧
      (SV.val (Value.slice a l.length c) = SV.val (Value.slice a l.length c) ∧ true = true) ∧
      (SV.val (Value.slice a2 l2.length c2) = SV.val (Value.slice a2 l2.length c2) ∧ true = true) ∧ True) ∧
      True) ∧
      l.length - a' < l.length - a_1))
      (Done (Value.bool true = Value.bool (decide (l = l2)))))) (by kernel_rfl) ?_
  have h' := h.sz hn
  have h2' := h2.sz hn
  refine ⟨rfl, ifB_intro (fun hb => ⟨?_⟩) (fun hb => ⟨⟨0, by simp⟩, fun k hk => ifB_intro (fun hb2 => ?_) (fun hb2 => ⟨?_⟩)⟩)⟩
  · have : l ≠ l2 := fun e => by subst e; simp at hb
    simp [this]
  · have hlen : l.length = l2.length := by simp at hb; omega
    have hk2 : k < l.length := by simpa using hb2
    obtain ⟨b, o, rfl, hc⟩ := h'.cells (by rw [mk_len]; omega)
    obtain ⟨b2, o2, rfl, hc2⟩ := h2'.cells (by rw [mk_len]; omega)
    have w1 : IntKind.i64.wrap ((k : Int) + 1) = ((k + 1 : Nat) : Int) := by simp [IntKind.wrap_i64]; omega
    refine ⟨rfl, b, o, rfl, by omega, _, _, _, _, _, _, _, by simpa using mk_at hc hk2, b2, o2, rfl, by omega, _, _, _, _, _, _, _, by simpa using mk_at hc2 (by omega : k < l2.length), ifB_intro (fun h3 => ⟨?_⟩) (fun h3 => ⟨k + 1, ⟨⟨hk2, ?_⟩, by simp [w1]⟩, by omega⟩)⟩
    · have : l ≠ l2 := fun e => by subst e; simp at h3
      simp [this]
    · have h3 : l[k] = l2[k] := by rw [mk_ext]; simpa using h3
      rw [List.take_succ_eq_append_getElem hk2, List.take_succ_eq_append_getElem (by omega : k < l2.length), hk.2, h3]
  · have hlen : l.length = l2.length := by simp at hb; omega
    have : k = l.length := by simp at hb2; omega
    have e := hk.2
    rw [this, List.take_length, hlen, List.take_length] at e
    simp [e]

theorem mk_clone (l : List Mk) (a : Option Addr) (c : Nat) (hn : l.length ≤ 1048576) (h0 : a = none → l = []) (m : M) (h : Row m a (mks l)) : Vc.Spec Try.prog 57 [.slice a l.length c] m (fun v m' => ∃ a' c', v = .slice a' l.length c' ∧ NewR m.sz (fun _ => False) m' 7 a' l.length c' (mks l)) := by
  refine Vc.Spec.of_vc Try.func57 (ann := noAnn) ?_
  refine vc_by (X :=
      true = true ∧
      ifB a.isNone
      (Done
      (∃ (a' : Option Addr),
      ∃ (c' : Nat), Value.slice none (0 : Nat) (0 : Nat) = Value.slice a' l.length c' ∧ NewR m.sz (fun (x : Nat) => False) m (7 : Nat) a' l.length c' (mks l)))
      (true = true ∧
      ∀ (b : Nat),
      m.sz ≤ b →
      ∃ (old : List Value),
      ∃ (src : List Value),
      AppPre m.sz (fun (x : Nat) => False) (m.newBlock b []) (7 : Nat) (56 : Nat) (some { block := b, off := (0 : Nat) : Addr }) (0 : Nat) (0 : Nat) a l.length old src ∧
      ∀ (a' : Option Addr) (c' : Nat) (m' : M),
      AppPost Try.prog (56 : Nat) (m.newBlock b []) (7 : Nat) (some { block := b, off := (0 : Nat) : Addr }) (0 : Nat) (0 : Nat) l.length old src a' c' m' →
      Done
      (∃ (a'_1 : Option Addr),
      ∃ (c'_1 : Nat),
      Value.slice a' ((0 : Nat) + l.length) c' = Value.slice a'_1 l.length c'_1 ∧ NewR m.sz (fun (x : Nat) => False) m' (7 : Nat) a'_1 l.length c'_1 (mks l)))) (by kernel_rfl) ?_
  refine ⟨rfl, ifB_intro (fun h1 => ⟨?_⟩) (fun h1 => ⟨rfl, fun b hb => ?_⟩)⟩
  · have : l = [] := h0 (by simpa using h1)
    subst this
    exact ⟨_, _, rfl, .nil _⟩
  · have ho : OwnB m.sz (fun _ => False) (m.newBlock b []) 7 (some ⟨b, 0, none⟩) 0 0 [] := OwnB.fresh hb rfl
    have hr : Row (m.newBlock b []) a (mks l) := h.newBlock hb
    refine ⟨_, _, ho.appPre hr (mk_len l) (mk_one l) (by omega), fun a' c' m' hp => ⟨a', c', by simp, .own ?_⟩⟩
    have := ho.append hp (mk_len l) mk_zr (by simp only [M.newBlock]; omega)
    simpa using this

end Go.Proofs.Ytjjfcaigonomiaa
set_option linter.unusedVariables false
set_option linter.unusedSimpArgs false
namespace Go.Proofs.Ytjjfcaigonomiaa
open Go.Vc Go.RowKit Go.ChangeShapes Go.WideShapes Go.ChangeAt
set_option maxRecDepth 100000

structure An where
  er : Int
  va : Int
  le : Int
  mo : Int

def An.wf (x : An) : Prop := In64 x.er ∧ In64 x.va ∧ In64 x.le ∧ In64 x.mo

abbrev encAn (x : An) : List Value := [I x.er, I x.va, I x.le, I x.mo]

abbrev anv (x : An) : Value := .agg #[I x.er, I x.va, I x.le, I x.mo]

abbrev ans (l : List An) : List Value := l.flatMap encAn

theorem an_k (x : An) : (encAn x).length = 4 := rfl

theorem an_len (l : List An) : (ans l).length = l.length * 4 := flat_len an_k l

theorem an_at {m : M} {b o i : Nat} {l : List An} (h : CellsAt m b o (ans l)) (hi : i < l.length) : CellsAt m b (o + i * 4) (encAn l[i]) := CellsAt.elem an_k l o i hi h

theorem an_ext {a b : An} : a = b ↔ a.er = b.er ∧ a.va = b.va ∧ a.le = b.le ∧ a.mo = b.mo := by
  cases a; cases b; simp

instance : DecidableEq An := fun _ _ => decidable_of_iff' _ an_ext

theorem an_one (l : List An) : oneCells (ans l) = true := by
  rw [oneCells_iff]; intro v hv
  obtain ⟨w, -, hw⟩ := List.mem_flatMap.1 hv
  exact oneCells_iff.1 (rfl : oneCells (encAn w) = true) v hw

theorem an_zr (k : Nat) : (zeroRow Try.prog 43 k).length = k * 4 := zrLen (by kernel_rfl) k

theorem an_cells : Try.prog.cellsOf 43 = 4 := by kernel_rfl

theorem an_rd {m : M} {N d : Nat} {cs : List Value} (h : Rd Try.prog m N (d + 2) 43 cs) (hN : N ≤ 9223372036854775807) : ∃ x : An, cs = encAn x ∧ x.wf := by
  have hc1 := (by kernel_rfl : Try.prog.cellsOf 3 = 1)
  have hc2 := (by kernel_rfl : Try.prog.cellsOf 32 = 1)
  simp only [Rd, Try.underlying43, Try.underlying3, Try.underlying32, fieldsD, an_cells, hc1, hc2] at h
  obtain ⟨hl, ⟨k1, e1, w1⟩, ⟨k2, e2, w2⟩, ⟨k3, e3, w3⟩, ⟨k4, e4, w4⟩, -⟩ := h
  obtain ⟨c1, c2, c3, c4, rfl⟩ : ∃ c1 c2 c3 c4, cs = [c1, c2, c3, c4] := by
    match cs, hl with
    | [c1, c2, c3, c4], _ => exact ⟨_, _, _, _, rfl⟩
  simp at e1 e2 e3 e4
  subst e1 e2 e3 e4
  exact ⟨⟨k1, k2, k3, k4⟩, rfl, in64_of w1, in64_of w2, in64_of w3, in64_of w4⟩

theorem open_an {H : Type} {enc : TypeId × Value → H} {W : World} {r : Reach} {b0 : Nat} {v : Value} {d : DataW H} {p : List MemPlace} {N : Nat} {Bd : DataW H → Prop} (B : Bound N Bd) (hN : N ≤ 9223372036854775807) (hv : Value.okWide Try.prog W r b0 43 v) (h : DataW.Trod enc Try.prog W 0 (fun _ => true) true 43 v d p) (hb : Bd d) : ∃ x : An, v = anv x ∧ x.wf := by
  obtain ⟨cs, rfl, hl⟩ := open_agg Try.underlying43 an_cells hv
  obtain ⟨fuel, hf⟩ := h
  have hr := rd_of_trod B 2 fuel 43 _ _ hf hb
  simp only [Value.cells] at hr
  obtain ⟨x, he, hw⟩ := an_rd (d := 0) hr hN
  exact ⟨x, by rw [show cs = encAn x from he], hw⟩

end Go.Proofs.Ytjjfcaigonomiaa
set_option linter.unusedVariables false
set_option linter.unusedSimpArgs false
namespace Go.Proofs.Ytjjfcaigonomiaa
open Go.Vc Go.RowKit
set_option maxRecDepth 100000

def ans0B (m : Mk) : Bool := decide (m.an_er = 0) && decide (m.an_va = 0) && decide (m.an_le = 0) && decide (m.an_mo = 0)

def mkB (m : Mk) : Bool := decide (m.cl ≤ 8) && decide (0 ≤ m.sq) && decide (m.sq ≤ 4611686018427387904) && (!m.op || (decide (1 ≤ m.sq) && ans0B m))

/-- is it a table, behind the client 'last'? -/
def tabB : Int → List Mk → Bool
  | _, [] => true
  | last, x :: xs => decide (last < x.cl) && mkB x && tabB x.cl xs

/-- the client's mark -/
def ofM : List Mk → Int → Option Mk
  | [], _ => none
  | x :: xs, c => if x.cl = c then some x else ofM xs c

/-- where a client's mark stands, or would stand -/
def mkP : List Mk → Int → Nat
  | [], _ => 0
  | x :: xs, c => if c ≤ x.cl then 0 else mkP xs c + 1

def insM : List Mk → Mk → List Mk
  | [], m => [m]
  | x :: xs, m => if x.cl < m.cl then x :: insM xs m else if x.cl = m.cl then m :: xs else m :: x :: xs

theorem tab_cons {last : Int} {x : Mk} {xs : List Mk} : tabB last (x :: xs) = true ↔ last < x.cl ∧ mkB x = true ∧ tabB x.cl xs = true := by
  simp only [tabB, Bool.and_eq_true, decide_eq_true_eq, and_assoc]

theorem tab_mem : ∀ {l : List Mk} {last : Int}, tabB last l = true → ∀ x ∈ l, last < x.cl ∧ mkB x = true
  | [], _, _, x, hx => by simp at hx
  | y :: ys, last, h, x, hx => by
    obtain ⟨h1, h2, h3⟩ := tab_cons.1 h
    rcases List.mem_cons.1 hx with rfl | hx
    · exact ⟨h1, h2⟩
    · have := tab_mem h3 x hx; exact ⟨by omega, this.2⟩

theorem tab_weak : ∀ {l : List Mk} {last b : Int}, b ≤ last → tabB last l = true → tabB b l = true
  | [], _, _, _, _ => rfl
  | x :: xs, _, _, hb, h => by
    obtain ⟨h1, h2, h3⟩ := tab_cons.1 h
    exact tab_cons.2 ⟨by omega, h2, h3⟩

theorem ofM_lt : ∀ {l : List Mk} {last c : Int}, tabB last l = true → c ≤ last → ofM l c = none
  | [], _, _, _, _ => rfl
  | x :: xs, last, c, h, hc => by
    obtain ⟨h1, h2, h3⟩ := tab_cons.1 h
    simp only [ofM, if_neg (show ¬ x.cl = c by omega)]
    exact ofM_lt h3 (by omega)

theorem ofM_some : ∀ {l : List Mk} {c : Int} {m : Mk}, ofM l c = some m → m ∈ l ∧ m.cl = c
  | [], _, _, h => by simp [ofM] at h
  | x :: xs, c, m, h => by
    simp only [ofM] at h
    split at h
    · rename_i e; cases h; exact ⟨by simp, e⟩
    · have := ofM_some h; exact ⟨by simp [this.1], this.2⟩

theorem ofM_ok {l : List Mk} {last c : Int} {m : Mk} (h : tabB last l = true) (e : ofM l c = some m) : last < c ∧ mkB m = true ∧ m.cl = c := by
  obtain ⟨h1, h2⟩ := ofM_some e
  obtain ⟨h3, h4⟩ := tab_mem h m h1
  exact ⟨by omega, h4, h2⟩

theorem mem_ofM : ∀ {l : List Mk} {last : Int}, tabB last l = true → ∀ x ∈ l, ofM l x.cl = some x
  | [], _, _, x, hx => by simp at hx
  | y :: ys, last, h, x, hx => by
    obtain ⟨h1, h2, h3⟩ := tab_cons.1 h
    rcases List.mem_cons.1 hx with rfl | hx
    · simp [ofM]
    · have := (tab_mem h3 x hx).1
      simp only [ofM, if_neg (show ¬ y.cl = x.cl by omega)]
      exact mem_ofM h3 x hx

theorem tab_ext : ∀ {a b : List Mk} {last : Int}, tabB last a = true → tabB last b = true → (∀ c, ofM a c = ofM b c) → a = b
  | [], [], _, _, _, _ => rfl
  | [], y :: ys, _, _, _, h => by have := h y.cl; simp [ofM] at this
  | x :: xs, [], _, _, _, h => by have := h x.cl; simp [ofM] at this
  | x :: xs, y :: ys, last, ha, hb, h => by
    obtain ⟨a1, a2, a3⟩ := tab_cons.1 ha
    obtain ⟨b1, b2, b3⟩ := tab_cons.1 hb
    have hx := h x.cl
    have hy := h y.cl
    have e : x = y := by
      by_cases e1 : y.cl = x.cl
      · simp [ofM, e1] at hx; exact hx
      · simp only [ofM, if_true, if_neg e1] at hx hy
        rw [if_neg (fun e => e1 e.symm)] at hy
        have h1 := (ofM_ok b3 hx.symm).1
        have h2 := (ofM_ok a3 hy).1
        omega
    subst e
    congr 1
    refine tab_ext a3 b3 fun c => ?_
    by_cases e1 : x.cl = c
    · rw [ofM_lt a3 (by omega), ofM_lt b3 (by omega)]
    · have := h c; simpa [ofM, e1] using this

theorem ins_tab {m : Mk} (hm : mkB m = true) : ∀ {l : List Mk} {last : Int}, last < m.cl → tabB last l = true → tabB last (insM l m) = true
  | [], last, hl, _ => by simp [insM, tabB, hl, hm]
  | x :: xs, last, hl, h => by
    obtain ⟨h1, h2, h3⟩ := tab_cons.1 h
    simp only [insM]
    split
    · rename_i e; exact tab_cons.2 ⟨h1, h2, ins_tab hm e h3⟩
    · split
      · rename_i e1 e2; exact tab_cons.2 ⟨hl, hm, by rw [← e2]; exact h3⟩
      · exact tab_cons.2 ⟨hl, hm, tab_cons.2 ⟨by omega, h2, h3⟩⟩

theorem ins_of {m : Mk} : ∀ {l : List Mk} {last : Int} (c : Int), tabB last l = true → ofM (insM l m) c = if m.cl = c then some m else ofM l c
  | [], last, c, _ => by simp [insM, ofM]
  | x :: xs, last, c, h => by
    obtain ⟨h1, h2, h3⟩ := tab_cons.1 h
    simp only [insM]
    split
    · rename_i e
      simp only [ofM, ins_of c h3]
      by_cases e1 : x.cl = c
      · rw [if_pos e1, if_pos e1, if_neg (by omega)]
      · rw [if_neg e1, if_neg e1]
    · split
      · rename_i e1 e2
        simp only [ofM]
        by_cases e3 : m.cl = c
        · rw [if_pos e3, if_pos e3]
        · rw [if_neg e3, if_neg e3, if_neg (by omega)]
      · rename_i e1 e2
        simp only [ofM]

theorem mins_len (m : Mk) : ∀ l : List Mk, (insM l m).length ≤ l.length + 1
  | [] => by simp [insM]
  | x :: xs => by
    have := mins_len m xs
    simp only [insM]; split
    · simp; omega
    · split <;> simp

theorem tab_len : ∀ {l : List Mk} {last : Int}, 0 ≤ last → tabB last l = true → l = [] ∨ (l.length : Int) + last ≤ 8
  | [], _, _, _ => .inl rfl
  | x :: xs, last, hl, h => by
    obtain ⟨h1, h2, h3⟩ := tab_cons.1 h
    have h8 : x.cl ≤ 8 := by simp [mkB] at h2; omega
    rcases tab_len (by omega : 0 ≤ x.cl) h3 with e | e
    · subst e; simp; omega
    · simp; omega

theorem tab8 {l : List Mk} (h : tabB 0 l = true) : l.length ≤ 8 := by
  rcases tab_len (Int.le_refl 0) h with e | e
  · subst e; simp
  · omega

theorem mkP_le (c : Int) : ∀ l : List Mk, mkP l c ≤ l.length
  | [] => Nat.le_refl _
  | x :: xs => by have := mkP_le c xs; simp only [mkP, List.length_cons]; split <;> omega

theorem mkP_lt {c : Int} : ∀ {l : List Mk} {last : Int}, tabB last l = true → ∀ k (hk : k < l.length), k < mkP l c → l[k].cl < c
  | [], _, _, k, hk, _ => by simp at hk
  | x :: xs, last, h, k, hk, hp => by
    obtain ⟨h1, h2, h3⟩ := tab_cons.1 h
    simp only [mkP] at hp
    split at hp
    · omega
    · cases k with
      | zero => simp; omega
      | succ k => simpa using mkP_lt h3 k (by simpa using hk) (by omega)

theorem mkP_ge {c : Int} : ∀ {l : List Mk} {last : Int}, tabB last l = true → ∀ k (hk : k < l.length), mkP l c ≤ k → c ≤ l[k].cl
  | [], _, _, k, hk, _ => by simp at hk
  | x :: xs, last, h, k, hk, hp => by
    obtain ⟨h1, h2, h3⟩ := tab_cons.1 h
    simp only [mkP] at hp
    split at hp
    · cases k with
      | zero => simpa
      | succ k =>
        have hk2 : k < xs.length := by simpa using hk
        have := (tab_mem h3 xs[k] (List.getElem_mem hk2)).1
        simp; omega
    · cases k with
      | zero => omega
      | succ k => simpa using mkP_ge h3 k (by simpa using hk) (by omega)

theorem mkP_of {c : Int} : ∀ {l : List Mk} {last : Int}, tabB last l = true → ofM l c = match l[mkP l c]? with | some x => if x.cl = c then some x else none | none => none
  | [], _, _ => by simp [ofM]
  | x :: xs, last, h => by
    obtain ⟨h1, h2, h3⟩ := tab_cons.1 h
    by_cases e : c ≤ x.cl
    · simp only [mkP, if_pos e, ofM, List.getElem?_cons_zero]
      by_cases e2 : x.cl = c
      · simp [e2]
      · simp only [if_neg e2]; exact ofM_lt h3 (by omega)
    · simp only [mkP, if_neg e, ofM, List.getElem?_cons_succ, if_neg (show ¬ x.cl = c by omega)]
      exact mkP_of h3

theorem ins_set {m : Mk} : ∀ {l : List Mk} {last : Int}, tabB last l = true → (ofM l m.cl).isSome = true → insM l m = l.set (mkP l m.cl) m
  | [], _, _, h => by simp [ofM] at h
  | x :: xs, last, h, hs => by
    obtain ⟨h1, h2, h3⟩ := tab_cons.1 h
    by_cases e : m.cl ≤ x.cl
    · by_cases e2 : x.cl = m.cl
      · simp [insM, mkP, e, e2]
      · rw [ofM, if_neg e2, ofM_lt h3 (by omega)] at hs; simp at hs
    · rw [ofM, if_neg (by omega)] at hs
      simp only [insM, mkP, if_neg e, if_pos (show x.cl < m.cl by omega), List.set_cons_succ, ins_set h3 hs]

theorem ins_put {m : Mk} : ∀ {l : List Mk} {last : Int}, tabB last l = true → ofM l m.cl = none → insM l m = l.take (mkP l m.cl) ++ m :: l.drop (mkP l m.cl)
  | [], _, _, h => by simp [insM]
  | x :: xs, last, h, hs => by
    obtain ⟨h1, h2, h3⟩ := tab_cons.1 h
    by_cases e2 : x.cl = m.cl
    · simp [ofM, e2] at hs
    rw [ofM, if_neg e2] at hs
    by_cases e : m.cl ≤ x.cl
    · simp [insM, mkP, e, e2, show ¬ x.cl < m.cl by omega]
    · simp only [insM, mkP, if_neg e, if_pos (show x.cl < m.cl by omega), List.take_succ_cons, List.drop_succ_cons, List.cons_append, ins_put h3 hs]

/-- the marks of the clients from c on, n of them, by f -/
def listM (f : Int → Option Mk) : Nat → Int → List Mk
  | 0, _ => []
  | n + 1, c => (f c).toList ++ listM f n (c + 1)

theorem listM_congr {f g : Int → Option Mk} : ∀ (n : Nat) (c : Int), (∀ k, c ≤ k → f k = g k) → listM f n c = listM g n c
  | 0, _, _ => rfl
  | n + 1, c, h => by simp only [listM, h c (Int.le_refl _), listM_congr n (c + 1) fun k hk => h k (by omega)]

theorem listM_succ (f : Int → Option Mk) : ∀ (n : Nat) (c : Int), listM f (n + 1) c = listM f n c ++ (f (c + n)).toList
  | 0, c => by simp [listM]
  | n + 1, c => by
    have ih := listM_succ f n (c + 1)
    have e : c + 1 + (n : Int) = c + ((n + 1 : Nat) : Int) := by omega
    rw [e] at ih
    rw [listM, ih, listM, List.append_assoc]

theorem listM_len (f : Int → Option Mk) : ∀ (n : Nat) (c : Int), (listM f n c).length ≤ n
  | 0, _ => Nat.le_refl _
  | n + 1, c => by
    have ih := listM_len f n (c + 1)
    simp only [listM, List.length_append]
    cases f c <;> simp <;> omega

/-- a table is what its clients' marks tell -/
theorem list_of : ∀ (n : Nat) {c : Int} {l : List Mk}, (n : Int) + c = 9 → tabB (c - 1) l = true → listM (ofM l) n c = l
  | 0, c, l, h9, h => by
    rcases l with _ | ⟨x, xs⟩
    · rfl
    · obtain ⟨h1, h2, h3⟩ := tab_cons.1 h
      have h8 : x.cl ≤ 8 := by simp [mkB] at h2; omega
      omega
  | n + 1, c, [], h9, h => by
    have ih := list_of n (c := c + 1) (l := []) (by omega) rfl
    simp only [listM, ofM, Option.toList, List.nil_append]
    rw [show (ofM [] : Int → Option Mk) = fun _ => none from rfl] at ih
    exact ih
  | n + 1, c, x :: xs, h9, h => by
    obtain ⟨h1, h2, h3⟩ := tab_cons.1 h
    by_cases e : x.cl = c
    · have ih := list_of n (c := c + 1) (l := xs) (by omega) (by rw [show c + 1 - 1 = x.cl by omega]; exact h3)
      have hc : listM (ofM (x :: xs)) n (c + 1) = listM (ofM xs) n (c + 1) := listM_congr n _ fun k hk => by simp only [ofM]; rw [if_neg (by omega)]
      have h0 : ofM (x :: xs) c = some x := by simp [ofM, e]
      simp only [listM, h0, hc, ih, Option.toList, List.cons_append, List.nil_append]
    · have h0 : ofM (x :: xs) c = none := by
        simp only [ofM, if_neg e]; exact ofM_lt h3 (by omega)
      have ih := list_of n (c := c + 1) (l := x :: xs) (by omega) (tab_cons.2 ⟨by omega, h2, h3⟩)
      simp only [listM, h0, Option.toList, List.nil_append]
      exact ih

def withF (l : List Mk) (m : Mk) (c : Int) : Option Mk := if m.cl = c then some m else ofM l c

theorem with_list {l : List Mk} {m : Mk} (h : tabB 0 l = true) (hm : mkB m = true) (hc : 0 < m.cl) : insM l m = listM (withF l m) 8 1 := by
  rw [← list_of 8 (c := 1) (l := insM l m) (by omega) (ins_tab hm hc h)]
  exact listM_congr 8 1 fun k _ => ins_of k h

/-- the mark that a Join keeps -/
def joinO : Option Mk → Option Mk → Option Mk
  | x, none => x
  | none, some y => some y
  | some x, some y => if x.sq < y.sq ∨ x.sq = y.sq ∧ x.op = true ∧ y.op = false then some y else some x

def stepM (l : List Mk) (x : Mk) : List Mk := match ofM l x.cl with | none => insM l x | some o => if o.sq < x.sq ∨ o.sq = x.sq ∧ o.op = true ∧ x.op = false then insM l x else l

def foldM (a b : List Mk) : List Mk := b.foldl stepM a

theorem step_tab {l : List Mk} {x : Mk} (h : tabB 0 l = true) (hx : mkB x = true) (hc : 0 < x.cl) : tabB 0 (stepM l x) = true := by
  unfold stepM
  split
  · exact ins_tab hx hc h
  · split
    · exact ins_tab hx hc h
    · exact h

theorem step_of {l : List Mk} {x : Mk} (h : tabB 0 l = true) (c : Int) : ofM (stepM l x) c = if x.cl = c then joinO (ofM l c) (some x) else ofM l c := by
  unfold stepM
  split
  · rename_i e
    rw [ins_of c h]
    split
    · rename_i e2; rw [← e2, e]; rfl
    · rfl
  · rename_i o e
    split
    · rename_i e3
      rw [ins_of c h]
      split
      · rename_i e2; rw [← e2, e, joinO, if_pos e3]
      · rfl
    · rename_i e3
      split
      · rename_i e2; rw [← e2, e, joinO, if_neg e3]
      · rfl

theorem fold_tab : ∀ {b a : List Mk} {last : Int}, 0 ≤ last → tabB 0 a = true → tabB last b = true → tabB 0 (foldM a b) = true
  | [], _, _, _, ha, _ => ha
  | x :: xs, a, last, hl, ha, h => by
    obtain ⟨h1, h2, h3⟩ := tab_cons.1 h
    exact fold_tab (b := xs) (a := stepM a x) (by omega) (step_tab ha h2 (by omega)) h3

theorem fold_of : ∀ {b a : List Mk} {last : Int} (c : Int), 0 ≤ last → tabB 0 a = true → tabB last b = true → ofM (foldM a b) c = joinO (ofM a c) (ofM b c)
  | [], a, _, c, _, _, _ => by cases h : ofM a c <;> simp [foldM, joinO, ofM, h]
  | x :: xs, a, last, c, hl, ha, h => by
    obtain ⟨h1, h2, h3⟩ := tab_cons.1 h
    have ih := fold_of (b := xs) (a := stepM a x) c (by omega : 0 ≤ x.cl) (step_tab ha h2 (by omega)) h3
    show ofM (foldM (stepM a x) xs) c = _
    rw [ih, step_of ha]
    by_cases e : x.cl = c
    · rw [if_pos e, ofM_lt h3 (by omega)]
      simp only [ofM, if_pos e]
      cases joinO (ofM a c) (some x) <;> rfl
    · simp only [ofM, if_neg e]

theorem fold_list {a b : List Mk} (ha : tabB 0 a = true) (hb : tabB 0 b = true) : foldM a b = listM (fun c => joinO (ofM a c) (ofM b c)) 8 1 := by
  rw [← list_of 8 (c := 1) (l := foldM a b) (by omega) (fold_tab (Int.le_refl 0) ha hb)]
  exact listM_congr 8 1 fun k _ => fold_of k (Int.le_refl 0) ha hb

theorem fold_ok {a b : List Mk} (ha : tabB 0 a = true) (hb : tabB 0 b = true) : tabB 0 (foldM a b) = true := fold_tab (Int.le_refl 0) ha hb

theorem fold_at {a b : List Mk} (ha : tabB 0 a = true) (hb : tabB 0 b = true) (c : Int) : ofM (foldM a b) c = joinO (ofM a c) (ofM b c) := fold_of c (Int.le_refl 0) ha hb

theorem joinO_self (x : Option Mk) : joinO x x = x := by cases x <;> simp [joinO]

theorem joinO_none (x : Option Mk) : joinO none x = x := by cases x <;> rfl

theorem joinO_assoc (x y z : Option Mk) : joinO (joinO x y) z = joinO x (joinO y z) := by
  cases z with
  | none => cases x <;> cases y <;> simp [joinO]
  | some z =>
    cases y with
    | none => cases x <;> simp [joinO]
    | some y =>
      cases x with
      | none => rw [joinO_none, joinO_none]
      | some x =>
        simp only [joinO]
        by_cases h1 : x.sq < y.sq ∨ x.sq = y.sq ∧ x.op = true ∧ y.op = false
        · by_cases h2 : y.sq < z.sq ∨ y.sq = z.sq ∧ y.op = true ∧ z.op = false
          · have h3 : x.sq < z.sq ∨ x.sq = z.sq ∧ x.op = true ∧ z.op = false := by
              rcases h1 with h1 | ⟨a1, a2, a3⟩ <;> rcases h2 with h2 | ⟨b1, b2, b3⟩
              · exact .inl (by omega)
              · exact .inl (by omega)
              · exact .inl (by omega)
              · simp [a3] at b2
            simp [joinO, if_pos h1, if_pos h2, if_pos h3]
          · simp [joinO, if_pos h1, if_neg h2]
        · by_cases h2 : y.sq < z.sq ∨ y.sq = z.sq ∧ y.op = true ∧ z.op = false
          · simp [joinO, if_neg h1, if_pos h2]
          · have h3 : ¬ (x.sq < z.sq ∨ x.sq = z.sq ∧ x.op = true ∧ z.op = false) := by
              rintro (h3 | ⟨c1, c2, c3⟩)
              · have : ¬ x.sq < y.sq := fun h => h1 (.inl h)
                have : ¬ y.sq < z.sq := fun h => h2 (.inl h)
                omega
              · have n1 : ¬ x.sq < y.sq := fun h => h1 (.inl h)
                have n2 : ¬ y.sq < z.sq := fun h => h2 (.inl h)
                have e1 : x.sq = y.sq := by omega
                have e2 : y.sq = z.sq := by omega
                cases hy : y.op
                · exact h1 (.inr ⟨e1, c2, hy⟩)
                · exact h2 (.inr ⟨e2, hy, c3⟩)
            simp [joinO, if_neg h1, if_neg h2, if_neg h3]

theorem joinO_comm {x y : Mk} (h : ¬ (x.sq = y.sq ∧ x.op = false ∧ y.op = false)) (hx : x.op = true → ans0B x = true) (hy : y.op = true → ans0B y = true) (hc : x.cl = y.cl) : joinO (some x) (some y) = joinO (some y) (some x) := by
  simp only [joinO]
  by_cases e : x.sq = y.sq
  · cases h1 : x.op <;> cases h2 : y.op
    · exact absurd ⟨e, h1, h2⟩ h
    · simp [e]
    · simp [e]
    · have a := hx h1
      have b := hy h2
      have : x = y := by
        simp [ans0B] at a b
        rw [mk_ext]; simp [e, hc, h1, h2, a, b]
      subst this; rfl
  · by_cases h1 : x.sq < y.sq
    · simp [h1, show ¬ y.sq < x.sq by omega, e, show ¬ y.sq = x.sq by omega]
    · simp [h1, show y.sq < x.sq by omega, e]

end Go.Proofs.Ytjjfcaigonomiaa
set_option linter.unusedVariables false
set_option linter.unusedSimpArgs false
namespace Go.Proofs.Ytjjfcaigonomiaa
open Go.Vc Go.RowKit
set_option maxRecDepth 100000

structure mkBsX where
  i : Nat
  j : Nat

theorem mk_bsearch (a : Option Addr) (c : Nat) (l : List Mk) (nd : Int) (f : Mk → Int) (p : Nat) (hn : l.length ≤ 1048576) (m : M) (h : Row m a (l.flatMap encMk))
    (hf : ∀ x ∈ l, ∀ m', QSpec Try.prog 75 [.agg (encMk x).toArray, I nd] m' (I (f x))) (hp : p ≤ l.length) (h1 : ∀ k (hk : k < l.length), k < p → f l[k] < 0) (h2 : ∀ k (hk : k < l.length), p ≤ k → 0 ≤ f l[k]) :
    QSpec Try.prog 74 [.slice a l.length c, I nd, .func (.func 75) #[] #[]] m (.tuple #[I p, .bool ((l[p]?).any fun x => decide (f x = 0))]) := by
  refine QSpec.of_vc Try.func74 (ann := fun n _ => { A := mkBsX, inv := fun y => y.i ≤ p ∧ p ≤ y.j ∧ y.j ≤ l.length, st := fun y => [(9, .val (I y.i)), (10, .val (I y.j)), (8, .val (I l.length)), (0, .val (.slice a l.length c)), (1, .val (I nd)), (2, .val (.func (.func 75) #[] #[]))], own := fun _ => [], m := fun _ => { m with sz := n }, μ := fun y => y.j - y.i }) fun n hn' => ?_
  refine vc_by (X :=
      true = true ∧
      (∃ (a_1 : mkBsX),
      (a_1.i ≤ p ∧ p ≤ a_1.j ∧ a_1.j ≤ l.length) ∧
      { π := m.π, sz := n, uf := m.uf : M } = { π := m.π, sz := n, uf := m.uf : M } ∧
      ((SV.val (Value.int IntKind.i64 (0 : Int)) = SV.val (Value.int IntKind.i64 (↑a_1.i : Int)) ∧ true = true) ∧
      (SV.val (Value.int IntKind.i64 (↑l.length : Int)) = SV.val (Value.int IntKind.i64 (↑a_1.j : Int)) ∧ true = true) ∧
      (SV.val (Value.int IntKind.i64 (↑l.length : Int)) = SV.val (Value.int IntKind.i64 (↑l.length : Int)) ∧ true = true) ∧
      (SV.val (Value.slice a l.length c) = SV.val (Value.slice a l.length c) ∧ true = true) ∧
      (SV.val (Value.int IntKind.i64 nd) = SV.val (Value.int IntKind.i64 nd) ∧ true = true) ∧
      (SV.val (Value.func (Fn.func (75 : FuncId)) #[] #[]) = SV.val (Value.func (Fn.func (75 : FuncId)) #[] #[]) ∧ true = true) ∧ True) ∧
      True) ∧
      ∀ (a_1 : mkBsX),
      a_1.i ≤ p ∧ p ≤ a_1.j ∧ a_1.j ≤ l.length →
      ifB (decide ((↑a_1.i : Int) < (↑a_1.j : Int)))
      (∃ (b : Nat),
      ∃ (off : Nat),
      a = some { block := b, off := off : Addr } ∧
      ((0 : Int) ≤ IntKind.i64.wrap ((IntKind.u64.wrap (IntKind.i64.wrap ((↑a_1.i : Int) + (↑a_1.j : Int)))).fdiv ((2 : Int) ^ (1 : Nat))) ∧
      IntKind.i64.wrap ((IntKind.u64.wrap (IntKind.i64.wrap ((↑a_1.i : Int) + (↑a_1.j : Int)))).fdiv ((2 : Int) ^ (1 : Nat))) < (↑l.length : Int)) ∧
      ∃ (n_1 : Int),
      ∃ (n_2 : Int),
      ∃ (b_1 : Bool),
      ∃ (n_3 : Int),
      ∃ (n_4 : Int),
      ∃ (n_5 : Int),
      ∃ (n_6 : Int),
      CellsAt { π := m.π, sz := n, uf := m.uf : M } b
      (off +
      (IntKind.i64.wrap ((IntKind.u64.wrap (IntKind.i64.wrap ((↑a_1.i : Int) + (↑a_1.j : Int)))).fdiv ((2 : Int) ^ (1 : Nat)))).toNat * (7 : Nat))
      [Value.int IntKind.i64 n_1, Value.int IntKind.i64 n_2, Value.bool b_1, Value.int IntKind.i64 n_3, Value.int IntKind.i64 n_4,
      Value.int IntKind.i64 n_5, Value.int IntKind.i64 n_6] ∧
      ∃ (n_7 : Int),
      QSpec Try.prog (75 : FuncId)
      [Value.agg
      #[Value.int IntKind.i64 n_1, Value.int IntKind.i64 n_2, Value.bool b_1, Value.int IntKind.i64 n_3, Value.int IntKind.i64 n_4,
      Value.int IntKind.i64 n_5, Value.int IntKind.i64 n_6],
      Value.int IntKind.i64 nd]
      { π := m.π, sz := n, uf := m.uf : M } (Value.int IntKind.i64 n_7) ∧
      ifB (decide (n_7 < (0 : Int)))
      (∃ (a' : mkBsX),
      ((a'.i ≤ p ∧ p ≤ a'.j ∧ a'.j ≤ l.length) ∧
      { π := m.π, sz := n, uf := m.uf : M } = { π := m.π, sz := n, uf := m.uf : M } ∧
      ((SV.val
      (Value.int IntKind.i64
      (IntKind.i64.wrap
      (IntKind.i64.wrap
      ((IntKind.u64.wrap (IntKind.i64.wrap ((↑a_1.i : Int) + (↑a_1.j : Int)))).fdiv ((2 : Int) ^ (1 : Nat))) +
      (1 : Int)))) =
      SV.val (Value.int IntKind.i64 (↑a'.i : Int)) ∧
      true = true) ∧
      (SV.val (Value.int IntKind.i64 (↑a_1.j : Int)) = SV.val (Value.int IntKind.i64 (↑a'.j : Int)) ∧ true = true) ∧
      (SV.val (Value.int IntKind.i64 (↑l.length : Int)) = SV.val (Value.int IntKind.i64 (↑l.length : Int)) ∧ true = true) ∧
      (SV.val (Value.slice a l.length c) = SV.val (Value.slice a l.length c) ∧ true = true) ∧
      (SV.val (Value.int IntKind.i64 nd) = SV.val (Value.int IntKind.i64 nd) ∧ true = true) ∧
      (SV.val (Value.func (Fn.func (75 : FuncId)) #[] #[]) = SV.val (Value.func (Fn.func (75 : FuncId)) #[] #[]) ∧
      true = true) ∧
      True) ∧
      True) ∧
      a'.j - a'.i < a_1.j - a_1.i)
      (∃ (a' : mkBsX),
      ((a'.i ≤ p ∧ p ≤ a'.j ∧ a'.j ≤ l.length) ∧
      { π := m.π, sz := n, uf := m.uf : M } = { π := m.π, sz := n, uf := m.uf : M } ∧
      ((SV.val (Value.int IntKind.i64 (↑a_1.i : Int)) = SV.val (Value.int IntKind.i64 (↑a'.i : Int)) ∧ true = true) ∧
      (SV.val
      (Value.int IntKind.i64
      (IntKind.i64.wrap
      ((IntKind.u64.wrap (IntKind.i64.wrap ((↑a_1.i : Int) + (↑a_1.j : Int)))).fdiv ((2 : Int) ^ (1 : Nat))))) =
      SV.val (Value.int IntKind.i64 (↑a'.j : Int)) ∧
      true = true) ∧
      (SV.val (Value.int IntKind.i64 (↑l.length : Int)) = SV.val (Value.int IntKind.i64 (↑l.length : Int)) ∧ true = true) ∧
      (SV.val (Value.slice a l.length c) = SV.val (Value.slice a l.length c) ∧ true = true) ∧
      (SV.val (Value.int IntKind.i64 nd) = SV.val (Value.int IntKind.i64 nd) ∧ true = true) ∧
      (SV.val (Value.func (Fn.func (75 : FuncId)) #[] #[]) = SV.val (Value.func (Fn.func (75 : FuncId)) #[] #[]) ∧
      true = true) ∧
      True) ∧
      True) ∧
      a'.j - a'.i < a_1.j - a_1.i))
      (ifB (decide ((↑a_1.i : Int) < (↑l.length : Int)))
      (∃ (b : Nat),
      ∃ (off : Nat),
      a = some { block := b, off := off : Addr } ∧
      ((0 : Int) ≤ (↑a_1.i : Int) ∧ (↑a_1.i : Int) < (↑l.length : Int)) ∧
      ∃ (n_1 : Int),
      ∃ (n_2 : Int),
      ∃ (b_1 : Bool),
      ∃ (n_3 : Int),
      ∃ (n_4 : Int),
      ∃ (n_5 : Int),
      ∃ (n_6 : Int),
      CellsAt { π := m.π, sz := n, uf := m.uf : M } b (off + (↑a_1.i : Int).toNat * (7 : Nat))
      [Value.int IntKind.i64 n_1, Value.int IntKind.i64 n_2, Value.bool b_1, Value.int IntKind.i64 n_3, Value.int IntKind.i64 n_4,
      Value.int IntKind.i64 n_5, Value.int IntKind.i64 n_6] ∧
      ∃ (n_7 : Int),
      QSpec Try.prog (75 : FuncId)
      [Value.agg
      #[Value.int IntKind.i64 n_1, Value.int IntKind.i64 n_2, Value.bool b_1, Value.int IntKind.i64 n_3, Value.int IntKind.i64 n_4,
      Value.int IntKind.i64 n_5, Value.int IntKind.i64 n_6],
      Value.int IntKind.i64 nd]
      { π := m.π, sz := n, uf := m.uf : M } (Value.int IntKind.i64 n_7) ∧
      Done
      (Value.tuple #[Value.int IntKind.i64 (↑a_1.i : Int), Value.bool (n_7 == (0 : Int))] =
      Value.tuple #[Value.int IntKind.i64 (↑p : Int), Value.bool (Option.any (fun (x : Mk) => decide (f x = (0 : Int))) l[p]?)]))
      (Done
      (Value.tuple #[Value.int IntKind.i64 (↑a_1.i : Int), Value.bool false] =
      Value.tuple #[Value.int IntKind.i64 (↑p : Int), Value.bool (Option.any (fun (x : Mk) => decide (f x = (0 : Int))) l[p]?)])))) (by kernel_rfl) ?_
  have h' := h.sz hn'
  have hk : ∀ x, (encMk x).length = 7 := fun _ => rfl
  have hcell : ∀ k (hlt : k < l.length), ∃ b o, a = some ⟨b, o, none⟩ ∧ CellsAt { m with sz := n } b (o + k * 7) (encMk l[k]) := fun k hlt => by
    obtain ⟨b, o, e, hc⟩ := h'.cells (by rw [flat_len hk]; omega)
    exact ⟨b, o, e, CellsAt.elem hk l o k hlt hc⟩
  refine ⟨rfl, ⟨⟨0, l.length⟩, ⟨Nat.zero_le _, hp, Nat.le_refl _⟩, by simp⟩, fun y ⟨g1, g2, g3⟩ => ifB_intro (fun hb => ?_) (fun hb => ?_)⟩
  · have hij : y.i < y.j := by simp at hb; omega
    have wm : IntKind.i64.wrap ((IntKind.u64.wrap (IntKind.i64.wrap ((y.i : Int) + (y.j : Int)))).fdiv (2 ^ 1)) = (((y.i + y.j) / 2 : Nat) : Int) := by
      rw [Int.fdiv_eq_ediv_of_nonneg _ (by decide)]
      simp [IntKind.wrap_i64, IntKind.wrap_u64]; omega
    have hm : (y.i + y.j) / 2 < l.length := by omega
    obtain ⟨b, o, rfl, hc⟩ := hcell _ hm
    have w1 : IntKind.i64.wrap ((((y.i + y.j) / 2 : Nat) : Int) + 1) = (((y.i + y.j) / 2 + 1 : Nat) : Int) := by simp [IntKind.wrap_i64]; omega
    rw [wm, w1]
    simp only [Int.toNat_natCast]
    refine ⟨b, o, rfl, by omega, _,_,_,_,_,_,_, hc, _, hf _ (List.getElem_mem hm) _, ifB_intro (fun hb2 => ?_) (fun hb2 => ?_)⟩
    · have hlt : f l[(y.i + y.j) / 2] < 0 := by simpa using hb2
      have : (y.i + y.j) / 2 < p := by
        rcases Nat.lt_or_ge ((y.i + y.j) / 2) p with h | h
        · exact h
        · have := h2 _ hm h; omega
      exact ⟨⟨(y.i + y.j) / 2 + 1, y.j⟩, ⟨⟨by simp only; omega, g2, g3⟩, by simp⟩, by simp only; omega⟩
    · have hlt : ¬ f l[(y.i + y.j) / 2] < 0 := by simpa using hb2
      have : p ≤ (y.i + y.j) / 2 := by
        rcases Nat.lt_or_ge ((y.i + y.j) / 2) p with h | h
        · exact absurd (h1 _ hm h) hlt
        · exact h
      exact ⟨⟨y.i, (y.i + y.j) / 2⟩, ⟨⟨g1, by simp only; omega, by simp only; omega⟩, by simp⟩, by simp only; omega⟩
  · have hij : y.i = p := by simp at hb; omega
    rw [hij]
    refine ifB_intro (fun hb2 => ?_) (fun hb2 => ⟨?_⟩)
    · have hlt : p < l.length := by simp at hb2; omega
      obtain ⟨b, o, rfl, hc⟩ := hcell p hlt
      refine ⟨b, o, rfl, by omega, _,_,_,_,_,_,_, by simpa using hc, _, hf _ (List.getElem_mem hlt) _, ⟨?_⟩⟩
      rw [List.getElem?_eq_getElem hlt]
      rfl
    · have hlt : l.length ≤ p := by simp at hb2; omega
      rw [List.getElem?_eq_none hlt]
      rfl

end Go.Proofs.Ytjjfcaigonomiaa
set_option linter.unusedVariables false
set_option linter.unusedSimpArgs false
namespace Go.Proofs.Ytjjfcaigonomiaa
open Go.Vc Go.RowKit
set_option maxRecDepth 100000

theorem mk_insert (a : Option Addr) (c : Nat) (l : List Mk) (i vb vo vc : Nat) (x : Mk) (S : Nat → Prop) (hn : l.length ≤ 1048576) (hi : i ≤ l.length) (m : M) (h : NewR m.sz S m 7 a l.length c (l.flatMap encMk)) (hS : l ≠ [] → ∀ b o, a = some ⟨b, o, none⟩ → b ≠ vb) (hvlt : vb < m.sz) (hu : m.uf vb) (hv : CellsAt m vb vo (encMk x)) :
    SpecW Try.prog 86 [.slice a l.length c, I i, .slice (some ⟨vb, vo, none⟩) 1 vc] m S fun v m' => ∃ a' c', v = .slice a' (l.length + 1) c' ∧ NewR m.sz S m' 7 a' (l.length + 1) c' ((l.take i ++ x :: l.drop i).flatMap encMk) := by
  refine SpecW.of_vc Try.func86 (ann := noAnn) ?_
  refine vc_by (X :=
      true = true ∧
      (true = true ∧ (0 : Int) ≤ (↑i : Int) ∧ (↑i : Int) ≤ (↑l.length : Int) ∧ True ∧ True) ∧
      ifB ((↑i : Int) == (↑l.length : Int))
      (∃ (old : List Value),
      ∃ (src : List Value),
      AppPre m.sz S m (7 : Nat) (56 : Nat) a l.length c (some { block := vb, off := vo : Addr }) (1 : Nat) old src ∧
      ∀ (a' : Option Addr) (c' : Nat) (m' : M),
      AppPost Try.prog (56 : Nat) m (7 : Nat) a l.length c (1 : Nat) old src a' c' m' →
      Done
      (∃ (a'_1 : Option Addr),
      ∃ (c'_1 : Nat),
      Value.slice a' (l.length + (1 : Nat)) c' = Value.slice a'_1 (l.length + (1 : Nat)) c'_1 ∧
      NewR m.sz S m' (7 : Nat) a'_1 (l.length + (1 : Nat)) c'_1 (List.flatMap encMk (List.take i l ++ x :: List.drop i l))))
      (ifB (decide (IntKind.i64.wrap ((↑l.length : Int) + (↑(1 : Nat) : Int)) > (↑c : Int)))
      ((true = true ∧ (0 : Int) ≤ (0 : Int) ∧ (0 : Int) ≤ (↑i : Int) ∧ (↑i : Int) ≤ (↑c : Int) ∧ True) ∧
      ∃ (old : List Value),
      ((0 : Int) ≤ IntKind.i64.wrap (IntKind.i64.wrap ((↑l.length : Int) + (↑(1 : Nat) : Int)) - (↑i : Int)) ∧
      AppPreZ Try.prog (56 : Nat) m.sz S m (7 : Nat) (56 : Nat) (if (↑c : Int).toNat = (0 : Nat) then a else Option.map (fun (x : Addr) => x) a)
      ((↑i : Int).toNat - (0 : Nat)) ((↑c : Int).toNat - (0 : Nat)) (IntKind.i64.wrap (IntKind.i64.wrap ((↑l.length : Int) + (↑(1 : Nat) : Int)) - (↑i : Int))).toNat
      old) ∧
      ∀ (a' : Option Addr) (c' : Nat) (m' : M),
      AppPost Try.prog (56 : Nat) m (7 : Nat) (if (↑c : Int).toNat = (0 : Nat) then a else Option.map (fun (x : Addr) => x) a) ((↑i : Int).toNat - (0 : Nat))
      ((↑c : Int).toNat - (0 : Nat)) (IntKind.i64.wrap (IntKind.i64.wrap ((↑l.length : Int) + (↑(1 : Nat) : Int)) - (↑i : Int))).toNat old
      (zeroRow Try.prog (56 : Nat) (IntKind.i64.wrap (IntKind.i64.wrap ((↑l.length : Int) + (↑(1 : Nat) : Int)) - (↑i : Int))).toNat) a' c' m' →
      (true = true ∧
      (0 : Int) ≤ (↑i : Int) ∧
      (↑i : Int) ≤ (↑((↑i : Int).toNat - (0 : Nat) + (IntKind.i64.wrap (IntKind.i64.wrap ((↑l.length : Int) + (↑(1 : Nat) : Int)) - (↑i : Int))).toNat) : Int) ∧
      True ∧ True) ∧
      ∃ (src : List Value),
      CopyPre m.sz S m' (7 : Nat)
      (if (↑c' : Int).toNat = (↑i : Int).toNat then a' else Option.map (fun (x : Addr) => x.add ((↑i : Int).toNat * Try.prog.types[(56 : Nat)].size)) a')
      ((↑((↑i : Int).toNat - (0 : Nat) + (IntKind.i64.wrap (IntKind.i64.wrap ((↑l.length : Int) + (↑(1 : Nat) : Int)) - (↑i : Int))).toNat) : Int).toNat -
      (↑i : Int).toNat)
      (some { block := vb, off := vo : Addr }) (1 : Nat) src ∧
      ∀ (m'_1 : M),
      CopyPost m'
      (if (↑c' : Int).toNat = (↑i : Int).toNat then a' else Option.map (fun (x : Addr) => x.add ((↑i : Int).toNat * Try.prog.types[(56 : Nat)].size)) a')
      src m'_1 →
      true = true ∧
      (true = true ∧
      (0 : Int) ≤ IntKind.i64.wrap ((↑i : Int) + (↑(1 : Nat) : Int)) ∧
      IntKind.i64.wrap ((↑i : Int) + (↑(1 : Nat) : Int)) ≤
      (↑((↑i : Int).toNat - (0 : Nat) + (IntKind.i64.wrap (IntKind.i64.wrap ((↑l.length : Int) + (↑(1 : Nat) : Int)) - (↑i : Int))).toNat) :
      Int) ∧
      True ∧ True) ∧
      (true = true ∧ (0 : Int) ≤ (↑i : Int) ∧ (↑i : Int) ≤ (↑l.length : Int) ∧ True ∧ True) ∧
      (∃ (src : List Value),
      CopyPre m.sz S m'_1 (7 : Nat)
      (if (↑c' : Int).toNat = (IntKind.i64.wrap ((↑i : Int) + (↑(1 : Nat) : Int))).toNat then a'
      else
      Option.map (fun (x : Addr) => x.add ((IntKind.i64.wrap ((↑i : Int) + (↑(1 : Nat) : Int))).toNat * Try.prog.types[(56 : Nat)].size)) a')
      ((↑((↑i : Int).toNat - (0 : Nat) + (IntKind.i64.wrap (IntKind.i64.wrap ((↑l.length : Int) + (↑(1 : Nat) : Int)) - (↑i : Int))).toNat) :
      Int).toNat -
      (IntKind.i64.wrap ((↑i : Int) + (↑(1 : Nat) : Int))).toNat)
      (if (↑c : Int).toNat = (↑i : Int).toNat then a
      else Option.map (fun (x : Addr) => x.add ((↑i : Int).toNat * Try.prog.types[(56 : Nat)].size)) a)
      ((↑l.length : Int).toNat - (↑i : Int).toNat) src ∧
      ∀ (m' : M),
      CopyPost m'_1
      (if (↑c' : Int).toNat = (IntKind.i64.wrap ((↑i : Int) + (↑(1 : Nat) : Int))).toNat then a'
      else
      Option.map (fun (x : Addr) => x.add ((IntKind.i64.wrap ((↑i : Int) + (↑(1 : Nat) : Int))).toNat * Try.prog.types[(56 : Nat)].size))
      a')
      src m' →
      Done
      (∃ (a'_1 : Option Addr),
      ∃ (c'_1 : Nat),
      Value.slice a'
      ((↑i : Int).toNat - (0 : Nat) +
      (IntKind.i64.wrap (IntKind.i64.wrap ((↑l.length : Int) + (↑(1 : Nat) : Int)) - (↑i : Int))).toNat)
      c' =
      Value.slice a'_1 (l.length + (1 : Nat)) c'_1 ∧
      NewR m.sz S m' (7 : Nat) a'_1 (l.length + (1 : Nat)) c'_1 (List.flatMap encMk (List.take i l ++ x :: List.drop i l)))) ∧
      True)
      ((true = true ∧
      (0 : Int) ≤ (0 : Int) ∧
      (0 : Int) ≤ IntKind.i64.wrap ((↑l.length : Int) + (↑(1 : Nat) : Int)) ∧ IntKind.i64.wrap ((↑l.length : Int) + (↑(1 : Nat) : Int)) ≤ (↑c : Int) ∧ True) ∧
      (true = true ∧
      (0 : Int) ≤ IntKind.i64.wrap ((↑i : Int) + (↑(1 : Nat) : Int)) ∧
      IntKind.i64.wrap ((↑i : Int) + (↑(1 : Nat) : Int)) ≤ (↑((IntKind.i64.wrap ((↑l.length : Int) + (↑(1 : Nat) : Int))).toNat - (0 : Nat)) : Int) ∧ True ∧ True) ∧
      ∃ (b : Bool),
      RunV Try.prog (88 : Nat)
      [Value.slice (some { block := vb, off := vo : Addr }) (1 : Nat) vc,
      Value.slice
      (if (↑((↑c : Int).toNat - (0 : Nat)) : Int).toNat = (IntKind.i64.wrap ((↑i : Int) + (↑(1 : Nat) : Int))).toNat then
      if (↑c : Int).toNat = (0 : Nat) then a else Option.map (fun (x : Addr) => x) a
      else
      Option.map (fun (x : Addr) => x.add ((IntKind.i64.wrap ((↑i : Int) + (↑(1 : Nat) : Int))).toNat * Try.prog.types[(56 : Nat)].size))
      (if (↑c : Int).toNat = (0 : Nat) then a else Option.map (fun (x : Addr) => x) a))
      ((↑((IntKind.i64.wrap ((↑l.length : Int) + (↑(1 : Nat) : Int))).toNat - (0 : Nat)) : Int).toNat - (IntKind.i64.wrap ((↑i : Int) + (↑(1 : Nat) : Int))).toNat)
      ((↑((↑c : Int).toNat - (0 : Nat)) : Int).toNat - (IntKind.i64.wrap ((↑i : Int) + (↑(1 : Nat) : Int))).toNat)]
      m (Value.bool b) ∧
      ifB (!b)
      (true = true ∧
      (true = true ∧
      (0 : Int) ≤ IntKind.i64.wrap ((↑i : Int) + (↑(1 : Nat) : Int)) ∧
      IntKind.i64.wrap ((↑i : Int) + (↑(1 : Nat) : Int)) ≤ (↑((IntKind.i64.wrap ((↑l.length : Int) + (↑(1 : Nat) : Int))).toNat - (0 : Nat)) : Int) ∧
      True ∧ True) ∧
      (true = true ∧ (0 : Int) ≤ (↑i : Int) ∧ (↑i : Int) ≤ (↑((IntKind.i64.wrap ((↑l.length : Int) + (↑(1 : Nat) : Int))).toNat - (0 : Nat)) : Int) ∧ True ∧ True) ∧
      (∃ (src : List Value),
      CopyPre m.sz S m (7 : Nat)
      (if (↑((↑c : Int).toNat - (0 : Nat)) : Int).toNat = (IntKind.i64.wrap ((↑i : Int) + (↑(1 : Nat) : Int))).toNat then
      if (↑c : Int).toNat = (0 : Nat) then a else Option.map (fun (x : Addr) => x) a
      else
      Option.map (fun (x : Addr) => x.add ((IntKind.i64.wrap ((↑i : Int) + (↑(1 : Nat) : Int))).toNat * Try.prog.types[(56 : Nat)].size))
      (if (↑c : Int).toNat = (0 : Nat) then a else Option.map (fun (x : Addr) => x) a))
      ((↑((IntKind.i64.wrap ((↑l.length : Int) + (↑(1 : Nat) : Int))).toNat - (0 : Nat)) : Int).toNat -
      (IntKind.i64.wrap ((↑i : Int) + (↑(1 : Nat) : Int))).toNat)
      (if (↑((↑c : Int).toNat - (0 : Nat)) : Int).toNat = (↑i : Int).toNat then
      if (↑c : Int).toNat = (0 : Nat) then a else Option.map (fun (x : Addr) => x) a
      else
      Option.map (fun (x : Addr) => x.add ((↑i : Int).toNat * Try.prog.types[(56 : Nat)].size))
      (if (↑c : Int).toNat = (0 : Nat) then a else Option.map (fun (x : Addr) => x) a))
      ((↑((IntKind.i64.wrap ((↑l.length : Int) + (↑(1 : Nat) : Int))).toNat - (0 : Nat)) : Int).toNat - (↑i : Int).toNat) src ∧
      ∀ (m' : M),
      CopyPost m
      (if (↑((↑c : Int).toNat - (0 : Nat)) : Int).toNat = (IntKind.i64.wrap ((↑i : Int) + (↑(1 : Nat) : Int))).toNat then
      if (↑c : Int).toNat = (0 : Nat) then a else Option.map (fun (x : Addr) => x) a
      else
      Option.map (fun (x : Addr) => x.add ((IntKind.i64.wrap ((↑i : Int) + (↑(1 : Nat) : Int))).toNat * Try.prog.types[(56 : Nat)].size))
      (if (↑c : Int).toNat = (0 : Nat) then a else Option.map (fun (x : Addr) => x) a))
      src m' →
      (true = true ∧
      (0 : Int) ≤ (↑i : Int) ∧
      (↑i : Int) ≤ (↑((IntKind.i64.wrap ((↑l.length : Int) + (↑(1 : Nat) : Int))).toNat - (0 : Nat)) : Int) ∧ True ∧ True) ∧
      ∃ (src : List Value),
      CopyPre m.sz S m' (7 : Nat)
      (if (↑((↑c : Int).toNat - (0 : Nat)) : Int).toNat = (↑i : Int).toNat then
      if (↑c : Int).toNat = (0 : Nat) then a else Option.map (fun (x : Addr) => x) a
      else
      Option.map (fun (x : Addr) => x.add ((↑i : Int).toNat * Try.prog.types[(56 : Nat)].size))
      (if (↑c : Int).toNat = (0 : Nat) then a else Option.map (fun (x : Addr) => x) a))
      ((↑((IntKind.i64.wrap ((↑l.length : Int) + (↑(1 : Nat) : Int))).toNat - (0 : Nat)) : Int).toNat - (↑i : Int).toNat)
      (some { block := vb, off := vo : Addr }) (1 : Nat) src ∧
      ∀ (m'_1 : M),
      CopyPost m'
      (if (↑((↑c : Int).toNat - (0 : Nat)) : Int).toNat = (↑i : Int).toNat then
      if (↑c : Int).toNat = (0 : Nat) then a else Option.map (fun (x : Addr) => x) a
      else
      Option.map (fun (x : Addr) => x.add ((↑i : Int).toNat * Try.prog.types[(56 : Nat)].size))
      (if (↑c : Int).toNat = (0 : Nat) then a else Option.map (fun (x : Addr) => x) a))
      src m'_1 →
      Done
      (∃ (a' : Option Addr),
      ∃ (c' : Nat),
      Value.slice (if (↑c : Int).toNat = (0 : Nat) then a else Option.map (fun (x : Addr) => x) a)
      ((IntKind.i64.wrap ((↑l.length : Int) + (↑(1 : Nat) : Int))).toNat - (0 : Nat)) ((↑c : Int).toNat - (0 : Nat)) =
      Value.slice a' (l.length + (1 : Nat)) c' ∧
      NewR m.sz S m'_1 (7 : Nat) a' (l.length + (1 : Nat)) c' (List.flatMap encMk (List.take i l ++ x :: List.drop i l)))) ∧
      True)
      ((true = true ∧
      (0 : Int) ≤ (↑l.length : Int) ∧ (↑l.length : Int) ≤ (↑((IntKind.i64.wrap ((↑l.length : Int) + (↑(1 : Nat) : Int))).toNat - (0 : Nat)) : Int) ∧ True ∧ True) ∧
      ∃ (src : List Value),
      CopyPre m.sz S m (7 : Nat)
      (if (↑((↑c : Int).toNat - (0 : Nat)) : Int).toNat = (↑l.length : Int).toNat then
      if (↑c : Int).toNat = (0 : Nat) then a else Option.map (fun (x : Addr) => x) a
      else
      Option.map (fun (x : Addr) => x.add ((↑l.length : Int).toNat * Try.prog.types[(56 : Nat)].size))
      (if (↑c : Int).toNat = (0 : Nat) then a else Option.map (fun (x : Addr) => x) a))
      ((↑((IntKind.i64.wrap ((↑l.length : Int) + (↑(1 : Nat) : Int))).toNat - (0 : Nat)) : Int).toNat - (↑l.length : Int).toNat)
      (some { block := vb, off := vo : Addr }) (1 : Nat) src ∧
      ∀ (m' : M),
      CopyPost m
      (if (↑((↑c : Int).toNat - (0 : Nat)) : Int).toNat = (↑l.length : Int).toNat then
      if (↑c : Int).toNat = (0 : Nat) then a else Option.map (fun (x : Addr) => x) a
      else
      Option.map (fun (x : Addr) => x.add ((↑l.length : Int).toNat * Try.prog.types[(56 : Nat)].size))
      (if (↑c : Int).toNat = (0 : Nat) then a else Option.map (fun (x : Addr) => x) a))
      src m' →
      (true = true ∧
      (0 : Int) ≤ (↑i : Int) ∧ (↑i : Int) ≤ (↑((IntKind.i64.wrap ((↑l.length : Int) + (↑(1 : Nat) : Int))).toNat - (0 : Nat)) : Int) ∧ True ∧ True) ∧
      ∃ (S' : Nat → Prop),
      (∀ (b : Nat), S' b → m'.uf b ∧ (m.sz ≤ b ∨ S b)) ∧
      ∀ (n : Nat),
      m'.sz ≤ n →
      SpecW Try.prog (89 : Nat)
      [Value.slice
      (if (↑((↑c : Int).toNat - (0 : Nat)) : Int).toNat = (↑i : Int).toNat then
      if (↑c : Int).toNat = (0 : Nat) then a else Option.map (fun (x : Addr) => x) a
      else
      Option.map (fun (x : Addr) => x.add ((↑i : Int).toNat * Try.prog.types[(56 : Nat)].size))
      (if (↑c : Int).toNat = (0 : Nat) then a else Option.map (fun (x : Addr) => x) a))
      ((↑((IntKind.i64.wrap ((↑l.length : Int) + (↑(1 : Nat) : Int))).toNat - (0 : Nat)) : Int).toNat - (↑i : Int).toNat)
      ((↑((↑c : Int).toNat - (0 : Nat)) : Int).toNat - (↑i : Int).toNat),
      Value.int IntKind.i64 (↑(1 : Nat) : Int)]
      { π := m'.π, sz := n, uf := m'.uf : M } S' fun (v : Value) (m' : M) =>
      v = Value.tuple #[] ∧
      Done
      (∃ (a' : Option Addr),
      ∃ (c' : Nat),
      Value.slice (if (↑c : Int).toNat = (0 : Nat) then a else Option.map (fun (x : Addr) => x) a)
      ((IntKind.i64.wrap ((↑l.length : Int) + (↑(1 : Nat) : Int))).toNat - (0 : Nat)) ((↑c : Int).toNat - (0 : Nat)) =
      Value.slice a' (l.length + (1 : Nat)) c' ∧
      NewR m.sz S m' (7 : Nat) a' (l.length + (1 : Nat)) c' (List.flatMap encMk (List.take i l ++ x :: List.drop i l))))))) (by kernel_rfl) ?_
  have hk : ∀ x, (encMk x).length = 7 := fun _ => rfl
  have w1 : IntKind.i64.wrap ((l.length : Int) + ((1 : Nat) : Int)) = ((l.length + 1 : Nat) : Int) := by simp [IntKind.wrap_i64]; omega
  have w2 : IntKind.i64.wrap (((l.length + 1 : Nat) : Int) - (i : Int)) = ((l.length + 1 - i : Nat) : Int) := by simp [IntKind.wrap_i64]; omega
  have w3 : IntKind.i64.wrap ((i : Int) + ((1 : Nat) : Int)) = ((i + 1 : Nat) : Int) := by simp [IntKind.wrap_i64]; omega
  have es : Try.prog.types[56].size = 7 := by kernel_rfl
  simp only [w1, w2, w3, es, Int.toNat_natCast, Nat.sub_zero, Option.map_id_fun', id_eq, ite_self]
  have zl : ∀ k, (zeroRow Try.prog 56 k).length = k * 7 := zrLen (by kernel_rfl)
  have z1 : ∀ k, oneCells (zeroRow Try.prog 56 k) = true := zrOne (by kernel_rfl)
  have o1 : ∀ y : List Mk, oneCells (y.flatMap encMk) = true := fun y => by
    rw [oneCells_iff]; intro v hv
    obtain ⟨w, -, hw⟩ := List.mem_flatMap.1 hv
    exact oneCells_iff.1 (rfl : oneCells (encMk w) = true) v hw
  have hvr : Row m (some ⟨vb, vo, none⟩) (encMk x) := .at _ _ _ hvlt hv
  have eres : (l.take i ++ x :: l.drop i).flatMap encMk = (l.take i).flatMap encMk ++ (encMk x ++ (l.drop i).flatMap encMk) := by
    rw [List.flatMap_append, List.flatMap_cons]
  rw [eres]
  refine ⟨trivial, ⟨trivial, by omega, by omega, trivial, trivial⟩, ifB_intro (fun hb => ?_) (fun hb => ?_)⟩
  · have hil : i = l.length := by simp at hb; omega
    subst hil
    refine ⟨_, _, h.appPre hvr (hk x) rfl (by omega), fun a' c' m' hp => ⟨⟨a', c', rfl, ?_⟩⟩⟩
    have := h.append hp (hk x) zl (Nat.le_refl _)
    rw [List.take_length, List.drop_length, List.flatMap_nil, List.append_nil]
    exact this
  have hil : i < l.length := by simp at hb; omega
  have ho := h.toOwn (by omega)
  obtain ⟨b, o, rfl, -⟩ := ho.row.cells (by rw [flat_len hk]; omega)
  have hcl := ho.capLe
  have hbv := hS (fun e => by subst e; simp at hil) b o rfl
  have hTl : ((l.take i).flatMap encMk).length = i * 7 := by rw [flat_len hk, List.length_take]; congr 1; omega
  have hDl : ((l.drop i).flatMap encMk).length = (l.length - i) * 7 := by rw [flat_len hk, List.length_drop]
  have hne : some (⟨b, o, none⟩ : Addr) ≠ none := by simp
  have hci : c ≠ i := by omega
  rw [flat_cut l i] at ho
  generalize hT : (l.take i).flatMap encMk = T at *
  generalize hD : (l.drop i).flatMap encMk = D at *
  refine ifB_intro (fun hc => ?_) (fun hc => ?_)
  · have hcl2 : c = l.length := by simp at hc; omega
    refine ⟨⟨trivial, by omega, by omega, by omega, trivial⟩, T, ⟨by omega, ⟨ho.row.take.rowAt, hTl, zl _, z1 _, by decide, by omega, (fun e => by cases e), fun _ hr => by omega⟩⟩, fun a' c' m' hp => ⟨⟨trivial, by omega, by omega, trivial, trivial⟩, ?_⟩⟩
    rcases hp with ⟨hr, -⟩ | ⟨-, b', hb', hc', rfl, rfl⟩
    · omega
    have hbb : b ≠ b' := by have := ho.lt rfl; omega
    have hvb : vb ≠ b' := by omega
    have e1 : i + (l.length + 1 - i) = l.length + 1 := by omega
    generalize hz : zeroRow Try.prog 56 (l.length + 1 - i) = z at *
    have hzl : z.length = (l.length + 1 - i) * 7 := by rw [← hz, zl]
    have zs : z = z.take 7 ++ z.drop 7 := (List.take_append_drop _ _).symm
    have zt : (z.take 7).length = 7 := by rw [List.length_take, hzl]; omega
    have zd : (z.drop 7).length = (l.length - i) * 7 := by rw [List.length_drop, hzl]; omega
    have q1 : OwnB m.sz S (m.newBlock b' (T ++ z ++ zeroRow Try.prog 56 (c' - (i + (l.length + 1 - i))))) 7 (some ⟨b', 0, none⟩) (l.length + 1) c' (T ++ (z.take 7 ++ z.drop 7)) := by
      rw [← zs]
      exact OwnB.new hb' (by rw [List.length_append, hTl, hzl]; omega) (by rw [zl]; congr 1; omega) (by omega)
    obtain ⟨g1, q2⟩ := q1.set (new := encMk x) (by rw [zt]; exact hk x)
    rw [hTl] at g1 q2
    have q2' : OwnB m.sz S ((m.newBlock b' (T ++ z ++ zeroRow Try.prog 56 (c' - (i + (l.length + 1 - i))))).setCells b' (0 + i * 7) (encMk x)) 7 (some ⟨b', 0, none⟩) (l.length + 1) c' ((T ++ encMk x) ++ (z.drop 7 ++ [])) := by
      rw [show (T ++ encMk x) ++ (z.drop 7 ++ []) = T ++ (encMk x ++ z.drop 7) by rw [List.append_nil, List.append_assoc]]; exact q2
    obtain ⟨g2, q3⟩ := q2'.set (new := D) (by rw [zd, hDl])
    have el : (T ++ encMk x).length = (i + 1) * 7 := by rw [List.length_append, hTl, hk]; omega
    rw [el] at g2 q3
    refine ⟨encMk x, copyPre (sub_addr (by omega)) (hvr.newBlock hb').rowAt (by rw [hk]; omega) rfl g1 (by simp), fun m1 hp1 => ?_⟩
    have hm1 := hp1.atc (sub_addr (by omega))
    subst hm1
    have hDr : Row ((m.newBlock b' (T ++ z ++ zeroRow Try.prog 56 (c' - (i + (l.length + 1 - i))))).setCells b' (0 + i * 7) (encMk x)) (some ⟨b, o + i * 7, none⟩) D := by
      have h1 := ho.row.drop hTl
      rw [show (some (⟨b, o, none⟩ : Addr)).map (fun x => x.add (i * 7)) = some ⟨b, o + i * 7, none⟩ from by show some (Addr.add _ _) = _; rw [add_none]] at h1
      exact (h1.newBlock hb').of (Nat.le_refl _) fun b2 o2 e2 _ => setCells_other (by cases e2; exact hbb)
    refine ⟨trivial, ⟨trivial, by omega, by omega, trivial, trivial⟩, ⟨trivial, by omega, by omega, trivial, trivial⟩, ⟨D, copyPre (sub_addr (by omega)) (by rw [sub_addr hci]; exact hDr.rowAt) (by rw [hDl]; congr 1; omega) (by rw [← hD]; exact o1 _) g2 (by rw [sub_addr hci]; simp), fun m2 hp2 => ?_⟩, trivial⟩
    have hm2 := hp2.atc (sub_addr (by omega))
    subst hm2
    refine ⟨⟨_, c', by rw [e1], .own ?_⟩⟩
    rw [show (T ++ encMk x) ++ (D ++ []) = T ++ (encMk x ++ D) by rw [List.append_nil, List.append_assoc]] at q3
    exact q3
  · have hcl2 : l.length + 1 ≤ c := by simp at hc; omega
    have hi1 : c ≠ i + 1 := by omega
    have hov : RunV Try.prog 88 [.slice (some ⟨vb, vo, none⟩) 1 vc, .slice (some ⟨b, o + (i + 1) * 7, none⟩) (l.length + 1 - (i + 1)) (c - (i + 1))] m (.bool false) :=
      over_run Try.func88 (by kernel_rfl) (by kernel_rfl) (by kernel_rfl) (t := 26) (tR := 4) (by kernel_rfl) Try.underlying26 (i := Try.prog.types[56]) (by kernel_rfl) (Ne.symm hbv) hu (ho.uf rfl) (by
        obtain ⟨b2, o2, e2, hcell⟩ := ho.row.cells (by rw [List.length_append, hTl, hDl]; omega)
        cases e2
        have h0 := hcell.out 0 (by rw [List.length_append, hTl, hDl]; omega)
        rw [List.getElem?_eq_getElem (by rw [List.length_append, hTl, hDl]; omega)] at h0
        exact ⟨_, _, h0⟩)
    cases ho with
    | «at» b o len cap cs rest lo lt uf hcells hl hr hc' =>
    have rs : rest = rest.take 7 ++ rest.drop 7 := (List.take_append_drop _ _).symm
    have rt : (rest.take 7).length = 7 := by rw [List.length_take, hr]; omega
    have rd : (rest.drop 7).length = (c - (l.length + 1)) * 7 := by rw [List.length_drop, hr]; omega
    have ds : D = D.take 7 ++ D.drop 7 := (List.take_append_drop _ _).symm
    have dt : (D.take 7).length = 7 := by rw [List.length_take, hDl]; omega
    have dd : (D.drop 7).length = (l.length - (i + 1)) * 7 := by rw [List.length_drop, hDl]; omega
    have q1 : OwnB m.sz S m 7 (some ⟨b, o, none⟩) (l.length + 1) c ((T ++ D.take 7) ++ ((D.drop 7 ++ rest.take 7) ++ [])) := by
      refine .at b o _ _ _ (rest.drop 7) lo lt uf ?_ (by simp only [List.length_append, List.length_nil, hTl, dt, dd, rt]; omega) rd hcl2
      have e1 : T ++ D.take 7 ++ ((D.drop 7 ++ rest.take 7) ++ []) ++ rest.drop 7 = T ++ D ++ rest := by
        conv => rhs; rw [ds, rs]
        simp only [List.append_assoc, List.append_nil]
      rw [e1]; exact hcells
    obtain ⟨g1, q2⟩ := q1.set (new := D) (by rw [List.length_append, dd, rt, hDl]; omega)
    have el : (T ++ D.take 7).length = (i + 1) * 7 := by rw [List.length_append, hTl, dt]; omega
    rw [el] at g1 q2
    rw [show (T ++ D.take 7) ++ (D ++ []) = T ++ (D.take 7 ++ D) by rw [List.append_nil, List.append_assoc]] at q2
    obtain ⟨g2, q3⟩ := q2.set (new := encMk x) (by rw [dt]; exact hk x)
    rw [hTl] at g2 q3
    have hDr : RowAt m (some ⟨b, o + i * 7, none⟩) D := by
      have := hcells.take.drop
      rw [hTl] at this
      exact .inr ⟨b, _, rfl, this⟩
    refine ⟨⟨trivial, by omega, by omega, by omega, trivial⟩, ⟨trivial, by omega, by omega, trivial, trivial⟩, false, by rw [sub_addr hi1]; exact hov, ifB_true ⟨trivial, ⟨trivial, by omega, by omega, trivial, trivial⟩, ⟨trivial, by omega, by omega, trivial, trivial⟩, ⟨D, copyPre (sub_addr hi1) (by rw [sub_addr hci]; exact hDr) (by rw [hDl]; congr 1; omega) (by rw [← hD]; exact o1 _) g1 (by rw [sub_addr hci]; simp), fun m1 hp1 => ?_⟩, trivial⟩⟩
    have hm1 := hp1.atc (sub_addr hi1)
    subst hm1
    refine ⟨⟨trivial, by omega, by omega, trivial, trivial⟩, encMk x, copyPre (sub_addr hci) (Row.of (m' := m.setCells b (o + (i + 1) * 7) D) hvr (Nat.le_refl _) fun b2 o2 e2 _ => setCells_other (by cases e2; exact Ne.symm hbv)).rowAt (by rw [hk]; omega) rfl g2 (by simp), fun m2 hp2 => ?_⟩
    have hm2 := hp2.atc (sub_addr hci)
    subst hm2
    exact ⟨⟨_, c, rfl, .own q3⟩⟩

end Go.Proofs.Ytjjfcaigonomiaa
set_option linter.unusedVariables false
set_option linter.unusedSimpArgs false
namespace Go.Proofs.Ytjjfcaigonomiaa
open Go.Vc Go.RowKit
set_option maxRecDepth 100000

theorem mk_none {B : List Mk} {a : Option Addr} {m : M} (h : Row m a (mks B)) (e : a = none) : B = [] := by
  cases B with
  | nil => rfl
  | cons x xs =>
    obtain ⟨b, o, e2, -⟩ := h.cells (by rw [mk_len]; simp)
    rw [e] at e2; simp at e2

theorem scheck_q (a : Option Addr) (cp : Nat) (l : List Mk) (hn : l.length ≤ 9223372036854775807) (m : M) (h : Row m a (mks l)) : QSpec Try.prog 43 [.slice a l.length cp] m (I (if tabB 0 l then 0 else 21)) := by
  refine QSpec.of_vc Try.func43 (ann := fun n _ => { A := Nat × Int, inv := fun y => y.1 ≤ l.length ∧ tabB 0 l = tabB y.2 (l.drop y.1) ∧ 0 ≤ y.2, st := fun y => [(8, .val (I y.1)), (7, .val (I l.length)), (6, .val (.slice a l.length cp)), (3, .val (I y.2))], own := fun _ => [], m := fun _ => { m with sz := n }, μ := fun y => l.length - y.1 }) fun n hn' => ?_
  refine vc_by (X :=
      true = true ∧
      (∃ (a_1 : Nat × Int),
      (a_1.fst ≤ l.length ∧ tabB (0 : Int) l = tabB a_1.snd (List.drop a_1.fst l) ∧ (0 : Int) ≤ a_1.snd) ∧
      { π := m.π, sz := n, uf := m.uf : M } = { π := m.π, sz := n, uf := m.uf : M } ∧
      ((SV.val (Value.int IntKind.i64 (0 : Int)) = SV.val (Value.int IntKind.i64 (↑a_1.fst : Int)) ∧ true = true) ∧
      (SV.val (Value.int IntKind.i64 (↑l.length : Int)) = SV.val (Value.int IntKind.i64 (↑l.length : Int)) ∧ true = true) ∧
      (SV.val (Value.slice a l.length cp) = SV.val (Value.slice a l.length cp) ∧ true = true) ∧
      (SV.val (Value.int IntKind.i64 (0 : Int)) = SV.val (Value.int IntKind.i64 a_1.snd) ∧ true = true) ∧ True) ∧
      True) ∧
      ∀ (a_1 : Nat × Int),
      a_1.fst ≤ l.length ∧ tabB (0 : Int) l = tabB a_1.snd (List.drop a_1.fst l) ∧ (0 : Int) ≤ a_1.snd →
      ifB (decide ((↑a_1.fst : Int) < (↑l.length : Int)))
      (∃ (b : Nat),
      ∃ (off : Nat),
      a = some { block := b, off := off : Addr } ∧
      ((0 : Int) ≤ (↑a_1.fst : Int) ∧ (↑a_1.fst : Int) < (↑l.length : Int)) ∧
      ∃ (n_1 : Int),
      ∃ (n_2 : Int),
      ∃ (b_1 : Bool),
      ∃ (n_3 : Int),
      ∃ (n_4 : Int),
      ∃ (n_5 : Int),
      ∃ (n_6 : Int),
      CellsAt { π := m.π, sz := n, uf := m.uf : M } b (off + (↑a_1.fst : Int).toNat * (7 : Nat))
      [Value.int IntKind.i64 n_1, Value.int IntKind.i64 n_2, Value.bool b_1, Value.int IntKind.i64 n_3, Value.int IntKind.i64 n_4,
      Value.int IntKind.i64 n_5, Value.int IntKind.i64 n_6] ∧
      ifB (decide (n_1 ≤ a_1.snd))
      (Done (Value.int IntKind.i64 (21 : Int) = Value.int IntKind.i64 (if tabB (0 : Int) l = true then (0 : Int) else (21 : Int))))
      (ifB (decide (n_1 > (8 : Int)))
      (Done (Value.int IntKind.i64 (21 : Int) = Value.int IntKind.i64 (if tabB (0 : Int) l = true then (0 : Int) else (21 : Int))))
      (ifB (decide (n_2 < (0 : Int)))
      (Done (Value.int IntKind.i64 (21 : Int) = Value.int IntKind.i64 (if tabB (0 : Int) l = true then (0 : Int) else (21 : Int))))
      (ifB (decide (n_2 > (4611686018427387904 : Int)))
      (Done (Value.int IntKind.i64 (21 : Int) = Value.int IntKind.i64 (if tabB (0 : Int) l = true then (0 : Int) else (21 : Int))))
      (ifB b_1
      (ifB (n_2 == (0 : Int))
      (Done (Value.int IntKind.i64 (21 : Int) = Value.int IntKind.i64 (if tabB (0 : Int) l = true then (0 : Int) else (21 : Int))))
      (ifB (!(n_3 == (0 : Int) && (n_4 == (0 : Int) && (n_5 == (0 : Int) && (n_6 == (0 : Int) && true)))))
      (Done (Value.int IntKind.i64 (21 : Int) = Value.int IntKind.i64 (if tabB (0 : Int) l = true then (0 : Int) else (21 : Int))))
      (∃ (a' : Nat × Int),
      ((a'.fst ≤ l.length ∧ tabB (0 : Int) l = tabB a'.snd (List.drop a'.fst l) ∧ (0 : Int) ≤ a'.snd) ∧
      { π := m.π, sz := n, uf := m.uf : M } = { π := m.π, sz := n, uf := m.uf : M } ∧
      ((SV.val (Value.int IntKind.i64 (IntKind.i64.wrap ((↑a_1.fst : Int) + (1 : Int)))) =
      SV.val (Value.int IntKind.i64 (↑a'.fst : Int)) ∧
      true = true) ∧
      (SV.val (Value.int IntKind.i64 (↑l.length : Int)) = SV.val (Value.int IntKind.i64 (↑l.length : Int)) ∧ true = true) ∧
      (SV.val (Value.slice a l.length cp) = SV.val (Value.slice a l.length cp) ∧ true = true) ∧
      (SV.val (Value.int IntKind.i64 n_1) = SV.val (Value.int IntKind.i64 a'.snd) ∧ true = true) ∧ True) ∧
      True) ∧
      l.length - a'.fst < l.length - a_1.fst)))
      (∃ (a' : Nat × Int),
      ((a'.fst ≤ l.length ∧ tabB (0 : Int) l = tabB a'.snd (List.drop a'.fst l) ∧ (0 : Int) ≤ a'.snd) ∧
      { π := m.π, sz := n, uf := m.uf : M } = { π := m.π, sz := n, uf := m.uf : M } ∧
      ((SV.val (Value.int IntKind.i64 (IntKind.i64.wrap ((↑a_1.fst : Int) + (1 : Int)))) =
      SV.val (Value.int IntKind.i64 (↑a'.fst : Int)) ∧
      true = true) ∧
      (SV.val (Value.int IntKind.i64 (↑l.length : Int)) = SV.val (Value.int IntKind.i64 (↑l.length : Int)) ∧ true = true) ∧
      (SV.val (Value.slice a l.length cp) = SV.val (Value.slice a l.length cp) ∧ true = true) ∧
      (SV.val (Value.int IntKind.i64 n_1) = SV.val (Value.int IntKind.i64 a'.snd) ∧ true = true) ∧ True) ∧
      True) ∧
      l.length - a'.fst < l.length - a_1.fst))))))
      (Done (Value.int IntKind.i64 (0 : Int) = Value.int IntKind.i64 (if tabB (0 : Int) l = true then (0 : Int) else (21 : Int))))) (by kernel_rfl) ?_
  have h' := h.sz hn'
  refine ⟨rfl, ⟨⟨0, 0⟩, by simp⟩, fun y ⟨hk, hq, hz⟩ => ifB_intro (fun hb => ?_) (fun hb => ⟨?_⟩)⟩
  · have hk2 : y.1 < l.length := by simpa using hb
    obtain ⟨b, o, rfl, hc⟩ := h'.cells (by rw [mk_len]; omega)
    have w1 : IntKind.i64.wrap ((y.1 : Int) + 1) = ((y.1 + 1 : Nat) : Int) := by simp [IntKind.wrap_i64]; omega
    rw [List.drop_eq_getElem_cons hk2, tabB] at hq
    have bad : (decide (y.2 < l[y.1].cl) && mkB l[y.1]) = false → Done (I 21 = I (if tabB 0 l = true then 0 else 21)) := fun e => by
      rw [e, Bool.false_and] at hq
      exact ⟨by simp [hq]⟩
    have nx : ∀ (_ : (decide (y.2 < l[y.1].cl) && mkB l[y.1]) = true), (y.1 + 1 ≤ l.length ∧ tabB 0 l = tabB l[y.1].cl (l.drop (y.1 + 1)) ∧ 0 ≤ l[y.1].cl) := fun e => by
      rw [e, Bool.true_and] at hq
      simp only [Bool.and_eq_true, decide_eq_true_eq] at e
      exact ⟨hk2, hq, by omega⟩
    refine ⟨b, o, rfl, by omega, _, _, _, _, _, _, _, by simpa using mk_at hc hk2, ifB_intro (fun h1 => bad ?_) (fun h1 => ifB_intro (fun h2 => bad ?_) (fun h2 => ifB_intro (fun h3 => bad ?_) (fun h3 => ifB_intro (fun h4 => bad ?_) (fun h4 => ifB_intro (fun h5 => ifB_intro (fun h6 => bad ?_) (fun h6 => ifB_intro (fun h7 => bad ?_) (fun h7 => ⟨⟨y.1 + 1, l[y.1].cl⟩, ⟨nx ?_, rfl, by simp [w1]⟩, by simp only; omega⟩))) (fun h5 => ⟨⟨y.1 + 1, l[y.1].cl⟩, ⟨nx ?_, rfl, by simp [w1]⟩, by simp only; omega⟩)))))⟩
    · simp at h1; simp; intro h; omega
    · simp at h2; simp [mkB]; omega
    · simp at h3; simp [mkB]; omega
    · simp at h4; simp [mkB]; omega
    · simp at h6; simp [mkB, h5]; omega
    · have e : ans0B l[y.1] = false := by
        simp only [Bool.not_eq_true', Bool.beq_eq_decide_eq, Bool.and_true] at h7
        simpa [ans0B, Bool.and_assoc] using h7
      simp [mkB, h5, e]
    · simp at h1 h2 h3 h4 h6
      have e : ans0B l[y.1] = true := by
        simp at h7
        simp [ans0B, h7]
      simp [mkB, h5, e]; omega
    · simp at h1 h2 h3 h4; simp [mkB, h5]; omega
  · have : y.1 = l.length := by simp at hb; omega
    rw [this] at hq
    simp [hq, tabB]

theorem cmp_q (x : Mk) (c : Int) (m : M) : QSpec Try.prog 75 [.agg (encMk x).toArray, I c] m (I (if x.cl < c then -1 else if c < x.cl then 1 else 0)) := by
  refine QSpec.of_vc Try.func75 (ann := fun _ => noAnn) fun N hN => ?_
  refine vc_by (X :=
      true = true ∧
      ifB (decide (x.cl < c)) (Done (Value.int IntKind.i64 (-1 : Int) = Value.int IntKind.i64 (if x.cl < c then (-1 : Int) else if c < x.cl then (1 : Int) else (0 : Int))))
      (ifB (decide (x.cl > c)) (Done (Value.int IntKind.i64 (1 : Int) = Value.int IntKind.i64 (if x.cl < c then (-1 : Int) else if c < x.cl then (1 : Int) else (0 : Int))))
      (Done (Value.int IntKind.i64 (0 : Int) = Value.int IntKind.i64 (if x.cl < c then (-1 : Int) else if c < x.cl then (1 : Int) else (0 : Int)))))) (by kernel_rfl) ?_
  refine ⟨rfl, ifB_intro (fun h => ⟨?_⟩) (fun h => ifB_intro (fun h2 => ⟨?_⟩) (fun h2 => ⟨?_⟩))⟩
  · simp at h; simp [h]
  · simp at h h2; simp [h2, show ¬ x.cl < c by omega]
  · simp at h h2; simp [show ¬ x.cl < c by omega, show ¬ c < x.cl by omega]

theorem place_q (a : Option Addr) (cp : Nat) (l : List Mk) (c : Int) (ht : tabB 0 l = true) (m : M) (h : Row m a (mks l)) : QSpec Try.prog 44 [.slice a l.length cp, I c] m (.tuple #[I (mkP l c), .bool (ofM l c).isSome]) := by
  have h8 := tab8 ht
  have e : ((l[mkP l c]?).any fun x => decide ((if x.cl < c then (-1 : Int) else if c < x.cl then 1 else 0) = 0)) = (ofM l c).isSome := by
    rw [mkP_of (c := c) ht]
    cases l[mkP l c]? with
    | none => rfl
    | some x =>
      simp only [Option.any_some]
      by_cases e1 : x.cl = c
      · simp [e1]
      · by_cases e2 : x.cl < c
        · simp [e1, e2]
        · simp [e1, e2, show c < x.cl by omega]
  rw [← e]
  refine QSpec.of_vc Try.func44 (ann := fun _ => noAnn) fun n hn' => ?_
  refine vc_by (X :=
      true = true ∧
      ∃ (n_1 : Int),
      ∃ (b : Bool),
      QSpec Try.prog (74 : Nat) [Value.slice a l.length cp, Value.int IntKind.i64 c, Value.func (Fn.func (75 : Nat)) #[] #[]] { π := m.π, sz := n, uf := m.uf : M }
      (Value.tuple #[Value.int IntKind.i64 n_1, Value.bool b]) ∧
      Done
      (Value.tuple #[Value.int IntKind.i64 n_1, Value.bool b] =
      Value.tuple
      #[Value.int IntKind.i64 (↑(mkP l c) : Int),
      Value.bool (Option.any (fun (x : Mk) => decide ((if x.cl < c then (-1 : Int) else if c < x.cl then (1 : Int) else (0 : Int)) = (0 : Int))) l[mkP l c]?)])) (by kernel_rfl) ?_
  refine ⟨rfl, _, _, mk_bsearch a cp l c (fun x => if x.cl < c then -1 else if c < x.cl then 1 else 0) (mkP l c) (by omega) _ (h.sz hn') (fun x _ m' => cmp_q x c m') (mkP_le c l) (fun k hk hp => ?_) (fun k hk hp => ?_), ⟨rfl⟩⟩
  · have := mkP_lt ht k hk hp; simp [this]
  · have := mkP_ge ht k hk hp
    show (0 : Int) ≤ if l[k].cl < c then -1 else if c < l[k].cl then 1 else 0
    rw [if_neg (by omega)]; split <;> omega

def m0 : Mk := ⟨0, 0, false, 0, 0, 0, 0⟩

def findO (l : List Mk) (c : Int) : Option Mk := if tabB 0 l then ofM l c else none

theorem find_q (a : Option Addr) (cp : Nat) (l : List Mk) (c : Int) (hn : l.length ≤ 9223372036854775807) (m : M) (h : Row m a (mks l)) : QSpec Try.prog 19 [.slice a l.length cp, I c] m (.tuple #[mkv ((findO l c).getD m0), .bool (findO l c).isSome]) := by
  refine QSpec.of_vc Try.func19 (ann := fun _ => noAnn) fun n hn' => ?_
  refine vc_by (X :=
      true = true ∧
      ∃ (n_1 : Int),
      QSpec Try.prog (43 : Nat) [Value.slice a l.length cp] { π := m.π, sz := n, uf := m.uf : M } (Value.int IntKind.i64 n_1) ∧
      ifB (n_1 != (0 : Int))
      (Done
      (Value.tuple
      #[Value.agg
      #[Value.int IntKind.i64 (0 : Int), Value.int IntKind.i64 (0 : Int), Value.bool false, Value.int IntKind.i64 (0 : Int), Value.int IntKind.i64 (0 : Int),
      Value.int IntKind.i64 (0 : Int), Value.int IntKind.i64 (0 : Int)],
      Value.bool false] =
      Value.tuple
      #[Value.agg
      #[Value.int IntKind.i64 ((findO l c).getD m0).cl, Value.int IntKind.i64 ((findO l c).getD m0).sq, Value.bool ((findO l c).getD m0).op,
      Value.int IntKind.i64 ((findO l c).getD m0).an_er, Value.int IntKind.i64 ((findO l c).getD m0).an_va, Value.int IntKind.i64 ((findO l c).getD m0).an_le,
      Value.int IntKind.i64 ((findO l c).getD m0).an_mo],
      Value.bool (findO l c).isSome]))
      (∃ (n_2 : Int),
      ∃ (b : Bool),
      QSpec Try.prog (44 : Nat) [Value.slice a l.length cp, Value.int IntKind.i64 c] { π := m.π, sz := n, uf := m.uf : M }
      (Value.tuple #[Value.int IntKind.i64 n_2, Value.bool b]) ∧
      ifB (!b)
      (Done
      (Value.tuple
      #[Value.agg
      #[Value.int IntKind.i64 (0 : Int), Value.int IntKind.i64 (0 : Int), Value.bool false, Value.int IntKind.i64 (0 : Int), Value.int IntKind.i64 (0 : Int),
      Value.int IntKind.i64 (0 : Int), Value.int IntKind.i64 (0 : Int)],
      Value.bool false] =
      Value.tuple
      #[Value.agg
      #[Value.int IntKind.i64 ((findO l c).getD m0).cl, Value.int IntKind.i64 ((findO l c).getD m0).sq, Value.bool ((findO l c).getD m0).op,
      Value.int IntKind.i64 ((findO l c).getD m0).an_er, Value.int IntKind.i64 ((findO l c).getD m0).an_va, Value.int IntKind.i64 ((findO l c).getD m0).an_le,
      Value.int IntKind.i64 ((findO l c).getD m0).an_mo],
      Value.bool (findO l c).isSome]))
      (∃ (b : Nat),
      ∃ (off : Nat),
      a = some { block := b, off := off : Addr } ∧
      ((0 : Int) ≤ n_2 ∧ n_2 < (↑l.length : Int)) ∧
      ∃ (n_3 : Int),
      ∃ (n_4 : Int),
      ∃ (b_1 : Bool),
      ∃ (n_5 : Int),
      ∃ (n_6 : Int),
      ∃ (n_7 : Int),
      ∃ (n_8 : Int),
      CellsAt { π := m.π, sz := n, uf := m.uf : M } b (off + n_2.toNat * (7 : Nat))
      [Value.int IntKind.i64 n_3, Value.int IntKind.i64 n_4, Value.bool b_1, Value.int IntKind.i64 n_5, Value.int IntKind.i64 n_6,
      Value.int IntKind.i64 n_7, Value.int IntKind.i64 n_8] ∧
      Done
      (Value.tuple
      #[Value.agg
      #[Value.int IntKind.i64 n_3, Value.int IntKind.i64 n_4, Value.bool b_1, Value.int IntKind.i64 n_5, Value.int IntKind.i64 n_6,
      Value.int IntKind.i64 n_7, Value.int IntKind.i64 n_8],
      Value.bool true] =
      Value.tuple
      #[Value.agg
      #[Value.int IntKind.i64 ((findO l c).getD m0).cl, Value.int IntKind.i64 ((findO l c).getD m0).sq,
      Value.bool ((findO l c).getD m0).op, Value.int IntKind.i64 ((findO l c).getD m0).an_er,
      Value.int IntKind.i64 ((findO l c).getD m0).an_va, Value.int IntKind.i64 ((findO l c).getD m0).an_le,
      Value.int IntKind.i64 ((findO l c).getD m0).an_mo],
      Value.bool (findO l c).isSome])))) (by kernel_rfl) ?_
  have h' := h.sz hn'
  refine ⟨rfl, _, scheck_q a cp l hn _ h', ?_⟩
  cases ht : tabB 0 l
  · exact ifB_true ⟨by simp [findO, ht, m0]⟩
  refine ifB_false ⟨_, _, place_q a cp l c ht _ h', ?_⟩
  have e := mkP_of (c := c) ht
  cases ho : ofM l c with
  | none => exact ifB_true ⟨by simp [findO, ht, ho, m0]⟩
  | some x =>
    rw [ho] at e
    have hp : ∃ hk : mkP l c < l.length, l[mkP l c] = x := by
      cases hg : l[mkP l c]? with
      | none => rw [hg] at e; simp at e
      | some z =>
        rw [hg] at e
        obtain ⟨hk, hx⟩ := List.getElem?_eq_some_iff.1 hg
        refine ⟨hk, ?_⟩
        rw [hx]
        simp only at e
        split at e
        · exact (Option.some.inj e).symm
        · simp at e
    obtain ⟨hk, hx⟩ := hp
    obtain ⟨b, o, rfl, hc⟩ := h'.cells (by rw [mk_len]; omega)
    have hcc := mk_at hc hk
    rw [hx] at hcc
    refine ifB_false ⟨b, o, rfl, by omega, _, _, _, _, _, _, _, by simpa using hcc, ⟨?_⟩⟩
    simp [findO, ht, ho]

/-- a list that can be read -/
structure SlR (y : List Mk) (v : Value) (m' : M) : Prop where
  out : ∃ a' c', v = .slice a' y.length c' ∧ Row m' a' (mks y)

theorem with_s (a : Option Addr) (cp : Nat) (l : List Mk) (x : Mk) (ht : tabB 0 l = true) (m : M) (h : Row m a (mks l)) : Vc.Spec Try.prog 80 [.slice a l.length cp, mkv x] m (SlR (insM l x)) := by
  refine Vc.Spec.of_vc Try.func80 (ann := noAnn) ?_
  refine vc_by (X :=
      true = true ∧
      ∃ (S' : Nat → Prop),
      (∀ (b : Nat), S' b → m.uf b ∧ (m.sz ≤ b ∨ False)) ∧
      ∀ (n : Nat),
      m.sz ≤ n →
      SpecW Try.prog (57 : Nat) [Value.slice a l.length cp] { π := m.π, sz := n, uf := m.uf : M } S' fun (v : Value) (m' : M) =>
      ∃ (a : Option Addr),
      ∃ (n : Nat),
      ∃ (c : Nat),
      v = Value.slice a n c ∧
      ∃ (n_1 : Int),
      ∃ (b : Bool),
      QSpec Try.prog (44 : Nat) [Value.slice a n c, Value.int IntKind.i64 x.cl] m' (Value.tuple #[Value.int IntKind.i64 n_1, Value.bool b]) ∧
      ifB b
      (∃ (b : Nat),
      ∃ (off : Nat),
      a = some { block := b, off := off : Addr } ∧
      ((0 : Int) ≤ n_1 ∧ n_1 < (↑n : Int)) ∧
      Wr m.sz (fun (x : Nat) => False) m' b (off + n_1.toNat * (7 : Nat))
      #[Value.int IntKind.i64 x.cl, Value.int IntKind.i64 x.sq, Value.bool x.op, Value.int IntKind.i64 x.an_er, Value.int IntKind.i64 x.an_va,
      Value.int IntKind.i64 x.an_le, Value.int IntKind.i64 x.an_mo].size ∧
      Done
      (SlR (insM l x) (Value.slice a n c)
      (m'.setCells b (off + n_1.toNat * (7 : Nat))
      [Value.int IntKind.i64 x.cl, Value.int IntKind.i64 x.sq, Value.bool x.op, Value.int IntKind.i64 x.an_er, Value.int IntKind.i64 x.an_va,
      Value.int IntKind.i64 x.an_le, Value.int IntKind.i64 x.an_mo])))
      (true = true ∧
      ∀ (b : Nat),
      m'.sz ≤ b →
      ∃ (S' : Nat → Prop),
      (∀ (b_1 : Nat),
      S' b_1 →
      (m'.newBlock b
      [Value.int IntKind.i64 x.cl, Value.int IntKind.i64 x.sq, Value.bool x.op, Value.int IntKind.i64 x.an_er,
      Value.int IntKind.i64 x.an_va, Value.int IntKind.i64 x.an_le, Value.int IntKind.i64 x.an_mo]).uf
      b_1 ∧
      (m.sz ≤ b_1 ∨ False)) ∧
      ∀ (n_2 : Nat),
      max m'.sz (b + (1 : Nat)) ≤ n_2 →
      SpecW Try.prog (86 : Nat)
      [Value.slice a n c, Value.int IntKind.i64 n_1, Value.slice (some { block := b, off := (0 : Nat) : Addr }) (1 : Nat) (1 : Nat)]
      { π := (m'.newBlock b [Value.int IntKind.i64 x.cl, Value.int IntKind.i64 x.sq, Value.bool x.op, Value.int IntKind.i64 x.an_er, Value.int IntKind.i64 x.an_va, Value.int IntKind.i64 x.an_le, Value.int IntKind.i64 x.an_mo]).π, sz := n_2, uf := (m'.newBlock b [Value.int IntKind.i64 x.cl, Value.int IntKind.i64 x.sq, Value.bool x.op, Value.int IntKind.i64 x.an_er, Value.int IntKind.i64 x.an_va, Value.int IntKind.i64 x.an_le, Value.int IntKind.i64 x.an_mo]).uf : M }
      S' fun (v : Value) (m' : M) =>
      ∃ (a : Option Addr), ∃ (n : Nat), ∃ (c : Nat), v = Value.slice a n c ∧ Done (SlR (insM l x) (Value.slice a n c) m'))) (by kernel_rfl) ?_
  have h8 := tab8 ht
  have hple := mkP_le x.cl l
  refine ⟨rfl, _, noS, fun N hN => (mk_clone l a cp (by omega) (mk_none h) _ (h.sz hN)).monoW fun v m' hag ⟨a', c', hv, hr'⟩ => ⟨a', _, c', hv, _, _, place_q a' c' l x.cl ht _ hr'.row, ?_⟩⟩
  cases ho : ofM l x.cl with
  | none =>
    have e := ins_put (m := x) ht ho
    refine ifB_false ⟨rfl, fun b hb => ?_⟩
    have hrN := hr'.newBlock (ds := encMk x) hb
    have hs := mk_insert a' c' l (mkP l x.cl) b 0 1 x (fun b' => ∃ o, a' = some ⟨b', o, none⟩ ∧ (m'.newBlock b (encMk x)).uf b' ∧ m.sz ≤ b') (by omega) hple
    refine ⟨fun b' => ∃ o, a' = some ⟨b', o, none⟩ ∧ (m'.newBlock b (encMk x)).uf b' ∧ m.sz ≤ b', fun b' ⟨o, e, hu, hlo⟩ => ⟨hu, .inl hlo⟩, fun n hn => ?_⟩
    refine (hs { m'.newBlock b (encMk x) with sz := n } ((hrN.sz hn).re fun b' o e hu hlo => .inr ⟨o, e, hu, by rcases hlo with h | h; simp only at h; omega; exact h.elim⟩)
      (fun hne b' o e => ?_) (by simp only; omega) (.inl rfl) ⟨(cellsAt_new (m := m') (b := b) (cs := encMk x)).out⟩).mono fun v3 m3 hag3 ⟨a3, c3, hv3, hr3⟩ => ⟨a3, _, c3, hv3, ⟨⟨a3, c3, ?_, ?_⟩⟩⟩
    · have := (hr'.toOwn (fun e => hne (List.eq_nil_of_length_eq_zero e))).lt e
      omega
    · rw [e]; simp; omega
    · rw [e]; exact hr3.row
  | some z =>
    have e := ins_set (m := x) ht (by rw [ho]; rfl)
    have hk : mkP l x.cl < l.length := by
      have e2 := mkP_of (c := x.cl) ht
      rw [ho] at e2
      rcases Nat.lt_or_ge (mkP l x.cl) l.length with hk | hk
      · exact hk
      · rw [List.getElem?_eq_none hk] at e2; simp at e2
    have hown := (hr'.toOwn (by omega)).lower hN
    obtain ⟨b, o, rfl, hc⟩ := hown.row.cells (by rw [mk_len]; omega)
    obtain ⟨g1, g2⟩ := OwnB.setAt mk_k hown hk x
    refine ifB_true ⟨b, o, rfl, by omega, g1, ⟨⟨some ⟨b, o, none⟩, c', ?_, ?_⟩⟩⟩
    · rw [e]; simp
    · rw [e]; exact g2.row

end Go.Proofs.Ytjjfcaigonomiaa
set_option linter.unusedVariables false
set_option linter.unusedSimpArgs false
namespace Go.Proofs.Ytjjfcaigonomiaa
open Go.Vc Go.RowKit
set_option maxRecDepth 100000

/-- a list that can be read, and an Errno -/
structure MeR (y : List Mk × Int) (v : Value) (m' : M) : Prop where
  out : ∃ a' c', v = .tuple #[.slice a' y.1.length c', I y.2] ∧ Row m' a' (mks y.1)

structure MbR (y : List Mk × Bool × Int) (v : Value) (m' : M) : Prop where
  out : ∃ a' c', v = .tuple #[.slice a' y.1.length c', .bool y.2.1, I y.2.2] ∧ Row m' a' (mks y.1)

theorem me_fail {m' : M} {y : List Mk × Int} {e : Int} (h : y = ([], e)) : Done (MeR y (.tuple #[.slice none 0 0, I e]) m') := ⟨by subst h; exact ⟨none, 0, rfl, .nil _⟩⟩

theorem mb_fail {m' : M} {y : List Mk × Bool × Int} {e : Int} (h : y = ([], false, e)) : Done (MbR y (.tuple #[.slice none 0 0, .bool false, I e]) m') := ⟨by subst h; exact ⟨none, 0, rfl, .nil _⟩⟩

theorem me_ok {m' : M} {y : List Mk × Int} {z : List Mk} {a' : Option Addr} {len c' : Nat} (h : y = (z, 0)) (hl : len = z.length) (hr : Row m' a' (mks z)) : Done (MeR y (.tuple #[.slice a' len c', I 0]) m') := ⟨by subst h; subst hl; exact ⟨a', c', rfl, hr⟩⟩

theorem mb_ok {m' : M} {y : List Mk × Bool × Int} {z : List Mk} {b : Bool} {a' : Option Addr} {len c' : Nat} (h : y = (z, b, 0)) (hl : len = z.length) (hr : Row m' a' (mks z)) : Done (MbR y (.tuple #[.slice a' len c', .bool b, I 0]) m') := ⟨by subst h; subst hl; exact ⟨a', c', rfl, hr⟩⟩

def argB (c s : Int) : Bool := decide (1 ≤ c) && decide (c ≤ 8) && decide (1 ≤ s) && decide (s ≤ 4611686018427387904)

def opM (c s : Int) : Mk := ⟨c, s, true, 0, 0, 0, 0⟩

def beginM (l : List Mk) (c s : Int) : List Mk × Bool × Int :=
  if tabB 0 l = false then ([], false, 21) else if argB c s = false then ([], false, 1) else
  match ofM l c with
  | none => (insM l (opM c s), true, 0)
  | some x => if s < x.sq then ([], false, 80) else if x.sq = s then (l, false, 0) else (insM l (opM c s), true, 0)

def openE (l : List Mk) (c s : Int) : Int := if tabB 0 l = false then 21 else match ofM l c with | none => 60 | some x => if x.sq = s ∧ x.op = true then 0 else 60

def edM (c s : Int) (a : An) : Mk := ⟨c, s, false, a.er, a.va, a.le, a.mo⟩

def loM (c s : Int) : Mk := ⟨c, s - 1, false, 80, 0, 0, 0⟩

def endM (l : List Mk) (c s : Int) (a : An) : List Mk × Int := if openE l c s ≠ 0 then ([], openE l c s) else (insM l (edM c s a), 0)

def loseM (l : List Mk) (c s : Int) : List Mk × Int := if openE l c s ≠ 0 then ([], openE l c s) else (insM l (loM c s), 0)

def joinM (a b : List Mk) : List Mk × Int := if tabB 0 a = false ∨ tabB 0 b = false then ([], 21) else (foldM a b, 0)

theorem sbegin_s (a : Option Addr) (cp : Nat) (l : List Mk) (c s : Int) (hn : l.length ≤ 9223372036854775807) (m : M) (h : Row m a (mks l)) : Vc.Spec Try.prog 58 [.slice a l.length cp, I c, I s] m (MbR (beginM l c s)) := by
  refine Vc.Spec.of_vc Try.func58 (ann := noAnn) ?_
  refine vc_by (X :=
      true = true ∧
      ∃ (n : Int),
      QSpec Try.prog (43 : Nat) [Value.slice a l.length cp] m (Value.int IntKind.i64 n) ∧
      ifB (n != (0 : Int)) (Done (MbR (beginM l c s) (Value.tuple #[Value.slice none (0 : Nat) (0 : Nat), Value.bool false, Value.int IntKind.i64 (21 : Int)]) m))
      (ifB (decide (c < (1 : Int))) (Done (MbR (beginM l c s) (Value.tuple #[Value.slice none (0 : Nat) (0 : Nat), Value.bool false, Value.int IntKind.i64 (1 : Int)]) m))
      (ifB (decide (c > (8 : Int))) (Done (MbR (beginM l c s) (Value.tuple #[Value.slice none (0 : Nat) (0 : Nat), Value.bool false, Value.int IntKind.i64 (1 : Int)]) m))
      (ifB (decide (s < (1 : Int))) (Done (MbR (beginM l c s) (Value.tuple #[Value.slice none (0 : Nat) (0 : Nat), Value.bool false, Value.int IntKind.i64 (1 : Int)]) m))
      (ifB (decide (s > (4611686018427387904 : Int)))
      (Done (MbR (beginM l c s) (Value.tuple #[Value.slice none (0 : Nat) (0 : Nat), Value.bool false, Value.int IntKind.i64 (1 : Int)]) m))
      (∃ (n : Int),
      ∃ (n_1 : Int),
      ∃ (b : Bool),
      ∃ (n_2 : Int),
      ∃ (n_3 : Int),
      ∃ (n_4 : Int),
      ∃ (n_5 : Int),
      ∃ (b_1 : Bool),
      QSpec Try.prog (19 : Nat) [Value.slice a l.length cp, Value.int IntKind.i64 c] m
      (Value.tuple
      #[Value.agg
      #[Value.int IntKind.i64 n, Value.int IntKind.i64 n_1, Value.bool b, Value.int IntKind.i64 n_2, Value.int IntKind.i64 n_3,
      Value.int IntKind.i64 n_4, Value.int IntKind.i64 n_5],
      Value.bool b_1]) ∧
      ifB b_1
      (ifB (decide (n_1 > s))
      (Done (MbR (beginM l c s) (Value.tuple #[Value.slice none (0 : Nat) (0 : Nat), Value.bool false, Value.int IntKind.i64 (80 : Int)]) m))
      (ifB b_1
      (ifB (n_1 == s)
      (∃ (S' : Nat → Prop),
      (∀ (b : Nat), S' b → m.uf b ∧ (m.sz ≤ b ∨ False)) ∧
      ∀ (n : Nat),
      m.sz ≤ n →
      SpecW Try.prog (57 : Nat) [Value.slice a l.length cp] { π := m.π, sz := n, uf := m.uf : M } S' fun (v : Value) (m' : M) =>
      ∃ (a : Option Addr),
      ∃ (n : Nat),
      ∃ (c_1 : Nat),
      v = Value.slice a n c_1 ∧
      Done (MbR (beginM l c s) (Value.tuple #[Value.slice a n c_1, Value.bool false, Value.int IntKind.i64 (0 : Int)]) m'))
      (∃ (S' : Nat → Prop),
      (∀ (b : Nat), S' b → m.uf b ∧ (m.sz ≤ b ∨ False)) ∧
      ∀ (n : Nat),
      m.sz ≤ n →
      SpecW Try.prog (80 : Nat)
      [Value.slice a l.length cp,
      Value.agg
      #[Value.int IntKind.i64 c, Value.int IntKind.i64 s, Value.bool true, Value.int IntKind.i64 (0 : Int),
      Value.int IntKind.i64 (0 : Int), Value.int IntKind.i64 (0 : Int), Value.int IntKind.i64 (0 : Int)]]
      { π := m.π, sz := n, uf := m.uf : M } S' fun (v : Value) (m' : M) =>
      ∃ (a : Option Addr),
      ∃ (n : Nat),
      ∃ (c_1 : Nat),
      v = Value.slice a n c_1 ∧
      Done (MbR (beginM l c s) (Value.tuple #[Value.slice a n c_1, Value.bool true, Value.int IntKind.i64 (0 : Int)]) m')))
      (∃ (S' : Nat → Prop),
      (∀ (b : Nat), S' b → m.uf b ∧ (m.sz ≤ b ∨ False)) ∧
      ∀ (n : Nat),
      m.sz ≤ n →
      SpecW Try.prog (80 : Nat)
      [Value.slice a l.length cp,
      Value.agg
      #[Value.int IntKind.i64 c, Value.int IntKind.i64 s, Value.bool true, Value.int IntKind.i64 (0 : Int),
      Value.int IntKind.i64 (0 : Int), Value.int IntKind.i64 (0 : Int), Value.int IntKind.i64 (0 : Int)]]
      { π := m.π, sz := n, uf := m.uf : M } S' fun (v : Value) (m' : M) =>
      ∃ (a : Option Addr),
      ∃ (n : Nat),
      ∃ (c_1 : Nat),
      v = Value.slice a n c_1 ∧
      Done (MbR (beginM l c s) (Value.tuple #[Value.slice a n c_1, Value.bool true, Value.int IntKind.i64 (0 : Int)]) m'))))
      (ifB b_1
      (ifB (n_1 == s)
      (∃ (S' : Nat → Prop),
      (∀ (b : Nat), S' b → m.uf b ∧ (m.sz ≤ b ∨ False)) ∧
      ∀ (n : Nat),
      m.sz ≤ n →
      SpecW Try.prog (57 : Nat) [Value.slice a l.length cp] { π := m.π, sz := n, uf := m.uf : M } S' fun (v : Value) (m' : M) =>
      ∃ (a : Option Addr),
      ∃ (n : Nat),
      ∃ (c_1 : Nat),
      v = Value.slice a n c_1 ∧
      Done (MbR (beginM l c s) (Value.tuple #[Value.slice a n c_1, Value.bool false, Value.int IntKind.i64 (0 : Int)]) m'))
      (∃ (S' : Nat → Prop),
      (∀ (b : Nat), S' b → m.uf b ∧ (m.sz ≤ b ∨ False)) ∧
      ∀ (n : Nat),
      m.sz ≤ n →
      SpecW Try.prog (80 : Nat)
      [Value.slice a l.length cp,
      Value.agg
      #[Value.int IntKind.i64 c, Value.int IntKind.i64 s, Value.bool true, Value.int IntKind.i64 (0 : Int),
      Value.int IntKind.i64 (0 : Int), Value.int IntKind.i64 (0 : Int), Value.int IntKind.i64 (0 : Int)]]
      { π := m.π, sz := n, uf := m.uf : M } S' fun (v : Value) (m' : M) =>
      ∃ (a : Option Addr),
      ∃ (n : Nat),
      ∃ (c_1 : Nat),
      v = Value.slice a n c_1 ∧
      Done (MbR (beginM l c s) (Value.tuple #[Value.slice a n c_1, Value.bool true, Value.int IntKind.i64 (0 : Int)]) m')))
      (∃ (S' : Nat → Prop),
      (∀ (b : Nat), S' b → m.uf b ∧ (m.sz ≤ b ∨ False)) ∧
      ∀ (n : Nat),
      m.sz ≤ n →
      SpecW Try.prog (80 : Nat)
      [Value.slice a l.length cp,
      Value.agg
      #[Value.int IntKind.i64 c, Value.int IntKind.i64 s, Value.bool true, Value.int IntKind.i64 (0 : Int),
      Value.int IntKind.i64 (0 : Int), Value.int IntKind.i64 (0 : Int), Value.int IntKind.i64 (0 : Int)]]
      { π := m.π, sz := n, uf := m.uf : M } S' fun (v : Value) (m' : M) =>
      ∃ (a : Option Addr),
      ∃ (n : Nat),
      ∃ (c_1 : Nat),
      v = Value.slice a n c_1 ∧
      Done (MbR (beginM l c s) (Value.tuple #[Value.slice a n c_1, Value.bool true, Value.int IntKind.i64 (0 : Int)]) m'))))))))) (by kernel_rfl) ?_
  refine ⟨rfl, _, scheck_q a cp l hn _ h, ?_⟩
  cases ht : tabB 0 l
  · exact ifB_true (mb_fail (by simp [beginM, ht]))
  have h8 := tab8 ht
  refine ifB_false (ifB_intro (fun h1 => mb_fail ?_) (fun h1 => ifB_intro (fun h2 => mb_fail ?_) (fun h2 => ifB_intro (fun h3 => mb_fail ?_) (fun h3 => ifB_intro (fun h4 => mb_fail ?_) (fun h4 => ?_)))))
  · have : argB c s = false := by simp at h1; simp [argB]; omega
    simp [beginM, ht, this]
  · have : argB c s = false := by simp at h2; simp [argB]; omega
    simp [beginM, ht, this]
  · have : argB c s = false := by simp at h3; simp [argB]; omega
    simp [beginM, ht, this]
  · have : argB c s = false := by simp at h4; simp [argB]; omega
    simp [beginM, ht, this]
  have ha : argB c s = true := by simp at h1 h2 h3 h4; simp [argB]; omega
  have hf : findO l c = ofM l c := by simp [findO, ht]
  refine ⟨_, _, _, _, _, _, _, _, find_q a cp l c hn _ h, ?_⟩
  rw [hf]
  cases ho : ofM l c with
  | none =>
    have hres : beginM l c s = (insM l (opM c s), true, 0) := by simp [beginM, ht, ha, ho]
    refine ifB_false (ifB_false ⟨_, noS, fun N hN => (with_s a cp l (opM c s) ht _ (h.sz hN)).monoW fun v m' hag hq => ?_⟩)
    obtain ⟨a', c', hv, hr⟩ := hq
    exact ⟨a', _, c', hv, mb_ok hres rfl hr⟩
  | some x =>
    refine ifB_true (ifB_intro (fun h5 => mb_fail ?_) (fun h5 => ifB_true (ifB_intro (fun h6 => ⟨_, noS, fun N hN => (mk_clone l a cp (by omega) (mk_none h) _ (h.sz hN)).monoW fun v m' hag hq => ?_⟩) (fun h6 => ⟨_, noS, fun N hN => (with_s a cp l (opM c s) ht _ (h.sz hN)).monoW fun v m' hag hq => ?_⟩))))
    · have h5 : s < x.sq := by simpa using h5
      simp [beginM, ht, ha, ho, h5]
    all_goals have h5 : ¬ s < x.sq := by simpa using h5
    · have h6 : x.sq = s := by simpa using h6
      obtain ⟨a', c', hv, hr⟩ := hq
      exact ⟨a', _, c', hv, mb_ok (by simp [beginM, ht, ha, ho, h6]) rfl hr.row⟩
    · have h6 : ¬ x.sq = s := by simpa using h6
      obtain ⟨a', c', hv, hr⟩ := hq
      exact ⟨a', _, c', hv, mb_ok (by simp [beginM, ht, ha, ho, h5, h6]) rfl hr⟩

theorem sopen_q (a : Option Addr) (cp : Nat) (l : List Mk) (c s : Int) (hn : l.length ≤ 9223372036854775807) (m : M) (h : Row m a (mks l)) : QSpec Try.prog 81 [.slice a l.length cp, I c, I s] m (I (openE l c s)) := by
  refine QSpec.of_vc Try.func81 (ann := fun _ => noAnn) fun n hn' => ?_
  refine vc_by (X :=
      true = true ∧
      ∃ (n_1 : Int),
      QSpec Try.prog (43 : Nat) [Value.slice a l.length cp] { π := m.π, sz := n, uf := m.uf : M } (Value.int IntKind.i64 n_1) ∧
      ifB (n_1 != (0 : Int)) (Done (Value.int IntKind.i64 (21 : Int) = Value.int IntKind.i64 (openE l c s)))
      (∃ (n_2 : Int),
      ∃ (n_3 : Int),
      ∃ (b : Bool),
      ∃ (n_4 : Int),
      ∃ (n_5 : Int),
      ∃ (n_6 : Int),
      ∃ (n_7 : Int),
      ∃ (b_1 : Bool),
      QSpec Try.prog (19 : Nat) [Value.slice a l.length cp, Value.int IntKind.i64 c] { π := m.π, sz := n, uf := m.uf : M }
      (Value.tuple
      #[Value.agg
      #[Value.int IntKind.i64 n_2, Value.int IntKind.i64 n_3, Value.bool b, Value.int IntKind.i64 n_4, Value.int IntKind.i64 n_5,
      Value.int IntKind.i64 n_6, Value.int IntKind.i64 n_7],
      Value.bool b_1]) ∧
      ifB (!b_1) (Done (Value.int IntKind.i64 (60 : Int) = Value.int IntKind.i64 (openE l c s)))
      (ifB (n_3 != s) (Done (Value.int IntKind.i64 (60 : Int) = Value.int IntKind.i64 (openE l c s)))
      (ifB (!b) (Done (Value.int IntKind.i64 (60 : Int) = Value.int IntKind.i64 (openE l c s)))
      (Done (Value.int IntKind.i64 (0 : Int) = Value.int IntKind.i64 (openE l c s))))))) (by kernel_rfl) ?_
  have h' := h.sz hn'
  refine ⟨rfl, _, scheck_q a cp l hn _ h', ?_⟩
  cases ht : tabB 0 l
  · exact ifB_true ⟨by simp [openE, ht]⟩
  refine ifB_false ⟨_, _, _, _, _, _, _, _, find_q a cp l c hn _ h', ?_⟩
  rw [show findO l c = ofM l c by simp [findO, ht]]
  cases ho : ofM l c with
  | none => exact ifB_true ⟨by simp [openE, ht, ho]⟩
  | some x =>
    refine ifB_false (ifB_intro (fun h1 => ⟨?_⟩) (fun h1 => ifB_intro (fun h2 => ⟨?_⟩) (fun h2 => ⟨?_⟩)))
    · have h1 : ¬ x.sq = s := by simpa using h1
      simp [openE, ht, ho, h1]
    · have h2 : x.op = false := by simpa using h2
      simp [openE, ht, ho, h2]
    · have h1 : x.sq = s := by simpa using h1
      have h2 : x.op = true := by simpa using h2
      simp [openE, ht, ho, h1, h2]

theorem openE_zero {l : List Mk} {c s : Int} (h : openE l c s = 0) : tabB 0 l = true ∧ ∃ x, ofM l c = some x ∧ x.sq = s ∧ x.op = true ∧ 0 < c ∧ c ≤ 8 ∧ 1 ≤ s ∧ s ≤ 4611686018427387904 := by
  unfold openE at h
  cases ht : tabB 0 l
  · rw [ht] at h; simp at h
  rw [ht] at h
  simp only [Bool.true_eq_false, if_false] at h
  cases ho : ofM l c with
  | none => rw [ho] at h; simp at h
  | some x =>
    rw [ho] at h
    simp only at h
    split at h
    · rename_i e
      obtain ⟨g1, g2, g3⟩ := ofM_ok ht ho
      simp [mkB, e.2] at g2
      exact ⟨rfl, x, rfl, e.1, e.2, g1, by omega, by omega, by omega⟩
    · simp at h

theorem send_s (a : Option Addr) (cp : Nat) (l : List Mk) (c s : Int) (an : An) (hn : l.length ≤ 9223372036854775807) (m : M) (h : Row m a (mks l)) : Vc.Spec Try.prog 61 [.slice a l.length cp, I c, I s, anv an] m (MeR (endM l c s an)) := by
  refine Vc.Spec.of_vc Try.func61 (ann := noAnn) ?_
  refine vc_by (X :=
      true = true ∧
      ∃ (n : Int),
      QSpec Try.prog (81 : Nat) [Value.slice a l.length cp, Value.int IntKind.i64 c, Value.int IntKind.i64 s] m (Value.int IntKind.i64 n) ∧
      ifB (n != (0 : Int)) (Done (MeR (endM l c s an) (Value.tuple #[Value.slice none (0 : Nat) (0 : Nat), Value.int IntKind.i64 n]) m))
      (∃ (S' : Nat → Prop),
      (∀ (b : Nat), S' b → m.uf b ∧ (m.sz ≤ b ∨ False)) ∧
      ∀ (n : Nat),
      m.sz ≤ n →
      SpecW Try.prog (80 : Nat)
      [Value.slice a l.length cp,
      Value.agg
      #[Value.int IntKind.i64 c, Value.int IntKind.i64 s, Value.bool false, Value.int IntKind.i64 an.er, Value.int IntKind.i64 an.va, Value.int IntKind.i64 an.le,
      Value.int IntKind.i64 an.mo]]
      { π := m.π, sz := n, uf := m.uf : M } S' fun (v : Value) (m' : M) =>
      ∃ (a : Option Addr),
      ∃ (n : Nat), ∃ (c_1 : Nat), v = Value.slice a n c_1 ∧ Done (MeR (endM l c s an) (Value.tuple #[Value.slice a n c_1, Value.int IntKind.i64 (0 : Int)]) m'))) (by kernel_rfl) ?_
  refine ⟨rfl, _, sopen_q a cp l c s hn _ h, ifB_intro (fun h1 => me_fail ?_) (fun h1 => ?_)⟩
  · simp at h1; simp [endM, h1]
  have h1 : openE l c s = 0 := by simpa using h1
  obtain ⟨ht, -⟩ := openE_zero h1
  refine ⟨_, noS, fun N hN => (with_s a cp l (edM c s an) ht _ (h.sz hN)).monoW fun v m' hag hq => ?_⟩
  obtain ⟨a', c', hv, hr⟩ := hq
  exact ⟨a', _, c', hv, me_ok (by simp [endM, h1]) rfl hr⟩

end Go.Proofs.Ytjjfcaigonomiaa
set_option linter.unusedVariables false
set_option linter.unusedSimpArgs false
namespace Go.Proofs.Ytjjfcaigonomiaa
open Go.Vc Go.RowKit
set_option maxRecDepth 100000

structure JoX where
  k : Nat
  a : Option Addr
  c : Nat
  m : M

structure JoI (m : M) (cur : List Mk) (y : JoX) : Prop where
  right : tabB 0 cur = true
  row : Row y.m y.a (mks cur)
  ag : Agree m.sz m y.m

theorem foldM_succ (l b : List Mk) (k : Nat) (hk : k < b.length) : foldM l (b.take (k + 1)) = stepM (foldM l (b.take k)) b[k] := by
  rw [List.take_succ_eq_append_getElem hk]
  unfold foldM
  rw [List.foldl_append]; rfl

end Go.Proofs.Ytjjfcaigonomiaa
set_option linter.unusedVariables false
set_option linter.unusedSimpArgs false
namespace Go.Proofs.Ytjjfcaigonomiaa
open Go.Vc Go.RowKit
set_option maxRecDepth 100000

theorem ofM_drop {c : Int} : ∀ {l : List Mk} {k : Nat}, k ≤ l.length → (∀ x ∈ l.take k, x.cl ≠ c) → ofM l c = ofM (l.drop k) c
  | l, 0, _, _ => by simp
  | [], k + 1, h, _ => by simp at h
  | x :: xs, k + 1, h, hl => by
    have hx := hl x (by simp)
    have ih := ofM_drop (l := xs) (k := k) (by simpa using h) fun y hy => hl y (by simp [hy])
    simp only [ofM, List.drop_succ_cons, if_neg hx, ih]

theorem rright_q (a : Option Addr) (cp : Nat) (l : List Mk) (hn : l.length ≤ 9223372036854775807) (m : M) (h : Row m a (mks l)) : QSpec Try.prog 40 [.slice a l.length cp] m (.bool (tabB 0 l)) := by
  refine QSpec.of_vc Try.func40 (ann := fun n _ => { A := Nat × Int, inv := fun y => y.1 ≤ l.length ∧ tabB 0 l = tabB y.2 (l.drop y.1) ∧ 0 ≤ y.2, st := fun y => [(4, .val (I y.1)), (0, .val (.slice a l.length cp)), (3, .val (I y.2))], own := fun _ => [], m := fun _ => { m with sz := n }, μ := fun y => l.length - y.1 }) fun n hn' => ?_
  refine vc_by (X :=
      true = true ∧
      (∃ (a_1 : Nat × Int),
      (a_1.fst ≤ l.length ∧ tabB (0 : Int) l = tabB a_1.snd (List.drop a_1.fst l) ∧ (0 : Int) ≤ a_1.snd) ∧
      { π := m.π, sz := n, uf := m.uf : M } = { π := m.π, sz := n, uf := m.uf : M } ∧
      ((SV.val (Value.int IntKind.i64 (0 : Int)) = SV.val (Value.int IntKind.i64 (↑a_1.fst : Int)) ∧ true = true) ∧
      (SV.val (Value.slice a l.length cp) = SV.val (Value.slice a l.length cp) ∧ true = true) ∧
      (SV.val (Value.int IntKind.i64 (0 : Int)) = SV.val (Value.int IntKind.i64 a_1.snd) ∧ true = true) ∧ True) ∧
      True) ∧
      ∀ (a_1 : Nat × Int),
      a_1.fst ≤ l.length ∧ tabB (0 : Int) l = tabB a_1.snd (List.drop a_1.fst l) ∧ (0 : Int) ≤ a_1.snd →
      ifB (decide ((↑a_1.fst : Int) < (↑l.length : Int)))
      (∃ (b : Nat),
      ∃ (off : Nat),
      a = some { block := b, off := off : Addr } ∧
      ((0 : Int) ≤ (↑a_1.fst : Int) ∧ (↑a_1.fst : Int) < (↑l.length : Int)) ∧
      ∃ (n_1 : Int),
      ∃ (n_2 : Int),
      ∃ (b_1 : Bool),
      ∃ (n_3 : Int),
      ∃ (n_4 : Int),
      ∃ (n_5 : Int),
      ∃ (n_6 : Int),
      CellsAt { π := m.π, sz := n, uf := m.uf : M } b (off + (↑a_1.fst : Int).toNat * (7 : Nat))
      [Value.int IntKind.i64 n_1, Value.int IntKind.i64 n_2, Value.bool b_1, Value.int IntKind.i64 n_3, Value.int IntKind.i64 n_4,
      Value.int IntKind.i64 n_5, Value.int IntKind.i64 n_6] ∧
      ifB (decide (n_1 ≤ a_1.snd)) (Done (Value.bool false = Value.bool (tabB (0 : Int) l)))
      (ifB (decide (n_1 > (8 : Int))) (Done (Value.bool false = Value.bool (tabB (0 : Int) l)))
      (ifB (decide (n_2 < (0 : Int))) (Done (Value.bool false = Value.bool (tabB (0 : Int) l)))
      (ifB (decide (n_2 > (4611686018427387904 : Int))) (Done (Value.bool false = Value.bool (tabB (0 : Int) l)))
      (ifB b_1
      (ifB (decide (n_2 < (1 : Int))) (Done (Value.bool false = Value.bool (tabB (0 : Int) l)))
      (ifB (!(n_3 == (0 : Int) && (n_4 == (0 : Int) && (n_5 == (0 : Int) && (n_6 == (0 : Int) && true)))))
      (Done (Value.bool false = Value.bool (tabB (0 : Int) l)))
      (∃ (a' : Nat × Int),
      ((a'.fst ≤ l.length ∧ tabB (0 : Int) l = tabB a'.snd (List.drop a'.fst l) ∧ (0 : Int) ≤ a'.snd) ∧
      { π := m.π, sz := n, uf := m.uf : M } = { π := m.π, sz := n, uf := m.uf : M } ∧
      ((SV.val (Value.int IntKind.i64 (IntKind.i64.wrap ((↑a_1.fst : Int) + (1 : Int)))) =
      SV.val (Value.int IntKind.i64 (↑a'.fst : Int)) ∧
      true = true) ∧
      (SV.val (Value.slice a l.length cp) = SV.val (Value.slice a l.length cp) ∧ true = true) ∧
      (SV.val (Value.int IntKind.i64 n_1) = SV.val (Value.int IntKind.i64 a'.snd) ∧ true = true) ∧ True) ∧
      True) ∧
      l.length - a'.fst < l.length - a_1.fst)))
      (∃ (a' : Nat × Int),
      ((a'.fst ≤ l.length ∧ tabB (0 : Int) l = tabB a'.snd (List.drop a'.fst l) ∧ (0 : Int) ≤ a'.snd) ∧
      { π := m.π, sz := n, uf := m.uf : M } = { π := m.π, sz := n, uf := m.uf : M } ∧
      ((SV.val (Value.int IntKind.i64 (IntKind.i64.wrap ((↑a_1.fst : Int) + (1 : Int)))) =
      SV.val (Value.int IntKind.i64 (↑a'.fst : Int)) ∧
      true = true) ∧
      (SV.val (Value.slice a l.length cp) = SV.val (Value.slice a l.length cp) ∧ true = true) ∧
      (SV.val (Value.int IntKind.i64 n_1) = SV.val (Value.int IntKind.i64 a'.snd) ∧ true = true) ∧ True) ∧
      True) ∧
      l.length - a'.fst < l.length - a_1.fst))))))
      (Done (Value.bool true = Value.bool (tabB (0 : Int) l)))) (by kernel_rfl) ?_
  have h' := h.sz hn'
  refine ⟨rfl, ⟨⟨0, 0⟩, by simp⟩, fun y ⟨hk, hq, hz⟩ => ifB_intro (fun hb => ?_) (fun hb => ⟨?_⟩)⟩
  · have hk2 : y.1 < l.length := by simpa using hb
    obtain ⟨b, o, rfl, hc⟩ := h'.cells (by rw [mk_len]; omega)
    have w1 : IntKind.i64.wrap ((y.1 : Int) + 1) = ((y.1 + 1 : Nat) : Int) := by simp [IntKind.wrap_i64]; omega
    rw [List.drop_eq_getElem_cons hk2, tabB] at hq
    have bad : (decide (y.2 < l[y.1].cl) && mkB l[y.1]) = false → Done (Value.bool false = Value.bool (tabB 0 l)) := fun e => by
      rw [e, Bool.false_and] at hq
      exact ⟨by simp [hq]⟩
    have nx : ∀ (_ : (decide (y.2 < l[y.1].cl) && mkB l[y.1]) = true), (y.1 + 1 ≤ l.length ∧ tabB 0 l = tabB l[y.1].cl (l.drop (y.1 + 1)) ∧ 0 ≤ l[y.1].cl) := fun e => by
      rw [e, Bool.true_and] at hq
      simp only [Bool.and_eq_true, decide_eq_true_eq] at e
      exact ⟨hk2, hq, by omega⟩
    refine ⟨b, o, rfl, by omega, _, _, _, _, _, _, _, by simpa using mk_at hc hk2, ifB_intro (fun h1 => bad ?_) (fun h1 => ifB_intro (fun h2 => bad ?_) (fun h2 => ifB_intro (fun h3 => bad ?_) (fun h3 => ifB_intro (fun h4 => bad ?_) (fun h4 => ifB_intro (fun h5 => ifB_intro (fun h6 => bad ?_) (fun h6 => ifB_intro (fun h7 => bad ?_) (fun h7 => ⟨⟨y.1 + 1, l[y.1].cl⟩, ⟨nx ?_, rfl, by simp [w1]⟩, by simp only; omega⟩))) (fun h5 => ⟨⟨y.1 + 1, l[y.1].cl⟩, ⟨nx ?_, rfl, by simp [w1]⟩, by simp only; omega⟩)))))⟩
    · simp at h1; simp; intro h; omega
    · simp at h2; simp [mkB]; omega
    · simp at h3; simp [mkB]; omega
    · simp at h4; simp [mkB]; omega
    · simp at h6; simp [mkB, h5]; omega
    · have e : ans0B l[y.1] = false := by
        simp only [Bool.not_eq_true', Bool.beq_eq_decide_eq, Bool.and_true] at h7
        simpa [ans0B, Bool.and_assoc] using h7
      simp [mkB, h5, e]
    · simp at h1 h2 h3 h4 h6
      have e : ans0B l[y.1] = true := by
        simp at h7
        simp [ans0B, h7]
      simp [mkB, h5, e]; omega
    · simp at h1 h2 h3 h4; simp [mkB, h5]; omega
  · have : y.1 = l.length := by simp at hb; omega
    rw [this] at hq
    simp [hq, tabB]

theorem rfind_q (a : Option Addr) (cp : Nat) (l : List Mk) (c : Int) (hn : l.length ≤ 9223372036854775807) (m : M) (h : Row m a (mks l)) : QSpec Try.prog 64 [.slice a l.length cp, I c] m (.tuple #[mkv ((findO l c).getD m0), .bool (findO l c).isSome]) := by
  refine QSpec.of_vc Try.func64 (ann := fun n _ => { A := Nat, inv := fun k => k ≤ l.length ∧ ∀ x ∈ l.take k, x.cl ≠ c, st := fun k => [(6, .val (I k)), (0, .val (.slice a l.length cp)), (1, .val (I c)), (4, .own 0 0)], own := fun _ => [(0, ⟨56, encMk m0⟩)], m := fun _ => { m with sz := n }, μ := fun k => l.length - k }) fun n hn' => ?_
  refine vc_by (X :=
      true = true ∧
      (∃ (a_1 : Nat),
      (a_1 ≤ l.length ∧ ∀ (x : Mk), x ∈ List.take a_1 l → x.cl ≠ c) ∧
      { π := m.π, sz := n, uf := m.uf : M } = { π := m.π, sz := n, uf := m.uf : M } ∧
      ((SV.val (Value.int IntKind.i64 (0 : Int)) = SV.val (Value.int IntKind.i64 (↑a_1 : Int)) ∧ true = true) ∧
      (SV.val (Value.slice a l.length cp) = SV.val (Value.slice a l.length cp) ∧ true = true) ∧
      (SV.val (Value.int IntKind.i64 c) = SV.val (Value.int IntKind.i64 c) ∧ true = true) ∧
      (SV.own ((0 : Nat) + (0 : Nat)) (0 : Nat) = SV.own (0 : Nat) (0 : Nat) ∧ true = true) ∧ True) ∧
      (some
      { ty := (56 : Nat), cs := [Value.int IntKind.i64 (0 : Int), Value.int IntKind.i64 (0 : Int), Value.bool false, Value.int IntKind.i64 (0 : Int), Value.int IntKind.i64 (0 : Int), Value.int IntKind.i64 (0 : Int), Value.int IntKind.i64 (0 : Int)] : Bx } =
      some
      { ty := (56 : TypeId), cs := [Value.int IntKind.i64 (0 : Int), Value.int IntKind.i64 (0 : Int), Value.bool false, Value.int IntKind.i64 (0 : Int), Value.int IntKind.i64 (0 : Int), Value.int IntKind.i64 (0 : Int), Value.int IntKind.i64 (0 : Int)] : Bx } ∧
      true = true) ∧
      True) ∧
      ∀ (a_1 : Nat),
      (a_1 ≤ l.length ∧ ∀ (x : Mk), x ∈ List.take a_1 l → x.cl ≠ c) →
      ∃ (b : Bool),
      QSpec Try.prog (40 : Nat) [Value.slice a l.length cp] { π := m.π, sz := n, uf := m.uf : M } (Value.bool b) ∧
      ifB b
      (ifB (decide ((↑a_1 : Int) < (↑l.length : Int)))
      (∃ (b : Nat),
      ∃ (off : Nat),
      a = some { block := b, off := off : Addr } ∧
      ((0 : Int) ≤ (↑a_1 : Int) ∧ (↑a_1 : Int) < (↑l.length : Int)) ∧
      ∃ (n_1 : Int),
      CellsAt { π := m.π, sz := n, uf := m.uf : M } b (off + (↑a_1 : Int).toNat * (7 : Nat) + (0 : Nat)) [Value.int IntKind.i64 n_1] ∧
      ifB (n_1 == c)
      (∃ (b : Nat),
      ∃ (off : Nat),
      a = some { block := b, off := off : Addr } ∧
      ((0 : Int) ≤ (↑a_1 : Int) ∧ (↑a_1 : Int) < (↑l.length : Int)) ∧
      ∃ (n_2 : Int),
      ∃ (n_3 : Int),
      ∃ (b_1 : Bool),
      ∃ (n_4 : Int),
      ∃ (n_5 : Int),
      ∃ (n_6 : Int),
      ∃ (n_7 : Int),
      CellsAt { π := m.π, sz := n, uf := m.uf : M } b (off + (↑a_1 : Int).toNat * (7 : Nat))
      [Value.int IntKind.i64 n_2, Value.int IntKind.i64 n_3, Value.bool b_1, Value.int IntKind.i64 n_4, Value.int IntKind.i64 n_5,
      Value.int IntKind.i64 n_6, Value.int IntKind.i64 n_7] ∧
      Done
      (Value.tuple
      #[Value.agg
      #[Value.int IntKind.i64 n_2, Value.int IntKind.i64 n_3, Value.bool b_1, Value.int IntKind.i64 n_4,
      Value.int IntKind.i64 n_5, Value.int IntKind.i64 n_6, Value.int IntKind.i64 n_7],
      Value.bool true] =
      Value.tuple
      #[Value.agg
      #[Value.int IntKind.i64 ((findO l c).getD m0).cl, Value.int IntKind.i64 ((findO l c).getD m0).sq,
      Value.bool ((findO l c).getD m0).op, Value.int IntKind.i64 ((findO l c).getD m0).an_er,
      Value.int IntKind.i64 ((findO l c).getD m0).an_va, Value.int IntKind.i64 ((findO l c).getD m0).an_le,
      Value.int IntKind.i64 ((findO l c).getD m0).an_mo],
      Value.bool (findO l c).isSome]))
      (∃ (a' : Nat),
      ((a' ≤ l.length ∧ ∀ (x : Mk), x ∈ List.take a' l → x.cl ≠ c) ∧
      { π := m.π, sz := n, uf := m.uf : M } = { π := m.π, sz := n, uf := m.uf : M } ∧
      ((SV.val (Value.int IntKind.i64 (IntKind.i64.wrap ((↑a_1 : Int) + (1 : Int)))) = SV.val (Value.int IntKind.i64 (↑a' : Int)) ∧ true = true) ∧
      (SV.val (Value.slice a l.length cp) = SV.val (Value.slice a l.length cp) ∧ true = true) ∧
      (SV.val (Value.int IntKind.i64 c) = SV.val (Value.int IntKind.i64 c) ∧ true = true) ∧
      (SV.own (0 : Nat) (0 : Nat) = SV.own (0 : Nat) (0 : Nat) ∧ true = true) ∧ True) ∧
      (some
      { ty := (56 : TypeId), cs := [Value.int IntKind.i64 (0 : Int), Value.int IntKind.i64 (0 : Int), Value.bool false, Value.int IntKind.i64 (0 : Int), Value.int IntKind.i64 (0 : Int), Value.int IntKind.i64 (0 : Int), Value.int IntKind.i64 (0 : Int)] : Bx } =
      some
      { ty := (56 : TypeId), cs := [Value.int IntKind.i64 (0 : Int), Value.int IntKind.i64 (0 : Int), Value.bool false, Value.int IntKind.i64 (0 : Int), Value.int IntKind.i64 (0 : Int), Value.int IntKind.i64 (0 : Int), Value.int IntKind.i64 (0 : Int)] : Bx } ∧
      true = true) ∧
      True) ∧
      l.length - a' < l.length - a_1))
      (Done
      (Value.tuple
      #[Value.agg
      #[Value.int IntKind.i64 (0 : Int), Value.int IntKind.i64 (0 : Int), Value.bool false, Value.int IntKind.i64 (0 : Int), Value.int IntKind.i64 (0 : Int),
      Value.int IntKind.i64 (0 : Int), Value.int IntKind.i64 (0 : Int)],
      Value.bool false] =
      Value.tuple
      #[Value.agg
      #[Value.int IntKind.i64 ((findO l c).getD m0).cl, Value.int IntKind.i64 ((findO l c).getD m0).sq, Value.bool ((findO l c).getD m0).op,
      Value.int IntKind.i64 ((findO l c).getD m0).an_er, Value.int IntKind.i64 ((findO l c).getD m0).an_va, Value.int IntKind.i64 ((findO l c).getD m0).an_le,
      Value.int IntKind.i64 ((findO l c).getD m0).an_mo],
      Value.bool (findO l c).isSome])))
      (Done
      (Value.tuple
      #[Value.agg
      #[Value.int IntKind.i64 (0 : Int), Value.int IntKind.i64 (0 : Int), Value.bool false, Value.int IntKind.i64 (0 : Int), Value.int IntKind.i64 (0 : Int),
      Value.int IntKind.i64 (0 : Int), Value.int IntKind.i64 (0 : Int)],
      Value.bool false] =
      Value.tuple
      #[Value.agg
      #[Value.int IntKind.i64 ((findO l c).getD m0).cl, Value.int IntKind.i64 ((findO l c).getD m0).sq, Value.bool ((findO l c).getD m0).op,
      Value.int IntKind.i64 ((findO l c).getD m0).an_er, Value.int IntKind.i64 ((findO l c).getD m0).an_va, Value.int IntKind.i64 ((findO l c).getD m0).an_le,
      Value.int IntKind.i64 ((findO l c).getD m0).an_mo],
      Value.bool (findO l c).isSome]))) (by kernel_rfl) ?_
  have h' := h.sz hn'
  refine ⟨rfl, ⟨0, by simp⟩, fun k ⟨hk, hq⟩ => ⟨_, rright_q a cp l hn _ h', ?_⟩⟩
  cases ht : tabB 0 l
  · exact ifB_false ⟨by simp [findO, ht, m0]⟩
  have hf : findO l c = ofM l c := by simp [findO, ht]
  rw [hf]
  have hd := ofM_drop hk hq
  refine ifB_true (ifB_intro (fun hb => ?_) (fun hb => ⟨?_⟩))
  · have hk2 : k < l.length := by simpa using hb
    obtain ⟨b, o, rfl, hc⟩ := h'.cells (by rw [mk_len]; omega)
    have w1 : IntKind.i64.wrap ((k : Int) + 1) = ((k + 1 : Nat) : Int) := by simp [IntKind.wrap_i64]; omega
    have c0 := CellsAt.field mk_k hc hk2 (p := []) (old := [I l[k].cl]) (q := [I l[k].sq, .bool l[k].op, I l[k].an_er, I l[k].an_va, I l[k].an_le, I l[k].an_mo]) rfl
    rw [List.drop_eq_getElem_cons hk2, ofM] at hd
    refine ⟨b, o, rfl, by omega, _, by simpa using c0, ifB_intro (fun h1 => ⟨b, o, rfl, by omega, _, _, _, _, _, _, _, by simpa using mk_at hc hk2, ⟨?_⟩⟩) (fun h1 => ⟨k + 1, ⟨⟨hk2, fun x hx => ?_⟩, by simp [w1]⟩, by omega⟩)⟩
    · have h1 : l[k].cl = c := by simpa using h1
      rw [if_pos h1] at hd
      rw [hd]
      simp
    · rw [List.take_succ_eq_append_getElem hk2, List.mem_append] at hx
      rcases hx with hx | hx
      · exact hq x hx
      · have hx : x = l[k] := by simpa using hx
        subst hx
        simpa using h1
  · have : k = l.length := by simp at hb; omega
    subst this
    simp [ofM] at hd
    rw [hd]
    simp [m0]

theorem rwith_s (a : Option Addr) (cp : Nat) (l : List Mk) (x : Mk) (ht : tabB 0 l = true) (hx : mkB x = true) (hc : 0 < x.cl) (m : M) (h : Row m a (mks l)) : Vc.Spec Try.prog 82 [.slice a l.length cp, mkv x] m (SlR (insM l x)) := by
  refine Vc.Spec.of_vc Try.func82 (ann := fun _ => { A := JoX, inv := fun y => y.k ≤ 8 ∧ NewR m.sz (fun _ => False) y.m 7 y.a (listM (withF l x) y.k 1).length y.c (mks (listM (withF l x) y.k 1)) ∧ Agree m.sz m y.m, st := fun y => [(6, .val (I ((y.k + 1 : Nat) : Int))), (0, .val (.slice a l.length cp)), (3, .own 0 0), (5, .val (.slice y.a (listM (withF l x) y.k 1).length y.c))], own := fun _ => [(0, ⟨56, encMk x⟩)], m := fun y => y.m, μ := fun y => 8 - y.k }) ?_
  refine vc_by (X :=
      true = true ∧
      (∃ (a_1 : JoX),
      (a_1.k ≤ (8 : Nat) ∧
      NewR m.sz (fun (x : Nat) => False) a_1.m (7 : Nat) a_1.a (listM (withF l x) a_1.k (1 : Int)).length a_1.c (mks (listM (withF l x) a_1.k (1 : Int))) ∧
      Agree m.sz m a_1.m) ∧
      m = a_1.m ∧
      ((SV.val (Value.int IntKind.i64 (1 : Int)) = SV.val (Value.int IntKind.i64 (↑(a_1.k + (1 : Nat)) : Int)) ∧ true = true) ∧
      (SV.val (Value.slice a l.length cp) = SV.val (Value.slice a l.length cp) ∧ true = true) ∧
      (SV.own ((0 : Nat) + (0 : Nat)) (0 : Nat) = SV.own (0 : Nat) (0 : Nat) ∧ true = true) ∧
      (SV.val (Value.slice none (0 : Nat) (0 : Nat)) = SV.val (Value.slice a_1.a (listM (withF l x) a_1.k (1 : Int)).length a_1.c) ∧ true = true) ∧ True) ∧
      (some
      { ty := (56 : Nat), cs := [Value.int IntKind.i64 x.cl, Value.int IntKind.i64 x.sq, Value.bool x.op, Value.int IntKind.i64 x.an_er, Value.int IntKind.i64 x.an_va, Value.int IntKind.i64 x.an_le, Value.int IntKind.i64 x.an_mo] : Bx } =
      some
      { ty := (56 : TypeId), cs := [Value.int IntKind.i64 x.cl, Value.int IntKind.i64 x.sq, Value.bool x.op, Value.int IntKind.i64 x.an_er, Value.int IntKind.i64 x.an_va, Value.int IntKind.i64 x.an_le, Value.int IntKind.i64 x.an_mo] : Bx } ∧
      true = true) ∧
      True) ∧
      ∀ (a_1 : JoX),
      a_1.k ≤ (8 : Nat) ∧
      NewR m.sz (fun (x : Nat) => False) a_1.m (7 : Nat) a_1.a (listM (withF l x) a_1.k (1 : Int)).length a_1.c (mks (listM (withF l x) a_1.k (1 : Int))) ∧ Agree m.sz m a_1.m →
      ifB (decide ((↑(a_1.k + (1 : Nat)) : Int) ≤ (8 : Int)))
      (∃ (n : Int),
      ∃ (n_1 : Int),
      ∃ (b : Bool),
      ∃ (n_2 : Int),
      ∃ (n_3 : Int),
      ∃ (n_4 : Int),
      ∃ (n_5 : Int),
      ∃ (b_1 : Bool),
      QSpec Try.prog (64 : Nat) [Value.slice a l.length cp, Value.int IntKind.i64 (↑(a_1.k + (1 : Nat)) : Int)] a_1.m
      (Value.tuple
      #[Value.agg
      #[Value.int IntKind.i64 n, Value.int IntKind.i64 n_1, Value.bool b, Value.int IntKind.i64 n_2, Value.int IntKind.i64 n_3,
      Value.int IntKind.i64 n_4, Value.int IntKind.i64 n_5],
      Value.bool b_1]) ∧
      ifB ((↑(a_1.k + (1 : Nat)) : Int) == x.cl)
      (true = true ∧
      ∀ (b : Nat),
      a_1.m.sz ≤ b →
      ∃ (old : List Value),
      ∃ (src : List Value),
      AppPre m.sz (fun (x : Nat) => False)
      (a_1.m.newBlock b
      [Value.int IntKind.i64 x.cl, Value.int IntKind.i64 x.sq, Value.bool x.op, Value.int IntKind.i64 x.an_er,
      Value.int IntKind.i64 x.an_va, Value.int IntKind.i64 x.an_le, Value.int IntKind.i64 x.an_mo])
      (7 : Nat) (56 : Nat) a_1.a (listM (withF l x) a_1.k (1 : Int)).length a_1.c (some { block := b, off := (0 : Nat) : Addr }) (1 : Nat) old
      src ∧
      ∀ (a' : Option Addr) (c' : Nat) (m' : M),
      AppPost Try.prog (56 : Nat)
      (a_1.m.newBlock b
      [Value.int IntKind.i64 x.cl, Value.int IntKind.i64 x.sq, Value.bool x.op, Value.int IntKind.i64 x.an_er,
      Value.int IntKind.i64 x.an_va, Value.int IntKind.i64 x.an_le, Value.int IntKind.i64 x.an_mo])
      (7 : Nat) a_1.a (listM (withF l x) a_1.k (1 : Int)).length a_1.c (1 : Nat) old src a' c' m' →
      ∃ (a'_1 : JoX),
      ((a'_1.k ≤ (8 : Nat) ∧
      NewR m.sz (fun (x : Nat) => False) a'_1.m (7 : Nat) a'_1.a (listM (withF l x) a'_1.k (1 : Int)).length a'_1.c
      (mks (listM (withF l x) a'_1.k (1 : Int))) ∧
      Agree m.sz m a'_1.m) ∧
      m' = a'_1.m ∧
      ((SV.val (Value.int IntKind.i64 (IntKind.i64.wrap ((↑(a_1.k + (1 : Nat)) : Int) + (1 : Int)))) =
      SV.val (Value.int IntKind.i64 (↑(a'_1.k + (1 : Nat)) : Int)) ∧
      true = true) ∧
      (SV.val (Value.slice a l.length cp) = SV.val (Value.slice a l.length cp) ∧ true = true) ∧
      (SV.own (0 : Nat) (0 : Nat) = SV.own (0 : Nat) (0 : Nat) ∧ true = true) ∧
      (SV.val (Value.slice a' ((listM (withF l x) a_1.k (1 : Int)).length + (1 : Nat)) c') =
      SV.val (Value.slice a'_1.a (listM (withF l x) a'_1.k (1 : Int)).length a'_1.c) ∧
      true = true) ∧
      True) ∧
      (some
      { ty := (56 : TypeId), cs := [Value.int IntKind.i64 x.cl, Value.int IntKind.i64 x.sq, Value.bool x.op, Value.int IntKind.i64 x.an_er, Value.int IntKind.i64 x.an_va, Value.int IntKind.i64 x.an_le, Value.int IntKind.i64 x.an_mo] : Bx } =
      some
      { ty := (56 : TypeId), cs := [Value.int IntKind.i64 x.cl, Value.int IntKind.i64 x.sq, Value.bool x.op, Value.int IntKind.i64 x.an_er, Value.int IntKind.i64 x.an_va, Value.int IntKind.i64 x.an_le, Value.int IntKind.i64 x.an_mo] : Bx } ∧
      true = true) ∧
      True) ∧
      (8 : Nat) - a'_1.k < (8 : Nat) - a_1.k)
      (ifB b_1
      (true = true ∧
      ∀ (b_2 : Nat),
      a_1.m.sz ≤ b_2 →
      ∃ (old : List Value),
      ∃ (src : List Value),
      AppPre m.sz (fun (x : Nat) => False)
      (a_1.m.newBlock b_2
      [Value.int IntKind.i64 n, Value.int IntKind.i64 n_1, Value.bool b, Value.int IntKind.i64 n_2, Value.int IntKind.i64 n_3,
      Value.int IntKind.i64 n_4, Value.int IntKind.i64 n_5])
      (7 : Nat) (56 : Nat) a_1.a (listM (withF l x) a_1.k (1 : Int)).length a_1.c (some { block := b_2, off := (0 : Nat) : Addr }) (1 : Nat)
      old src ∧
      ∀ (a' : Option Addr) (c' : Nat) (m' : M),
      AppPost Try.prog (56 : Nat)
      (a_1.m.newBlock b_2
      [Value.int IntKind.i64 n, Value.int IntKind.i64 n_1, Value.bool b, Value.int IntKind.i64 n_2, Value.int IntKind.i64 n_3,
      Value.int IntKind.i64 n_4, Value.int IntKind.i64 n_5])
      (7 : Nat) a_1.a (listM (withF l x) a_1.k (1 : Int)).length a_1.c (1 : Nat) old src a' c' m' →
      ∃ (a'_1 : JoX),
      ((a'_1.k ≤ (8 : Nat) ∧
      NewR m.sz (fun (x : Nat) => False) a'_1.m (7 : Nat) a'_1.a (listM (withF l x) a'_1.k (1 : Int)).length a'_1.c
      (mks (listM (withF l x) a'_1.k (1 : Int))) ∧
      Agree m.sz m a'_1.m) ∧
      m' = a'_1.m ∧
      ((SV.val (Value.int IntKind.i64 (IntKind.i64.wrap ((↑(a_1.k + (1 : Nat)) : Int) + (1 : Int)))) =
      SV.val (Value.int IntKind.i64 (↑(a'_1.k + (1 : Nat)) : Int)) ∧
      true = true) ∧
      (SV.val (Value.slice a l.length cp) = SV.val (Value.slice a l.length cp) ∧ true = true) ∧
      (SV.own (0 : Nat) (0 : Nat) = SV.own (0 : Nat) (0 : Nat) ∧ true = true) ∧
      (SV.val (Value.slice a' ((listM (withF l x) a_1.k (1 : Int)).length + (1 : Nat)) c') =
      SV.val (Value.slice a'_1.a (listM (withF l x) a'_1.k (1 : Int)).length a'_1.c) ∧
      true = true) ∧
      True) ∧
      (some
      { ty := (56 : TypeId), cs := [Value.int IntKind.i64 x.cl, Value.int IntKind.i64 x.sq, Value.bool x.op, Value.int IntKind.i64 x.an_er, Value.int IntKind.i64 x.an_va, Value.int IntKind.i64 x.an_le, Value.int IntKind.i64 x.an_mo] : Bx } =
      some
      { ty := (56 : TypeId), cs := [Value.int IntKind.i64 x.cl, Value.int IntKind.i64 x.sq, Value.bool x.op, Value.int IntKind.i64 x.an_er, Value.int IntKind.i64 x.an_va, Value.int IntKind.i64 x.an_le, Value.int IntKind.i64 x.an_mo] : Bx } ∧
      true = true) ∧
      True) ∧
      (8 : Nat) - a'_1.k < (8 : Nat) - a_1.k)
      (∃ (a' : JoX),
      ((a'.k ≤ (8 : Nat) ∧
      NewR m.sz (fun (x : Nat) => False) a'.m (7 : Nat) a'.a (listM (withF l x) a'.k (1 : Int)).length a'.c
      (mks (listM (withF l x) a'.k (1 : Int))) ∧
      Agree m.sz m a'.m) ∧
      a_1.m = a'.m ∧
      ((SV.val (Value.int IntKind.i64 (IntKind.i64.wrap ((↑(a_1.k + (1 : Nat)) : Int) + (1 : Int)))) =
      SV.val (Value.int IntKind.i64 (↑(a'.k + (1 : Nat)) : Int)) ∧
      true = true) ∧
      (SV.val (Value.slice a l.length cp) = SV.val (Value.slice a l.length cp) ∧ true = true) ∧
      (SV.own (0 : Nat) (0 : Nat) = SV.own (0 : Nat) (0 : Nat) ∧ true = true) ∧
      (SV.val (Value.slice a_1.a (listM (withF l x) a_1.k (1 : Int)).length a_1.c) =
      SV.val (Value.slice a'.a (listM (withF l x) a'.k (1 : Int)).length a'.c) ∧
      true = true) ∧
      True) ∧
      (some
      { ty := (56 : TypeId), cs := [Value.int IntKind.i64 x.cl, Value.int IntKind.i64 x.sq, Value.bool x.op, Value.int IntKind.i64 x.an_er, Value.int IntKind.i64 x.an_va, Value.int IntKind.i64 x.an_le, Value.int IntKind.i64 x.an_mo] : Bx } =
      some
      { ty := (56 : TypeId), cs := [Value.int IntKind.i64 x.cl, Value.int IntKind.i64 x.sq, Value.bool x.op, Value.int IntKind.i64 x.an_er, Value.int IntKind.i64 x.an_va, Value.int IntKind.i64 x.an_le, Value.int IntKind.i64 x.an_mo] : Bx } ∧
      true = true) ∧
      True) ∧
      (8 : Nat) - a'.k < (8 : Nat) - a_1.k)))
      (Done (SlR (insM l x) (Value.slice a_1.a (listM (withF l x) a_1.k (1 : Int)).length a_1.c) a_1.m))) (by kernel_rfl) ?_
  have h8 := tab8 ht
  refine ⟨rfl, ⟨⟨0, none, 0, m⟩, ⟨Nat.zero_le _, .nil _, Agree.refl _ _⟩, rfl, by simp [listM]⟩, fun y ⟨hk, Y, A⟩ => ifB_intro (fun h3 => ?_) (fun h3 => ?_)⟩
  · have hk2 : y.k < 8 := by simp at h3; omega
    have w1 : IntKind.i64.wrap (((y.k + 1 : Nat) : Int) + 1) = ((y.k + 1 + 1 : Nat) : Int) := by simp [IntKind.wrap_i64]; omega
    have hs := listM_succ (withF l x) y.k 1
    have hle := listM_len (withF l x) y.k 1
    have ek : (1 : Int) + (y.k : Int) = ((y.k + 1 : Nat) : Int) := by omega
    rw [ek] at hs
    have hf : findO l ((y.k + 1 : Nat) : Int) = ofM l ((y.k + 1 : Nat) : Int) := by simp [findO, ht]
    have push : ∀ (z : Mk) (b3 : Nat) (hb3 : y.m.sz ≤ b3) (hz : withF l x ((y.k + 1 : Nat) : Int) = some z), ∃ old src, AppPre m.sz (fun _ => False) (y.m.newBlock b3 (encMk z)) 7 56 y.a (listM (withF l x) y.k 1).length y.c (some ⟨b3, 0, none⟩) 1 old src ∧
        ∀ (a' : Option Addr) (c' : Nat) (m' : M), AppPost Try.prog 56 (y.m.newBlock b3 (encMk z)) 7 y.a (listM (withF l x) y.k 1).length y.c 1 old src a' c' m' →
          NewR m.sz (fun _ => False) m' 7 a' (listM (withF l x) (y.k + 1) 1).length c' (mks (listM (withF l x) (y.k + 1) 1)) ∧ Agree m.sz m m' ∧ (listM (withF l x) (y.k + 1) 1).length = (listM (withF l x) y.k 1).length + 1 := fun z b3 hb3 hz => by
      rw [hz] at hs
      obtain ⟨p1, p2⟩ := NewR.push (P := Try.prog) (e := 56) (bytes := 56) (src := encMk z) Y hb3 A.2.2 rfl rfl (by omega) mk_zr
      refine ⟨_, _, p1, fun a' c' m' hp => ?_⟩
      obtain ⟨g1, g2⟩ := p2 a' c' m' hp
      have e2 : mks (listM (withF l x) (y.k + 1) 1) = mks (listM (withF l x) y.k 1) ++ encMk z := by rw [hs]; simp [mks]
      have e3 : (listM (withF l x) (y.k + 1) 1).length = (listM (withF l x) y.k 1).length + 1 := by rw [hs]; simp
      exact ⟨by rw [e2, e3]; exact g1, A.trans g2, e3⟩
    refine ⟨_, _, _, _, _, _, _, _, rfind_q a cp l _ (by omega) _ (h.agree A), ?_⟩
    rw [hf]
    refine ifB_intro (fun h4 => ?_) (fun h4 => ?_)
    · have h4 : x.cl = ((y.k + 1 : Nat) : Int) := by have : ((y.k + 1 : Nat) : Int) = x.cl := by simpa using h4
                                                     exact this.symm
      refine ⟨rfl, fun b3 hb3 => ?_⟩
      obtain ⟨old, src, p1, p2⟩ := push x b3 hb3 (by simp [withF, h4])
      refine ⟨old, src, p1, fun a' c' m' hp => ?_⟩
      obtain ⟨g1, g2, g3⟩ := p2 a' c' m' hp
      exact ⟨⟨y.k + 1, a', c', m'⟩, ⟨⟨hk2, g1, g2⟩, rfl, by rw [w1]; simp [g3]⟩, by simp only; omega⟩
    · have h4 : ¬ x.cl = ((y.k + 1 : Nat) : Int) := fun e => by simp [← e] at h4
      have hw : withF l x ((y.k + 1 : Nat) : Int) = ofM l ((y.k + 1 : Nat) : Int) := by simp only [withF, if_neg h4]
      cases ho : ofM l ((y.k + 1 : Nat) : Int) with
      | none =>
        rw [hw, ho] at hs
        simp only [Option.toList, List.append_nil] at hs
        refine ifB_false ⟨⟨y.k + 1, y.a, y.c, y.m⟩, ⟨⟨hk2, by rw [hs]; exact Y, A⟩, rfl, by rw [w1]; simp [hs]⟩, by simp only; omega⟩
      | some z =>
        refine ifB_true ⟨rfl, fun b3 hb3 => ?_⟩
        obtain ⟨old, src, p1, p2⟩ := push z b3 hb3 (by rw [hw, ho])
        refine ⟨old, src, p1, fun a' c' m' hp => ?_⟩
        obtain ⟨g1, g2, g3⟩ := p2 a' c' m' hp
        exact ⟨⟨y.k + 1, a', c', m'⟩, ⟨⟨hk2, g1, g2⟩, rfl, by rw [w1]; simp [g3]⟩, by simp only; omega⟩
  · have : y.k = 8 := by simp at h3; omega
    rw [this] at Y ⊢
    rw [with_list ht hx hc]
    exact ⟨⟨_, _, rfl, Y.row⟩⟩

end Go.Proofs.Ytjjfcaigonomiaa
set_option linter.unusedVariables false
set_option linter.unusedSimpArgs false
namespace Go.Proofs.Ytjjfcaigonomiaa
open Go.Vc Go.RowKit
set_option maxRecDepth 100000

theorem rclient_q (c : Int) (m : M) : QSpec Try.prog 71 [I c] m (.bool (decide (1 ≤ c) && decide (c ≤ 8))) := by
  refine QSpec.of_vc Try.func71 (ann := fun _ => noAnn) fun n hn => ?_
  refine vc_by (X :=
      true = true ∧
      ifB (decide (c ≥ (1 : Int))) (Done (Value.bool (decide (c ≤ (8 : Int))) = Value.bool (decide ((1 : Int) ≤ c) && decide (c ≤ (8 : Int)))))
      (Done (Value.bool false = Value.bool (decide ((1 : Int) ≤ c) && decide (c ≤ (8 : Int)))))) (by kernel_rfl) ?_
  refine ⟨rfl, ifB_intro (fun h => ⟨?_⟩) (fun h => ⟨?_⟩)⟩
  · simp at h; simp [h]
  · simp at h; simp; omega

theorem rseq_q (s : Int) (m : M) : QSpec Try.prog 72 [I s] m (.bool (decide (1 ≤ s) && decide (s ≤ 4611686018427387904))) := by
  refine QSpec.of_vc Try.func72 (ann := fun _ => noAnn) fun n hn => ?_
  refine vc_by (X :=
      true = true ∧
      ifB (decide (s ≥ (1 : Int))) (Done (Value.bool (decide (s ≤ (4611686018427387904 : Int))) = Value.bool (decide ((1 : Int) ≤ s) && decide (s ≤ (4611686018427387904 : Int)))))
      (Done (Value.bool false = Value.bool (decide ((1 : Int) ≤ s) && decide (s ≤ (4611686018427387904 : Int)))))) (by kernel_rfl) ?_
  refine ⟨rfl, ifB_intro (fun h => ⟨?_⟩) (fun h => ⟨?_⟩)⟩
  · simp at h; simp [h]
  · simp at h; simp; omega

theorem opM_ok {c s : Int} (h : argB c s = true) : mkB (opM c s) = true ∧ 0 < c := by
  simp [argB] at h
  refine ⟨?_, by omega⟩
  show mkB ⟨c, s, true, 0, 0, 0, 0⟩ = true
  simp [mkB, ans0B]
  omega

theorem rbegin_s (a : Option Addr) (cp : Nat) (l : List Mk) (c s : Int) (hn : l.length ≤ 9223372036854775807) (m : M) (h : Row m a (mks l)) : Vc.Spec Try.prog 62 [.slice a l.length cp, I c, I s] m (MbR (beginM l c s)) := by
  refine Vc.Spec.of_vc Try.func62 (ann := noAnn) ?_
  refine vc_by (X :=
      true = true ∧
      ∃ (b : Bool),
      QSpec Try.prog (40 : Nat) [Value.slice a l.length cp] m (Value.bool b) ∧
      ifB (!b) (Done (MbR (beginM l c s) (Value.tuple #[Value.slice none (0 : Nat) (0 : Nat), Value.bool false, Value.int IntKind.i64 (21 : Int)]) m))
      (∃ (b : Bool),
      QSpec Try.prog (71 : Nat) [Value.int IntKind.i64 c] m (Value.bool b) ∧
      ifB (!b) (Done (MbR (beginM l c s) (Value.tuple #[Value.slice none (0 : Nat) (0 : Nat), Value.bool false, Value.int IntKind.i64 (1 : Int)]) m))
      (∃ (b : Bool),
      QSpec Try.prog (72 : Nat) [Value.int IntKind.i64 s] m (Value.bool b) ∧
      ifB (!b) (Done (MbR (beginM l c s) (Value.tuple #[Value.slice none (0 : Nat) (0 : Nat), Value.bool false, Value.int IntKind.i64 (1 : Int)]) m))
      (∃ (n : Int),
      ∃ (n_1 : Int),
      ∃ (b : Bool),
      ∃ (n_2 : Int),
      ∃ (n_3 : Int),
      ∃ (n_4 : Int),
      ∃ (n_5 : Int),
      ∃ (b_1 : Bool),
      QSpec Try.prog (64 : Nat) [Value.slice a l.length cp, Value.int IntKind.i64 c] m
      (Value.tuple
      #[Value.agg
      #[Value.int IntKind.i64 n, Value.int IntKind.i64 n_1, Value.bool b, Value.int IntKind.i64 n_2, Value.int IntKind.i64 n_3,
      Value.int IntKind.i64 n_4, Value.int IntKind.i64 n_5],
      Value.bool b_1]) ∧
      ifB b_1
      (ifB (decide (n_1 > s))
      (Done (MbR (beginM l c s) (Value.tuple #[Value.slice none (0 : Nat) (0 : Nat), Value.bool false, Value.int IntKind.i64 (80 : Int)]) m))
      (ifB b_1
      (ifB (n_1 == s)
      (Done (MbR (beginM l c s) (Value.tuple #[Value.slice a l.length cp, Value.bool false, Value.int IntKind.i64 (0 : Int)]) m))
      (∃ (S' : Nat → Prop),
      (∀ (b : Nat), S' b → m.uf b ∧ (m.sz ≤ b ∨ False)) ∧
      ∀ (n : Nat),
      m.sz ≤ n →
      SpecW Try.prog (82 : Nat)
      [Value.slice a l.length cp,
      Value.agg
      #[Value.int IntKind.i64 c, Value.int IntKind.i64 s, Value.bool true, Value.int IntKind.i64 (0 : Int),
      Value.int IntKind.i64 (0 : Int), Value.int IntKind.i64 (0 : Int), Value.int IntKind.i64 (0 : Int)]]
      { π := m.π, sz := n, uf := m.uf : M } S' fun (v : Value) (m' : M) =>
      ∃ (a : Option Addr),
      ∃ (n : Nat),
      ∃ (c_1 : Nat),
      v = Value.slice a n c_1 ∧
      Done
      (MbR (beginM l c s) (Value.tuple #[Value.slice a n c_1, Value.bool true, Value.int IntKind.i64 (0 : Int)]) m')))
      (∃ (S' : Nat → Prop),
      (∀ (b : Nat), S' b → m.uf b ∧ (m.sz ≤ b ∨ False)) ∧
      ∀ (n : Nat),
      m.sz ≤ n →
      SpecW Try.prog (82 : Nat)
      [Value.slice a l.length cp,
      Value.agg
      #[Value.int IntKind.i64 c, Value.int IntKind.i64 s, Value.bool true, Value.int IntKind.i64 (0 : Int),
      Value.int IntKind.i64 (0 : Int), Value.int IntKind.i64 (0 : Int), Value.int IntKind.i64 (0 : Int)]]
      { π := m.π, sz := n, uf := m.uf : M } S' fun (v : Value) (m' : M) =>
      ∃ (a : Option Addr),
      ∃ (n : Nat),
      ∃ (c_1 : Nat),
      v = Value.slice a n c_1 ∧
      Done (MbR (beginM l c s) (Value.tuple #[Value.slice a n c_1, Value.bool true, Value.int IntKind.i64 (0 : Int)]) m'))))
      (ifB b_1
      (ifB (n_1 == s)
      (Done (MbR (beginM l c s) (Value.tuple #[Value.slice a l.length cp, Value.bool false, Value.int IntKind.i64 (0 : Int)]) m))
      (∃ (S' : Nat → Prop),
      (∀ (b : Nat), S' b → m.uf b ∧ (m.sz ≤ b ∨ False)) ∧
      ∀ (n : Nat),
      m.sz ≤ n →
      SpecW Try.prog (82 : Nat)
      [Value.slice a l.length cp,
      Value.agg
      #[Value.int IntKind.i64 c, Value.int IntKind.i64 s, Value.bool true, Value.int IntKind.i64 (0 : Int),
      Value.int IntKind.i64 (0 : Int), Value.int IntKind.i64 (0 : Int), Value.int IntKind.i64 (0 : Int)]]
      { π := m.π, sz := n, uf := m.uf : M } S' fun (v : Value) (m' : M) =>
      ∃ (a : Option Addr),
      ∃ (n : Nat),
      ∃ (c_1 : Nat),
      v = Value.slice a n c_1 ∧
      Done (MbR (beginM l c s) (Value.tuple #[Value.slice a n c_1, Value.bool true, Value.int IntKind.i64 (0 : Int)]) m')))
      (∃ (S' : Nat → Prop),
      (∀ (b : Nat), S' b → m.uf b ∧ (m.sz ≤ b ∨ False)) ∧
      ∀ (n : Nat),
      m.sz ≤ n →
      SpecW Try.prog (82 : Nat)
      [Value.slice a l.length cp,
      Value.agg
      #[Value.int IntKind.i64 c, Value.int IntKind.i64 s, Value.bool true, Value.int IntKind.i64 (0 : Int),
      Value.int IntKind.i64 (0 : Int), Value.int IntKind.i64 (0 : Int), Value.int IntKind.i64 (0 : Int)]]
      { π := m.π, sz := n, uf := m.uf : M } S' fun (v : Value) (m' : M) =>
      ∃ (a : Option Addr),
      ∃ (n : Nat),
      ∃ (c_1 : Nat),
      v = Value.slice a n c_1 ∧
      Done (MbR (beginM l c s) (Value.tuple #[Value.slice a n c_1, Value.bool true, Value.int IntKind.i64 (0 : Int)]) m'))))))) (by kernel_rfl) ?_
  refine ⟨rfl, _, rright_q a cp l hn _ h, ?_⟩
  cases ht : tabB 0 l
  · exact ifB_true (mb_fail (by simp [beginM, ht]))
  have h8 := tab8 ht
  refine ifB_false ⟨_, rclient_q c _, ifB_intro (fun h1 => mb_fail ?_) (fun h1 => ⟨_, rseq_q s _, ifB_intro (fun h2 => mb_fail ?_) (fun h2 => ?_)⟩)⟩
  · have : argB c s = false := by simp at h1; simp [argB]; omega
    simp [beginM, ht, this]
  · have : argB c s = false := by simp at h2; simp [argB]; omega
    simp [beginM, ht, this]
  have ha : argB c s = true := by simp at h1 h2; simp [argB]; omega
  obtain ⟨o1, o2⟩ := opM_ok ha
  have hf : findO l c = ofM l c := by simp [findO, ht]
  refine ⟨_, _, _, _, _, _, _, _, rfind_q a cp l c hn _ h, ?_⟩
  rw [hf]
  cases ho : ofM l c with
  | none =>
    have hres : beginM l c s = (insM l (opM c s), true, 0) := by simp [beginM, ht, ha, ho]
    refine ifB_false (ifB_false ⟨_, noS, fun N hN => (rwith_s a cp l (opM c s) ht o1 o2 _ (h.sz hN)).monoW fun v m' hag hq => ?_⟩)
    obtain ⟨a', c', hv, hr⟩ := hq
    exact ⟨a', _, c', hv, mb_ok hres rfl hr⟩
  | some x =>
    refine ifB_true (ifB_intro (fun h5 => mb_fail ?_) (fun h5 => ifB_true (ifB_intro (fun h6 => ?_) (fun h6 => ⟨_, noS, fun N hN => (rwith_s a cp l (opM c s) ht o1 o2 _ (h.sz hN)).monoW fun v m' hag hq => ?_⟩))))
    · have h5 : s < x.sq := by simpa using h5
      simp [beginM, ht, ha, ho, h5]
    all_goals have h5 : ¬ s < x.sq := by simpa using h5
    · have h6 : x.sq = s := by simpa using h6
      exact mb_ok (by simp [beginM, ht, ha, ho, h6]) rfl h
    · have h6 : ¬ x.sq = s := by simpa using h6
      obtain ⟨a', c', hv, hr⟩ := hq
      exact ⟨a', _, c', hv, mb_ok (by simp [beginM, ht, ha, ho, h5, h6]) rfl hr⟩

theorem ropen_q (a : Option Addr) (cp : Nat) (l : List Mk) (c s : Int) (hn : l.length ≤ 9223372036854775807) (m : M) (h : Row m a (mks l)) : QSpec Try.prog 84 [.slice a l.length cp, I c, I s] m (I (openE l c s)) := by
  refine QSpec.of_vc Try.func84 (ann := fun _ => noAnn) fun n hn' => ?_
  refine vc_by (X :=
      true = true ∧
      ∃ (b : Bool),
      QSpec Try.prog (40 : Nat) [Value.slice a l.length cp] { π := m.π, sz := n, uf := m.uf : M } (Value.bool b) ∧
      ifB (!b) (Done (Value.int IntKind.i64 (21 : Int) = Value.int IntKind.i64 (openE l c s)))
      (∃ (n_1 : Int),
      ∃ (n_2 : Int),
      ∃ (b : Bool),
      ∃ (n_3 : Int),
      ∃ (n_4 : Int),
      ∃ (n_5 : Int),
      ∃ (n_6 : Int),
      ∃ (b_1 : Bool),
      QSpec Try.prog (64 : Nat) [Value.slice a l.length cp, Value.int IntKind.i64 c] { π := m.π, sz := n, uf := m.uf : M }
      (Value.tuple
      #[Value.agg
      #[Value.int IntKind.i64 n_1, Value.int IntKind.i64 n_2, Value.bool b, Value.int IntKind.i64 n_3, Value.int IntKind.i64 n_4,
      Value.int IntKind.i64 n_5, Value.int IntKind.i64 n_6],
      Value.bool b_1]) ∧
      ifB (!b_1) (Done (Value.int IntKind.i64 (60 : Int) = Value.int IntKind.i64 (openE l c s)))
      (ifB (n_2 != s) (Done (Value.int IntKind.i64 (60 : Int) = Value.int IntKind.i64 (openE l c s)))
      (ifB (!b) (Done (Value.int IntKind.i64 (60 : Int) = Value.int IntKind.i64 (openE l c s)))
      (Done (Value.int IntKind.i64 (0 : Int) = Value.int IntKind.i64 (openE l c s))))))) (by kernel_rfl) ?_
  have h' := h.sz hn'
  refine ⟨rfl, _, rright_q a cp l hn _ h', ?_⟩
  cases ht : tabB 0 l
  · exact ifB_true ⟨by simp [openE, ht]⟩
  refine ifB_false ⟨_, _, _, _, _, _, _, _, rfind_q a cp l c hn _ h', ?_⟩
  rw [show findO l c = ofM l c by simp [findO, ht]]
  cases ho : ofM l c with
  | none => exact ifB_true ⟨by simp [openE, ht, ho]⟩
  | some x =>
    refine ifB_false (ifB_intro (fun h1 => ⟨?_⟩) (fun h1 => ifB_intro (fun h2 => ⟨?_⟩) (fun h2 => ⟨?_⟩)))
    · have h1 : ¬ x.sq = s := by simpa using h1
      simp [openE, ht, ho, h1]
    · have h2 : x.op = false := by simpa using h2
      simp [openE, ht, ho, h2]
    · have h1 : x.sq = s := by simpa using h1
      have h2 : x.op = true := by simpa using h2
      simp [openE, ht, ho, h1, h2]

theorem edM_ok {l : List Mk} {c s : Int} {an : An} (h : openE l c s = 0) : mkB (edM c s an) = true ∧ 0 < c := by
  obtain ⟨-, x, -, -, -, g1, g2, g3, g4⟩ := openE_zero h
  refine ⟨?_, g1⟩
  show mkB ⟨c, s, false, an.er, an.va, an.le, an.mo⟩ = true
  simp [mkB]
  omega

theorem loM_ok {l : List Mk} {c s : Int} (h : openE l c s = 0) : mkB (loM c s) = true ∧ 0 < c := by
  obtain ⟨-, x, -, -, -, g1, g2, g3, g4⟩ := openE_zero h
  refine ⟨?_, g1⟩
  show mkB ⟨c, s - 1, false, 80, 0, 0, 0⟩ = true
  simp [mkB]
  omega

theorem rend_s (a : Option Addr) (cp : Nat) (l : List Mk) (c s : Int) (an : An) (hn : l.length ≤ 9223372036854775807) (m : M) (h : Row m a (mks l)) : Vc.Spec Try.prog 70 [.slice a l.length cp, I c, I s, anv an] m (MeR (endM l c s an)) := by
  refine Vc.Spec.of_vc Try.func70 (ann := noAnn) ?_
  refine vc_by (X :=
      true = true ∧
      ∃ (n : Int),
      QSpec Try.prog (84 : Nat) [Value.slice a l.length cp, Value.int IntKind.i64 c, Value.int IntKind.i64 s] m (Value.int IntKind.i64 n) ∧
      ifB (n != (0 : Int)) (Done (MeR (endM l c s an) (Value.tuple #[Value.slice none (0 : Nat) (0 : Nat), Value.int IntKind.i64 n]) m))
      (∃ (S' : Nat → Prop),
      (∀ (b : Nat), S' b → m.uf b ∧ (m.sz ≤ b ∨ False)) ∧
      ∀ (n : Nat),
      m.sz ≤ n →
      SpecW Try.prog (82 : Nat)
      [Value.slice a l.length cp,
      Value.agg
      #[Value.int IntKind.i64 c, Value.int IntKind.i64 s, Value.bool false, Value.int IntKind.i64 an.er, Value.int IntKind.i64 an.va, Value.int IntKind.i64 an.le,
      Value.int IntKind.i64 an.mo]]
      { π := m.π, sz := n, uf := m.uf : M } S' fun (v : Value) (m' : M) =>
      ∃ (a : Option Addr),
      ∃ (n : Nat), ∃ (c_1 : Nat), v = Value.slice a n c_1 ∧ Done (MeR (endM l c s an) (Value.tuple #[Value.slice a n c_1, Value.int IntKind.i64 (0 : Int)]) m'))) (by kernel_rfl) ?_
  refine ⟨rfl, _, ropen_q a cp l c s hn _ h, ifB_intro (fun h1 => me_fail ?_) (fun h1 => ?_)⟩
  · simp at h1; simp [endM, h1]
  have h1 : openE l c s = 0 := by simpa using h1
  obtain ⟨ht, -⟩ := openE_zero h1
  obtain ⟨o1, o2⟩ := edM_ok (an := an) h1
  refine ⟨_, noS, fun N hN => (rwith_s a cp l (edM c s an) ht o1 o2 _ (h.sz hN)).monoW fun v m' hag hq => ?_⟩
  obtain ⟨a', c', hv, hr⟩ := hq
  exact ⟨a', _, c', hv, me_ok (by simp [endM, h1]) rfl hr⟩

def joF (l b : List Mk) (c : Int) : Option Mk := joinO (ofM l c) (ofM b c)

end Go.Proofs.Ytjjfcaigonomiaa
set_option linter.unusedVariables false
set_option linter.unusedSimpArgs false
namespace Go.Proofs.Ytjjfcaigonomiaa
open Go.Vc Go.RowKit
set_option maxRecDepth 100000

def mk71 : Mk := ⟨71, 0, false, 0, 0, 0, 0⟩

abbrev marks : List Value := encMk mk71 ++ encMk mk71

/-- a list of its own, with marks behind its end -/
structure OwnR (l : List Mk) (v : Value) (m' : M) : Prop where
  out : ∃ b, v = .slice (some ⟨b, 0, none⟩) l.length (l.length + 2) ∧ Row m' (some ⟨b, 0, none⟩) (mks l ++ marks)

theorem begin_len (l : List Mk) (c s : Int) : (beginM l c s).1.length ≤ 9 := by
  unfold beginM
  cases ht : tabB 0 l
  · simp
  have := tab8 ht
  simp only [Bool.true_eq_false, if_false]
  split
  · simp
  · have := mins_len (opM c s) l
    split
    · simp only; omega
    · split
      · simp
      · split <;> simp only <;> omega

theorem end_len (l : List Mk) (c s : Int) (an : An) : (endM l c s an).1.length ≤ 9 := by
  unfold endM
  split
  · simp
  · rename_i h
    obtain ⟨ht, -⟩ := openE_zero (Decidable.not_not.1 h)
    have := tab8 ht
    have := mins_len (edM c s an) l
    simp only; omega

theorem lose_len (l : List Mk) (c s : Int) : (loseM l c s).1.length ≤ 9 := by
  unfold loseM
  split
  · simp
  · rename_i h
    obtain ⟨ht, -⟩ := openE_zero (Decidable.not_not.1 h)
    have := tab8 ht
    have := mins_len (loM c s) l
    simp only; omega

theorem join_len (a b : List Mk) : (joinM a b).1.length ≤ 8 := by
  unfold joinM
  split
  · simp
  · rename_i h
    have ha : tabB 0 a = true := by cases h' : tabB 0 a; simp [h'] at h; rfl
    have hb : tabB 0 b = true := by cases h' : tabB 0 b; simp [h'] at h; rfl
    exact tab8 (fold_ok ha hb)

end Go.Proofs.Ytjjfcaigonomiaa
set_option linter.unusedVariables false
set_option linter.unusedSimpArgs false
namespace Go.Proofs.Ytjjfcaigonomiaa
open Go.Vc Go.RowKit
set_option maxRecDepth 100000

theorem begin_cases (l : List Mk) (c s : Int) : ((beginM l c s).2.1 = false ∧ ((beginM l c s).2.2 = 0 → (beginM l c s).1 = l ∧ tabB 0 l = true) ∧ ((beginM l c s).2.2 ≠ 0 → (beginM l c s).1 = [])) ∨
    (tabB 0 l = true ∧ argB c s = true ∧ beginM l c s = (insM l (opM c s), true, 0) ∧ ∀ z, ofM l c = some z → z.sq < s) := by
  unfold beginM
  cases ht : tabB 0 l
  · left; simp
  cases ha : argB c s
  · left; simp
  simp only [Bool.true_eq_false, if_false]
  cases ho : ofM l c with
  | none => right; simp
  | some x =>
    simp only
    split
    · left; simp
    · split
      · left; simp
      · right; simp; omega

/-- behind a fresh beginning -/
structure Fr (l : List Mk) (c s : Int) (b : List Mk) : Prop where
  tab : tabB 0 l = true
  arg : 1 ≤ c ∧ c ≤ 8 ∧ 1 ≤ s ∧ s ≤ 4611686018427387904
  eq : b = insM l (opM c s)
  old : ∀ z, ofM l c = some z → z.sq < s
  btab : tabB 0 b = true
  own : ofM b c = some (opM c s)
  other : ∀ c', c' ≠ c → ofM b c' = ofM l c'

theorem fresh_of {l : List Mk} {c s : Int} (ht : tabB 0 l = true) (ha : argB c s = true) (ho : ∀ z, ofM l c = some z → z.sq < s) : Fr l c s (insM l (opM c s)) := by
  obtain ⟨o1, o2⟩ := opM_ok ha
  refine ⟨ht, by simp [argB] at ha; omega, rfl, ho, ins_tab o1 o2 ht, ?_, fun c' hc => ?_⟩
  · rw [ins_of c ht]; exact if_pos rfl
  · rw [ins_of c' ht]; exact if_neg (fun e => hc e.symm)

theorem open_fresh {l b : List Mk} {c s : Int} (h : Fr l c s b) : openE b c s = 0 := by
  simp [openE, h.btab, h.own, opM]

theorem begin_at {l : List Mk} {c s : Int} {x : Mk} (ht : tabB 0 l = true) (hx : ofM l c = some x) (hs : s ≤ x.sq) : (beginM l c s).2.1 = false := by
  rcases begin_cases l c s with h | ⟨-, -, -, h⟩
  · exact h.1
  · have := h x hx; omega

theorem begin_eq {l : List Mk} {c s : Int} {x : Mk} (ht : tabB 0 l = true) (ha : argB c s = true) (hx : ofM l c = some x) (hs : x.sq = s) : beginM l c s = (l, false, 0) := by
  simp [beginM, ht, ha, hx, hs]

theorem begin_up {l : List Mk} {c s : Int} {x : Mk} (ht : tabB 0 l = true) (ha : argB c s = true) (hx : ofM l c = some x) (hs : x.sq < s) : beginM l c s = (insM l (opM c s), true, 0) := by
  simp [beginM, ht, ha, hx, show ¬ s < x.sq by omega, show ¬ x.sq = s by omega]

theorem fr_arg {l b : List Mk} {c s : Int} (h : Fr l c s b) : argB c s = true := by
  have := h.arg; simp [argB]; omega

theorem ins_same_len {l : List Mk} {m : Mk} (ht : tabB 0 l = true) (h : (ofM l m.cl).isSome = true) : (insM l m).length = l.length := by
  rw [ins_set ht h, List.length_set]

/-- what a lost number leaves -/
theorem lose_law {l b : List Mk} {c s : Int} (h : Fr l c s b) : loseM b c s = (insM b (loM c s), 0) ∧ tabB 0 (insM b (loM c s)) = true ∧ beginM (insM b (loM c s)) c s = (b, true, 0) ∧
    ∀ w, (beginM (insM b (loM c s)) c w).2.1 = true → s ≤ w := by
  have h0 := open_fresh h
  obtain ⟨o1, o2⟩ := loM_ok h0
  have ht : tabB 0 (insM b (loM c s)) = true := ins_tab o1 o2 h.btab
  have hx : ofM (insM b (loM c s)) c = some (loM c s) := by rw [ins_of c h.btab]; exact if_pos rfl
  refine ⟨by simp [loseM, h0], ht, ?_, fun w hw => ?_⟩
  · rw [begin_up ht (fr_arg h) hx (by show s - 1 < s; omega)]
    obtain ⟨p1, p2⟩ := opM_ok (fr_arg h)
    have e : insM (insM b (loM c s)) (opM c s) = b := by
      refine tab_ext (ins_tab p1 p2 ht) h.btab fun c' => ?_
      rw [ins_of c' ht, ins_of c' h.btab]
      show (if c = c' then _ else if c = c' then _ else _) = _
      by_cases e : c = c'
      · subst e; rw [if_pos rfl, h.own]
      · rw [if_neg e, if_neg e]
    rw [e]
  · rcases begin_cases (insM b (loM c s)) c w with g | ⟨-, -, -, g⟩
    · rw [g.1] at hw; cases hw
    · have := g _ hx
      have e : (loM c s).sq = s - 1 := rfl
      omega

/-- what has ended -/
theorem end_law {l b : List Mk} {c s : Int} {an : An} (h : Fr l c s b) : endM b c s an = (insM b (edM c s an), 0) ∧ tabB 0 (insM b (edM c s an)) = true ∧ ofM (insM b (edM c s an)) c = some (edM c s an) ∧
    beginM (insM b (edM c s an)) c s = (insM b (edM c s an), false, 0) := by
  have h0 := open_fresh h
  obtain ⟨o1, o2⟩ := edM_ok (an := an) h0
  have ht : tabB 0 (insM b (edM c s an)) = true := ins_tab o1 o2 h.btab
  have hx : ofM (insM b (edM c s an)) c = some (edM c s an) := by rw [ins_of c h.btab]; exact if_pos rfl
  exact ⟨by simp [endM, h0], ht, hx, begin_eq ht (fr_arg h) hx rfl⟩

theorem joinO_up {x : Mk} {y : Option Mk} : ∃ z, joinO (some x) y = some z ∧ x.sq ≤ z.sq := by
  cases y with
  | none => exact ⟨x, rfl, Int.le_refl _⟩
  | some y =>
    simp only [joinO]
    split
    · rename_i h; exact ⟨y, rfl, by omega⟩
    · exact ⟨x, rfl, Int.le_refl _⟩

theorem joinO_up2 {x : Mk} {y : Option Mk} : ∃ z, joinO y (some x) = some z ∧ x.sq ≤ z.sq := by
  cases y with
  | none => exact ⟨x, rfl, Int.le_refl _⟩
  | some y =>
    simp only [joinO]
    split
    · exact ⟨x, rfl, Int.le_refl _⟩
    · rename_i h; exact ⟨y, rfl, by omega⟩

theorem once_law {a b : List Mk} {c s : Int} {x : Mk} (ha : tabB 0 a = true) (hb : tabB 0 b = true) (hx : ofM a c = some x) (hs : x.sq = s) :
    (beginM (foldM a b) c s).2.1 = false ∧ (beginM (foldM b a) c s).2.1 = false := by
  constructor
  · obtain ⟨z, h1, h2⟩ := joinO_up (x := x) (y := ofM b c)
    exact begin_at (fold_ok ha hb) (by rw [fold_at ha hb, hx]; exact h1) (by omega)
  · obtain ⟨z, h1, h2⟩ := joinO_up2 (x := x) (y := ofM b c)
    exact begin_at (fold_ok hb ha) (by rw [fold_at hb ha, hx]; exact h1) (by omega)

theorem find_other {l : List Mk} {m : Mk} (ht : tabB 0 l = true) (hm : mkB m = true) (hc : 0 < m.cl) {o : Int} (ho : o ≠ m.cl) : findO (insM l m) o = findO l o := by
  simp only [findO, ht, ins_tab hm hc ht, if_true]
  rw [ins_of o ht, if_neg (fun e => ho e.symm)]

/-- what is done for one client -/
theorem others_law (l : List Mk) (c s o : Int) (an : An) (hne : c ≠ o) (h0 : (beginM l c s).2.2 = 0) : findO (beginM l c s).1 o = findO l o ∧
    ((endM (beginM l c s).1 c s an).2 ≠ 0 → (endM (beginM l c s).1 c s an).1 = []) ∧
    ((endM (beginM l c s).1 c s an).2 = 0 → findO (endM (beginM l c s).1 c s an).1 o = findO l o ∧ (endM (beginM l c s).1 c s an).1.length = (beginM l c s).1.length) := by
  have hb : findO (beginM l c s).1 o = findO l o := by
    rcases begin_cases l c s with ⟨-, h, -⟩ | ⟨h1, h2, h3, -⟩
    · rw [(h h0).1]
    · rw [h3]
      obtain ⟨o1, o2⟩ := opM_ok h2
      exact find_other h1 o1 o2 (fun e => hne e.symm)
  refine ⟨hb, fun h => ?_, fun h => ?_⟩
  · unfold endM at h ⊢
    split
    · rfl
    · rename_i g; rw [if_neg g] at h; exact absurd rfl h
  · unfold endM at h ⊢
    split
    · rename_i g; rw [if_pos g] at h; exact absurd h g
    · rename_i g
      have g : openE (beginM l c s).1 c s = 0 := Decidable.not_not.1 g
      obtain ⟨ht, x, hx, -⟩ := openE_zero g
      obtain ⟨o1, o2⟩ := edM_ok (an := an) g
      refine ⟨?_, ins_same_len ht (by show (ofM _ c).isSome = true; rw [hx]; rfl)⟩
      show findO (insM _ _) o = _
      rw [find_other ht o1 o2 (fun e => hne e.symm), hb]

end Go.Proofs.Ytjjfcaigonomiaa
set_option linter.unusedVariables false
set_option linter.unusedSimpArgs false
namespace Go.Proofs.Ytjjfcaigonomiaa
open Go.Vc Go.RowKit Go.ChangeShapes Go.WideShapes Go.ChangeAt
set_option maxRecDepth 100000

structure Ef where
  kd : Int
  cl : Int
  sq : Int
  an_er : Int
  an_va : Int
  an_le : Int
  an_mo : Int

def Ef.wf (x : Ef) : Prop := In64 x.kd ∧ In64 x.cl ∧ In64 x.sq ∧ In64 x.an_er ∧ In64 x.an_va ∧ In64 x.an_le ∧ In64 x.an_mo

abbrev encEf (x : Ef) : List Value := [I x.kd, I x.cl, I x.sq, I x.an_er, I x.an_va, I x.an_le, I x.an_mo]

abbrev efv (x : Ef) : Value := .agg #[I x.kd, I x.cl, I x.sq, I x.an_er, I x.an_va, I x.an_le, I x.an_mo]

abbrev efs (l : List Ef) : List Value := l.flatMap encEf

theorem ef_k (x : Ef) : (encEf x).length = 7 := rfl

theorem ef_len (l : List Ef) : (efs l).length = l.length * 7 := flat_len ef_k l

theorem ef_at {m : M} {b o i : Nat} {l : List Ef} (h : CellsAt m b o (efs l)) (hi : i < l.length) : CellsAt m b (o + i * 7) (encEf l[i]) := CellsAt.elem ef_k l o i hi h

theorem ef_ext {a b : Ef} : a = b ↔ a.kd = b.kd ∧ a.cl = b.cl ∧ a.sq = b.sq ∧ a.an_er = b.an_er ∧ a.an_va = b.an_va ∧ a.an_le = b.an_le ∧ a.an_mo = b.an_mo := by
  cases a; cases b; simp

instance : DecidableEq Ef := fun _ _ => decidable_of_iff' _ ef_ext

theorem ef_one (l : List Ef) : oneCells (efs l) = true := by
  rw [oneCells_iff]; intro v hv
  obtain ⟨w, -, hw⟩ := List.mem_flatMap.1 hv
  exact oneCells_iff.1 (rfl : oneCells (encEf w) = true) v hw

theorem ef_zr (k : Nat) : (zeroRow Try.prog 45 k).length = k * 7 := zrLen (by kernel_rfl) k

theorem ef_cells : Try.prog.cellsOf 45 = 7 := by kernel_rfl

theorem ef_rd {m : M} {N d : Nat} {cs : List Value} (h : Rd Try.prog m N (d + 3) 45 cs) (hN : N ≤ 9223372036854775807) : ∃ x : Ef, cs = encEf x ∧ x.wf := by
  have hc1 := (by kernel_rfl : Try.prog.cellsOf 3 = 1)
  have hc2 := (by kernel_rfl : Try.prog.cellsOf 32 = 1)
  have hc3 := (by kernel_rfl : Try.prog.cellsOf 43 = 4)
  simp only [Rd, Try.underlying45, Try.underlying3, Try.underlying32, Try.underlying43, fieldsD, ef_cells, hc1, hc2, hc3] at h
  obtain ⟨hl, ⟨k1, e1, w1⟩, ⟨k2, e2, w2⟩, ⟨k3, e3, w3⟩, ⟨-, ⟨k4, e4, w4⟩, ⟨k5, e5, w5⟩, ⟨k6, e6, w6⟩, ⟨k7, e7, w7⟩, -⟩, -⟩ := h
  obtain ⟨c1, c2, c3, c4, c5, c6, c7, rfl⟩ : ∃ c1 c2 c3 c4 c5 c6 c7, cs = [c1, c2, c3, c4, c5, c6, c7] := by
    match cs, hl with
    | [c1, c2, c3, c4, c5, c6, c7], _ => exact ⟨_, _, _, _, _, _, _, rfl⟩
  simp at e1 e2 e3 e4 e5 e6 e7
  subst e1 e2 e3 e4 e5 e6 e7
  exact ⟨⟨k1, k2, k3, k4, k5, k6, k7⟩, rfl, in64_of w1, in64_of w2, in64_of w3, in64_of w4, in64_of w5, in64_of w6, in64_of w7⟩

theorem open_ef {H : Type} {enc : TypeId × Value → H} {W : World} {r : Reach} {b0 : Nat} {v : Value} {d : DataW H} {p : List MemPlace} {N : Nat} {Bd : DataW H → Prop} (B : Bound N Bd) (hN : N ≤ 9223372036854775807) (hv : Value.okWide Try.prog W r b0 45 v) (h : DataW.Trod enc Try.prog W 0 (fun _ => true) true 45 v d p) (hb : Bd d) : ∃ x : Ef, v = efv x ∧ x.wf := by
  obtain ⟨cs, rfl, hl⟩ := open_agg Try.underlying45 ef_cells hv
  obtain ⟨fuel, hf⟩ := h
  have hr := rd_of_trod B 3 fuel 45 _ _ hf hb
  simp only [Value.cells] at hr
  obtain ⟨x, he, hw⟩ := ef_rd (d := 0) hr hN
  exact ⟨x, by rw [show cs = encEf x from he], hw⟩

theorem open_efs {H : Type} {enc : TypeId × Value → H} {W : World} {r : Reach} {b0 : Nat} {v : Value} {d : DataW H} {p : List MemPlace} {N : Nat} {Bd : DataW H → Prop} (B : Bound N Bd) (hN : N ≤ 9223372036854775807) (hv : Value.okWide Try.prog W r b0 31 v) (h : DataW.Trod enc Try.prog W 0 (fun _ => true) true 31 v d p) (hb : Bd d) :
    ∃ (a : Option Addr) (c : Nat) (z : List Ef), v = .slice a z.length c ∧ z.length ≤ N ∧ (∀ x ∈ z, x.wf) ∧ (a = none → z = []) ∧ Row (M.all W) a (efs z) := by
  obtain ⟨a, len, cap, rfl⟩ := okWide_slice Try.underlying31 hv
  obtain ⟨fuel, hf⟩ := h
  have hr := rd_of_trod B 4 fuel 31 _ _ hf hb
  rw [Rd] at hr
  simp only [Try.underlying31] at hr
  obtain ⟨a', cap', rows, hcs, h1, h2, h3, h4, h5⟩ := hr
  obtain ⟨z, hz, he, hi⟩ := rows_list (α := Ef) (e := encEf) (p := Ef.wf) rows fun r hr => ef_rd (d := 0) (h4 r hr).2 hN
  simp [Value.cells] at hcs
  obtain ⟨rfl, rfl, rfl⟩ := hcs
  rw [he] at h5
  exact ⟨a, cap, z, by rw [hz], by omega, hi, fun e => List.eq_nil_of_length_eq_zero (by have := h3 e; omega), h5⟩

theorem ef_plain (a a2 : Option Addr) (c c2 : Nat) (l l2 : List Ef) (hn1 : l.length ≤ 9223372036854775807) (m : M) (h : Row m a (efs l)) (h2 : Row m a2 (efs l2)) :
    QSpec Try.prog 14 [.slice a l.length c, .slice a2 l2.length c2] m (.bool (decide (l = l2))) := by
  refine QSpec.of_vc Try.func14 (ann := fun n _ => { A := Nat, inv := fun k => k ≤ l.length ∧ l.take k = l2.take k, st := fun k => [(5, .val (I k)), (0, .val (.slice a l.length c)), (1, .val (.slice a2 l2.length c2))], own := fun _ => [], m := fun _ => { m with sz := n }, μ := fun k => (l.length - k) }) fun n hn => ?_
  refine vc_by (X :=
      true = true ∧
      ifB ((↑l.length : Int) != (↑l2.length : Int)) (Done (Value.bool false = Value.bool (decide (l = l2))))
      ((∃ (a_1 : Nat),
      (a_1 ≤ l.length ∧ List.take a_1 l = List.take a_1 l2) ∧
      { π := m.π, sz := n, uf := m.uf : M } = { π := m.π, sz := n, uf := m.uf : M } ∧
      ((SV.val (Value.int IntKind.i64 (0 : Int)) = SV.val (Value.int IntKind.i64 (↑a_1 : Int)) ∧ true = true) ∧
      (SV.val (Value.slice a l.length c) = SV.val (Value.slice a l.length c) ∧ true = true) ∧
      (SV.val (Value.slice a2 l2.length c2) = SV.val (Value.slice a2 l2.length c2) ∧ true = true) ∧ True) ∧
      True) ∧
      ∀ (a_1 : Nat),
      a_1 ≤ l.length ∧ List.take a_1 l = List.take a_1 l2 →
      ifB (decide ((↑a_1 : Int) < (↑l.length : Int)))
      (true = true ∧
      ∃ (b : Nat),
      ∃ (off : Nat),
      a = some { block := b, off := off : Addr } ∧
      ((0 : Int) ≤ (↑a_1 : Int) ∧ (↑a_1 : Int) < (↑l.length : Int)) ∧
      ∃ (n_1 : Int),
      ∃ (n_2 : Int),
      ∃ (n_3 : Int),
      ∃ (n_4 : Int),
      ∃ (n_5 : Int),
      ∃ (n_6 : Int),
      ∃ (n_7 : Int),
      CellsAt { π := m.π, sz := n, uf := m.uf : M } b (off + (↑a_1 : Int).toNat * (7 : Nat))
      [Value.int IntKind.i64 n_1, Value.int IntKind.i64 n_2, Value.int IntKind.i64 n_3, Value.int IntKind.i64 n_4, Value.int IntKind.i64 n_5,
      Value.int IntKind.i64 n_6, Value.int IntKind.i64 n_7] ∧
      ∃ (b : Nat),
      ∃ (off : Nat),
      a2 = some { block := b, off := off : Addr } ∧
      ((0 : Int) ≤ (↑a_1 : Int) ∧ (↑a_1 : Int) < (↑l2.length : Int)) ∧
      ∃ (n_8 : Int),
      ∃ (n_9 : Int),
      ∃ (n_10 : Int),
      ∃ (n_11 : Int),
      ∃ (n_12 : Int),
      ∃ (n_13 : Int),
      ∃ (n_14 : Int),
      CellsAt { π := m.π, sz := n, uf := m.uf : M } b (off + (↑a_1 : Int).toNat * (7 : Nat))
      [Value.int IntKind.i64 n_8, Value.int IntKind.i64 n_9, Value.int IntKind.i64 n_10, Value.int IntKind.i64 n_11,
      Value.int IntKind.i64 n_12, Value.int IntKind.i64 n_13, Value.int IntKind.i64 n_14] ∧
      ifB
      (!(n_1 == n_8 &&
      (n_2 == n_9 &&
      (n_3 == n_10 && (n_4 == n_11 && (n_5 == n_12 && (n_6 == n_13 && (n_7 == n_14 && true))) && true)))))
      (Done (Value.bool false = Value.bool (decide (l = l2))))
      (∃ (a' : Nat),
      ((a' ≤ l.length ∧ List.take a' l = List.take a' l2) ∧
      { π := m.π, sz := n, uf := m.uf : M } = { π := m.π, sz := n, uf := m.uf : M } ∧
      ((SV.val (Value.int IntKind.i64 (IntKind.i64.wrap ((↑a_1 : Int) + (1 : Int)))) =
      SV.val (Value.int IntKind.i64 (↑a' : Int)) ∧
      true = true) ∧
      (SV.val (Value.slice a l.length c) = SV.val (Value.slice a l.length c) ∧ true = true) ∧
      (SV.val (Value.slice a2 l2.length c2) = SV.val (Value.slice a2 l2.length c2) ∧ true = true) ∧ True) ∧
      True) ∧
      l.length - a' < l.length - a_1))
      (Done (Value.bool true = Value.bool (decide (l = l2)))))) (by kernel_rfl) ?_
  have h' := h.sz hn
  have h2' := h2.sz hn
  refine ⟨rfl, ifB_intro (fun hb => ⟨?_⟩) (fun hb => ⟨⟨0, by simp⟩, fun k hk => ifB_intro (fun hb2 => ?_) (fun hb2 => ⟨?_⟩)⟩)⟩
  · have : l ≠ l2 := fun e => by subst e; simp at hb
    simp [this]
  · have hlen : l.length = l2.length := by simp at hb; omega
    have hk2 : k < l.length := by simpa using hb2
    obtain ⟨b, o, rfl, hc⟩ := h'.cells (by rw [ef_len]; omega)
    obtain ⟨b2, o2, rfl, hc2⟩ := h2'.cells (by rw [ef_len]; omega)
    have w1 : IntKind.i64.wrap ((k : Int) + 1) = ((k + 1 : Nat) : Int) := by simp [IntKind.wrap_i64]; omega
    refine ⟨rfl, b, o, rfl, by omega, _, _, _, _, _, _, _, by simpa using ef_at hc hk2, b2, o2, rfl, by omega, _, _, _, _, _, _, _, by simpa using ef_at hc2 (by omega : k < l2.length), ifB_intro (fun h3 => ⟨?_⟩) (fun h3 => ⟨k + 1, ⟨⟨hk2, ?_⟩, by simp [w1]⟩, by omega⟩)⟩
    · have : l ≠ l2 := fun e => by subst e; simp at h3
      simp [this]
    · have h3 : l[k] = l2[k] := by rw [ef_ext]; simpa [and_assoc] using h3
      rw [List.take_succ_eq_append_getElem hk2, List.take_succ_eq_append_getElem (by omega : k < l2.length), hk.2, h3]
  · have hlen : l.length = l2.length := by simp at hb; omega
    have : k = l.length := by simp at hb2; omega
    have e := hk.2
    rw [this, List.take_length, hlen, List.take_length] at e
    simp [e]

end Go.Proofs.Ytjjfcaigonomiaa
set_option linter.unusedVariables false
set_option linter.unusedSimpArgs false
namespace Go.Proofs.Ytjjfcaigonomiaa
open Go.Vc Go.RowKit
set_option maxRecDepth 100000

theorem ifB_false' {b : Bool} {X Y : Prop} (h : b = false) (hy : Y) : ifB b X Y := by subst h; exact hy

theorem ifB_true' {b : Bool} {X Y : Prop} (h : b = true) (hx : X) : ifB b X Y := by subst h; exact hx

/-- a chart -/
structure Ct where
  ix : Int
  ps : List Pl
  nx : Int
  la : Int
  nu : Int
  fr : Int
  to : Int
  lo : ByteArray
  hi : ByteArray
  cl : Int
  sq : Int
  ms : List Mk

/-- where a chart's lists stand -/
structure Ca where
  ap : Option Addr
  cp : Nat
  am : Option Addr
  cm : Nat

abbrev encCt (x : Ct) (a : Ca) : List Value := [I x.ix, .slice a.ap x.ps.length a.cp, I x.nx, I x.la, I x.nu, I x.fr, I x.to, .string x.lo, .string x.hi, I x.cl, I x.sq, .slice a.am x.ms.length a.cm]

abbrev ctv (x : Ct) (a : Ca) : Value := .agg #[I x.ix, .slice a.ap x.ps.length a.cp, I x.nx, I x.la, I x.nu, I x.fr, I x.to, .string x.lo, .string x.hi, I x.cl, I x.sq, .slice a.am x.ms.length a.cm]

/-- its lists are known -/
structure CtR (m : M) (x : Ct) (a : Ca) : Prop where
  ps : Row m a.ap (pls x.ps)
  ms : Row m a.am (mks x.ms)

theorem CtR.of {m m' : M} {x : Ct} {a : Ca} (h : CtR m x a) (e : ∀ a cs, Row m a cs → Row m' a cs) : CtR m' x a := ⟨e _ _ h.ps, e _ _ h.ms⟩
theorem CtR.sz {m : M} {x : Ct} {a : Ca} (h : CtR m x a) {n : Nat} (hn : m.sz ≤ n) : CtR { m with sz := n } x a := h.of fun _ _ r => r.sz hn
theorem CtR.agree {m m' : M} {x : Ct} {a : Ca} (h : CtR m x a) (hag : Agree m.sz m m') : CtR m' x a := h.of fun _ _ r => r.agree hag

/-- numbers that may be ints -/
structure Ct.wf (x : Ct) : Prop where
  ix : In64 x.ix
  nx : In64 x.nx
  la : In64 x.la
  nu : In64 x.nu
  fr : In64 x.fr
  to : In64 x.to
  cl : In64 x.cl
  sq : In64 x.sq
  lo : x.lo.size ≤ 9223372036854775807
  hi : x.hi.size ≤ 9223372036854775807
  ps : x.ps.length ≤ 9223372036854775807
  pw : ∀ p ∈ x.ps, p.wf
  ms : x.ms.length ≤ 9223372036854775807

def c0 : Ct := ⟨0, [], 0, 0, 0, 0, 0, .empty, .empty, 0, 0, []⟩
def a0 : Ca := ⟨none, 0, none, 0⟩

theorem whose_q (c s : Int) (m : M) : QSpec Try.prog 54 [I c, I s] m (.bool (argB c s)) := by
  refine QSpec.of_vc Try.func54 (ann := fun _ => noAnn) fun n hn => ?_
  refine vc_by (X :=
      true = true ∧
      ifB (decide (c ≥ (1 : Int)))
      (ifB (decide (c ≤ (8 : Int)))
      (ifB (decide (s ≥ (1 : Int))) (Done (Value.bool (decide (s ≤ (4611686018427387904 : Int))) = Value.bool (argB c s))) (Done (Value.bool false = Value.bool (argB c s))))
      (Done (Value.bool false = Value.bool (argB c s))))
      (Done (Value.bool false = Value.bool (argB c s)))) (by kernel_rfl) ?_
  refine ⟨rfl, ?_⟩
  simp only [ifB_iff, done_iff, Value.bool.injEq]
  by_cases h1 : 1 ≤ c <;> by_cases h2 : c ≤ 8 <;> by_cases h3 : 1 ≤ s <;> simp [argB, h1, h2, h3, show (c ≥ 1) ↔ 1 ≤ c from Iff.rfl]

theorem emp_size (s : ByteArray) : emptyB s = decide (s.size = 0) := by
  have hs : s.toList.length = s.size := by rw [ByteArray.toList_eq, Array.length_toList]; rfl
  unfold emptyB
  by_cases h : s.size = 0
  · have : s.toList = [] := List.eq_nil_of_length_eq_zero (by omega)
    simp [this, h]
  · have : s.toList ≠ [] := fun e => by rw [e] at hs; simp at hs; omega
    simp [this, h]

/-- is there no plan? -/
def noPl (x : Ct) : Bool := decide (x.nu = 0) && (decide (x.fr = 0) && (decide (x.to = 0) && (emptyB x.lo && (emptyB x.hi && (decide (x.cl = 0) && decide (x.sq = 0))))))

/-- where the place that has a key stands -/
def fnd (l : List Pl) (k : ByteArray) : Nat := findL k l 0 0

def hasG (l : List Pl) (g : Int) : Bool := decide (ofI l g < l.length)

def plAt (l : List Pl) (i : Nat) : Pl := (l[i]?).getD pl0

theorem plAt_at {l : List Pl} {i : Nat} (h : i < l.length) : plAt l i = l[i] := by simp [plAt, List.getElem?_eq_getElem h]

/-- is the plan that goes on a split? -/
def splB (x : Ct) : Bool := !hasG x.ps x.to && (decide (x.to = x.nx - 1) && (decide (x.ps.length < 7) && (decide (1 ≤ x.lo.size) && (decide (x.lo.size ≤ 16) &&
  (decide (x.fr = (plAt x.ps (fnd x.ps x.lo)).gr) && (!decide (x.lo = (plAt x.ps (fnd x.ps x.lo)).fr) && decide (x.hi = endP x.ps (fnd x.ps x.lo))))))))

def mrgB (x : Ct) : Bool := hasG x.ps x.to && (decide (ofI x.ps x.to + 1 < x.ps.length) &&
  (decide (x.fr = (plAt x.ps (ofI x.ps x.to + 1)).gr) && (decide (x.lo = (plAt x.ps (ofI x.ps x.to + 1)).fr) && decide (x.hi = endP x.ps (ofI x.ps x.to + 1)))))

def goB (x : Ct) : Bool := decide (x.nu = x.la) && (!decide (x.nu = 0) && (argB x.cl x.sq && (decide (epochL x.ps < 4611686018427387904) && (splB x || mrgB x))))

def rightC (x : Ct) : Bool := decide (0 ≤ x.ix) && (decide (x.ix ≤ 4611686018427387904) && (decide (0 ≤ x.la) && (decide (x.la ≤ 4611686018427387904) && (decide (2 ≤ x.nx) && (decide (x.nx ≤ 8) &&
  (rightB x.ps && (tabB 0 x.ms && ((x.ps.all fun p => decide (p.gr < x.nx)) && (noPl x || goB x)))))))))

theorem endI_nat (l : List Pl) (i : Nat) : endI l (i : Int) = endP l i := by simp [endI]

theorem pl_at2 {m : M} {b o i : Nat} {l : List Pl} (h : CellsAt m b o (pls l)) (hi : i < l.length) : CellsAt m b (o + i * 3) [I (plAt l i).gr, .string (plAt l i).fr, I (plAt l i).ep] := by
  rw [plAt_at hi]; exact pl_at h hi

theorem beq_eq_dec (a b : Int) : (a == b) = decide (a = b) := rfl

theorem splits_q (x : Ct) (a : Ca) (hl : x.ps.length ≤ 9223372036854775807) (hnx : 2 ≤ x.nx ∧ x.nx ≤ 8) (hr : rightB x.ps = true) (m : M) (h : CtR m x a) : QSpec Try.prog 55 [ctv x a] m (.bool (splB x)) := by
  refine QSpec.of_vc Try.func55 (ann := fun _ => noAnn) fun n hn => ?_
  refine vc_by (X :=
      true = true ∧
      ∃ (n_1 : Int),
      ∃ (b : Bool),
      QSpec Try.prog (18 : Nat) [Value.slice a.ap x.ps.length a.cp, Value.int IntKind.i64 x.to] { π := m.π, sz := n, uf := m.uf : M }
      (Value.tuple #[Value.int IntKind.i64 n_1, Value.bool b]) ∧
      ifB b (Done (Value.bool false = Value.bool (splB x)))
      (ifB (x.to != IntKind.i64.wrap (x.nx - (1 : Int))) (Done (Value.bool false = Value.bool (splB x)))
      (ifB (decide ((↑x.ps.length : Int) ≥ (7 : Int))) (Done (Value.bool false = Value.bool (splB x)))
      (ifB (x.lo.toList == []) (Done (Value.bool false = Value.bool (splB x)))
      (ifB (decide ((↑x.lo.size : Int) > (16 : Int))) (Done (Value.bool false = Value.bool (splB x)))
      (∃ (n_2 : Int),
      QSpec Try.prog (20 : Nat) [Value.slice a.ap x.ps.length a.cp, Value.string x.lo] { π := m.π, sz := n, uf := m.uf : M } (Value.int IntKind.i64 n_2) ∧
      ∃ (b : Nat),
      ∃ (off : Nat),
      a.ap = some { block := b, off := off : Addr } ∧
      ((0 : Int) ≤ n_2 ∧ n_2 < (↑x.ps.length : Int)) ∧
      ∃ (n_3 : Int),
      ∃ (s : ByteArray),
      ∃ (n_4 : Int),
      CellsAt { π := m.π, sz := n, uf := m.uf : M } b (off + n_2.toNat * (3 : Nat))
      [Value.int IntKind.i64 n_3, Value.string s, Value.int IntKind.i64 n_4] ∧
      true = true ∧
      ifB (x.fr == n_3)
      (ifB (!x.lo.toList == s.toList)
      (∃ (s : ByteArray),
      QSpec Try.prog (60 : Nat) [Value.slice a.ap x.ps.length a.cp, Value.int IntKind.i64 n_2] { π := m.π, sz := n, uf := m.uf : M }
      (Value.string s) ∧
      Done (Value.bool (x.hi.toList == s.toList) = Value.bool (splB x)))
      (Done (Value.bool false = Value.bool (splB x))))
      (Done (Value.bool false = Value.bool (splB x))))))))) (by kernel_rfl) ?_
  have h' := h.sz hn
  have ho := rg_of x.ps a.ap a.cp x.to hl _ h'.ps
  rw [ofV_eq] at ho
  have w : IntKind.i64.wrap (x.nx - 1) = x.nx - 1 := by simp [IntKind.wrap_i64]; omega
  refine ⟨rfl, _, _, ho, ifB_intro (fun h1 => ⟨?_⟩) (fun h1 => ?_)⟩
  · have : hasG x.ps x.to = true := h1
    simp [splB, this]
  have h1 : hasG x.ps x.to = false := h1
  rw [w]
  refine ifB_intro (fun h2 => ⟨?_⟩) (fun h2 => ifB_intro (fun h3 => ⟨?_⟩) (fun h3 => ifB_intro (fun h4 => ⟨?_⟩) (fun h4 => ifB_intro (fun h5 => ⟨?_⟩) (fun h5 => ?_))))
  · simp at h2; simp [splB, h2]
  · simp at h3; simp [splB]; omega
  · have : emptyB x.lo = true := h4
    rw [emp_size] at this
    have : ¬ 1 ≤ x.lo.size := by have := of_decide_eq_true this; omega
    simp [splB, this]
  · simp at h5; simp [splB]; omega
  have h4 : emptyB x.lo = false := h4
  rw [emp_size] at h4
  have h4 : ¬ x.lo.size = 0 := of_decide_eq_false h4
  simp at h2 h3 h5
  have hpos := right_pos hr
  have hf := findL_len x.lo hpos
  obtain ⟨b, o, hb, hc⟩ := h'.ps.cells (by rw [pl_len]; omega)
  refine ⟨_, rg_find x.ps a.ap a.cp x.lo hl _ h'.ps, b, o, hb, by omega, _, _, _, by simpa using pl_at2 hc hf, rfl, ?_⟩
  have hs : splB x = (decide (x.fr = (plAt x.ps (fnd x.ps x.lo)).gr) && (!decide (x.lo = (plAt x.ps (fnd x.ps x.lo)).fr) && decide (x.hi = endP x.ps (fnd x.ps x.lo)))) := by
    have e1 : decide (x.to = x.nx - 1) = true := decide_eq_true h2
    have e2 : decide (x.ps.length < 7) = true := decide_eq_true (by omega)
    have e3 : decide (1 ≤ x.lo.size) = true := decide_eq_true (by omega)
    have e4 : decide (x.lo.size ≤ 16) = true := decide_eq_true (by omega)
    simp only [splB, h1, e1, e2, e3, e4, Bool.not_false, Bool.true_and]
  have he := pl_end x.ps a.ap a.cp (findL x.lo x.ps 0 0 : Nat) (by unfold In64; omega) hl _ h'.ps
  rw [endI_nat] at he
  rw [hs, bytes_beq]
  refine ifB_intro (fun h6 => ifB_intro (fun h7 => ⟨_, he, ⟨?_⟩⟩) (fun h7 => ⟨?_⟩)) (fun h6 => ⟨?_⟩)
  · have h6 : decide (x.fr = (plAt x.ps (fnd x.ps x.lo)).gr) = true := h6
    have h7 : (!decide (x.lo = (plAt x.ps (fnd x.ps x.lo)).fr)) = true := h7
    rw [h6, h7, Bool.true_and, Bool.true_and, bytes_beq]; rfl
  · have h7 : (!decide (x.lo = (plAt x.ps (fnd x.ps x.lo)).fr)) = false := h7
    rw [h7, Bool.false_and, Bool.and_false]
  · have h6 : decide (x.fr = (plAt x.ps (fnd x.ps x.lo)).gr) = false := h6
    rw [h6, Bool.false_and]

theorem merges_q (x : Ct) (a : Ca) (hl : x.ps.length ≤ 9223372036854775807) (hr : rightB x.ps = true) (m : M) (h : CtR m x a) : QSpec Try.prog 56 [ctv x a] m (.bool (mrgB x)) := by
  refine QSpec.of_vc Try.func56 (ann := fun _ => noAnn) fun n hn => ?_
  refine vc_by (X :=
      true = true ∧
      ∃ (n_1 : Int),
      ∃ (b : Bool),
      QSpec Try.prog (18 : Nat) [Value.slice a.ap x.ps.length a.cp, Value.int IntKind.i64 x.to] { π := m.π, sz := n, uf := m.uf : M }
      (Value.tuple #[Value.int IntKind.i64 n_1, Value.bool b]) ∧
      ifB (!b) (Done (Value.bool false = Value.bool (mrgB x)))
      (ifB (decide (IntKind.i64.wrap (n_1 + (1 : Int)) ≥ (↑x.ps.length : Int))) (Done (Value.bool false = Value.bool (mrgB x)))
      (∃ (b : Nat),
      ∃ (off : Nat),
      a.ap = some { block := b, off := off : Addr } ∧
      ((0 : Int) ≤ IntKind.i64.wrap (n_1 + (1 : Int)) ∧ IntKind.i64.wrap (n_1 + (1 : Int)) < (↑x.ps.length : Int)) ∧
      ∃ (n_2 : Int),
      ∃ (s : ByteArray),
      ∃ (n_3 : Int),
      CellsAt { π := m.π, sz := n, uf := m.uf : M } b (off + (IntKind.i64.wrap (n_1 + (1 : Int))).toNat * (3 : Nat))
      [Value.int IntKind.i64 n_2, Value.string s, Value.int IntKind.i64 n_3] ∧
      true = true ∧
      ifB (x.fr == n_2)
      (ifB (x.lo.toList == s.toList)
      (∃ (s : ByteArray),
      QSpec Try.prog (60 : Nat) [Value.slice a.ap x.ps.length a.cp, Value.int IntKind.i64 (IntKind.i64.wrap (n_1 + (1 : Int)))]
      { π := m.π, sz := n, uf := m.uf : M } (Value.string s) ∧
      Done (Value.bool (x.hi.toList == s.toList) = Value.bool (mrgB x)))
      (Done (Value.bool false = Value.bool (mrgB x))))
      (Done (Value.bool false = Value.bool (mrgB x)))))) (by kernel_rfl) ?_
  have h' := h.sz hn
  have hlen := right_len hr
  have ho := rg_of x.ps a.ap a.cp x.to hl _ h'.ps
  rw [ofV_eq] at ho
  refine ⟨rfl, _, _, ho, ifB_intro (fun h1 => ⟨?_⟩) (fun h1 => ?_)⟩
  · have : hasG x.ps x.to = false := by have e : (!hasG x.ps x.to) = true := h1; simpa using e
    simp [mrgB, this]
  have h1 : hasG x.ps x.to = true := by have e : (!hasG x.ps x.to) = false := h1; simpa using e
  have hof : ofI x.ps x.to < x.ps.length := by simpa [hasG] using h1
  rw [if_pos hof]
  have w : IntKind.i64.wrap (((ofI x.ps x.to : Nat) : Int) + 1) = ((ofI x.ps x.to + 1 : Nat) : Int) := by simp [IntKind.wrap_i64]; omega
  rw [w]
  refine ifB_intro (fun h2 => ⟨?_⟩) (fun h2 => ?_)
  · simp at h2; simp [mrgB]; omega
  have h2 : ofI x.ps x.to + 1 < x.ps.length := by simp at h2; omega
  obtain ⟨b, o, hb, hc⟩ := h'.ps.cells (by rw [pl_len]; omega)
  have hs : mrgB x = (decide (x.fr = (plAt x.ps (ofI x.ps x.to + 1)).gr) && (decide (x.lo = (plAt x.ps (ofI x.ps x.to + 1)).fr) && decide (x.hi = endP x.ps (ofI x.ps x.to + 1)))) := by
    simp [mrgB, h1, h2]
  have he := pl_end x.ps a.ap a.cp (ofI x.ps x.to + 1 : Nat) (by unfold In64; omega) hl _ h'.ps
  rw [endI_nat] at he
  refine ⟨b, o, hb, by omega, _, _, _, by simpa using pl_at2 hc h2, rfl, ?_⟩
  rw [hs, bytes_beq]
  refine ifB_intro (fun h6 => ifB_intro (fun h7 => ⟨_, he, ⟨?_⟩⟩) (fun h7 => ⟨?_⟩)) (fun h6 => ⟨?_⟩)
  · have h6 : decide (x.fr = (plAt x.ps (ofI x.ps x.to + 1)).gr) = true := h6
    rw [h6, h7, Bool.true_and, Bool.true_and, bytes_beq]
  · rw [h7, Bool.false_and, Bool.and_false]
  · have h6 : decide (x.fr = (plAt x.ps (ofI x.ps x.to + 1)).gr) = false := h6
    rw [h6, Bool.false_and]

end Go.Proofs.Ytjjfcaigonomiaa
set_option linter.unusedVariables false
set_option linter.unusedSimpArgs false
namespace Go.Proofs.Ytjjfcaigonomiaa
open Go.Vc Go.RowKit
set_option maxRecDepth 100000

def keyB (k : ByteArray) : Bool := decide (1 ≤ k.size) && decide (k.size ≤ 16)

theorem rkey_q (k : ByteArray) (m : M) : QSpec Try.prog 63 [.string k] m (.bool (keyB k)) := by
  refine QSpec.of_vc Try.func63 (ann := fun _ => noAnn) fun n hn => ?_
  refine vc_by (X :=
      true = true ∧
      ifB (decide ((↑k.size : Int) ≥ (1 : Int))) (Done (Value.bool (decide ((↑k.size : Int) ≤ (16 : Int))) = Value.bool (keyB k))) (Done (Value.bool false = Value.bool (keyB k)))) (by kernel_rfl) ?_
  refine ⟨rfl, ifB_intro (fun h => ⟨?_⟩) (fun h => ⟨?_⟩)⟩
  · have h1 : 1 ≤ k.size := by simp at h; omega
    simp [keyB, h1]; omega
  · simp at h; simp [keyB]; omega

theorem not_t {b : Bool} (h : (!b) = true) : b = false := by cases b; rfl; cases h
theorem not_f {b : Bool} (h : (!b) = false) : b = true := by cases b; cases h; rfl

/-- a plan that goes on, as the document says it -/
theorem goB_eq {x : Ct} (hla : 0 ≤ x.la) : goB x = (decide (epochL x.ps < 4611686018427387904) && (decide (x.nu = x.la) && (decide (1 ≤ x.nu) && ((decide (1 ≤ x.cl) && decide (x.cl ≤ 8)) && ((decide (1 ≤ x.sq) && decide (x.sq ≤ 4611686018427387904)) && (splB x || mrgB x)))))) := by
  unfold goB argB
  by_cases h1 : x.nu = x.la
  · have : (!decide (x.nu = 0)) = decide (1 ≤ x.nu) := by
      by_cases h2 : x.nu = 0
      · simp [h2]
      · have : 1 ≤ x.nu := by omega
        simp [h2, this]
    rw [this]
    by_cases h3 : epochL x.ps < 4611686018427387904 <;> simp [h1, h3]
    by_cases h4 : 1 ≤ x.la <;> by_cases h5 : 1 ≤ x.cl <;> by_cases h6 : x.cl ≤ 8 <;> by_cases h7 : 1 ≤ x.sq <;> simp [h4, h5, h6, h7]
  · simp [h1]

theorem goes_q (x : Ct) (a : Ca) (hl : x.ps.length ≤ 9223372036854775807) (hnx : 2 ≤ x.nx ∧ x.nx ≤ 8) (hla : 0 ≤ x.la) (hr : rightB x.ps = true) (m : M) (h : CtR m x a) : QSpec Try.prog 41 [ctv x a] m (.bool (goB x)) := by
  refine QSpec.of_vc Try.func41 (ann := fun _ => noAnn) fun n hn => ?_
  refine vc_by (X :=
      true = true ∧
      ∃ (n_1 : Int),
      QSpec Try.prog (45 : Nat) [Value.slice a.ap x.ps.length a.cp] { π := m.π, sz := n, uf := m.uf : M } (Value.int IntKind.i64 n_1) ∧
      ifB (decide (n_1 ≥ (4611686018427387904 : Int))) (Done (Value.bool false = Value.bool (goB x)))
      (ifB (x.nu != x.la) (Done (Value.bool false = Value.bool (goB x)))
      (ifB (decide (x.nu < (1 : Int))) (Done (Value.bool false = Value.bool (goB x)))
      (∃ (b : Bool),
      QSpec Try.prog (71 : Nat) [Value.int IntKind.i64 x.cl] { π := m.π, sz := n, uf := m.uf : M } (Value.bool b) ∧
      ifB (!b) (Done (Value.bool false = Value.bool (goB x)))
      (∃ (b : Bool),
      QSpec Try.prog (72 : Nat) [Value.int IntKind.i64 x.sq] { π := m.π, sz := n, uf := m.uf : M } (Value.bool b) ∧
      ifB (!b) (Done (Value.bool false = Value.bool (goB x)))
      (∃ (n_2 : Int),
      ∃ (b : Bool),
      QSpec Try.prog (67 : Nat) [Value.slice a.ap x.ps.length a.cp, Value.int IntKind.i64 x.to] { π := m.π, sz := n, uf := m.uf : M }
      (Value.tuple #[Value.int IntKind.i64 n_2, Value.bool b]) ∧
      ifB (!b)
      (∃ (n_3 : Int),
      QSpec Try.prog (65 : Nat) [Value.slice a.ap x.ps.length a.cp, Value.string x.lo] { π := m.π, sz := n, uf := m.uf : M }
      (Value.int IntKind.i64 n_3) ∧
      true = true ∧
      ifB (x.to == IntKind.i64.wrap (x.nx - (1 : Int)))
      (ifB (decide ((↑x.ps.length : Int) < (7 : Int)))
      (∃ (b : Bool),
      QSpec Try.prog (63 : Nat) [Value.string x.lo] { π := m.π, sz := n, uf := m.uf : M } (Value.bool b) ∧
      ifB b
      (∃ (b : Nat),
      ∃ (off : Nat),
      a.ap = some { block := b, off := off : Addr } ∧
      ((0 : Int) ≤ n_3 ∧ n_3 < (↑x.ps.length : Int)) ∧
      ∃ (n_4 : Int),
      CellsAt { π := m.π, sz := n, uf := m.uf : M } b (off + n_3.toNat * (3 : Nat) + (0 : Nat)) [Value.int IntKind.i64 n_4] ∧
      ifB (n_4 == x.fr)
      (∃ (b : Nat),
      ∃ (off : Nat),
      a.ap = some { block := b, off := off : Addr } ∧
      ((0 : Int) ≤ n_3 ∧ n_3 < (↑x.ps.length : Int)) ∧
      ∃ (s : ByteArray),
      CellsAt { π := m.π, sz := n, uf := m.uf : M } b (off + n_3.toNat * (3 : Nat) + (1 : Nat)) [Value.string s] ∧
      ifB (!s.toList == x.lo.toList)
      (∃ (s : ByteArray),
      QSpec Try.prog (66 : Nat) [Value.slice a.ap x.ps.length a.cp, Value.int IntKind.i64 n_3]
      { π := m.π, sz := n, uf := m.uf : M } (Value.string s) ∧
      Done (Value.bool (x.hi.toList == s.toList) = Value.bool (goB x)))
      (Done (Value.bool false = Value.bool (goB x))))
      (Done (Value.bool false = Value.bool (goB x))))
      (Done (Value.bool false = Value.bool (goB x))))
      (Done (Value.bool false = Value.bool (goB x))))
      (Done (Value.bool false = Value.bool (goB x))))
      (true = true ∧
      ifB (decide (IntKind.i64.wrap (n_2 + (1 : Int)) < (↑x.ps.length : Int)))
      (∃ (b : Nat),
      ∃ (off : Nat),
      a.ap = some { block := b, off := off : Addr } ∧
      ((0 : Int) ≤ IntKind.i64.wrap (n_2 + (1 : Int)) ∧ IntKind.i64.wrap (n_2 + (1 : Int)) < (↑x.ps.length : Int)) ∧
      ∃ (n_3 : Int),
      CellsAt { π := m.π, sz := n, uf := m.uf : M } b (off + (IntKind.i64.wrap (n_2 + (1 : Int))).toNat * (3 : Nat) + (0 : Nat))
      [Value.int IntKind.i64 n_3] ∧
      ifB (n_3 == x.fr)
      (∃ (b : Nat),
      ∃ (off : Nat),
      a.ap = some { block := b, off := off : Addr } ∧
      ((0 : Int) ≤ IntKind.i64.wrap (n_2 + (1 : Int)) ∧ IntKind.i64.wrap (n_2 + (1 : Int)) < (↑x.ps.length : Int)) ∧
      ∃ (s : ByteArray),
      CellsAt { π := m.π, sz := n, uf := m.uf : M } b
      (off + (IntKind.i64.wrap (n_2 + (1 : Int))).toNat * (3 : Nat) + (1 : Nat)) [Value.string s] ∧
      ifB (s.toList == x.lo.toList)
      (∃ (s : ByteArray),
      QSpec Try.prog (66 : Nat)
      [Value.slice a.ap x.ps.length a.cp, Value.int IntKind.i64 (IntKind.i64.wrap (n_2 + (1 : Int)))]
      { π := m.π, sz := n, uf := m.uf : M } (Value.string s) ∧
      Done (Value.bool (s.toList == x.hi.toList) = Value.bool (goB x)))
      (Done (Value.bool false = Value.bool (goB x))))
      (Done (Value.bool false = Value.bool (goB x))))
      (Done (Value.bool false = Value.bool (goB x)))))))))) (by kernel_rfl) ?_
  have h' := h.sz hn
  have hlen := right_len hr
  have ho := rf_of x.ps a.ap a.cp x.to hl _ h'.ps
  rw [ofV_eq] at ho
  have hfi := rf_find x.ps a.ap a.cp x.lo hl _ h'.ps
  rw [rfind_eq x.lo hr] at hfi
  have w : IntKind.i64.wrap (x.nx - 1) = x.nx - 1 := by simp [IntKind.wrap_i64]; omega
  rw [w, goB_eq hla]
  refine ⟨rfl, _, rf_epoch x.ps a.ap a.cp hl _ h'.ps, ifB_intro (fun h1 => ⟨?_⟩) (fun h1 => ifB_intro (fun h2 => ⟨?_⟩) (fun h2 => ifB_intro (fun h3 => ⟨?_⟩) (fun h3 => ⟨_, rclient_q _ _, ifB_intro (fun h4 => ⟨?_⟩) (fun h4 => ⟨_, rseq_q _ _, ifB_intro (fun h5 => ⟨?_⟩) (fun h5 => ⟨_, _, ho, ?_⟩)⟩)⟩)))⟩
  · have : decide (epochL x.ps < 4611686018427387904) = false := by simp at h1; simp; omega
    rw [this]; rfl
  · have : decide (x.nu = x.la) = false := by simpa using h2
    rw [this]; simp
  · have : decide (1 ≤ x.nu) = false := by simp at h3; simp; omega
    rw [this]; simp
  · have : (decide (1 ≤ x.cl) && decide (x.cl ≤ 8)) = false := not_t h4
    rw [this]; simp
  · have : (decide (1 ≤ x.sq) && decide (x.sq ≤ 4611686018427387904)) = false := not_t h5
    rw [this]; simp
  have e1 : decide (epochL x.ps < 4611686018427387904) = true := by simp at h1; simp; omega
  have e2 : decide (x.nu = x.la) = true := by simpa using h2
  have e3 : decide (1 ≤ x.nu) = true := by simp at h3; simp; omega
  have e4 : (decide (1 ≤ x.cl) && decide (x.cl ≤ 8)) = true := not_f h4
  have e5 : (decide (1 ≤ x.sq) && decide (x.sq ≤ 4611686018427387904)) = true := not_f h5
  rw [e1, e2, e3, e4, e5]
  simp only [Bool.true_and]
  obtain ⟨b, o, hb, hc⟩ := h'.ps.cells (by rw [pl_len]; have := right_pos hr; omega)
  refine ifB_intro (fun h6 => ?_) (fun h6 => ?_)
  · have g0 : hasG x.ps x.to = false := not_t h6
    have hm : mrgB x = false := by simp [mrgB, g0]
    have hf := findL_len x.lo (right_pos hr)
    have f1 : CellsAt { m with sz := n } b (o + findL x.lo x.ps 0 0 * 3 + 0) [I (plAt x.ps (fnd x.ps x.lo)).gr] := by
      have := pl_grc hc hf
      rw [← plAt_at hf] at this; exact this
    have f2 : CellsAt { m with sz := n } b (o + findL x.lo x.ps 0 0 * 3 + 1) [.string (plAt x.ps (fnd x.ps x.lo)).fr] := by
      have := pl_frc hc hf
      rw [← plAt_at hf] at this; exact this
    have he := rf_end x.ps a.ap a.cp (findL x.lo x.ps 0 0 : Nat) (by unfold In64; omega) hl _ h'.ps
    rw [endI_nat] at he
    rw [hm, Bool.or_false]
    refine ⟨_, hfi, by trivial, ifB_intro (fun g1 => ifB_intro (fun g2 => ⟨_, rkey_q _ _, ifB_intro (fun g3 => ⟨b, o, hb, by omega, _, by simpa using f1, ifB_intro (fun g4 => ⟨b, o, hb, by omega, _, by simpa using f2, ?_⟩) (fun g4 => ⟨?_⟩)⟩) (fun g3 => ⟨?_⟩)⟩) (fun g2 => ⟨?_⟩)) (fun g1 => ⟨?_⟩)⟩
    · have k1 : decide (x.to = x.nx - 1) = true := g1
      have k2 : decide (x.ps.length < 7) = true := by simp at g2; simp; omega
      have k3 : decide (1 ≤ x.lo.size) = true ∧ decide (x.lo.size ≤ 16) = true := by
        have e : (decide (1 ≤ x.lo.size) && decide (x.lo.size ≤ 16)) = true := g3
        simpa using e
      have k4 : decide (x.fr = (plAt x.ps (fnd x.ps x.lo)).gr) = true := by
        have e : decide ((plAt x.ps (fnd x.ps x.lo)).gr = x.fr) = true := g4
        simp at e; simp [e]
      have hs : splB x = (!decide (x.lo = (plAt x.ps (fnd x.ps x.lo)).fr) && decide (x.hi = endP x.ps (fnd x.ps x.lo))) := by
        unfold splB
        rw [g0, k1, k2, k3.1, k3.2, k4]; rfl
      rw [hs, bytes_beq]
      refine ifB_intro (fun g5 => ⟨_, he, ⟨?_⟩⟩) (fun g5 => ⟨?_⟩)
      · have : decide (x.lo = (plAt x.ps (fnd x.ps x.lo)).fr) = false := by simp at g5; simp; exact fun e => g5 e.symm
        rw [this, bytes_beq]; rfl
      · have : decide (x.lo = (plAt x.ps (fnd x.ps x.lo)).fr) = true := by simp at g5; simp [g5]
        rw [this]; rfl
    · have k4 : decide (x.fr = (plAt x.ps (fnd x.ps x.lo)).gr) = false := by
        have e : decide ((plAt x.ps (fnd x.ps x.lo)).gr = x.fr) = false := g4
        simp at e; simp; exact fun h => e h.symm
      unfold splB
      rw [k4]; simp
    · have k3 : (decide (1 ≤ x.lo.size) && decide (x.lo.size ≤ 16)) = false := g3
      unfold splB
      rcases Bool.and_eq_false_iff.1 k3 with k | k <;> rw [k] <;> simp
    · have k2 : decide (x.ps.length < 7) = false := by simp at g2; simp; omega
      unfold splB
      rw [k2]; simp
    · have k1 : decide (x.to = x.nx - 1) = false := g1
      unfold splB
      rw [k1]; simp
  · have g0 : hasG x.ps x.to = true := not_f h6
    have hof : ofI x.ps x.to < x.ps.length := by simpa [hasG] using g0
    rw [if_pos hof]
    have hm : splB x = false := by simp [splB, g0]
    rw [hm, Bool.false_or]
    have w : IntKind.i64.wrap (((ofI x.ps x.to : Nat) : Int) + 1) = ((ofI x.ps x.to + 1 : Nat) : Int) := by simp [IntKind.wrap_i64]; omega
    rw [w]
    refine ⟨by trivial, ifB_intro (fun g1 => ?_) (fun g1 => ⟨?_⟩)⟩
    · have hf : ofI x.ps x.to + 1 < x.ps.length := by simp at g1; omega
      have f1 : CellsAt { m with sz := n } b (o + (ofI x.ps x.to + 1) * 3 + 0) [I (plAt x.ps (ofI x.ps x.to + 1)).gr] := by
        have := pl_grc hc hf
        rw [← plAt_at hf] at this; exact this
      have f2 : CellsAt { m with sz := n } b (o + (ofI x.ps x.to + 1) * 3 + 1) [.string (plAt x.ps (ofI x.ps x.to + 1)).fr] := by
        have := pl_frc hc hf
        rw [← plAt_at hf] at this; exact this
      have he := rf_end x.ps a.ap a.cp (ofI x.ps x.to + 1 : Nat) (by unfold In64; omega) hl _ h'.ps
      rw [endI_nat] at he
      refine ⟨b, o, hb, by omega, _, by simpa using f1, ifB_intro (fun g4 => ⟨b, o, hb, by omega, _, by simpa using f2, ?_⟩) (fun g4 => ⟨?_⟩)⟩
      · have k4 : decide (x.fr = (plAt x.ps (ofI x.ps x.to + 1)).gr) = true := by
          have e : decide ((plAt x.ps (ofI x.ps x.to + 1)).gr = x.fr) = true := g4
          simp at e; simp [e]
        have hs : mrgB x = (decide (x.lo = (plAt x.ps (ofI x.ps x.to + 1)).fr) && decide (x.hi = endP x.ps (ofI x.ps x.to + 1))) := by
          unfold mrgB
          rw [g0, decide_eq_true hf, k4]; rfl
        rw [hs, bytes_beq]
        refine ifB_intro (fun g5 => ⟨_, he, ⟨?_⟩⟩) (fun g5 => ⟨?_⟩)
        · have : decide (x.lo = (plAt x.ps (ofI x.ps x.to + 1)).fr) = true := by simp at g5; simp [g5]
          rw [this, bytes_beq]
          simp [eq_comm]
        · have : decide (x.lo = (plAt x.ps (ofI x.ps x.to + 1)).fr) = false := by simp at g5; simp; exact fun e => g5 e.symm
          rw [this]; rfl
      · have k4 : decide (x.fr = (plAt x.ps (ofI x.ps x.to + 1)).gr) = false := by
          have e : decide ((plAt x.ps (ofI x.ps x.to + 1)).gr = x.fr) = false := g4
          simp at e; simp; exact fun h => e h.symm
        unfold mrgB
        rw [k4]; simp
    · have : decide (ofI x.ps x.to + 1 < x.ps.length) = false := by simp at g1; simp; omega
      unfold mrgB
      rw [this]; simp

theorem cells_sub {m : M} {b o j : Nat} {cs p ds q : List Value} (h : CellsAt m b o cs) (e : cs = p ++ (ds ++ q)) (hp : p.length = j) : CellsAt m b (o + j) ds := by
  subst hp
  rw [e] at h
  exact h.drop.take

theorem ct_cell {m : M} {b : Nat} {x : Ct} {a : Ca} (h : CellsAt m b 0 (encCt x a)) (j : Nat) (v : Value) (e : encCt x a = (encCt x a).take j ++ ([v] ++ (encCt x a).drop (j + 1))) (hp : ((encCt x a).take j).length = j) : CellsAt m b j [v] := by
  have := cells_sub h e hp
  rwa [Nat.zero_add] at this

theorem ct_plan {m : M} {b : Nat} {x : Ct} {a : Ca} (h : CellsAt m b 0 (encCt x a)) : CellsAt m b 4 [I x.nu, I x.fr, I x.to, .string x.lo, .string x.hi, I x.cl, I x.sq] := by
  have := cells_sub h (p := [I x.ix, .slice a.ap x.ps.length a.cp, I x.nx, I x.la]) (ds := [I x.nu, I x.fr, I x.to, .string x.lo, .string x.hi, I x.cl, I x.sq]) (q := [.slice a.am x.ms.length a.cm]) rfl rfl
  rwa [Nat.zero_add] at this

theorem CtR.fresh {m : M} {x : Ct} {a : Ca} {n b : Nat} {ds : List Value} (h : CtR m x a) (hn : m.sz ≤ n) (hb : Fresh n m b) : CtR (m.newBlock b ds) x a :=
  ⟨h.ps.fresh hb fun hc b' o e => Nat.lt_of_lt_of_le (h.ps.lt hc e) hn, h.ms.fresh hb fun hc b' o e => Nat.lt_of_lt_of_le (h.ms.lt hc e) hn⟩

theorem right1_q (x : Ct) (a : Ca) (p : Pl) (b : Nat) (m : M) (h : CellsAt m b 0 (encCt x a)) : QSpec Try.prog 53 [plv p, .pointer (some ⟨b, 0, none⟩)] m (.bool (decide (p.gr ≥ x.nx))) := by
  refine QSpec.of_vc Try.func53 (ann := fun _ => noAnn) fun n hn => ?_
  refine vc_by (X :=
      true = true ∧
      ∃ (n_1 : Int), CellsAt { π := m.π, sz := n, uf := m.uf : M } b (2 : Nat) [Value.int IntKind.i64 n_1] ∧ Done (Value.bool (decide (p.gr ≥ n_1)) = Value.bool (decide (p.gr ≥ x.nx)))) (by kernel_rfl) ?_
  exact ⟨rfl, _, ⟨(ct_cell h 2 _ rfl rfl).out⟩, ⟨rfl⟩⟩

theorem index_q (x : Ct) (a : Ca) (ap : Option Addr) (cp : Nat) (l : List Pl) (hl : l.length ≤ 9223372036854775807) (b : Nat) (m : M) (hr : Row m ap (pls l)) (h : CellsAt m b 0 (encCt x a)) : QSpec Try.prog 79 [.slice ap l.length cp, .func (.func 53) #[] #[.pointer (some ⟨b, 0, none⟩)]] m (I (idxF (fun p => decide (p.gr ≥ x.nx)) l)) := by
  refine QSpec.of_vc Try.func79 (ann := fun n _ => { A := Nat, inv := fun k => k ≤ l.length ∧ ∀ y ∈ l.take k, decide (y.gr ≥ x.nx) = false, st := fun k => [(8, .val (I k)), (7, .val (I l.length)), (0, .val (.slice ap l.length cp)), (1, .val (.func (.func 53) #[] #[.pointer (some ⟨b, 0, none⟩)]))], own := fun _ => [], m := fun _ => { m with sz := n }, μ := fun k => l.length - k }) fun n hn => ?_
  refine vc_by (X :=
      true = true ∧
      (∃ (a : Nat),
      (a ≤ l.length ∧ ∀ (y : Pl), y ∈ List.take a l → decide (y.gr ≥ x.nx) = false) ∧
      { π := m.π, sz := n, uf := m.uf : M } = { π := m.π, sz := n, uf := m.uf : M } ∧
      ((SV.val (Value.int IntKind.i64 (0 : Int)) = SV.val (Value.int IntKind.i64 (↑a : Int)) ∧ true = true) ∧
      (SV.val (Value.int IntKind.i64 (↑l.length : Int)) = SV.val (Value.int IntKind.i64 (↑l.length : Int)) ∧ true = true) ∧
      (SV.val (Value.slice ap l.length cp) = SV.val (Value.slice ap l.length cp) ∧ true = true) ∧
      (SV.val (Value.func (Fn.func (53 : FuncId)) #[] #[Value.pointer (some { block := b, off := (0 : Nat) : Addr })]) =
      SV.val (Value.func (Fn.func (53 : FuncId)) #[] #[Value.pointer (some { block := b, off := (0 : Nat) : Addr })]) ∧
      true = true) ∧
      True) ∧
      True) ∧
      ∀ (a : Nat),
      (a ≤ l.length ∧ ∀ (y : Pl), y ∈ List.take a l → decide (y.gr ≥ x.nx) = false) →
      ifB (decide ((↑a : Int) < (↑l.length : Int)))
      (∃ (b_1 : Nat),
      ∃ (off : Nat),
      ap = some { block := b_1, off := off : Addr } ∧
      ((0 : Int) ≤ (↑a : Int) ∧ (↑a : Int) < (↑l.length : Int)) ∧
      ∃ (n_1 : Int),
      ∃ (s : ByteArray),
      ∃ (n_2 : Int),
      CellsAt { π := m.π, sz := n, uf := m.uf : M } b_1 (off + (↑a : Int).toNat * (3 : Nat))
      [Value.int IntKind.i64 n_1, Value.string s, Value.int IntKind.i64 n_2] ∧
      ∃ (b_2 : Bool),
      QSpec Try.prog (53 : FuncId)
      [Value.agg #[Value.int IntKind.i64 n_1, Value.string s, Value.int IntKind.i64 n_2], Value.pointer (some { block := b, off := (0 : Nat) : Addr })]
      { π := m.π, sz := n, uf := m.uf : M } (Value.bool b_2) ∧
      ifB b_2 (Done (Value.int IntKind.i64 (↑a : Int) = Value.int IntKind.i64 (idxF (fun (p : Pl) => decide (p.gr ≥ x.nx)) l)))
      (∃ (a' : Nat),
      ((a' ≤ l.length ∧ ∀ (y : Pl), y ∈ List.take a' l → decide (y.gr ≥ x.nx) = false) ∧
      { π := m.π, sz := n, uf := m.uf : M } = { π := m.π, sz := n, uf := m.uf : M } ∧
      ((SV.val (Value.int IntKind.i64 (IntKind.i64.wrap ((↑a : Int) + (1 : Int)))) = SV.val (Value.int IntKind.i64 (↑a' : Int)) ∧ true = true) ∧
      (SV.val (Value.int IntKind.i64 (↑l.length : Int)) = SV.val (Value.int IntKind.i64 (↑l.length : Int)) ∧ true = true) ∧
      (SV.val (Value.slice ap l.length cp) = SV.val (Value.slice ap l.length cp) ∧ true = true) ∧
      (SV.val (Value.func (Fn.func (53 : FuncId)) #[] #[Value.pointer (some { block := b, off := (0 : Nat) : Addr })]) =
      SV.val (Value.func (Fn.func (53 : FuncId)) #[] #[Value.pointer (some { block := b, off := (0 : Nat) : Addr })]) ∧
      true = true) ∧
      True) ∧
      True) ∧
      l.length - a' < l.length - a))
      (Done (Value.int IntKind.i64 (-1 : Int) = Value.int IntKind.i64 (idxF (fun (p : Pl) => decide (p.gr ≥ x.nx)) l)))) (by kernel_rfl) ?_
  have h' := hr.sz hn
  refine ⟨rfl, ⟨0, by simp⟩, fun k ⟨hk, hq⟩ => ifB_intro (fun hb => ?_) (fun hb => ⟨?_⟩)⟩
  · have hk2 : k < l.length := by simpa using hb
    obtain ⟨b9, o9, rfl, hc⟩ := h'.cells (by rw [pl_len]; omega)
    have w1 : IntKind.i64.wrap ((k : Int) + 1) = ((k + 1 : Nat) : Int) := by simp [IntKind.wrap_i64]; omega
    refine ⟨b9, o9, rfl, by omega, _, _, _, by simpa using pl_at hc hk2, _, right1_q x a l[k] b _ ⟨h.out⟩, ifB_intro (fun h3 => ⟨?_⟩) (fun h3 => ⟨k + 1, ⟨⟨hk2, fun y hy => ?_⟩, by simp [w1]⟩, by omega⟩)⟩
    · rw [idxF_found hk2 hq h3]
    · rw [List.take_succ_eq_append_getElem hk2, List.mem_append] at hy
      rcases hy with hy | hy
      · exact hq y hy
      · have hy : y = l[k] := by simpa using hy
        subst hy; exact h3
  · have : k = l.length := by simp at hb; omega
    rw [this, List.take_length] at hq
    rw [idxF_none hq]

theorem idxF_any {α : Type} (p : α → Bool) (l : List α) : decide (idxF p l ≥ 0) = l.any p := by
  rcases idxF_cases p l with ⟨e, h⟩ | ⟨k, hk, e, h, -⟩
  · rw [e]; symm; simpa using h
  · rw [e]
    have : l.any p = true := List.any_eq_true.2 ⟨_, List.getElem_mem hk, h⟩
    rw [this]; simp

theorem contains_q (x : Ct) (a : Ca) (ap : Option Addr) (cp : Nat) (l : List Pl) (hl : l.length ≤ 9223372036854775807) (b : Nat) (m : M) (hr : Row m ap (pls l)) (h : CellsAt m b 0 (encCt x a)) : QSpec Try.prog 52 [.slice ap l.length cp, .func (.func 53) #[] #[.pointer (some ⟨b, 0, none⟩)]] m (.bool (l.any fun p => decide (p.gr ≥ x.nx))) := by
  refine QSpec.of_vc Try.func52 (ann := fun _ => noAnn) fun n hn => ?_
  refine vc_by (X :=
      true = true ∧
      ∃ (n_1 : Int),
      QSpec Try.prog (79 : Nat) [Value.slice ap l.length cp, Value.func (Fn.func (53 : FuncId)) #[] #[Value.pointer (some { block := b, off := (0 : Nat) : Addr })]]
      { π := m.π, sz := n, uf := m.uf : M } (Value.int IntKind.i64 n_1) ∧
      Done (Value.bool (decide (n_1 ≥ (0 : Int))) = Value.bool (l.any fun (p : Pl) => decide (p.gr ≥ x.nx)))) (by kernel_rfl) ?_
  refine ⟨rfl, _, index_q x a ap cp l hl b _ (hr.sz hn) ⟨h.out⟩, ⟨?_⟩⟩
  rw [idxF_any]

theorem all_any (x : Ct) : (x.ps.all fun p => decide (p.gr < x.nx)) = !(x.ps.any fun p => decide (p.gr ≥ x.nx)) := by
  induction x.ps with
  | nil => rfl
  | cons p l ih =>
    rw [List.all_cons, List.any_cons, ih]
    by_cases h : p.gr < x.nx
    · simp [h]
    · have : p.gr ≥ x.nx := by omega
      simp [h, this]

theorem right_q (x : Ct) (a : Ca) (hl : x.ps.length ≤ 9223372036854775807) (hm : x.ms.length ≤ 9223372036854775807) (m : M) (h : CtR m x a) : QSpec Try.prog 29 [ctv x a] m (.bool (rightC x)) := by
  refine QSpec.of_vc Try.func29 (ann := fun _ => noAnn) fun n hn => ?_
  refine vc_by (X :=
      true = true ∧
      ifB (decide (x.ix < (0 : Int))) (Done (Value.bool false = Value.bool (rightC x)))
      (ifB (decide (x.ix > (4611686018427387904 : Int))) (Done (Value.bool false = Value.bool (rightC x)))
      (ifB (decide (x.la < (0 : Int))) (Done (Value.bool false = Value.bool (rightC x)))
      (ifB (decide (x.la > (4611686018427387904 : Int))) (Done (Value.bool false = Value.bool (rightC x)))
      (ifB (decide (x.nx < (2 : Int))) (Done (Value.bool false = Value.bool (rightC x)))
      (ifB (decide (x.nx > (8 : Int))) (Done (Value.bool false = Value.bool (rightC x)))
      (∃ (n_1 : Int),
      QSpec Try.prog (47 : Nat) [Value.slice a.ap x.ps.length a.cp] { π := m.π, sz := n, uf := m.uf : M } (Value.int IntKind.i64 n_1) ∧
      ifB (n_1 != (0 : Int)) (Done (Value.bool false = Value.bool (rightC x)))
      (∃ (n_2 : Int),
      QSpec Try.prog (43 : Nat) [Value.slice a.am x.ms.length a.cm] { π := m.π, sz := n, uf := m.uf : M } (Value.int IntKind.i64 n_2) ∧
      ifB (n_2 != (0 : Int)) (Done (Value.bool false = Value.bool (rightC x)))
      (∀ (b : Nat),
      Fresh n { π := m.π, sz := n, uf := m.uf : M } b →
      ∃ (b_1 : Bool),
      QSpec Try.prog (52 : Nat)
      [Value.slice a.ap x.ps.length a.cp, Value.func (Fn.func (53 : Nat)) #[] #[Value.pointer (some { block := b, off := (0 : Nat) : Addr })]]
      ({ π := m.π, sz := n, uf := m.uf : M }.newBlock b
      [Value.int IntKind.i64 x.ix, Value.slice a.ap x.ps.length a.cp, Value.int IntKind.i64 x.nx, Value.int IntKind.i64 x.la,
      Value.int IntKind.i64 x.nu, Value.int IntKind.i64 x.fr, Value.int IntKind.i64 x.to, Value.string x.lo, Value.string x.hi,
      Value.int IntKind.i64 x.cl, Value.int IntKind.i64 x.sq, Value.slice a.am x.ms.length a.cm])
      (Value.bool b_1) ∧
      ifB b_1 (Done (Value.bool false = Value.bool (rightC x)))
      (∃ (n_3 : Int),
      ∃ (n_4 : Int),
      ∃ (n_5 : Int),
      ∃ (s : ByteArray),
      ∃ (s_1 : ByteArray),
      ∃ (n_6 : Int),
      ∃ (n_7 : Int),
      CellsAt
      ({ π := m.π, sz := n, uf := m.uf : M }.newBlock b
      [Value.int IntKind.i64 x.ix, Value.slice a.ap x.ps.length a.cp, Value.int IntKind.i64 x.nx, Value.int IntKind.i64 x.la,
      Value.int IntKind.i64 x.nu, Value.int IntKind.i64 x.fr, Value.int IntKind.i64 x.to, Value.string x.lo, Value.string x.hi,
      Value.int IntKind.i64 x.cl, Value.int IntKind.i64 x.sq, Value.slice a.am x.ms.length a.cm])
      b (4 : Nat)
      [Value.int IntKind.i64 n_3, Value.int IntKind.i64 n_4, Value.int IntKind.i64 n_5, Value.string s, Value.string s_1,
      Value.int IntKind.i64 n_6, Value.int IntKind.i64 n_7] ∧
      ifB
      (n_3 == (0 : Int) &&
      (n_4 == (0 : Int) &&
      (n_5 == (0 : Int) && (s.toList == [] && (s_1.toList == [] && (n_6 == (0 : Int) && (n_7 == (0 : Int) && true)))))))
      (Done (Value.bool true = Value.bool (rightC x)))
      (∃ (n_8 : Int),
      CellsAt
      ({ π := m.π, sz := n, uf := m.uf : M }.newBlock b
      [Value.int IntKind.i64 x.ix, Value.slice a.ap x.ps.length a.cp, Value.int IntKind.i64 x.nx,
      Value.int IntKind.i64 x.la, Value.int IntKind.i64 x.nu, Value.int IntKind.i64 x.fr, Value.int IntKind.i64 x.to,
      Value.string x.lo, Value.string x.hi, Value.int IntKind.i64 x.cl, Value.int IntKind.i64 x.sq,
      Value.slice a.am x.ms.length a.cm])
      b (3 : Nat) [Value.int IntKind.i64 n_8] ∧
      ifB (n_3 == n_8)
      (ifB (n_3 != (0 : Int))
      (∃ (b_2 : Bool),
      QSpec Try.prog (54 : Nat) [Value.int IntKind.i64 n_6, Value.int IntKind.i64 n_7]
      ({ π := m.π, sz := n, uf := m.uf : M }.newBlock b
      [Value.int IntKind.i64 x.ix, Value.slice a.ap x.ps.length a.cp, Value.int IntKind.i64 x.nx,
      Value.int IntKind.i64 x.la, Value.int IntKind.i64 x.nu, Value.int IntKind.i64 x.fr,
      Value.int IntKind.i64 x.to, Value.string x.lo, Value.string x.hi, Value.int IntKind.i64 x.cl,
      Value.int IntKind.i64 x.sq, Value.slice a.am x.ms.length a.cm])
      (Value.bool b_2) ∧
      ifB b_2
      (∃ (a_2 : Option Addr),
      ∃ (n_9 : Nat),
      ∃ (c : Nat),
      CellsAt
      ({ π := m.π, sz := n, uf := m.uf : M }.newBlock b
      [Value.int IntKind.i64 x.ix, Value.slice a.ap x.ps.length a.cp, Value.int IntKind.i64 x.nx,
      Value.int IntKind.i64 x.la, Value.int IntKind.i64 x.nu, Value.int IntKind.i64 x.fr,
      Value.int IntKind.i64 x.to, Value.string x.lo, Value.string x.hi, Value.int IntKind.i64 x.cl,
      Value.int IntKind.i64 x.sq, Value.slice a.am x.ms.length a.cm])
      b (1 : Nat) [Value.slice a_2 n_9 c] ∧
      ∃ (n_10 : Int),
      QSpec Try.prog (17 : Nat) [Value.slice a_2 n_9 c]
      ({ π := m.π, sz := n, uf := m.uf : M }.newBlock b
      [Value.int IntKind.i64 x.ix, Value.slice a.ap x.ps.length a.cp, Value.int IntKind.i64 x.nx,
      Value.int IntKind.i64 x.la, Value.int IntKind.i64 x.nu, Value.int IntKind.i64 x.fr,
      Value.int IntKind.i64 x.to, Value.string x.lo, Value.string x.hi, Value.int IntKind.i64 x.cl,
      Value.int IntKind.i64 x.sq, Value.slice a.am x.ms.length a.cm])
      (Value.int IntKind.i64 n_10) ∧
      ifB (decide (n_10 < (4611686018427387904 : Int)))
      (∃ (n_11 : Int),
      ∃ (a_3 : Option Addr),
      ∃ (n_12 : Nat),
      ∃ (c : Nat),
      ∃ (n_13 : Int),
      ∃ (n_14 : Int),
      ∃ (n_15 : Int),
      ∃ (n_16 : Int),
      ∃ (n_17 : Int),
      ∃ (s : ByteArray),
      ∃ (s_2 : ByteArray),
      ∃ (n_18 : Int),
      ∃ (n_19 : Int),
      ∃ (a_4 : Option Addr),
      ∃ (n_20 : Nat),
      ∃ (c_1 : Nat),
      CellsAt
      ({ π := m.π, sz := n, uf := m.uf : M }.newBlock b
      [Value.int IntKind.i64 x.ix,
      Value.slice a.ap x.ps.length a.cp,
      Value.int IntKind.i64 x.nx, Value.int IntKind.i64 x.la,
      Value.int IntKind.i64 x.nu, Value.int IntKind.i64 x.fr,
      Value.int IntKind.i64 x.to, Value.string x.lo,
      Value.string x.hi, Value.int IntKind.i64 x.cl,
      Value.int IntKind.i64 x.sq,
      Value.slice a.am x.ms.length a.cm])
      b (0 : Nat)
      [Value.int IntKind.i64 n_11, Value.slice a_3 n_12 c,
      Value.int IntKind.i64 n_13, Value.int IntKind.i64 n_14,
      Value.int IntKind.i64 n_15, Value.int IntKind.i64 n_16,
      Value.int IntKind.i64 n_17, Value.string s,
      Value.string s_2, Value.int IntKind.i64 n_18,
      Value.int IntKind.i64 n_19, Value.slice a_4 n_20 c_1] ∧
      ∃ (b_3 : Bool),
      QSpec Try.prog (55 : Nat)
      [Value.agg
      #[Value.int IntKind.i64 n_11, Value.slice a_3 n_12 c,
      Value.int IntKind.i64 n_13,
      Value.int IntKind.i64 n_14,
      Value.int IntKind.i64 n_15,
      Value.int IntKind.i64 n_16,
      Value.int IntKind.i64 n_17, Value.string s,
      Value.string s_2, Value.int IntKind.i64 n_18,
      Value.int IntKind.i64 n_19,
      Value.slice a_4 n_20 c_1]]
      ({ π := m.π, sz := n, uf := m.uf : M }.newBlock b
      [Value.int IntKind.i64 x.ix,
      Value.slice a.ap x.ps.length a.cp,
      Value.int IntKind.i64 x.nx,
      Value.int IntKind.i64 x.la,
      Value.int IntKind.i64 x.nu,
      Value.int IntKind.i64 x.fr,
      Value.int IntKind.i64 x.to, Value.string x.lo,
      Value.string x.hi, Value.int IntKind.i64 x.cl,
      Value.int IntKind.i64 x.sq,
      Value.slice a.am x.ms.length a.cm])
      (Value.bool b_3) ∧
      ifB b_3 (Done (Value.bool true = Value.bool (rightC x)))
      (∃ (n_21 : Int),
      ∃ (a_5 : Option Addr),
      ∃ (n_22 : Nat),
      ∃ (c : Nat),
      ∃ (n_23 : Int),
      ∃ (n_24 : Int),
      ∃ (n_25 : Int),
      ∃ (n_26 : Int),
      ∃ (n_27 : Int),
      ∃ (s : ByteArray),
      ∃ (s_3 : ByteArray),
      ∃ (n_28 : Int),
      ∃ (n_29 : Int),
      ∃ (a_6 : Option Addr),
      ∃ (n_30 : Nat),
      ∃ (c_2 : Nat),
      CellsAt
      ({ π := m.π, sz := n, uf := m.uf : M }.newBlock
      b
      [Value.int
      IntKind.i64
      x.ix,
      Value.slice a.ap
      x.ps.length
      a.cp,
      Value.int
      IntKind.i64
      x.nx,
      Value.int
      IntKind.i64
      x.la,
      Value.int
      IntKind.i64
      x.nu,
      Value.int
      IntKind.i64
      x.fr,
      Value.int
      IntKind.i64
      x.to,
      Value.string x.lo,
      Value.string x.hi,
      Value.int
      IntKind.i64
      x.cl,
      Value.int
      IntKind.i64
      x.sq,
      Value.slice a.am
      x.ms.length
      a.cm])
      b (0 : Nat)
      [Value.int IntKind.i64
      n_21,
      Value.slice a_5 n_22
      c,
      Value.int
      IntKind.i64 n_23,
      Value.int
      IntKind.i64 n_24,
      Value.int
      IntKind.i64 n_25,
      Value.int
      IntKind.i64 n_26,
      Value.int
      IntKind.i64 n_27,
      Value.string s,
      Value.string s_3,
      Value.int
      IntKind.i64 n_28,
      Value.int
      IntKind.i64 n_29,
      Value.slice a_6 n_30
      c_2] ∧
      ∃ (b_4 : Bool),
      QSpec Try.prog
      (56 : Nat)
      [Value.agg
      #[Value.int
      IntKind.i64
      n_21,
      Value.slice
      a_5 n_22
      c,
      Value.int
      IntKind.i64
      n_23,
      Value.int
      IntKind.i64
      n_24,
      Value.int
      IntKind.i64
      n_25,
      Value.int
      IntKind.i64
      n_26,
      Value.int
      IntKind.i64
      n_27,
      Value.string
      s,
      Value.string
      s_3,
      Value.int
      IntKind.i64
      n_28,
      Value.int
      IntKind.i64
      n_29,
      Value.slice
      a_6 n_30
      c_2]]
      ({ π := m.π, sz := n, uf := m.uf : M }.newBlock
      b
      [Value.int
      IntKind.i64
      x.ix,
      Value.slice
      a.ap
      x.ps.length
      a.cp,
      Value.int
      IntKind.i64
      x.nx,
      Value.int
      IntKind.i64
      x.la,
      Value.int
      IntKind.i64
      x.nu,
      Value.int
      IntKind.i64
      x.fr,
      Value.int
      IntKind.i64
      x.to,
      Value.string
      x.lo,
      Value.string
      x.hi,
      Value.int
      IntKind.i64
      x.cl,
      Value.int
      IntKind.i64
      x.sq,
      Value.slice
      a.am
      x.ms.length
      a.cm])
      (Value.bool b_4) ∧
      Done
      (Value.bool b_4 =
      Value.bool
      (rightC x))))
      (Done (Value.bool false = Value.bool (rightC x))))
      (Done (Value.bool false = Value.bool (rightC x))))
      (Done (Value.bool false = Value.bool (rightC x))))
      (Done (Value.bool false = Value.bool (rightC x)))))))))))))) (by kernel_rfl) ?_
  have h' := h.sz hn
  refine ⟨rfl, ifB_intro (fun h1 => ⟨?_⟩) (fun h1 => ifB_intro (fun h2 => ⟨?_⟩) (fun h2 => ifB_intro (fun h3 => ⟨?_⟩) (fun h3 => ifB_intro (fun h4 => ⟨?_⟩) (fun h4 => ifB_intro (fun h5 => ⟨?_⟩) (fun h5 => ifB_intro (fun h6 => ⟨?_⟩) (fun h6 => ⟨_, rg_check x.ps a.ap a.cp hl _ h'.ps, ?_⟩))))))⟩
  · have : decide (0 ≤ x.ix) = false := by simp at h1; simp; omega
    unfold rightC; rw [this]; simp
  · have : decide (x.ix ≤ 4611686018427387904) = false := by simp at h2; simp; omega
    unfold rightC; rw [this]; simp
  · have : decide (0 ≤ x.la) = false := by simp at h3; simp; omega
    unfold rightC; rw [this]; simp
  · have : decide (x.la ≤ 4611686018427387904) = false := by simp at h4; simp; omega
    unfold rightC; rw [this]; simp
  · have : decide (2 ≤ x.nx) = false := by simp at h5; simp; omega
    unfold rightC; rw [this]; simp
  · have : decide (x.nx ≤ 8) = false := by simp at h6; simp; omega
    unfold rightC; rw [this]; simp
  have e1 : decide (0 ≤ x.ix) = true := by simp at h1; simp; omega
  have e2 : decide (x.ix ≤ 4611686018427387904) = true := by simp at h2; simp; omega
  have e3 : decide (0 ≤ x.la) = true := by simp at h3; simp; omega
  have e4 : decide (x.la ≤ 4611686018427387904) = true := by simp at h4; simp; omega
  have e5 : decide (2 ≤ x.nx) = true := by simp at h5; simp; omega
  have e6 : decide (x.nx ≤ 8) = true := by simp at h6; simp; omega
  have hnx : 2 ≤ x.nx ∧ x.nx ≤ 8 := ⟨by simpa using e5, by simpa using e6⟩
  cases hr : rightB x.ps with
  | false =>
    refine ifB_true ⟨?_⟩
    unfold rightC; rw [hr]; simp
  | true =>
  refine ifB_false ⟨_, scheck_q a.am a.cm x.ms hm _ h'.ms, ?_⟩
  cases ht : tabB 0 x.ms with
  | false =>
    refine ifB_true ⟨?_⟩
    unfold rightC; rw [ht]; simp
  | true =>
  refine ifB_false fun b hb => ?_
  have hc : CellsAt (({ m with sz := n } : M).newBlock b (encCt x a)) b 0 (encCt x a) := cellsAt_new
  have h2 : CtR (({ m with sz := n } : M).newBlock b (encCt x a)) x a := h'.fresh (Nat.le_refl _) hb
  refine ⟨_, contains_q x a a.ap a.cp x.ps hl b _ h2.ps hc, ?_⟩
  have hal := all_any x
  cases ha : x.ps.any fun p => decide (p.gr ≥ x.nx) with
  | true =>
    rw [ha] at hal
    refine ifB_true ⟨?_⟩
    unfold rightC; rw [hal]; simp
  | false =>
  rw [ha] at hal
  have hs : rightC x = (noPl x || goB x) := by
    unfold rightC
    rw [e1, e2, e3, e4, e5, e6, hr, ht, hal]; rfl
  rw [hs]
  refine ifB_false ⟨_, _, _, _, _, _, _, ct_plan hc, ?_⟩
  have hn0 : (x.nu == 0 && (x.fr == 0 && (x.to == 0 && (x.lo.toList == [] && (x.hi.toList == [] && (x.cl == 0 && (x.sq == 0 && true))))))) = noPl x := by
    rw [Bool.and_true]; rfl
  rw [hn0]
  cases hno : noPl x with
  | true => exact ifB_true ⟨rfl⟩
  | false =>
  rw [Bool.false_or]
  have hlen := right_len hr
  refine ifB_false ⟨_, ct_cell hc 3 _ rfl rfl, ifB_intro (fun g1 => ifB_intro (fun g2 => ⟨_, whose_q _ _ _, ifB_intro (fun g3 => ⟨_, _, _, ct_cell hc 1 _ rfl rfl, _, rg_epoch x.ps a.ap a.cp (by omega) (row_h0 h.ps) _ h2.ps, ifB_intro (fun g4 => ⟨_, _, _, _, _, _, _, _, _, _, _, _, _, _, _, _, hc, _, splits_q x a hl hnx hr _ h2, ?_⟩) (fun g4 => ⟨?_⟩)⟩) (fun g3 => ⟨?_⟩)⟩) (fun g2 => ⟨?_⟩)) (fun g1 => ⟨?_⟩)⟩
  · have k1 : decide (x.nu = x.la) = true := g1
    have k2 : (!decide (x.nu = 0)) = true := g2
    have hg : goB x = (splB x || mrgB x) := by
      unfold goB
      rw [k1, k2, g3, g4]; rfl
    rw [hg]
    cases splB x with
    | true => exact ifB_true ⟨rfl⟩
    | false => exact ifB_false ⟨_, _, _, _, _, _, _, _, _, _, _, _, _, _, _, _, hc, _, merges_q x a hl hr _ h2, ⟨rfl⟩⟩
  · unfold goB; rw [g4]; simp
  · unfold goB; rw [g3]; simp
  · have k2 : (!decide (x.nu = 0)) = false := g2
    unfold goB; rw [k2]; simp
  · have k1 : decide (x.nu = x.la) = false := g1
    unfold goB; rw [k1]; simp

theorem number_q (x : Int) (m : M) : QSpec Try.prog 38 [I x] m (.bool (decide (0 ≤ x) && decide (x ≤ 4611686018427387904))) := by
  refine QSpec.of_vc Try.func38 (ann := fun _ => noAnn) fun n hn => ?_
  refine vc_by (X :=
      true = true ∧
      ifB (decide (x ≥ (0 : Int))) (Done (Value.bool (decide (x ≤ (4611686018427387904 : Int))) = Value.bool (decide ((0 : Int) ≤ x) && decide (x ≤ (4611686018427387904 : Int)))))
      (Done (Value.bool false = Value.bool (decide ((0 : Int) ≤ x) && decide (x ≤ (4611686018427387904 : Int)))))) (by kernel_rfl) ?_
  refine ⟨rfl, ifB_intro (fun h => ⟨?_⟩) (fun h => ⟨?_⟩)⟩
  · simp at h; have : 0 ≤ x := by omega
    simp [this]
  · simp at h; have : ¬ 0 ≤ x := by omega
    simp [this]

theorem rright_c (x : Ct) (a : Ca) (hl : x.ps.length ≤ 9223372036854775807) (hm : x.ms.length ≤ 9223372036854775807) (m : M) (h : CtR m x a) : QSpec Try.prog 16 [ctv x a] m (.bool (rightC x)) := by
  refine QSpec.of_vc Try.func16 (ann := fun n _ => { A := Nat, inv := fun k => k ≤ x.ps.length ∧ (x.ps.take k).all (fun p => decide (p.gr < x.nx)) = true, st := fun k => [(3, .val (I k)), (1, .own 0 0)], own := fun _ => [(0, ⟨28, encCt x a⟩)], m := fun _ => { m with sz := n }, μ := fun k => x.ps.length - k }) fun n hn => ?_
  refine vc_by (X :=
      true = true ∧
      ∃ (b : Bool),
      QSpec Try.prog (38 : Nat) [Value.int IntKind.i64 x.ix] { π := m.π, sz := n, uf := m.uf : M } (Value.bool b) ∧
      ifB (!b) (Done (Value.bool false = Value.bool (rightC x)))
      (∃ (b : Bool),
      QSpec Try.prog (38 : Nat) [Value.int IntKind.i64 x.la] { π := m.π, sz := n, uf := m.uf : M } (Value.bool b) ∧
      ifB (!b) (Done (Value.bool false = Value.bool (rightC x)))
      (∃ (b : Bool),
      QSpec Try.prog (39 : Nat) [Value.slice a.ap x.ps.length a.cp] { π := m.π, sz := n, uf := m.uf : M } (Value.bool b) ∧
      ifB (!b) (Done (Value.bool false = Value.bool (rightC x)))
      (ifB (decide (x.nx < (2 : Int))) (Done (Value.bool false = Value.bool (rightC x)))
      (ifB (decide (x.nx > (8 : Int))) (Done (Value.bool false = Value.bool (rightC x)))
      (∃ (b : Bool),
      QSpec Try.prog (40 : Nat) [Value.slice a.am x.ms.length a.cm] { π := m.π, sz := n, uf := m.uf : M } (Value.bool b) ∧
      ifB (!b) (Done (Value.bool false = Value.bool (rightC x)))
      ((∃ (a_1 : Nat),
      (a_1 ≤ x.ps.length ∧ ((List.take a_1 x.ps).all fun (p : Pl) => decide (p.gr < x.nx)) = true) ∧
      { π := m.π, sz := n, uf := m.uf : M } = { π := m.π, sz := n, uf := m.uf : M } ∧
      ((SV.val (Value.int IntKind.i64 (0 : Int)) = SV.val (Value.int IntKind.i64 (↑a_1 : Int)) ∧ true = true) ∧
      (SV.own ((0 : Nat) + (0 : Nat)) (0 : Nat) = SV.own (0 : Nat) (0 : Nat) ∧ true = true) ∧ True) ∧
      (some
      { ty := (28 : Nat), cs := [Value.int IntKind.i64 x.ix, Value.slice a.ap x.ps.length a.cp, Value.int IntKind.i64 x.nx, Value.int IntKind.i64 x.la, Value.int IntKind.i64 x.nu, Value.int IntKind.i64 x.fr, Value.int IntKind.i64 x.to, Value.string x.lo, Value.string x.hi, Value.int IntKind.i64 x.cl, Value.int IntKind.i64 x.sq, Value.slice a.am x.ms.length a.cm] : Bx } =
      some
      { ty := (28 : TypeId), cs := [Value.int IntKind.i64 x.ix, Value.slice a.ap x.ps.length a.cp, Value.int IntKind.i64 x.nx, Value.int IntKind.i64 x.la, Value.int IntKind.i64 x.nu, Value.int IntKind.i64 x.fr, Value.int IntKind.i64 x.to, Value.string x.lo, Value.string x.hi, Value.int IntKind.i64 x.cl, Value.int IntKind.i64 x.sq, Value.slice a.am x.ms.length a.cm] : Bx } ∧
      true = true) ∧
      True) ∧
      ∀ (a_1 : Nat),
      a_1 ≤ x.ps.length ∧ ((List.take a_1 x.ps).all fun (p : Pl) => decide (p.gr < x.nx)) = true →
      ifB (decide ((↑a_1 : Int) < (↑x.ps.length : Int)))
      (true = true ∧
      ∃ (b : Nat),
      ∃ (off : Nat),
      a.ap = some { block := b, off := off : Addr } ∧
      ((0 : Int) ≤ (↑a_1 : Int) ∧ (↑a_1 : Int) < (↑x.ps.length : Int)) ∧
      ∃ (n_1 : Int),
      CellsAt { π := m.π, sz := n, uf := m.uf : M } b (off + (↑a_1 : Int).toNat * (3 : Nat) + (0 : Nat)) [Value.int IntKind.i64 n_1] ∧
      ifB (decide (n_1 ≥ x.nx)) (Done (Value.bool false = Value.bool (rightC x)))
      (∃ (a' : Nat),
      ((a' ≤ x.ps.length ∧ ((List.take a' x.ps).all fun (p : Pl) => decide (p.gr < x.nx)) = true) ∧
      { π := m.π, sz := n, uf := m.uf : M } = { π := m.π, sz := n, uf := m.uf : M } ∧
      ((SV.val (Value.int IntKind.i64 (IntKind.i64.wrap ((↑a_1 : Int) + (1 : Int)))) =
      SV.val (Value.int IntKind.i64 (↑a' : Int)) ∧
      true = true) ∧
      (SV.own (0 : Nat) (0 : Nat) = SV.own (0 : Nat) (0 : Nat) ∧ true = true) ∧ True) ∧
      (some
      { ty := (28 : TypeId), cs := [Value.int IntKind.i64 x.ix, Value.slice a.ap x.ps.length a.cp, Value.int IntKind.i64 x.nx, Value.int IntKind.i64 x.la, Value.int IntKind.i64 x.nu, Value.int IntKind.i64 x.fr, Value.int IntKind.i64 x.to, Value.string x.lo, Value.string x.hi, Value.int IntKind.i64 x.cl, Value.int IntKind.i64 x.sq, Value.slice a.am x.ms.length a.cm] : Bx } =
      some
      { ty := (28 : TypeId), cs := [Value.int IntKind.i64 x.ix, Value.slice a.ap x.ps.length a.cp, Value.int IntKind.i64 x.nx, Value.int IntKind.i64 x.la, Value.int IntKind.i64 x.nu, Value.int IntKind.i64 x.fr, Value.int IntKind.i64 x.to, Value.string x.lo, Value.string x.hi, Value.int IntKind.i64 x.cl, Value.int IntKind.i64 x.sq, Value.slice a.am x.ms.length a.cm] : Bx } ∧
      true = true) ∧
      True) ∧
      x.ps.length - a' < x.ps.length - a_1))
      (ifB
      (x.nu == (0 : Int) &&
      (x.fr == (0 : Int) &&
      (x.to == (0 : Int) && (x.lo.toList == [] && (x.hi.toList == [] && (x.cl == (0 : Int) && (x.sq == (0 : Int) && true)))))))
      (Done (Value.bool true = Value.bool (rightC x)))
      (∃ (b : Bool),
      QSpec Try.prog (41 : Nat)
      [Value.agg
      #[Value.int IntKind.i64 x.ix, Value.slice a.ap x.ps.length a.cp, Value.int IntKind.i64 x.nx, Value.int IntKind.i64 x.la,
      Value.int IntKind.i64 x.nu, Value.int IntKind.i64 x.fr, Value.int IntKind.i64 x.to, Value.string x.lo, Value.string x.hi,
      Value.int IntKind.i64 x.cl, Value.int IntKind.i64 x.sq, Value.slice a.am x.ms.length a.cm]]
      { π := m.π, sz := n, uf := m.uf : M } (Value.bool b) ∧
      Done (Value.bool b = Value.bool (rightC x))))))))))) (by kernel_rfl) ?_
  have h' := h.sz hn
  refine ⟨rfl, _, number_q _ _, ifB_intro (fun h1 => ⟨?_⟩) (fun h1 => ⟨_, number_q _ _, ifB_intro (fun h2 => ⟨?_⟩) (fun h2 => ⟨_, rf_right x.ps a.ap a.cp hl _ h'.ps, ifB_intro (fun h3 => ⟨?_⟩) (fun h3 => ifB_intro (fun h4 => ⟨?_⟩) (fun h4 => ifB_intro (fun h5 => ⟨?_⟩) (fun h5 => ⟨_, rright_q a.am a.cm x.ms hm _ h'.ms, ifB_intro (fun h6 => ⟨?_⟩) (fun h6 => ⟨⟨0, ⟨Nat.zero_le _, rfl⟩, rfl, by simp⟩, fun k ⟨hk, hq⟩ => ?_⟩)⟩)))⟩)⟩)⟩
  · have := not_t h1
    unfold rightC; rcases Bool.and_eq_false_iff.1 this with k | k <;> rw [k] <;> simp
  · have := not_t h2
    unfold rightC; rcases Bool.and_eq_false_iff.1 this with k | k <;> rw [k] <;> simp
  · have := not_t h3
    unfold rightC; rw [this]; simp
  · have : decide (2 ≤ x.nx) = false := by simp at h4; simp; omega
    unfold rightC; rw [this]; simp
  · have : decide (x.nx ≤ 8) = false := by simp at h5; simp; omega
    unfold rightC; rw [this]; simp
  · have := not_t h6
    unfold rightC; rw [this]; simp
  have q1 := not_f h1
  have q2 := not_f h2
  have hr := not_f h3
  have ht := not_f h6
  have e5 : decide (2 ≤ x.nx) = true := by simp at h4; simp; omega
  have e6 : decide (x.nx ≤ 8) = true := by simp at h5; simp; omega
  have hnx : 2 ≤ x.nx ∧ x.nx ≤ 8 := ⟨by simpa using e5, by simpa using e6⟩
  refine ifB_intro (fun hb => ?_) (fun hb => ?_)
  · have hk2 : k < x.ps.length := by simpa using hb
    obtain ⟨b, o, hb2, hc⟩ := h'.ps.cells (by rw [pl_len]; omega)
    have w1 : IntKind.i64.wrap ((k : Int) + 1) = ((k + 1 : Nat) : Int) := by simp [IntKind.wrap_i64]; omega
    refine ⟨rfl, b, o, hb2, by omega, _, by simpa using pl_grc hc hk2, ifB_intro (fun h7 => ⟨?_⟩) (fun h7 => ⟨k + 1, ⟨⟨hk2, ?_⟩, rfl, by simp [w1]⟩, by omega⟩)⟩
    · have : (x.ps.all fun p => decide (p.gr < x.nx)) = false := by
        rw [List.all_eq_false]
        exact ⟨x.ps[k], List.getElem_mem hk2, by simp at h7; simp; omega⟩
      unfold rightC; rw [this]; simp
    · rw [List.take_succ_eq_append_getElem hk2, List.all_append, hq]
      simp at h7 ⊢; omega
  · have hke : k = x.ps.length := by simp at hb; omega
    rw [hke, List.take_length] at hq
    obtain ⟨q3, q4⟩ := Bool.and_eq_true_iff.1 q1
    obtain ⟨q5, q6⟩ := Bool.and_eq_true_iff.1 q2
    have hs : rightC x = (noPl x || goB x) := by
      unfold rightC
      rw [q3, q4, q5, q6, e5, e6, hr, ht, hq]; rfl
    rw [hs]
    have hn0 : (x.nu == 0 && (x.fr == 0 && (x.to == 0 && (x.lo.toList == [] && (x.hi.toList == [] && (x.cl == 0 && (x.sq == 0 && true))))))) = noPl x := by
      rw [Bool.and_true]; rfl
    rw [hn0]
    cases hno : noPl x with
    | true => exact ifB_true ⟨rfl⟩
    | false => exact ifB_false ⟨_, goes_q x a hl hnx (of_decide_eq_true q5) hr _ h', ⟨rfl⟩⟩

end Go.Proofs.Ytjjfcaigonomiaa
