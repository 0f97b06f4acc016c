/-
  Contracts of functions of this seat: what each hands back, and what it leaves of memory (rng15). Nothing here is trusted: Lean checks it.
-/
import Derived.Test.YtpnpebefcmgjoaaRng14
set_option linter.unusedVariables false
set_option linter.unusedSimpArgs false
namespace Go.Proofs.Ytpnpebefcmgjoaa
open Go.Vc Go.RowKit
set_option maxRecDepth 100000

theorem merge_ok {l : List Pl} {i : Int} (h : (mergeL l i).2 = 0) : rightB l = true ∧ 0 ≤ i ∧ i.toNat + 1 < l.length ∧ epochL l < 4611686018427387904 ∧ mergeL l i = (delS l i.toNat (epochL l + 1), 0) := by
  unfold mergeL at h ⊢
  split at h
  · cases h
  rename_i h1
  have hR : rightB l = true := by simpa using h1
  split at h
  · cases h
  rename_i h2
  rw [if_neg h1, if_neg h2]
  simp only [Bool.or_eq_true, decide_eq_true_eq, not_or] at h2
  exact ⟨hR, by omega, by omega, by omega, rfl⟩

theorem merge_bad {l : List Pl} {i : Int} (h : (mergeL l i).2 ≠ 0) : (mergeL l i).1 = [] ∧ ((rightB l = true ∧ 0 ≤ i ∧ i.toNat + 1 < l.length) → (mergeL l i).2 = 170 ∧ epochL l ≥ 4611686018427387904) := by
  unfold mergeL at h ⊢
  split
  · rename_i h1
    exact ⟨rfl, fun h2 => by rw [h2.1] at h1; cases h1⟩
  · rename_i h1
    rw [if_neg h1] at h
    split
    · rename_i h2
      refine ⟨rfl, fun h3 => ⟨rfl, ?_⟩⟩
      simp only [Bool.or_eq_true, decide_eq_true_eq] at h2
      omega
    · rename_i h2
      rw [if_neg h2] at h
      exact absurd rfl h

theorem merge_find {l : List Pl} {f : Nat} {e : Int} (probe : ByteArray) (hR : rightB l = true) (hf1 : f + 1 < l.length) :
    ∃ y u w, (delS l f e)[findL probe (delS l f e) 0 0]? = some y ∧ l[findL probe l 0 0]? = some u ∧ l[f]? = some w ∧
      (withinB w.fr (endP l (f + 1)) probe = true → y = { w with ep := e }) ∧ (withinB w.fr (endP l (f + 1)) probe = false → y = u) := by
  obtain ⟨-, -, h4⟩ := right_iff.1 hR
  obtain ⟨u, t1, t2, t3⟩ := find_spec probe hR
  generalize findL probe l 0 0 = i at *
  have hf : f < l.length := by omega
  have s1 : l[f]? = some l[f] := List.getElem?_eq_getElem hf
  have old : ∀ {a b : Nat} {u v : Pl}, a < b → l[a]? = some u → l[b]? = some v → okR u v := fun h a b => pw_lt h4 h a b
  cases hw : withinB l[f].fr (endP l (f + 1)) probe with
  | true =>
    have hw' := hw
    simp only [withinB, Bool.and_eq_true, Bool.not_eq_true', Bool.or_eq_true] at hw
    have hk : findL probe (delS l f e) 0 0 = f := find_at (y := { l[f] with ep := e }) (by rw [del_get hf, if_neg (by omega), if_pos rfl]) hw.1 fun j z hj hz => by
      rw [del_get hf, if_neg (by omega), if_neg (by omega)] at hz
      have hlt : f + 1 + 1 < l.length := by
        have := (List.getElem?_eq_some_iff.1 hz).1
        omega
      have hg : l[f + 1 + 1]? = some l[f + 1 + 1] := List.getElem?_eq_getElem hlt
      have he : endP l (f + 1) = l[f + 1 + 1].fr := by simp [endP, hg]
      have hp : ltS probe l[f + 1 + 1].fr = true := by
        rw [he] at hw
        rcases hw.2 with h | h
        · have := lt_empty (old (by omega : f < f + 1 + 1) s1 hg).2
          rw [h] at this; cases this
        · exact h
      by_cases e1 : j + 1 = f + 1 + 1
      · rw [e1, hg] at hz; cases hz; exact hp
      · exact ltS_trans hp (old (by omega) hg hz).2
    rw [hk]
    exact ⟨{ l[f] with ep := e }, u, l[f], by rw [del_get hf, if_neg (by omega), if_pos rfl], t1, s1, fun _ => rfl, fun h => by rw [hw'] at h; cases h⟩
  | false =>
    have hcase : i < f ∨ f + 1 < i := by
      rcases Nat.lt_or_ge i f with h | h
      · exact .inl h
      · rcases Nat.lt_or_ge (f + 1) i with h' | h'
        · exact .inr h'
        · exfalso
          have hle : ltS probe l[f].fr = false := by
            by_cases e1 : i = f
            · subst e1; rw [s1] at t1; cases t1; exact t2
            · cases hq : ltS probe l[f].fr with
              | false => rfl
              | true =>
                have := ltS_trans hq (old (by omega : f < i) s1 t1).2
                rw [this] at t2; cases t2
          simp only [withinB, hle, Bool.not_false, Bool.true_and, Bool.or_eq_false_iff] at hw
          cases hg : l[f + 1 + 1]? with
          | none => rw [end_none hg, emp_emp] at hw; cases hw.1
          | some z =>
            have he : endP l (f + 1) = z.fr := by simp [endP, hg]
            rw [he, t3 _ z (by omega) hg] at hw
            cases hw.2
    rcases hcase with hlt | hgt
    · have hk : findL probe (delS l f e) 0 0 = i := find_at (y := u) (by rw [del_get hf, if_pos hlt]; exact t1) t2 fun j z hj hz => by
        rw [del_get hf] at hz
        split at hz
        · exact t3 _ z hj hz
        · split at hz
          · cases hz; have t := t3 f l[f] hlt s1; exact t
          · exact t3 _ z (by omega) hz
      rw [hk]
      exact ⟨u, u, l[f], by rw [del_get hf, if_pos hlt]; exact t1, t1, s1, fun h => (by rw [hw] at h; cases h), fun _ => rfl⟩
    · have hk : findL probe (delS l f e) 0 0 = i - 1 := find_at (y := u) (by rw [del_get hf, if_neg (by omega), if_neg (by omega), show i - 1 + 1 = i by omega]; exact t1) t2 fun j z hj hz => by
        rw [del_get hf, if_neg (by omega), if_neg (by omega)] at hz
        exact t3 _ z (by omega) hz
      rw [hk]
      exact ⟨u, u, l[f], by rw [del_get hf, if_neg (by omega), if_neg (by omega), show i - 1 + 1 = i by omega]; exact t1, t1, s1, fun h => (by rw [hw] at h; cases h), fun _ => rfl⟩

theorem del_ins {l : List Pl} {key : ByteArray} {g e e2 : Int} {f : Nat} (hf : f < l.length) : (delS (insS l key g f e) f e2).length = l.length ∧ ∀ (j : Nat) (u v : Pl), (delS (insS l key g f e) f e2)[j]? = some u → l[j]? = some v → u.gr = v.gr ∧ u.fr = v.fr := by
  have hl := ins_len l key g f e hf
  have hf2 : f < (insS l key g f e).length := by omega
  refine ⟨by rw [del_form hf2]; simp; omega, fun j u v hu hv => ?_⟩
  rw [del_get hf2] at hu
  split at hu
  · rename_i h
    rw [ins_get hf, if_pos h, hv] at hu
    cases hu; exact ⟨rfl, rfl⟩
  · split at hu
    · rename_i h
      subst h
      cases hu
      have h1 := ins_get (key := key) (g := g) (e := e) hf j
      rw [if_neg (by omega), if_pos rfl, List.getElem?_eq_getElem hf2] at h1
      rw [List.getElem?_eq_getElem hf] at hv
      cases hv
      have h1 := Option.some.inj h1
      rw [h1]; exact ⟨rfl, rfl⟩
    · rw [ins_get hf, if_neg (by omega), if_neg (by omega), if_neg (by omega), Nat.add_sub_cancel, hv] at hu
      cases hu; exact ⟨rfl, rfl⟩

theorem del_len {l : List Pl} {f : Nat} {e : Int} (hf : f + 1 < l.length) : (delS l f e).length = l.length - 1 := by
  rw [del_form (by omega)]; simp; omega

structure MgX where
  k : Nat
  m : M
  z : List Pl
  a : Option Addr
  c : Nat

theorem rangesmerges (l : List Pl) (a : Option Addr) (c : Nat) (i : Int) (probe key : ByteArray) (g : Int) (hi : In64 i) (hl : l.length ≤ 1048576) (m : M) (h : Row m a (pls l)) :
    QSpec Try.prog 8 [.slice a l.length c, I i, .string probe, .string key, I g] m (.bool true) := by
  refine QSpec.of_vc Try.func8 (ann := fun n r => if r = 15 then { A := M, inv := fun x => Row x a (pls l), st := fun x => [(0, .val (.slice a l.length c)), (3, .val (.string key)), (4, .val (I g))], own := fun _ => [], m := fun x => x, μ := fun _ => 0, cut := true }
    else { A := MgX, inv := fun x => (x.k ≤ l.length ∧ x.z.length = l.length ∧ ∀ (j : Nat) (u v : Pl), x.z[j]? = some u → l[j]? = some v → u.gr = v.gr ∧ u.fr = v.fr) ∧ Row x.m x.a (pls x.z) ∧ Row x.m a (pls l), st := fun x => [(19, .val (I x.k)), (17, .val (.slice x.a x.z.length x.c)), (0, .val (.slice a l.length c))], own := fun _ => [], m := fun x => x.m, μ := fun x => l.length - x.k }) fun n hn => ?_
  refine vc_by (X :=
      true = true ∧
      ∃ (b : Bool),
      QSpec Try.prog (12 : Nat) [] { π := m.π, sz := n, uf := m.uf : M } (Value.bool b) ∧
      ifB (!b) (Done (Value.bool false = Value.bool true))
      (∃ (S' : Nat → Prop),
      (∀ (b : Nat), S' b → m.uf b ∧ (n ≤ b ∨ False)) ∧
      ∀ (n_1 : Nat),
      n ≤ n_1 →
      SpecW Try.prog (9 : Nat) [Value.slice a l.length c] { π := m.π, sz := n_1, uf := m.uf : M } S' fun (v : Value) (m' : M) =>
      ∃ (a_2 : Option Addr),
      ∃ (n_2 : Nat),
      ∃ (c_1 : Nat),
      v = Value.slice a_2 n_2 c_1 ∧
      ∃ (S' : Nat → Prop),
      (∀ (b : Nat), S' b → m'.uf b ∧ (n ≤ b ∨ False)) ∧
      ∀ (n_3 : Nat),
      m'.sz ≤ n_3 →
      SpecW Try.prog (28 : Nat) [Value.slice a_2 n_2 c_1, Value.int IntKind.i64 i] { π := m'.π, sz := n_3, uf := m'.uf : M } S'
      fun (v : Value) (m' : M) =>
      ∃ (a_4 : Option Addr),
      ∃ (n_4 : Nat),
      ∃ (c_2 : Nat),
      ∃ (n_5 : Int),
      v = Value.tuple #[Value.slice a_4 n_4 c_2, Value.int IntKind.i64 n_5] ∧
      ifB (n_5 == (0 : Int))
      (∃ (n : Int),
      QSpec Try.prog (19 : Nat) [Value.slice a_4 n_4 c_2] m' (Value.int IntKind.i64 n) ∧
      ifB (n != (0 : Int)) (Done (Value.bool false = Value.bool true))
      (ifB ((↑n_4 : Int) != IntKind.i64.wrap ((↑l.length : Int) - (1 : Int))) (Done (Value.bool false = Value.bool true))
      (true = true ∧
      ∃ (n : Int),
      QSpec Try.prog (16 : Nat) [Value.slice a l.length c, Value.string probe] m' (Value.int IntKind.i64 n) ∧
      ∃ (b : Nat),
      ∃ (off : Nat),
      a = some { block := b, off := off : Addr } ∧
      ((0 : Int) ≤ n ∧ n < (↑l.length : Int)) ∧
      ∃ (n_6 : Int),
      ∃ (s : ByteArray),
      ∃ (n_7 : Int),
      CellsAt m' b (off + n.toNat * (3 : Nat))
      [Value.int IntKind.i64 n_6, Value.string s, Value.int IntKind.i64 n_7] ∧
      ∃ (n : Int),
      QSpec Try.prog (16 : Nat) [Value.slice a_4 n_4 c_2, Value.string probe] m'
      (Value.int IntKind.i64 n) ∧
      ∃ (b : Nat),
      ∃ (off : Nat),
      a_4 = some { block := b, off := off : Addr } ∧
      ((0 : Int) ≤ n ∧ n < (↑n_4 : Int)) ∧
      ∃ (n_8 : Int),
      ∃ (s_1 : ByteArray),
      ∃ (n_9 : Int),
      CellsAt m' b (off + n.toNat * (3 : Nat))
      [Value.int IntKind.i64 n_8, Value.string s_1, Value.int IntKind.i64 n_9] ∧
      true = true ∧
      ∃ (b : Nat),
      ∃ (off : Nat),
      a = some { block := b, off := off : Addr } ∧
      ((0 : Int) ≤ i ∧ i < (↑l.length : Int)) ∧
      ∃ (s_2 : ByteArray),
      CellsAt m' b (off + i.toNat * (3 : Nat) + (1 : Nat))
      [Value.string s_2] ∧
      ∃ (s_3 : ByteArray),
      QSpec Try.prog (18 : Nat)
      [Value.slice a l.length c,
      Value.int IntKind.i64 (IntKind.i64.wrap (i + (1 : Int)))]
      m' (Value.string s_3) ∧
      ∃ (b : Bool),
      QSpec Try.prog (13 : Nat)
      [Value.string s_2, Value.string s_3, Value.string probe]
      m' (Value.bool b) ∧
      ifB b
      (true = true ∧
      ∃ (b : Nat),
      ∃ (off : Nat),
      a = some { block := b, off := off : Addr } ∧
      ((0 : Int) ≤ i ∧ i < (↑l.length : Int)) ∧
      ∃ (n : Int),
      CellsAt m' b
      (off + i.toNat * (3 : Nat) + (0 : Nat))
      [Value.int IntKind.i64 n] ∧
      ifB (n_8 != n)
      (Done
      (Value.bool false = Value.bool true))
      (∃ (b : Nat),
      ∃ (off : Nat),
      a =
      some
      { block := b, off := off : Addr } ∧
      ((0 : Int) ≤ i ∧
      i < (↑l.length : Int)) ∧
      ∃ (s : ByteArray),
      CellsAt m' b
      (off +
      i.toNat * (3 : Nat) +
      (1 : Nat))
      [Value.string s] ∧
      ifB
      (!s_1.toList == s.toList)
      (Done
      (Value.bool false =
      Value.bool true))
      (∃ (n : Int),
      QSpec Try.prog
      (23 : Nat)
      [Value.slice a
      l.length c]
      m'
      (Value.int
      IntKind.i64 n) ∧
      ifB (decide (n_9 ≤ n))
      (Done
      (Value.bool
      false =
      Value.bool
      true))
      (∃ (x : M),
      Row x a (pls l) ∧
      m' = x ∧
      ((SV.val
      (Value.slice
      a
      l.length
      c) =
      SV.val
      (Value.slice
      a
      l.length
      c) ∧
      true =
      true) ∧
      (SV.val
      (Value.string
      key) =
      SV.val
      (Value.string
      key) ∧
      true =
      true) ∧
      (SV.val
      (Value.int
      IntKind.i64
      g) =
      SV.val
      (Value.int
      IntKind.i64
      g) ∧
      true =
      true) ∧
      True) ∧
      True))))
      (ifB
      (!(n_8 == n_6 &&
      (s_1.toList == s.toList && (n_9 == n_7 && true))))
      (Done (Value.bool false = Value.bool true))
      (∃ (x : M),
      Row x a (pls l) ∧
      m' = x ∧
      ((SV.val (Value.slice a l.length c) =
      SV.val (Value.slice a l.length c) ∧
      true = true) ∧
      (SV.val (Value.string key) =
      SV.val (Value.string key) ∧
      true = true) ∧
      (SV.val (Value.int IntKind.i64 g) =
      SV.val (Value.int IntKind.i64 g) ∧
      true = true) ∧
      True) ∧
      True)))))
      (ifB (decide ((↑n_4 : Int) > (0 : Int))) (Done (Value.bool false = Value.bool true))
      (∃ (x : M),
      Row x a (pls l) ∧
      m' = x ∧
      ((SV.val (Value.slice a l.length c) = SV.val (Value.slice a l.length c) ∧ true = true) ∧
      (SV.val (Value.string key) = SV.val (Value.string key) ∧ true = true) ∧
      (SV.val (Value.int IntKind.i64 g) = SV.val (Value.int IntKind.i64 g) ∧ true = true) ∧ True) ∧
      True)) ∧
      ∀ (x : M),
      Row x a (pls l) →
      ∃ (S' : Nat → Prop),
      (∀ (b : Nat), S' b → x.uf b ∧ (n ≤ b ∨ False)) ∧
      ∀ (n_6 : Nat),
      x.sz ≤ n_6 →
      SpecW Try.prog (9 : Nat) [Value.slice a l.length c] { π := x.π, sz := n_6, uf := x.uf : M } S'
      fun (v : Value) (m' : M) =>
      ∃ (a_7 : Option Addr),
      ∃ (n_7 : Nat),
      ∃ (c_3 : Nat),
      v = Value.slice a_7 n_7 c_3 ∧
      ∃ (S' : Nat → Prop),
      (∀ (b : Nat), S' b → m'.uf b ∧ (n ≤ b ∨ False)) ∧
      ∀ (n_8 : Nat),
      m'.sz ≤ n_8 →
      SpecW Try.prog (26 : Nat) [Value.slice a_7 n_7 c_3, Value.string key, Value.int IntKind.i64 g]
      { π := m'.π, sz := n_8, uf := m'.uf : M } S' fun (v : Value) (m' : M) =>
      ∃ (a_9 : Option Addr),
      ∃ (n_9 : Nat),
      ∃ (c_4 : Nat),
      ∃ (n_10 : Int),
      v = Value.tuple #[Value.slice a_9 n_9 c_4, Value.int IntKind.i64 n_10] ∧
      ifB (n_10 != (0 : Int)) (Done (Value.bool ((↑n_9 : Int) == (0 : Int)) = Value.bool true))
      (∃ (n_11 : Int),
      QSpec Try.prog (16 : Nat) [Value.slice a l.length c, Value.string key] m'
      (Value.int IntKind.i64 n_11) ∧
      ∃ (S' : Nat → Prop),
      (∀ (b : Nat), S' b → m'.uf b ∧ (n ≤ b ∨ False)) ∧
      ∀ (n : Nat),
      m'.sz ≤ n →
      SpecW Try.prog (28 : Nat)
      [Value.slice a_9 n_9 c_4, Value.int IntKind.i64 n_11]
      { π := m'.π, sz := n, uf := m'.uf : M } S' fun (v : Value) (m' : M) =>
      ∃ (a_11 : Option Addr),
      ∃ (n : Nat),
      ∃ (c_5 : Nat),
      ∃ (n_12 : Int),
      v =
      Value.tuple
      #[Value.slice a_11 n c_5, Value.int IntKind.i64 n_12] ∧
      ifB (n_12 != (0 : Int))
      (ifB (n_12 == (170 : Int))
      (∃ (n : Int),
      QSpec Try.prog (23 : Nat) [Value.slice a_9 n_9 c_4] m'
      (Value.int IntKind.i64 n) ∧
      Done
      (Value.bool (n == (4611686018427387904 : Int)) =
      Value.bool true))
      (Done (Value.bool false = Value.bool true)))
      (ifB ((↑n : Int) != (↑l.length : Int))
      (ifB (n_12 == (170 : Int))
      (∃ (n : Int),
      QSpec Try.prog (23 : Nat) [Value.slice a_9 n_9 c_4] m'
      (Value.int IntKind.i64 n) ∧
      Done
      (Value.bool (n == (4611686018427387904 : Int)) =
      Value.bool true))
      (Done (Value.bool false = Value.bool true)))
      ((∃ (a_12 : MgX),
      ((a_12.k ≤ l.length ∧
      a_12.z.length = l.length ∧
      ∀ (j : Nat) (u v : Pl),
      a_12.z[j]? = some u →
      l[j]? = some v →
      u.gr = v.gr ∧ u.fr = v.fr) ∧
      Row a_12.m a_12.a (pls a_12.z) ∧
      Row a_12.m a (pls l)) ∧
      m' = a_12.m ∧
      ((SV.val (Value.int IntKind.i64 (0 : Int)) =
      SV.val
      (Value.int IntKind.i64 (↑a_12.k : Int)) ∧
      true = true) ∧
      (SV.val (Value.slice a_11 n c_5) =
      SV.val
      (Value.slice a_12.a a_12.z.length
      a_12.c) ∧
      true = true) ∧
      (SV.val (Value.slice a l.length c) =
      SV.val (Value.slice a l.length c) ∧
      true = true) ∧
      True) ∧
      True) ∧
      ∀ (a_12 : MgX),
      (a_12.k ≤ l.length ∧
      a_12.z.length = l.length ∧
      ∀ (j : Nat) (u v : Pl),
      a_12.z[j]? = some u →
      l[j]? = some v →
      u.gr = v.gr ∧ u.fr = v.fr) ∧
      Row a_12.m a_12.a (pls a_12.z) ∧
      Row a_12.m a (pls l) →
      ifB
      (decide ((↑a_12.k : Int) < (↑a_12.z.length : Int)))
      (true = true ∧
      ∃ (b : Nat),
      ∃ (off : Nat),
      a_12.a =
      some { block := b, off := off : Addr } ∧
      ((0 : Int) ≤ (↑a_12.k : Int) ∧
      (↑a_12.k : Int) <
      (↑a_12.z.length : Int)) ∧
      ∃ (n : Int),
      CellsAt a_12.m b
      (off +
      (↑a_12.k : Int).toNat *
      (3 : Nat) +
      (0 : Nat))
      [Value.int IntKind.i64 n] ∧
      ∃ (b : Nat),
      ∃ (off : Nat),
      a =
      some
      { block := b, off := off : Addr } ∧
      ((0 : Int) ≤ (↑a_12.k : Int) ∧
      (↑a_12.k : Int) <
      (↑l.length : Int)) ∧
      ∃ (n_13 : Int),
      CellsAt a_12.m b
      (off +
      (↑a_12.k :
      Int).toNat *
      (3 : Nat) +
      (0 : Nat))
      [Value.int IntKind.i64
      n_13] ∧
      ifB (n != n_13)
      (Done
      (Value.bool false =
      Value.bool true))
      (∃ (b : Nat),
      ∃ (off : Nat),
      a_12.a =
      some
      { block := b, off := off : Addr } ∧
      ((0 : Int) ≤
      (↑a_12.k :
      Int) ∧
      (↑a_12.k :
      Int) <
      (↑a_12.z.length :
      Int)) ∧
      ∃ (s :
      ByteArray),
      CellsAt a_12.m
      b
      (off +
      (↑a_12.k :
      Int).toNat *
      (3 :
      Nat) +
      (1 :
      Nat))
      [Value.string
      s] ∧
      ∃ (b : Nat),
      ∃ (off :
      Nat),
      a =
      some
      { block := b, off := off : Addr } ∧
      ((0 :
      Int) ≤
      (↑a_12.k :
      Int) ∧
      (↑a_12.k :
      Int) <
      (↑l.length :
      Int)) ∧
      ∃
      (s_1
      :
      ByteArray),
      CellsAt
      a_12.m
      b
      (off +
      (↑a_12.k :
      Int).toNat *
      (3 :
      Nat) +
      (1 :
      Nat))
      [Value.string
      s_1] ∧
      ifB
      (!s.toList ==
      s_1.toList)
      (Done
      (Value.bool
      false =
      Value.bool
      true))
      (∃
      (a'
      :
      MgX),
      (((a'.k ≤
      l.length ∧
      a'.z.length =
      l.length ∧
      ∀
      (j :
      Nat)
      (u
      v :
      Pl),
      a'.z[j]? =
      some
      u →
      l[j]? =
      some
      v →
      u.gr =
      v.gr ∧
      u.fr =
      v.fr) ∧
      Row
      a'.m
      a'.a
      (pls
      a'.z) ∧
      Row
      a'.m
      a
      (pls
      l)) ∧
      a_12.m =
      a'.m ∧
      ((SV.val
      (Value.int
      IntKind.i64
      (IntKind.i64.wrap
      ((↑a_12.k :
      Int) +
      (1 :
      Int)))) =
      SV.val
      (Value.int
      IntKind.i64
      (↑a'.k :
      Int)) ∧
      true =
      true) ∧
      (SV.val
      (Value.slice
      a_12.a
      a_12.z.length
      a_12.c) =
      SV.val
      (Value.slice
      a'.a
      a'.z.length
      a'.c) ∧
      true =
      true) ∧
      (SV.val
      (Value.slice
      a
      l.length
      c) =
      SV.val
      (Value.slice
      a
      l.length
      c) ∧
      true =
      true) ∧
      True) ∧
      True) ∧
      l.length -
      a'.k <
      l.length -
      a_12.k)))
      (Done (Value.bool true = Value.bool true))))))) (by kernel_rfl) ?_
  have h0 := h.sz hn
  have cutp : ∀ m' : M, Row m' a (pls l) → ∃ x, Row x a (pls l) ∧ m' = x ∧ ((SV.val (Value.slice a l.length c) = SV.val (Value.slice a l.length c) ∧ true = true) ∧ (SV.val (Value.string key) = SV.val (Value.string key) ∧ true = true) ∧ (SV.val (I g) = SV.val (I g) ∧ true = true) ∧ True) ∧ True := fun m' hm => ⟨m', hm, rfl, ⟨⟨rfl, rfl⟩, ⟨rfl, rfl⟩, ⟨rfl, rfl⟩, trivial⟩, trivial⟩
  refine ⟨rfl, _, rg_awake _, ifB_intro (fun h1 => by cases h1) (fun _ => ⟨_, noS, fun n1 hn1 => (rg_own a c l hl _ (h0.sz hn1)).monoW fun v1 m1 g1 ⟨b, hv1, ro⟩ => ⟨_, _, _, hv1, ?_⟩⟩)⟩
  have r1 := (h0.sz hn1).agree g1
  refine ⟨_, noS, fun n2 hn2 => (rg_merge l _ _ i hi (by omega) _ (ro.take.sz hn2)).monoW fun v2 m2 g2 ⟨ax, cx, hv2, rx⟩ => ⟨_, _, _, _, hv2, ?_⟩⟩
  have r2 := (r1.sz hn2).agree g2
  refine ⟨ifB_intro (fun h2 => ?_) (fun h2 => ?_), fun x hx => ?_⟩
  · obtain ⟨hR, hi0, hi1, hE, hsp⟩ := merge_ok (l := l) (i := i) (by simpa using h2)
    have hE0 : 0 ≤ epochL l := epoch_nn l 0
    have h7 := right_len hR
    have hp := right_pos hR
    obtain ⟨f, rfl⟩ : ∃ f : Nat, i = (f : Int) := ⟨i.toNat, by omega⟩
    simp only [Int.toNat_natCast] at hi1 hsp
    have hxR := del_right (e := epochL l + 1) hR ⟨by omega, by omega⟩ hi1
    have hxl := del_len (e := epochL l + 1) hi1
    obtain ⟨y, u, w, f1, f2, f5, f3, f4⟩ := merge_find (e := epochL l + 1) probe hR hi1
    rw [hsp] at rx ⊢
    simp only at rx ⊢
    have w1 : IntKind.i64.wrap ((l.length : Int) - 1) = ((l.length - 1 : Nat) : Int) := by rw [IntKind.wrap_i64]; omega
    have w2 : IntKind.i64.wrap ((f : Int) + 1) = ((f + 1 : Nat) : Int) := by rw [IntKind.wrap_i64]; omega
    rw [w1, w2, hxl]
    have hxk := find_lt_of f1
    rw [hxl] at hxk
    have hil := findL_len probe hp
    have cR := rg_check _ ax cx (by omega) m2 rx
    rw [hxl] at cR
    have fP := rg_find _ ax cx probe (by omega) m2 rx
    rw [hxl] at fP
    have he : endI l ((f + 1 : Nat) : Int) = endP l (f + 1) := by simp only [endI, Int.toNat_natCast]; rw [if_pos (by omega)]
    have eP := pl_end l a c ((f + 1 : Nat) : Int) ⟨by omega, by omega⟩ (by omega) m2 r2
    rw [he] at eP
    have hEq := rg_epoch l _ c hl (row_h0 r2) m2 r2
    obtain ⟨bx, ox, rfl, hcx⟩ := rx.cells (by rw [pl_len]; omega)
    obtain ⟨bl, ol, rfl, hcl⟩ := r2.cells (by rw [pl_len]; omega)
    obtain ⟨c1, c2, c3, c4⟩ := pl_cell hcx f1
    obtain ⟨d1, d2, d3, d4⟩ := pl_cell hcl f2
    obtain ⟨e1, e2, e3, e4⟩ := pl_cell hcl f5
    refine ⟨_, cR, ifB_intro (fun h3 => by simp [hxR] at h3) (fun h3 => ifB_intro (fun h4 => by simp at h4) (fun h4 => ⟨by trivial, _, rg_find l _ c probe (by omega) m2 r2, bl, ol, rfl, by omega, _, _, _, by simpa using d1, _, fP, bx, ox, rfl, by omega, _, _, _, by simpa using c1, by trivial, bl, ol, rfl, by omega, _, by simpa using e3, _, eP, _, rg_within _ _ _ m2, ifB_intro (fun h5 => ?_) (fun h5 => ?_)⟩))⟩
    · have := f3 h5
      subst this
      refine ⟨by trivial, bl, ol, rfl, by omega, _, by simpa using e2, ?_⟩
      have q1 : (w.gr != w.gr) = false := by simp
      rw [q1]
      refine ifB_false ⟨bl, ol, rfl, by omega, _, by simpa using e3, ?_⟩
      have q2 : (!w.fr.toList == w.fr.toList) = false := by simp
      rw [q2]
      refine ifB_false ⟨_, hEq, ?_⟩
      have q3 : decide (epochL l + 1 ≤ epochL l) = false := by simp; omega
      rw [q3]
      exact ifB_false ⟨m2, r2, rfl, by simp⟩
    · have := f4 h5
      subst this
      have q1 : (!(y.gr == y.gr && (y.fr.toList == y.fr.toList && (y.ep == y.ep && true)))) = false := by simp
      rw [q1]
      exact ifB_false ⟨m2, r2, rfl, by simp⟩
  · have hb := (merge_bad (l := l) (i := i) (by simpa using h2)).1
    rw [hb]
    exact ifB_false (cutp m2 r2)
  · refine ⟨_, noS, fun n3 hn3 => (rg_own a c l hl _ (hx.sz hn3)).monoW fun v3 m3 g3 ⟨b3, hv3, ro3⟩ => ⟨_, _, _, hv3, ?_⟩⟩
    have r3 := (hx.sz hn3).agree g3
    refine ⟨_, noS, fun n4 hn4 => (rg_split l _ _ key g (by omega) _ (ro3.take.sz hn4)).monoW fun v4 m4 g4 ⟨ay, cy, hv4, ry⟩ => ⟨_, _, _, _, hv4, ifB_intro (fun h2 => ⟨?_⟩) (fun h2 => ?_)⟩⟩
    · rw [split_bad (by simpa using h2)]; rfl
    have r4 := (r3.sz hn4).agree g4
    obtain ⟨hR, hk16, hG, hno, hne, hE, hsp⟩ := split_ok (l := l) (key := key) (g := g) (by simpa using h2)
    have hE0 : 0 ≤ epochL l := epoch_nn l 0
    have h7 := right_len hR
    have hp := right_pos hR
    have hfl := findL_len key hp
    have hyR := ins_right (e := epochL l + 1) hR hk16 hG ⟨by omega, by omega⟩ hno hne
    have hyl := ins_len l key g _ (epochL l + 1) hfl
    rw [hsp] at ry ⊢
    simp only at ry ⊢
    refine ⟨_, rg_find l a c key (by omega) m4 r4, ?_⟩
    generalize hff : findL key l 0 0 = f at *
    generalize hY : insS l key g f (epochL l + 1) = Y at *
    refine ⟨_, noS, fun n5 hn5 => (rg_merge Y ay cy (f : Int) ⟨by omega, by omega⟩ (by omega) _ (ry.sz hn5)).monoW fun v5 m5 g5 ⟨az, cz, hv5, rz⟩ => ⟨_, _, _, _, hv5, ?_⟩⟩
    have r5 := (r4.sz hn5).agree g5
    have ry5 := (ry.sz hn5).agree g5
    have hEy := rg_epoch Y ay cy (by omega) (row_h0 ry5) m5 ry5
    have hEyl := epoch_le hyR
    refine ifB_intro (fun h3 => ?_) (fun h3 => ?_)
    · obtain ⟨-, hb⟩ := merge_bad (l := Y) (i := (f : Int)) (by simpa using h3)
      obtain ⟨hb1, hb2⟩ := hb ⟨hyR, by omega, by simp; omega⟩
      rw [hb1]
      exact ifB_true ⟨_, hEy, ⟨by
        have : epochL Y = 4611686018427387904 := by omega
        rw [this]; rfl⟩⟩
    · obtain ⟨-, -, -, -, hmz⟩ := merge_ok (l := Y) (i := (f : Int)) (by simpa using h3)
      simp only [Int.toNat_natCast] at hmz
      rw [hmz] at rz ⊢
      simp only at rz ⊢
      obtain ⟨z1, z2⟩ := del_ins (key := key) (g := g) (e := epochL l + 1) (e2 := epochL Y + 1) (hff ▸ hfl : f < l.length)
      rw [hY] at z1 z2
      have q : (((delS Y f (epochL Y + 1)).length : Int) != (l.length : Int)) = false := by rw [z1]; simp
      rw [q]
      refine ifB_false ⟨⟨⟨0, m5, delS Y f (epochL Y + 1), az, cz⟩, ⟨⟨Nat.zero_le _, z1, z2⟩, rz, r5⟩, rfl, by simp⟩, ?_⟩
      rintro ⟨k, mk, z, azk, czk⟩ ⟨⟨hk, hzl, hzz⟩, hrz, hrl⟩
      simp only at hk hzl hzz hrz hrl ⊢
      refine ifB_intro (fun h6 => ?_) (fun h6 => ⟨by trivial⟩)
      have hlt : k < z.length := by simpa using h6
      have hltl : k < l.length := by omega
      obtain ⟨bz, oz, rfl, hcz⟩ := hrz.cells (by rw [pl_len]; omega)
      obtain ⟨bl, ol, rfl, hcl⟩ := hrl.cells (by rw [pl_len]; omega)
      obtain ⟨p1, p2⟩ := hzz k _ _ (List.getElem?_eq_getElem hlt) (List.getElem?_eq_getElem hltl)
      refine ⟨by trivial, bz, oz, rfl, by omega, _, by simpa using pl_grc hcz hlt, bl, ol, rfl, by omega, _, by simpa using pl_grc hcl hltl, ?_⟩
      have q1 : (z[k].gr != l[k].gr) = false := by rw [p1]; simp
      rw [q1]
      refine ifB_false ⟨bz, oz, rfl, by omega, _, by simpa using pl_frc hcz hlt, bl, ol, rfl, by omega, _, by simpa using pl_frc hcl hltl, ?_⟩
      have q2 : (!z[k].fr.toList == l[k].fr.toList) = false := by rw [p2]; simp
      rw [q2]
      exact ifB_false ⟨⟨k + 1, mk, z, _, czk⟩, ⟨⟨⟨hltl, hzl, hzz⟩, hrz, hrl⟩, rfl, by simp [wrap1 hltl (by omega)]⟩, by simp only; omega⟩

end Go.Proofs.Ytpnpebefcmgjoaa
