/-
  Contracts of functions of this seat: what each hands back, and what it leaves of memory (rng12, rng13, rng14, rng15, rng2, rng16). Nothing here is trusted: Lean checks it.
-/
import Derived.Test.YtpnpebefcmgjoaaPart1
import Derived.Test.YtpnpebefcmgjoaaVcGrow
set_option linter.unusedVariables false
set_option linter.unusedSimpArgs false
namespace Go.Proofs.Ytpnpebefcmgjoaa
open Go.Vc Go.RowKit
set_option maxRecDepth 100000

theorem rg_own (a : Option Addr) (c : Nat) (l : List Pl) (hn : l.length ≤ 4398046511000) (m : M) (h : Row m a (pls l)) :
    Vc.Spec Try.prog 9 [.slice a l.length c] m (fun v m' => ∃ b, v = .slice (some ⟨b, 0, none⟩) l.length (l.length + 2) ∧ Row m' (some ⟨b, 0, none⟩) (pls l ++ (encPl ⟨71, .empty, 0⟩ ++ encPl ⟨71, .empty, 0⟩))) := by
  refine Vc.Spec.of_vc Try.func9 (ann := noAnn) ?_
  refine vc_by (X :=
      true = true ∧
      ∃ (S' : Nat → Prop),
      (∀ (b : Nat), S' b → m.uf b ∧ (m.sz ≤ b ∨ False)) ∧
      ∀ (n : Nat),
      m.sz ≤ n →
      SpecW Try.prog (30 : Nat)
      [Value.slice a l.length c, Value.agg #[Value.int IntKind.i64 (71 : Int), Value.string { data := #[] : ByteArray }, Value.int IntKind.i64 (0 : Int)]]
      { π := m.π, sz := n, uf := m.uf : M } S' fun (v : Value) (m' : M) =>
      ∃ (a : Option Addr),
      ∃ (n : Nat),
      ∃ (c : Nat),
      v = Value.slice a n c ∧
      Done
      (∃ (b : Nat),
      Value.slice a n c = Value.slice (some { block := b, off := (0 : Nat) : Addr }) l.length (l.length + (2 : Nat)) ∧
      Row m' (some { block := b, off := (0 : Nat) : Addr })
      (pls l ++
      [Value.int IntKind.i64 (71 : Int), Value.string ByteArray.empty, Value.int IntKind.i64 (0 : Int), Value.int IntKind.i64 (71 : Int),
      Value.string ByteArray.empty, Value.int IntKind.i64 (0 : Int)]))) (by kernel_rfl) ?_
  refine ⟨rfl, _, noS, fun n hn1 => (pl_own a c l ⟨71, .empty, 0⟩ hn _ (h.sz hn1)).monoW fun v m' hag ho => ?_⟩
  obtain ⟨b, hv, hr⟩ := ho.row
  exact ⟨_, _, _, hv, ⟨⟨b, rfl, hr⟩⟩⟩

theorem rg_kept (b : Nat) (l : List Pl) (a2 : Option Addr) (c2 : Nat) (hl : l.length ≤ 4398046511000) (m : M) (h : Row m (some ⟨b, 0, none⟩) (pls l ++ (encPl ⟨71, .empty, 0⟩ ++ encPl ⟨71, .empty, 0⟩))) (h2 : Row m a2 (pls l)) :
    QSpec Try.prog 15 [.slice (some ⟨b, 0, none⟩) l.length (l.length + 2), .slice a2 l.length c2] m (.bool true) := by
  refine QSpec.of_vc Try.func15 (ann := fun _ => noAnn) fun n hn => ?_
  refine vc_by (X :=
      true = true ∧
      ∃ (b_1 : Bool),
      QSpec Try.prog (32 : Nat)
      [Value.slice (some { block := b, off := (0 : Nat) : Addr }) l.length (l.length + (2 : Nat)), Value.slice a2 l.length c2,
      Value.agg #[Value.int IntKind.i64 (71 : Int), Value.string { data := #[] : ByteArray }, Value.int IntKind.i64 (0 : Int)]]
      { π := m.π, sz := n, uf := m.uf : M } (Value.bool b_1) ∧
      Done (Value.bool b_1 = Value.bool true)) (by kernel_rfl) ?_
  exact ⟨rfl, true, pl_keptr b l a2 c2 ⟨71, .empty, 0⟩ hl _ (h.sz hn) (h2.sz hn), ⟨rfl⟩⟩

theorem split_len (l : List Pl) (key : ByteArray) (g : Int) : (splitL l key g).1.length ≤ 8 := by
  unfold splitL
  split
  · simp
  · rename_i h
    have hR : rightB l = true := by simpa using h
    have h7 := right_len hR
    split
    · simp
    · split
      · simp
      · split
        · simp
        · rw [ins_len _ _ _ _ _ (findL_len key (right_pos hR))]
          omega

theorem merge_len (l : List Pl) (i : Int) : (mergeL l i).1.length ≤ 8 := by
  unfold mergeL
  split
  · simp
  · rename_i h
    have hR : rightB l = true := by simpa using h
    have h7 := right_len hR
    split
    · simp
    · simp [delS]; omega

theorem rangesmoves (l : List Pl) (a : Option Addr) (c : Nat) (key : ByteArray) (g i : Int) (hi : In64 i) (hl : l.length ≤ 4398046511000) (m : M) (h : Row m a (pls l)) :
    QSpec Try.prog 6 [.slice a l.length c, .string key, I g, I i] m (.bool true) := by
  refine QSpec.of_vc Try.func6 (ann := fun _ => noAnn) fun n hn => ?_
  refine vc_by (X :=
      true = true ∧
      ∃ (S' : Nat → Prop),
      (∀ (b : Nat), S' b → m.uf b ∧ (n ≤ b ∨ False)) ∧
      ∀ (n_1 : Nat),
      n ≤ n_1 →
      SpecW Try.prog (9 : Nat) [Value.slice a l.length c] { π := m.π, sz := n_1, uf := m.uf : M } S' fun (v : Value) (m' : M) =>
      ∃ (a_2 : Option Addr),
      ∃ (n_2 : Nat),
      ∃ (c_1 : Nat),
      v = Value.slice a_2 n_2 c_1 ∧
      ∃ (S' : Nat → Prop),
      (∀ (b : Nat), S' b → m'.uf b ∧ (n ≤ b ∨ False)) ∧
      ∀ (n_3 : Nat),
      m'.sz ≤ n_3 →
      SpecW Try.prog (26 : Nat) [Value.slice a_2 n_2 c_1, Value.string key, Value.int IntKind.i64 g] { π := m'.π, sz := n_3, uf := m'.uf : M } S'
      fun (v : Value) (m' : M) =>
      ∃ (a_4 : Option Addr),
      ∃ (n_4 : Nat),
      ∃ (c_2 : Nat),
      ∃ (n_5 : Int),
      v = Value.tuple #[Value.slice a_4 n_4 c_2, Value.int IntKind.i64 n_5] ∧
      ∃ (S' : Nat → Prop),
      (∀ (b : Nat), S' b → m'.uf b ∧ (n ≤ b ∨ False)) ∧
      ∀ (n_6 : Nat),
      m'.sz ≤ n_6 →
      SpecW Try.prog (27 : Nat) [Value.slice a l.length c, Value.string key, Value.int IntKind.i64 g]
      { π := m'.π, sz := n_6, uf := m'.uf : M } S' fun (v : Value) (m' : M) =>
      ∃ (a_6 : Option Addr),
      ∃ (n_7 : Nat),
      ∃ (c_3 : Nat),
      ∃ (n_8 : Int),
      v = Value.tuple #[Value.slice a_6 n_7 c_3, Value.int IntKind.i64 n_8] ∧
      ∃ (S' : Nat → Prop),
      (∀ (b : Nat), S' b → m'.uf b ∧ (n ≤ b ∨ False)) ∧
      ∀ (n_9 : Nat),
      m'.sz ≤ n_9 →
      SpecW Try.prog (28 : Nat) [Value.slice a_2 n_2 c_1, Value.int IntKind.i64 i]
      { π := m'.π, sz := n_9, uf := m'.uf : M } S' fun (v : Value) (m' : M) =>
      ∃ (a_8 : Option Addr),
      ∃ (n_10 : Nat),
      ∃ (c_4 : Nat),
      ∃ (n_11 : Int),
      v = Value.tuple #[Value.slice a_8 n_10 c_4, Value.int IntKind.i64 n_11] ∧
      ∃ (S' : Nat → Prop),
      (∀ (b : Nat), S' b → m'.uf b ∧ (n ≤ b ∨ False)) ∧
      ∀ (n : Nat),
      m'.sz ≤ n →
      SpecW Try.prog (29 : Nat) [Value.slice a l.length c, Value.int IntKind.i64 i]
      { π := m'.π, sz := n, uf := m'.uf : M } S' fun (v : Value) (m' : M) =>
      ∃ (a_10 : Option Addr),
      ∃ (n : Nat),
      ∃ (c_5 : Nat),
      ∃ (n_12 : Int),
      v = Value.tuple #[Value.slice a_10 n c_5, Value.int IntKind.i64 n_12] ∧
      ∃ (b : Bool),
      QSpec Try.prog (12 : Nat) [] m' (Value.bool b) ∧
      ifB b
      (∃ (b : Bool),
      QSpec Try.prog (25 : Nat)
      [Value.slice a_4 n_4 c_2, Value.slice a_6 n_7 c_3] m'
      (Value.bool b) ∧
      ifB b
      (ifB (n_5 == n_8)
      (∃ (b : Bool),
      QSpec Try.prog (25 : Nat)
      [Value.slice a_8 n_10 c_4, Value.slice a_10 n c_5] m'
      (Value.bool b) ∧
      ifB b
      (ifB (n_11 == n_12)
      (∃ (b : Bool),
      QSpec Try.prog (15 : Nat)
      [Value.slice a_2 n_2 c_1, Value.slice a l.length c]
      m' (Value.bool b) ∧
      Done (Value.bool b = Value.bool true))
      (Done (Value.bool false = Value.bool true)))
      (Done (Value.bool false = Value.bool true)))
      (Done (Value.bool false = Value.bool true)))
      (Done (Value.bool false = Value.bool true)))
      (Done (Value.bool false = Value.bool true))) (by kernel_rfl) ?_
  have h0 := h.sz hn
  refine ⟨rfl, _, noS, fun n1 hn1 => (rg_own a c l hl _ (h0.sz hn1)).monoW fun v1 m1 g1 ⟨b, hv1, ro⟩ => ⟨_, _, _, hv1, ?_⟩⟩
  have r1 := (h0.sz hn1).agree g1
  refine ⟨_, noS, fun n2 hn2 => (rg_split l _ _ key g (by omega) _ (ro.take.sz hn2)).monoW fun v2 m2 g2 ⟨ax, cx, hv2, rx⟩ => ⟨_, _, _, _, hv2, ?_⟩⟩
  have r2 := (r1.sz hn2).agree g2
  have ro2 := (ro.sz hn2).agree g2
  refine ⟨_, noS, fun n3 hn3 => (rf_split l _ _ key g (by omega) _ (r2.sz hn3)).monoW fun v3 m3 g3 ⟨ay, cy, hv3, ry⟩ => ⟨_, _, _, _, hv3, ?_⟩⟩
  have r3 := (r2.sz hn3).agree g3
  have ro3 := (ro2.sz hn3).agree g3
  have rx3 := (rx.sz hn3).agree g3
  refine ⟨_, noS, fun n4 hn4 => (rg_merge l _ _ i hi (by omega) _ (ro3.take.sz hn4)).monoW fun v4 m4 g4 ⟨am, cm, hv4, rm⟩ => ⟨_, _, _, _, hv4, ?_⟩⟩
  have r4 := (r3.sz hn4).agree g4
  have ro4 := (ro3.sz hn4).agree g4
  have rx4 := (rx3.sz hn4).agree g4
  have ry4 := (ry.sz hn4).agree g4
  refine ⟨_, noS, fun n5 hn5 => (rf_merge l _ _ i hi (by omega) _ (r4.sz hn5)).monoW fun v5 m5 g5 ⟨an, cn, hv5, rn⟩ => ⟨_, _, _, _, hv5, ?_⟩⟩
  have r5 := (r4.sz hn5).agree g5
  have ro5 := (ro4.sz hn5).agree g5
  have rx5 := (rx4.sz hn5).agree g5
  have ry5 := (ry4.sz hn5).agree g5
  have rm5 := (rm.sz hn5).agree g5
  have s8 := split_len l key g
  have m8 := merge_len l i
  refine ⟨_, rg_awake _, ifB_true ⟨_, pl_plain _ _ _ _ _ _ (by omega) _ rx5 ry5, ?_⟩⟩
  have e1 : decide ((splitL l key g).1 = (splitL l key g).1) = true := by simp
  rw [e1]
  refine ifB_true ?_
  have e2 : ((splitL l key g).2 == (splitL l key g).2) = true := by simp
  rw [e2]
  refine ifB_true ⟨_, pl_plain _ _ _ _ _ _ (by omega) _ rm5 rn, ?_⟩
  have e3 : decide ((mergeL l i).1 = (mergeL l i).1) = true := by simp
  rw [e3]
  refine ifB_true ?_
  have e4 : ((mergeL l i).2 == (mergeL l i).2) = true := by simp
  rw [e4]
  exact ifB_true ⟨_, rg_kept b l a c hl _ ro5 r5, ⟨rfl⟩⟩

end Go.Proofs.Ytpnpebefcmgjoaa
set_option linter.unusedVariables false
set_option linter.unusedSimpArgs false
namespace Go.Proofs.Ytpnpebefcmgjoaa
open Go.Vc Go.RowKit
set_option maxRecDepth 100000

def okR (a b : Pl) : Prop := a.gr ≠ b.gr ∧ ltS a.fr b.fr = true

theorem chk_iff : ∀ (l : List Pl) (seen : List Int) (last : Option ByteArray), chk seen last l = true ↔ (∀ x ∈ l, plB x = true ∧ x.gr ∉ seen ∧ ∀ s, last = some s → ltS s x.fr = true) ∧ l.Pairwise okR
  | [], _, _ => by simp [chk]
  | x :: xs, seen, last => by
    have ih := chk_iff xs (seen ++ [x.gr]) (some x.fr)
    constructor
    · intro h
      obtain ⟨h1, h2, h3, h4⟩ := chk_cons h
      obtain ⟨i1, i2⟩ := ih.1 h4
      have h2' : x.gr ∉ seen := by simpa using h2
      have h3' : ∀ s, last = some s → ltS s x.fr = true := fun s e => by subst e; exact h3
      refine ⟨fun y hy => ?_, List.pairwise_cons.2 ⟨fun y hy => ?_, i2⟩⟩
      · rcases List.mem_cons.1 hy with rfl | hy
        · exact ⟨h1, h2', h3'⟩
        · obtain ⟨j1, j2, j3⟩ := i1 y hy
          exact ⟨j1, fun e => j2 (by simp [e]), fun s e => ltS_trans (h3' s e) (j3 _ rfl)⟩
      · obtain ⟨j1, j2, j3⟩ := i1 y hy
        exact ⟨fun e => j2 (by simp [e]), j3 _ rfl⟩
    · rintro ⟨h1, h2⟩
      obtain ⟨p1, p2⟩ := List.pairwise_cons.1 h2
      obtain ⟨j1, j2, j3⟩ := h1 x (by simp)
      have h4 : chk (seen ++ [x.gr]) (some x.fr) xs = true := ih.2 ⟨fun y hy => by
        obtain ⟨k1, k2, k3⟩ := h1 y (by simp [hy])
        obtain ⟨q1, q2⟩ := p1 y hy
        exact ⟨k1, fun e => by
          rcases List.mem_append.1 e with e | e
          · exact k2 e
          · simp at e; exact q1 e.symm, fun s e => by cases e; exact q2⟩, p2⟩
      have h5 : aftB last x = true := by
        cases last with
        | none => rfl
        | some s => exact j3 s rfl
      have h6 : seen.contains x.gr = false := by simpa using j2
      simp only [chk, j1, h6, h5, h4]
      rfl

theorem right_iff {l : List Pl} : rightB l = true ↔ (0 < l.length ∧ emptyB (hdF l) = true) ∧ (∀ x ∈ l, plB x = true) ∧ l.Pairwise okR := by
  simp only [rightB, Bool.and_eq_true, chk_iff]
  constructor
  · rintro ⟨h1, h2, h3, h4⟩
    exact ⟨⟨by cases l with | nil => simp at h1 | cons => simp, h2⟩, fun x hx => (h3 x hx).1, h4⟩
  · rintro ⟨⟨h1, h2⟩, h3, h4⟩
    exact ⟨by cases l with | nil => simp at h1 | cons => rfl, h2, fun x hx => ⟨h3 x hx, by simp, fun s e => by cases e⟩, h4⟩

theorem find_uniq {key : ByteArray} : ∀ {xs : List Pl} (i q k : Nat) {y : Pl}, xs[k]? = some y → ltS key y.fr = false → (∀ j z, k < j → xs[j]? = some z → ltS key z.fr = true) → findL key xs i q = i + k
  | [], _, _, k, y, h, _, _ => by simp at h
  | x :: xs, i, q, 0, y, h, hy, hj => by
    cases h
    simp only [findL, hy]
    have := (cnt_gt (key := key) (xs := xs) (i + 1) i (0, 0) fun z hz => by
      obtain ⟨j, hj2, rfl⟩ := List.getElem_of_mem hz
      exact hj (j + 1) _ (by omega) (by simp)).2
    simpa using this
  | x :: xs, i, q, k + 1, y, h, hy, hj => by
    simp only [findL]
    rw [find_uniq (xs := xs) (i + 1) _ k (by simpa using h) hy fun j z hj2 hz => hj (j + 1) z (by omega) (by simpa using hz)]
    omega

theorem last_le {key : ByteArray} : ∀ {xs : List Pl} {k : Nat} {y : Pl}, xs[k]? = some y → ltS key y.fr = false → ∃ (k : Nat) (z : Pl), xs[k]? = some z ∧ ltS key z.fr = false ∧ ∀ (j : Nat) (u : Pl), k < j → xs[j]? = some u → ltS key u.fr = true
  | [], k, y, h, _ => by simp at h
  | x :: xs, k, y, h, hy => by
    by_cases hex : ∃ (j : Nat) (u : Pl), xs[j]? = some u ∧ ltS key u.fr = false
    · obtain ⟨j, u, h1, h2⟩ := hex
      obtain ⟨k', z, a1, a2, a3⟩ := last_le h1 h2
      refine ⟨k' + 1, z, by simpa using a1, a2, fun j u hj hu => ?_⟩
      obtain ⟨j', rfl⟩ : ∃ j', j = j' + 1 := ⟨j - 1, by omega⟩
      exact a3 j' u (by omega) (by simpa using hu)
    · have hall : ∀ (j : Nat) (u : Pl), xs[j]? = some u → ltS key u.fr = true := fun j u hu => by
        cases hq : ltS key u.fr with
        | true => rfl
        | false => exact absurd ⟨j, u, hu, hq⟩ hex
      cases k with
      | zero =>
        cases h
        refine ⟨0, x, rfl, hy, fun j u hj hu => ?_⟩
        obtain ⟨j', rfl⟩ : ∃ j', j = j' + 1 := ⟨j - 1, by omega⟩
        exact hall j' u (by simpa using hu)
      | succ k => exact absurd ⟨k, y, by simpa using h, hy⟩ hex

theorem find_spec {l : List Pl} (key : ByteArray) (hR : rightB l = true) : ∃ y, l[findL key l 0 0]? = some y ∧ ltS key y.fr = false ∧ ∀ j z, findL key l 0 0 < j → l[j]? = some z → ltS key z.fr = true := by
  obtain ⟨⟨h1, h2⟩, -, -⟩ := right_iff.1 hR
  cases l with
  | nil => simp at h1
  | cons x xs =>
    obtain ⟨k, z, a1, a2, a3⟩ := last_le (xs := x :: xs) (k := 0) (y := x) rfl (empty_lt (a := key) h2)
    have e := find_uniq (xs := x :: xs) 0 0 k a1 a2 a3
    rw [Nat.zero_add] at e
    rw [e]
    exact ⟨z, a1, a2, a3⟩

theorem find_at {l : List Pl} {key : ByteArray} {k : Nat} {y : Pl} (h : l[k]? = some y) (hy : ltS key y.fr = false) (hj : ∀ j z, k < j → l[j]? = some z → ltS key z.fr = true) : findL key l 0 0 = k := by
  rw [find_uniq 0 0 k h hy hj]; omega

theorem ins_form {l : List Pl} {key : ByteArray} {g : Int} {f : Nat} {e : Int} (hf : f < l.length) : insS l key g f e = l.take f ++ { l[f] with ep := e } :: ⟨g, key, e⟩ :: l.drop (f + 1) := by
  rw [← rsF_ins l key g f e hf, rsF_eq, dif_pos ⟨Nat.zero_le _, by simpa using hf⟩]
  rfl

theorem del_form {l : List Pl} {f : Nat} {e : Int} (hf : f < l.length) : delS l f e = l.take f ++ { l[f] with ep := e } :: l.drop (f + 2) := by
  rw [← rmF_del l f e hf, (rmF_eq f e l 0).1 (Nat.zero_le _), dif_pos (by simpa using hf)]
  rfl

theorem ins_get {l : List Pl} {key : ByteArray} {g : Int} {f : Nat} {e : Int} (hf : f < l.length) (k : Nat) : (insS l key g f e)[k]? = if k < f then l[k]? else if k = f then some { l[f] with ep := e } else if k = f + 1 then some ⟨g, key, e⟩ else l[k - 1]? := by
  rw [ins_form hf]
  by_cases h1 : k < f
  · rw [if_pos h1, List.getElem?_append_left (by simp; omega), List.getElem?_take, if_pos h1]
  · rw [if_neg h1, List.getElem?_append_right (by simp; omega)]
    simp only [List.length_take, Nat.min_eq_left (Nat.le_of_lt hf)]
    by_cases h2 : k = f
    · subst h2; simp
    · rw [if_neg h2]
      by_cases h3 : k = f + 1
      · subst h3; simp
      · rw [if_neg h3]
        obtain ⟨d, hd⟩ : ∃ d, k = f + 2 + d := ⟨k - f - 2, by omega⟩
        subst hd
        rw [show f + 2 + d - f = d + 1 + 1 by omega]
        simp only [List.getElem?_cons_succ, List.getElem?_drop]
        congr 1; omega

theorem del_get {l : List Pl} {f : Nat} {e : Int} (hf : f < l.length) (k : Nat) : (delS l f e)[k]? = if k < f then l[k]? else if k = f then some { l[f] with ep := e } else l[k + 1]? := by
  rw [del_form hf]
  by_cases h1 : k < f
  · rw [if_pos h1, List.getElem?_append_left (by simp; omega), List.getElem?_take, if_pos h1]
  · rw [if_neg h1, List.getElem?_append_right (by simp; omega)]
    simp only [List.length_take, Nat.min_eq_left (Nat.le_of_lt hf)]
    by_cases h2 : k = f
    · subst h2; simp
    · rw [if_neg h2]
      obtain ⟨d, hd⟩ : ∃ d, k = f + 1 + d := ⟨k - f - 1, by omega⟩
      subst hd
      rw [show f + 1 + d - f = d + 1 by omega]
      simp only [List.getElem?_cons_succ, List.getElem?_drop]
      congr 1; omega

theorem pw_lt {l : List Pl} (h : l.Pairwise okR) {i j : Nat} {x y : Pl} (hij : i < j) (hx : l[i]? = some x) (hy : l[j]? = some y) : okR x y := by
  obtain ⟨h1, rfl⟩ := List.getElem?_eq_some_iff.1 hx
  obtain ⟨h2, rfl⟩ := List.getElem?_eq_some_iff.1 hy
  exact List.pairwise_iff_getElem.1 h i j h1 h2 hij

theorem pw_of {l : List Pl} (h : ∀ (i j : Nat) (x y : Pl), i < j → l[i]? = some x → l[j]? = some y → okR x y) : l.Pairwise okR :=
  List.pairwise_iff_getElem.2 fun i j hi hj hij => h i j _ _ hij (List.getElem?_eq_getElem hi) (List.getElem?_eq_getElem hj)

theorem hd_get {l : List Pl} : hdF l = match l[0]? with | some x => x.fr | none => .empty := by cases l <;> rfl

theorem ltS_le_trans {a b c : ByteArray} (h1 : ltS b a = false) (h2 : ltS b c = true) : ltS a c = true := by
  rcases ltS_tri a b with h | rfl | h
  · exact ltS_trans h h2
  · exact h2
  · rw [h] at h1; cases h1

theorem ltS_lt_le {a b c : ByteArray} (h1 : ltS a b = true) (h2 : ltS c b = false) : ltS a c = true := by
  rcases ltS_tri b c with h | rfl | h
  · exact ltS_trans h1 h
  · exact h1
  · rw [h] at h2; cases h2

/-- a split map is a map -/
theorem ins_right {l : List Pl} {key : ByteArray} {g : Int} {e : Int} (hR : rightB l = true) (hk : key.size ≤ 16) (hg : grpB g = true) (he : 1 ≤ e ∧ e ≤ 4611686018427387904)
    (hno : ∀ x ∈ l, x.gr ≠ g) (hne : ∀ x, l[findL key l 0 0]? = some x → x.fr ≠ key) : rightB (insS l key g (findL key l 0 0) e) = true := by
  obtain ⟨⟨h1, h2⟩, h3, h4⟩ := right_iff.1 hR
  obtain ⟨y, s1, s2, s3⟩ := find_spec key hR
  generalize findL key l 0 0 = f at *
  obtain ⟨hf, rfl⟩ := List.getElem?_eq_some_iff.1 s1
  have s4 : ltS l[f].fr key = true := by
    rcases ltS_tri l[f].fr key with h | h | h
    · exact h
    · exact absurd h (hne _ s1)
    · rw [h] at s2; cases s2
  have hz : plB ⟨g, key, e⟩ = true := by simp [plB, hg]; omega
  have hy : plB { l[f] with ep := e } = true := by
    have := h3 l[f] (by simp)
    simp only [plB, Bool.and_eq_true, decide_eq_true_eq] at this ⊢
    exact ⟨this.1, he.1, he.2, this.2.2.2⟩
  have hmem : ∀ {i : Nat} {x : Pl}, l[i]? = some x → x ∈ l := fun h => List.mem_of_getElem? h
  refine right_iff.2 ⟨⟨by rw [ins_len l key g f e hf]; omega, ?_⟩, fun x hx => ?_, pw_of fun i j x y hij hx hy => ?_⟩
  · rw [hd_get, ins_get hf]
    rw [hd_get] at h2
    by_cases h5 : 0 < f
    · rw [if_pos h5]; exact h2
    · obtain rfl : f = 0 := by omega
      rw [if_neg (by omega), if_pos rfl]
      rw [s1] at h2
      exact h2
  · obtain ⟨k, hk2, hkx⟩ := List.getElem_of_mem hx
    have hx' : (insS l key g f e)[k]? = some x := by rw [List.getElem?_eq_getElem hk2, hkx]
    rw [ins_get hf] at hx'
    split at hx'
    · exact h3 x (hmem hx')
    · split at hx'
      · cases hx'; exact hy
      · split at hx'
        · cases hx'; exact hz
        · exact h3 x (hmem hx')
  · rw [ins_get hf] at hx hy
    have old : ∀ {a b : Nat} {u v : Pl}, a < b → l[a]? = some u → l[b]? = some v → okR u v := fun h a b => pw_lt h4 h a b
    split at hx
    · split at hy
      · exact old hij hx hy
      · split at hy
        · cases hy; have t := old (by omega : i < f) hx s1; exact ⟨t.1, t.2⟩
        · split at hy
          · cases hy
            have := old (by omega : i < f) hx s1
            exact ⟨hno x (hmem hx), ltS_trans this.2 s4⟩
          · exact old (by omega) hx hy
    · split at hx
      · cases hx
        rw [if_neg (by omega), if_neg (by omega)] at hy
        split at hy
        · cases hy; exact ⟨hno l[f] (by simp), s4⟩
        · have t := old (by omega : f < j - 1) s1 hy; exact ⟨t.1, t.2⟩
      · split at hx
        · cases hx
          rw [if_neg (by omega), if_neg (by omega), if_neg (by omega)] at hy
          exact ⟨fun e => hno y (hmem hy) e.symm, s3 _ y (by omega) hy⟩
        · rw [if_neg (by omega), if_neg (by omega), if_neg (by omega)] at hy
          exact old (by omega) hx hy

/-- a merged map is a map -/
theorem del_right {l : List Pl} {f : Nat} {e : Int} (hR : rightB l = true) (he : 1 ≤ e ∧ e ≤ 4611686018427387904) (hf1 : f + 1 < l.length) : rightB (delS l f e) = true := by
  obtain ⟨⟨h1, h2⟩, h3, h4⟩ := right_iff.1 hR
  have hf : f < l.length := by omega
  have s1 : l[f]? = some l[f] := List.getElem?_eq_getElem hf
  have hy : plB { l[f] with ep := e } = true := by
    have := h3 l[f] (by simp)
    simp only [plB, Bool.and_eq_true, decide_eq_true_eq] at this ⊢
    exact ⟨this.1, he.1, he.2, this.2.2.2⟩
  have hmem : ∀ {i : Nat} {x : Pl}, l[i]? = some x → x ∈ l := fun h => List.mem_of_getElem? h
  refine right_iff.2 ⟨⟨by simp [delS]; omega, ?_⟩, fun x hx => ?_, pw_of fun i j x y hij hx hy => ?_⟩
  · rw [hd_get, del_get hf]
    rw [hd_get] at h2
    by_cases h5 : 0 < f
    · rw [if_pos h5]; exact h2
    · obtain rfl : f = 0 := by omega
      rw [if_neg (by omega), if_pos rfl]
      rw [s1] at h2
      exact h2
  · obtain ⟨k, hk2, hkx⟩ := List.getElem_of_mem hx
    have hx' : (delS l f e)[k]? = some x := by rw [List.getElem?_eq_getElem hk2, hkx]
    rw [del_get hf] at hx'
    split at hx'
    · exact h3 x (hmem hx')
    · split at hx'
      · cases hx'; exact hy
      · exact h3 x (hmem hx')
  · rw [del_get hf] at hx hy
    have old : ∀ {a b : Nat} {u v : Pl}, a < b → l[a]? = some u → l[b]? = some v → okR u v := fun h a b => pw_lt h4 h a b
    split at hx
    · split at hy
      · exact old hij hx hy
      · split at hy
        · cases hy; have t := old (by omega : i < f) hx s1; exact ⟨t.1, t.2⟩
        · exact old (by omega) hx hy
    · split at hx
      · cases hx
        rw [if_neg (by omega), if_neg (by omega)] at hy
        have t := old (by omega : f < j + 1) s1 hy; exact ⟨t.1, t.2⟩
      · rw [if_neg (by omega), if_neg (by omega)] at hy
        exact old (by omega) hx hy

end Go.Proofs.Ytpnpebefcmgjoaa
set_option linter.unusedVariables false
set_option linter.unusedSimpArgs false
namespace Go.Proofs.Ytpnpebefcmgjoaa
open Go.Vc Go.RowKit
set_option maxRecDepth 100000

theorem split_ok {l : List Pl} {key : ByteArray} {g : Int} (h : (splitL l key g).2 = 0) : rightB l = true ∧ key.size ≤ 16 ∧ grpB g = true ∧ (∀ x ∈ l, x.gr ≠ g) ∧ (∀ x, l[findL key l 0 0]? = some x → x.fr ≠ key) ∧ epochL l < 4611686018427387904 ∧ splitL l key g = (insS l key g (findL key l 0 0) (epochL l + 1), 0) := by
  unfold splitL at h ⊢
  split at h
  · cases h
  rename_i h1
  have hR : rightB l = true := by simpa using h1
  split at h
  · cases h
  rename_i h2
  split at h
  · cases h
  rename_i h3
  split at h
  · cases h
  rename_i h4
  rw [if_neg h1, if_neg h2, if_neg h3, if_neg h4]
  have h2' : (decide (1 ≤ key.size) && (decide (key.size ≤ 16) && grpB g)) = true := by simpa using h2
  simp only [Bool.and_eq_true, decide_eq_true_eq] at h2'
  simp only [Bool.or_eq_true, decide_eq_true_eq, not_or] at h3
  refine ⟨hR, h2'.2.1, h2'.2.2, fun x hx e => h3.1 ?_, fun x hx e => h3.2 ?_, by omega, rfl⟩
  · exact List.findIdx_lt_length.2 ⟨x, hx, by simp [e]⟩
  · rw [hx]; exact e

theorem split_bad {l : List Pl} {key : ByteArray} {g : Int} (h : (splitL l key g).2 ≠ 0) : (splitL l key g).1 = [] := by
  unfold splitL at h ⊢
  repeat' split
  all_goals first | rfl | skip
  rename_i h1 h2 h3 h4
  rw [if_neg h1, if_neg h2, if_neg h3, if_neg h4] at h
  exact absurd rfl h

theorem end_none {l : List Pl} {f : Nat} (h : l[f + 1]? = none) : endP l f = .empty := by simp [endP, h]

theorem split_find {l : List Pl} {key : ByteArray} {g e : Int} (probe : ByteArray) (hR : rightB l = true) (hne : ∀ x, l[findL key l 0 0]? = some x → x.fr ≠ key) :
    ∃ y w, (insS l key g (findL key l 0 0) e)[findL probe (insS l key g (findL key l 0 0) e) 0 0]? = some y ∧ l[findL key l 0 0]? = some w ∧
      (withinB key (endP l (findL key l 0 0)) probe = true → y = ⟨g, key, e⟩) ∧
      (withinB key (endP l (findL key l 0 0)) probe = false → (findL probe l 0 0 = findL key l 0 0 → y = { w with ep := e }) ∧ (findL probe l 0 0 ≠ findL key l 0 0 → l[findL probe l 0 0]? = some y)) := by
  obtain ⟨-, -, h4⟩ := right_iff.1 hR
  obtain ⟨y, s1, s2, s3⟩ := find_spec key hR
  obtain ⟨u, t1, t2, t3⟩ := find_spec probe hR
  generalize findL key l 0 0 = f at *
  generalize findL probe l 0 0 = i at *
  obtain ⟨hf, rfl⟩ := List.getElem?_eq_some_iff.1 s1
  have s4 : ltS l[f].fr key = true := by
    rcases ltS_tri l[f].fr key with h | h | h
    · exact h
    · exact absurd h (hne _ s1)
    · rw [h] at s2; cases s2
  have old : ∀ {a b : Nat} {u v : Pl}, a < b → l[a]? = some u → l[b]? = some v → okR u v := fun h a b => pw_lt h4 h a b
  cases hw : withinB key (endP l f) probe with
  | true =>
    simp only [withinB, Bool.and_eq_true, Bool.not_eq_true', Bool.or_eq_true] at hw
    have hk : findL probe (insS l key g f e) 0 0 = f + 1 := find_at (y := ⟨g, key, e⟩) (by rw [ins_get hf, if_neg (by omega), if_neg (by omega), if_pos rfl]) hw.1 fun j z hj hz => by
      rw [ins_get hf, if_neg (by omega), if_neg (by omega), if_neg (by omega)] at hz
      have hlt : f + 1 < l.length := by
        have := (List.getElem?_eq_some_iff.1 hz).1
        omega
      have hg : l[f + 1]? = some l[f + 1] := List.getElem?_eq_getElem hlt
      have he : endP l f = l[f + 1].fr := by simp [endP, hg]
      have hp : ltS probe l[f + 1].fr = true := by
        rw [he] at hw
        rcases hw.2 with h | h
        · have := lt_empty (old (by omega : f < f + 1) s1 hg).2
          rw [h] at this; cases this
        · exact h
      by_cases e1 : j - 1 = f + 1
      · rw [e1, hg] at hz; cases hz; exact hp
      · exact ltS_trans hp (old (by omega) hg hz).2
    rw [hk]
    exact ⟨⟨g, key, e⟩, _, by rw [ins_get hf, if_neg (by omega), if_neg (by omega), if_pos rfl], s1, fun _ => rfl, fun h => by cases h⟩
  | false =>
    by_cases hif : i = f
    · subst hif
      have hpk : ltS probe key = true := by
        cases hq : ltS probe key with
        | true => rfl
        | false =>
          exfalso
          simp only [withinB, hq, Bool.not_false, Bool.true_and, Bool.or_eq_false_iff] at hw
          cases hg : l[i + 1]? with
          | none => rw [end_none hg, emp_emp] at hw; cases hw.1
          | some z =>
            have he : endP l i = z.fr := by simp [endP, hg]
            rw [he, t3 _ z (by omega) hg] at hw
            cases hw.2
      have hk : findL probe (insS l key g i e) 0 0 = i := find_at (y := { l[i] with ep := e }) (by rw [ins_get hf, if_neg (by omega), if_pos rfl]) (by rw [s1] at t1; cases t1; exact t2) fun j z hj hz => by
        rw [ins_get hf, if_neg (by omega), if_neg (by omega)] at hz
        split at hz
        · cases hz; exact hpk
        · exact t3 _ z (by omega) hz
      rw [hk]
      exact ⟨{ l[i] with ep := e }, _, by rw [ins_get hf, if_neg (by omega), if_pos rfl], s1, fun h => by (cases h), fun _ => ⟨fun _ => rfl, fun h => absurd rfl h⟩⟩
    · by_cases hlt : i < f
      · have hpf := t3 f _ hlt s1
        have hpk : ltS probe key = true := ltS_trans hpf s4
        have hk : findL probe (insS l key g f e) 0 0 = i := find_at (y := u) (by rw [ins_get hf, if_pos hlt]; exact t1) t2 fun j z hj hz => by
          rw [ins_get hf] at hz
          split at hz
          · exact t3 _ z hj hz
          · split at hz
            · cases hz; exact hpf
            · split at hz
              · cases hz; exact hpk
              · exact t3 _ z (by omega) hz
        rw [hk]
        exact ⟨u, _, by rw [ins_get hf, if_pos hlt]; exact t1, s1, fun h => by (cases h), fun _ => ⟨fun h => absurd h hif, fun _ => t1⟩⟩
      · have hk : findL probe (insS l key g f e) 0 0 = i + 1 := find_at (y := u) (by rw [ins_get hf, if_neg (by omega), if_neg (by omega), if_neg (by omega)]; exact t1) t2 fun j z hj hz => by
          rw [ins_get hf, if_neg (by omega), if_neg (by omega), if_neg (by omega)] at hz
          exact t3 _ z (by omega) hz
        rw [hk]
        exact ⟨u, _, by rw [ins_get hf, if_neg (by omega), if_neg (by omega), if_neg (by omega)]; exact t1, s1, fun h => by (cases h), fun _ => ⟨fun h => absurd h hif, fun _ => t1⟩⟩

theorem find_lt_of {l : List Pl} {k : Nat} {y : Pl} (h : l[k]? = some y) : k < l.length := (List.getElem?_eq_some_iff.1 h).1

theorem pl_cell {m : M} {b o i : Nat} {l : List Pl} {y : Pl} (h : CellsAt m b o (pls l)) (hy : l[i]? = some y) : CellsAt m b (o + i * 3) [I y.gr, .string y.fr, I y.ep] ∧ CellsAt m b (o + i * 3 + 0) [I y.gr] ∧ CellsAt m b (o + i * 3 + 1) [.string y.fr] ∧ CellsAt m b (o + i * 3 + 2) [I y.ep] := by
  obtain ⟨hi, rfl⟩ := List.getElem?_eq_some_iff.1 hy
  exact ⟨pl_at h hi, pl_grc h hi, pl_frc h hi, pl_epc h hi⟩

theorem rangessplits (l : List Pl) (a : Option Addr) (c : Nat) (key : ByteArray) (g : Int) (probe : ByteArray) (hl : l.length ≤ 4398046511000) (m : M) (h : Row m a (pls l)) :
    QSpec Try.prog 5 [.slice a l.length c, .string key, I g, .string probe] m (.bool true) := by
  refine QSpec.of_vc Try.func5 (ann := fun _ => noAnn) fun n hn => ?_
  refine vc_by (X :=
      true = true ∧
      ∃ (b : Bool),
      QSpec Try.prog (12 : Nat) [] { π := m.π, sz := n, uf := m.uf : M } (Value.bool b) ∧
      ifB (!b) (Done (Value.bool false = Value.bool true))
      (∃ (S' : Nat → Prop),
      (∀ (b : Nat), S' b → m.uf b ∧ (n ≤ b ∨ False)) ∧
      ∀ (n_1 : Nat),
      n ≤ n_1 →
      SpecW Try.prog (9 : Nat) [Value.slice a l.length c] { π := m.π, sz := n_1, uf := m.uf : M } S' fun (v : Value) (m' : M) =>
      ∃ (a_2 : Option Addr),
      ∃ (n_2 : Nat),
      ∃ (c_1 : Nat),
      v = Value.slice a_2 n_2 c_1 ∧
      ∃ (S' : Nat → Prop),
      (∀ (b : Nat), S' b → m'.uf b ∧ (n ≤ b ∨ False)) ∧
      ∀ (n : Nat),
      m'.sz ≤ n →
      SpecW Try.prog (26 : Nat) [Value.slice a_2 n_2 c_1, Value.string key, Value.int IntKind.i64 g] { π := m'.π, sz := n, uf := m'.uf : M } S'
      fun (v : Value) (m' : M) =>
      ∃ (a_4 : Option Addr),
      ∃ (n : Nat),
      ∃ (c_2 : Nat),
      ∃ (n_3 : Int),
      v = Value.tuple #[Value.slice a_4 n c_2, Value.int IntKind.i64 n_3] ∧
      ifB (n_3 != (0 : Int)) (Done (Value.bool ((↑n : Int) == (0 : Int)) = Value.bool true))
      (∃ (n_4 : Int),
      QSpec Try.prog (19 : Nat) [Value.slice a_4 n c_2] m' (Value.int IntKind.i64 n_4) ∧
      ifB (n_4 != (0 : Int)) (Done (Value.bool false = Value.bool true))
      (ifB ((↑n : Int) != IntKind.i64.wrap ((↑l.length : Int) + (1 : Int))) (Done (Value.bool false = Value.bool true))
      (∃ (n_5 : Int),
      QSpec Try.prog (16 : Nat) [Value.slice a l.length c, Value.string probe] m' (Value.int IntKind.i64 n_5) ∧
      ∃ (n_6 : Int),
      QSpec Try.prog (16 : Nat) [Value.slice a_4 n c_2, Value.string probe] m' (Value.int IntKind.i64 n_6) ∧
      ∃ (n_7 : Int),
      QSpec Try.prog (16 : Nat) [Value.slice a l.length c, Value.string key] m' (Value.int IntKind.i64 n_7) ∧
      ∃ (s : ByteArray),
      QSpec Try.prog (18 : Nat) [Value.slice a l.length c, Value.int IntKind.i64 n_7] m' (Value.string s) ∧
      ∃ (b : Bool),
      QSpec Try.prog (13 : Nat) [Value.string key, Value.string s, Value.string probe] m' (Value.bool b) ∧
      ifB b
      (true = true ∧
      ∃ (b : Nat),
      ∃ (off : Nat),
      a_4 = some { block := b, off := off : Addr } ∧
      ((0 : Int) ≤ n_6 ∧ n_6 < (↑n : Int)) ∧
      ∃ (n_8 : Int),
      CellsAt m' b (off + n_6.toNat * (3 : Nat) + (0 : Nat)) [Value.int IntKind.i64 n_8] ∧
      ifB (n_8 == g)
      (∃ (b : Nat),
      ∃ (off : Nat),
      a_4 = some { block := b, off := off : Addr } ∧
      ((0 : Int) ≤ n_6 ∧ n_6 < (↑n : Int)) ∧
      ∃ (n : Int),
      CellsAt m' b (off + n_6.toNat * (3 : Nat) + (2 : Nat))
      [Value.int IntKind.i64 n] ∧
      ∃ (n_9 : Int),
      QSpec Try.prog (23 : Nat) [Value.slice a l.length c] m'
      (Value.int IntKind.i64 n_9) ∧
      Done (Value.bool (decide (n > n_9)) = Value.bool true))
      (Done (Value.bool false = Value.bool true)))
      (ifB (n_5 == n_7)
      (true = true ∧
      ∃ (b : Nat),
      ∃ (off : Nat),
      a_4 = some { block := b, off := off : Addr } ∧
      ((0 : Int) ≤ n_6 ∧ n_6 < (↑n : Int)) ∧
      ∃ (n_8 : Int),
      CellsAt m' b (off + n_6.toNat * (3 : Nat) + (0 : Nat)) [Value.int IntKind.i64 n_8] ∧
      ∃ (b : Nat),
      ∃ (off : Nat),
      a = some { block := b, off := off : Addr } ∧
      ((0 : Int) ≤ n_5 ∧ n_5 < (↑l.length : Int)) ∧
      ∃ (n_9 : Int),
      CellsAt m' b (off + n_5.toNat * (3 : Nat) + (0 : Nat))
      [Value.int IntKind.i64 n_9] ∧
      ifB (n_8 == n_9)
      (∃ (b : Nat),
      ∃ (off : Nat),
      a_4 = some { block := b, off := off : Addr } ∧
      ((0 : Int) ≤ n_6 ∧ n_6 < (↑n : Int)) ∧
      ∃ (n_10 : Int),
      CellsAt m' b (off + n_6.toNat * (3 : Nat) + (2 : Nat))
      [Value.int IntKind.i64 n_10] ∧
      ∃ (n_11 : Int),
      QSpec Try.prog (23 : Nat) [Value.slice a l.length c] m'
      (Value.int IntKind.i64 n_11) ∧
      ifB (decide (n_10 > n_11))
      (∃ (b : Nat),
      ∃ (off : Nat),
      a_4 = some { block := b, off := off : Addr } ∧
      ((0 : Int) ≤ n_6 ∧ n_6 < (↑n : Int)) ∧
      ∃ (s : ByteArray),
      CellsAt m' b
      (off + n_6.toNat * (3 : Nat) +
      (1 : Nat))
      [Value.string s] ∧
      ∃ (b : Nat),
      ∃ (off : Nat),
      a =
      some
      { block := b, off := off : Addr } ∧
      ((0 : Int) ≤ n_5 ∧
      n_5 < (↑l.length : Int)) ∧
      ∃ (s_1 : ByteArray),
      CellsAt m' b
      (off +
      n_5.toNat * (3 : Nat) +
      (1 : Nat))
      [Value.string s_1] ∧
      Done
      (Value.bool
      (s.toList ==
      s_1.toList) =
      Value.bool true))
      (Done (Value.bool false = Value.bool true)))
      (Done (Value.bool false = Value.bool true)))
      (true = true ∧
      ∃ (b : Nat),
      ∃ (off : Nat),
      a_4 = some { block := b, off := off : Addr } ∧
      ((0 : Int) ≤ n_6 ∧ n_6 < (↑n : Int)) ∧
      ∃ (n : Int),
      ∃ (s : ByteArray),
      ∃ (n_8 : Int),
      CellsAt m' b (off + n_6.toNat * (3 : Nat))
      [Value.int IntKind.i64 n, Value.string s, Value.int IntKind.i64 n_8] ∧
      ∃ (b : Nat),
      ∃ (off : Nat),
      a = some { block := b, off := off : Addr } ∧
      ((0 : Int) ≤ n_5 ∧ n_5 < (↑l.length : Int)) ∧
      ∃ (n_9 : Int),
      ∃ (s_1 : ByteArray),
      ∃ (n_10 : Int),
      CellsAt m' b (off + n_5.toNat * (3 : Nat))
      [Value.int IntKind.i64 n_9, Value.string s_1,
      Value.int IntKind.i64 n_10] ∧
      Done
      (Value.bool
      (n == n_9 &&
      (s.toList == s_1.toList && (n_8 == n_10 && true))) =
      Value.bool true)))))))) (by kernel_rfl) ?_
  have h0 := h.sz hn
  refine ⟨rfl, _, rg_awake _, ifB_intro (fun h1 => by cases h1) (fun _ => ⟨_, noS, fun n1 hn1 => (rg_own a c l hl _ (h0.sz hn1)).monoW fun v1 m1 g1 ⟨b, hv1, ro⟩ => ⟨_, _, _, hv1, ?_⟩⟩)⟩
  have r1 := (h0.sz hn1).agree g1
  refine ⟨_, noS, fun n2 hn2 => (rg_split l _ _ key g (by omega) _ (ro.take.sz hn2)).monoW fun v2 m2 g2 ⟨ax, cx, hv2, rx⟩ => ⟨_, _, _, _, hv2, ifB_intro (fun h2 => ⟨?_⟩) (fun h2 => ?_)⟩⟩
  · rw [split_bad (by simpa using h2)]; rfl
  have r2 := (r1.sz hn2).agree g2
  obtain ⟨hR, hk16, hG, hno, hne, hE, hsp⟩ := split_ok (l := l) (key := key) (g := g) (by simpa using h2)
  have hE0 : 0 ≤ epochL l := epoch_nn l 0
  have h7 := right_len hR
  have hp := right_pos hR
  have hfl := findL_len key hp
  have hxR := ins_right (e := epochL l + 1) hR hk16 hG ⟨by omega, by omega⟩ hno hne
  have hxl := ins_len l key g _ (epochL l + 1) hfl
  obtain ⟨y, w, f1, f2, f3, f4⟩ := split_find (g := g) (e := epochL l + 1) probe hR hne
  rw [hsp] at rx ⊢
  simp only at rx ⊢
  have w1 : IntKind.i64.wrap ((l.length : Int) + 1) = ((l.length + 1 : Nat) : Int) := by rw [IntKind.wrap_i64]; omega
  rw [w1, hxl]
  have hxk := find_lt_of f1
  rw [hxl] at hxk
  have hil := findL_len probe hp
  have cR := rg_check _ ax cx (by omega) m2 rx
  rw [hxl] at cR
  have fP := rg_find _ ax cx probe (by omega) m2 rx
  rw [hxl] at fP
  have he : endI l ((findL key l 0 0 : Nat) : Int) = endP l (findL key l 0 0) := by simp [endI]
  have eP := pl_end l a c ((findL key l 0 0 : Nat) : Int) ⟨by omega, by omega⟩ (by omega) m2 r2
  rw [he] at eP
  obtain ⟨bx, ox, rfl, hcx⟩ := rx.cells (by rw [pl_len]; omega)
  obtain ⟨bl, ol, rfl, hcl⟩ := r2.cells (by rw [pl_len]; omega)
  obtain ⟨c1, c2, c3, c4⟩ := pl_cell hcx f1
  have hEq := rg_epoch l _ c hl (row_h0 r2) m2 r2
  refine ⟨_, cR, ifB_intro (fun h3 => by simp [hxR] at h3) (fun h3 => ifB_intro (fun h4 => by simp at h4) (fun h4 => ⟨_, rg_find l _ c probe (by omega) m2 r2, _, fP, _, rg_find l _ c key (by omega) m2 r2, _, eP, _, rg_within _ _ _ m2, ifB_intro (fun h5 => ?_) (fun h5 => ifB_intro (fun h6 => ?_) (fun h6 => ?_))⟩))⟩
  · have := f3 h5
    subst this
    have q : decide (epochL l + 1 > epochL l) = true := by simp; omega
    refine ⟨by trivial, bx, ox, rfl, by omega, _, by simpa using c2, ?_⟩
    have q2 : (g == g) = true := by simp
    rw [q2]
    refine ifB_true ⟨bx, ox, rfl, by omega, _, by simpa using c4, _, hEq, ⟨by rw [q]⟩⟩
  · have e1 : findL probe l 0 0 = findL key l 0 0 := by
      have : ((findL probe l 0 0 : Nat) : Int) = ((findL key l 0 0 : Nat) : Int) := by simpa using h6
      omega
    have := (f4 h5).1 e1
    subst this
    obtain ⟨d1, d2, d3, d4⟩ := pl_cell hcl (e1 ▸ f2 : l[findL probe l 0 0]? = some w)
    have q : decide (epochL l + 1 > epochL l) = true := by simp; omega
    refine ⟨by trivial, bx, ox, rfl, by omega, _, by simpa using c2, bl, ol, rfl, by omega, _, by simpa using d2, ?_⟩
    have q2 : (w.gr == w.gr) = true := by simp
    rw [q2]
    refine ifB_true ⟨bx, ox, rfl, by omega, _, by simpa using c4, _, hEq, ?_⟩
    rw [q]
    exact ifB_true ⟨bx, ox, rfl, by omega, _, by simpa using c3, bl, ol, rfl, by omega, _, by simpa using d3, ⟨by simp⟩⟩
  · have e1 : findL probe l 0 0 ≠ findL key l 0 0 := fun e => by rw [e] at h6; simp at h6
    have f5 := (f4 h5).2 e1
    obtain ⟨d1, d2, d3, d4⟩ := pl_cell hcl f5
    exact ⟨by trivial, bx, ox, rfl, by omega, _, _, _, by simpa using c1, bl, ol, rfl, by omega, _, _, _, by simpa using d1, ⟨by simp⟩⟩

end Go.Proofs.Ytpnpebefcmgjoaa
set_option linter.unusedVariables false
set_option linter.unusedSimpArgs false
namespace Go.Proofs.Ytpnpebefcmgjoaa
open Go.Vc Go.RowKit
set_option maxRecDepth 100000

theorem merge_ok {l : List Pl} {i : Int} (h : (mergeL l i).2 = 0) : rightB l = true ∧ 0 ≤ i ∧ i.toNat + 1 < l.length ∧ epochL l < 4611686018427387904 ∧ mergeL l i = (delS l i.toNat (epochL l + 1), 0) := by
  unfold mergeL at h ⊢
  split at h
  · cases h
  rename_i h1
  have hR : rightB l = true := by simpa using h1
  split at h
  · cases h
  rename_i h2
  rw [if_neg h1, if_neg h2]
  simp only [Bool.or_eq_true, decide_eq_true_eq, not_or] at h2
  exact ⟨hR, by omega, by omega, by omega, rfl⟩

theorem merge_bad {l : List Pl} {i : Int} (h : (mergeL l i).2 ≠ 0) : (mergeL l i).1 = [] ∧ ((rightB l = true ∧ 0 ≤ i ∧ i.toNat + 1 < l.length) → (mergeL l i).2 = 170 ∧ epochL l ≥ 4611686018427387904) := by
  unfold mergeL at h ⊢
  split
  · rename_i h1
    exact ⟨rfl, fun h2 => by rw [h2.1] at h1; cases h1⟩
  · rename_i h1
    rw [if_neg h1] at h
    split
    · rename_i h2
      refine ⟨rfl, fun h3 => ⟨rfl, ?_⟩⟩
      simp only [Bool.or_eq_true, decide_eq_true_eq] at h2
      omega
    · rename_i h2
      rw [if_neg h2] at h
      exact absurd rfl h

theorem merge_find {l : List Pl} {f : Nat} {e : Int} (probe : ByteArray) (hR : rightB l = true) (hf1 : f + 1 < l.length) :
    ∃ y u w, (delS l f e)[findL probe (delS l f e) 0 0]? = some y ∧ l[findL probe l 0 0]? = some u ∧ l[f]? = some w ∧
      (withinB w.fr (endP l (f + 1)) probe = true → y = { w with ep := e }) ∧ (withinB w.fr (endP l (f + 1)) probe = false → y = u) := by
  obtain ⟨-, -, h4⟩ := right_iff.1 hR
  obtain ⟨u, t1, t2, t3⟩ := find_spec probe hR
  generalize findL probe l 0 0 = i at *
  have hf : f < l.length := by omega
  have s1 : l[f]? = some l[f] := List.getElem?_eq_getElem hf
  have old : ∀ {a b : Nat} {u v : Pl}, a < b → l[a]? = some u → l[b]? = some v → okR u v := fun h a b => pw_lt h4 h a b
  cases hw : withinB l[f].fr (endP l (f + 1)) probe with
  | true =>
    have hw' := hw
    simp only [withinB, Bool.and_eq_true, Bool.not_eq_true', Bool.or_eq_true] at hw
    have hk : findL probe (delS l f e) 0 0 = f := find_at (y := { l[f] with ep := e }) (by rw [del_get hf, if_neg (by omega), if_pos rfl]) hw.1 fun j z hj hz => by
      rw [del_get hf, if_neg (by omega), if_neg (by omega)] at hz
      have hlt : f + 1 + 1 < l.length := by
        have := (List.getElem?_eq_some_iff.1 hz).1
        omega
      have hg : l[f + 1 + 1]? = some l[f + 1 + 1] := List.getElem?_eq_getElem hlt
      have he : endP l (f + 1) = l[f + 1 + 1].fr := by simp [endP, hg]
      have hp : ltS probe l[f + 1 + 1].fr = true := by
        rw [he] at hw
        rcases hw.2 with h | h
        · have := lt_empty (old (by omega : f < f + 1 + 1) s1 hg).2
          rw [h] at this; cases this
        · exact h
      by_cases e1 : j + 1 = f + 1 + 1
      · rw [e1, hg] at hz; cases hz; exact hp
      · exact ltS_trans hp (old (by omega) hg hz).2
    rw [hk]
    exact ⟨{ l[f] with ep := e }, u, l[f], by rw [del_get hf, if_neg (by omega), if_pos rfl], t1, s1, fun _ => rfl, fun h => by rw [hw'] at h; cases h⟩
  | false =>
    have hcase : i < f ∨ f + 1 < i := by
      rcases Nat.lt_or_ge i f with h | h
      · exact .inl h
      · rcases Nat.lt_or_ge (f + 1) i with h' | h'
        · exact .inr h'
        · exfalso
          have hle : ltS probe l[f].fr = false := by
            by_cases e1 : i = f
            · subst e1; rw [s1] at t1; cases t1; exact t2
            · cases hq : ltS probe l[f].fr with
              | false => rfl
              | true =>
                have := ltS_trans hq (old (by omega : f < i) s1 t1).2
                rw [this] at t2; cases t2
          simp only [withinB, hle, Bool.not_false, Bool.true_and, Bool.or_eq_false_iff] at hw
          cases hg : l[f + 1 + 1]? with
          | none => rw [end_none hg, emp_emp] at hw; cases hw.1
          | some z =>
            have he : endP l (f + 1) = z.fr := by simp [endP, hg]
            rw [he, t3 _ z (by omega) hg] at hw
            cases hw.2
    rcases hcase with hlt | hgt
    · have hk : findL probe (delS l f e) 0 0 = i := find_at (y := u) (by rw [del_get hf, if_pos hlt]; exact t1) t2 fun j z hj hz => by
        rw [del_get hf] at hz
        split at hz
        · exact t3 _ z hj hz
        · split at hz
          · cases hz; have t := t3 f l[f] hlt s1; exact t
          · exact t3 _ z (by omega) hz
      rw [hk]
      exact ⟨u, u, l[f], by rw [del_get hf, if_pos hlt]; exact t1, t1, s1, fun h => (by rw [hw] at h; cases h), fun _ => rfl⟩
    · have hk : findL probe (delS l f e) 0 0 = i - 1 := find_at (y := u) (by rw [del_get hf, if_neg (by omega), if_neg (by omega), show i - 1 + 1 = i by omega]; exact t1) t2 fun j z hj hz => by
        rw [del_get hf, if_neg (by omega), if_neg (by omega)] at hz
        exact t3 _ z (by omega) hz
      rw [hk]
      exact ⟨u, u, l[f], by rw [del_get hf, if_neg (by omega), if_neg (by omega), show i - 1 + 1 = i by omega]; exact t1, t1, s1, fun h => (by rw [hw] at h; cases h), fun _ => rfl⟩

theorem del_ins {l : List Pl} {key : ByteArray} {g e e2 : Int} {f : Nat} (hf : f < l.length) : (delS (insS l key g f e) f e2).length = l.length ∧ ∀ (j : Nat) (u v : Pl), (delS (insS l key g f e) f e2)[j]? = some u → l[j]? = some v → u.gr = v.gr ∧ u.fr = v.fr := by
  have hl := ins_len l key g f e hf
  have hf2 : f < (insS l key g f e).length := by omega
  refine ⟨by rw [del_form hf2]; simp; omega, fun j u v hu hv => ?_⟩
  rw [del_get hf2] at hu
  split at hu
  · rename_i h
    rw [ins_get hf, if_pos h, hv] at hu
    cases hu; exact ⟨rfl, rfl⟩
  · split at hu
    · rename_i h
      subst h
      cases hu
      have h1 := ins_get (key := key) (g := g) (e := e) hf j
      rw [if_neg (by omega), if_pos rfl, List.getElem?_eq_getElem hf2] at h1
      rw [List.getElem?_eq_getElem hf] at hv
      cases hv
      have h1 := Option.some.inj h1
      rw [h1]; exact ⟨rfl, rfl⟩
    · rw [ins_get hf, if_neg (by omega), if_neg (by omega), if_neg (by omega), Nat.add_sub_cancel, hv] at hu
      cases hu; exact ⟨rfl, rfl⟩

theorem del_len {l : List Pl} {f : Nat} {e : Int} (hf : f + 1 < l.length) : (delS l f e).length = l.length - 1 := by
  rw [del_form (by omega)]; simp; omega

structure MgX where
  k : Nat
  m : M
  z : List Pl
  a : Option Addr
  c : Nat

theorem rangesmerges (l : List Pl) (a : Option Addr) (c : Nat) (i : Int) (probe key : ByteArray) (g : Int) (hi : In64 i) (hl : l.length ≤ 4398046511000) (m : M) (h : Row m a (pls l)) :
    QSpec Try.prog 8 [.slice a l.length c, I i, .string probe, .string key, I g] m (.bool true) := by
  refine QSpec.of_vc Try.func8 (ann := fun n r => if r = 15 then { A := M, inv := fun x => Row x a (pls l), st := fun x => [(0, .val (.slice a l.length c)), (3, .val (.string key)), (4, .val (I g))], own := fun _ => [], m := fun x => x, μ := fun _ => 0, cut := true }
    else { A := MgX, inv := fun x => (x.k ≤ l.length ∧ x.z.length = l.length ∧ ∀ (j : Nat) (u v : Pl), x.z[j]? = some u → l[j]? = some v → u.gr = v.gr ∧ u.fr = v.fr) ∧ Row x.m x.a (pls x.z) ∧ Row x.m a (pls l), st := fun x => [(19, .val (I x.k)), (17, .val (.slice x.a x.z.length x.c)), (0, .val (.slice a l.length c))], own := fun _ => [], m := fun x => x.m, μ := fun x => l.length - x.k }) fun n hn => ?_
  refine vc_by (X :=
      true = true ∧
      ∃ (b : Bool),
      QSpec Try.prog (12 : Nat) [] { π := m.π, sz := n, uf := m.uf : M } (Value.bool b) ∧
      ifB (!b) (Done (Value.bool false = Value.bool true))
      (∃ (S' : Nat → Prop),
      (∀ (b : Nat), S' b → m.uf b ∧ (n ≤ b ∨ False)) ∧
      ∀ (n_1 : Nat),
      n ≤ n_1 →
      SpecW Try.prog (9 : Nat) [Value.slice a l.length c] { π := m.π, sz := n_1, uf := m.uf : M } S' fun (v : Value) (m' : M) =>
      ∃ (a_2 : Option Addr),
      ∃ (n_2 : Nat),
      ∃ (c_1 : Nat),
      v = Value.slice a_2 n_2 c_1 ∧
      ∃ (S' : Nat → Prop),
      (∀ (b : Nat), S' b → m'.uf b ∧ (n ≤ b ∨ False)) ∧
      ∀ (n_3 : Nat),
      m'.sz ≤ n_3 →
      SpecW Try.prog (28 : Nat) [Value.slice a_2 n_2 c_1, Value.int IntKind.i64 i] { π := m'.π, sz := n_3, uf := m'.uf : M } S'
      fun (v : Value) (m' : M) =>
      ∃ (a_4 : Option Addr),
      ∃ (n_4 : Nat),
      ∃ (c_2 : Nat),
      ∃ (n_5 : Int),
      v = Value.tuple #[Value.slice a_4 n_4 c_2, Value.int IntKind.i64 n_5] ∧
      ifB (n_5 == (0 : Int))
      (∃ (n : Int),
      QSpec Try.prog (19 : Nat) [Value.slice a_4 n_4 c_2] m' (Value.int IntKind.i64 n) ∧
      ifB (n != (0 : Int)) (Done (Value.bool false = Value.bool true))
      (ifB ((↑n_4 : Int) != IntKind.i64.wrap ((↑l.length : Int) - (1 : Int))) (Done (Value.bool false = Value.bool true))
      (true = true ∧
      ∃ (n : Int),
      QSpec Try.prog (16 : Nat) [Value.slice a l.length c, Value.string probe] m' (Value.int IntKind.i64 n) ∧
      ∃ (b : Nat),
      ∃ (off : Nat),
      a = some { block := b, off := off : Addr } ∧
      ((0 : Int) ≤ n ∧ n < (↑l.length : Int)) ∧
      ∃ (n_6 : Int),
      ∃ (s : ByteArray),
      ∃ (n_7 : Int),
      CellsAt m' b (off + n.toNat * (3 : Nat))
      [Value.int IntKind.i64 n_6, Value.string s, Value.int IntKind.i64 n_7] ∧
      ∃ (n : Int),
      QSpec Try.prog (16 : Nat) [Value.slice a_4 n_4 c_2, Value.string probe] m'
      (Value.int IntKind.i64 n) ∧
      ∃ (b : Nat),
      ∃ (off : Nat),
      a_4 = some { block := b, off := off : Addr } ∧
      ((0 : Int) ≤ n ∧ n < (↑n_4 : Int)) ∧
      ∃ (n_8 : Int),
      ∃ (s_1 : ByteArray),
      ∃ (n_9 : Int),
      CellsAt m' b (off + n.toNat * (3 : Nat))
      [Value.int IntKind.i64 n_8, Value.string s_1, Value.int IntKind.i64 n_9] ∧
      true = true ∧
      ∃ (b : Nat),
      ∃ (off : Nat),
      a = some { block := b, off := off : Addr } ∧
      ((0 : Int) ≤ i ∧ i < (↑l.length : Int)) ∧
      ∃ (s_2 : ByteArray),
      CellsAt m' b (off + i.toNat * (3 : Nat) + (1 : Nat))
      [Value.string s_2] ∧
      ∃ (s_3 : ByteArray),
      QSpec Try.prog (18 : Nat)
      [Value.slice a l.length c,
      Value.int IntKind.i64 (IntKind.i64.wrap (i + (1 : Int)))]
      m' (Value.string s_3) ∧
      ∃ (b : Bool),
      QSpec Try.prog (13 : Nat)
      [Value.string s_2, Value.string s_3, Value.string probe]
      m' (Value.bool b) ∧
      ifB b
      (true = true ∧
      ∃ (b : Nat),
      ∃ (off : Nat),
      a = some { block := b, off := off : Addr } ∧
      ((0 : Int) ≤ i ∧ i < (↑l.length : Int)) ∧
      ∃ (n : Int),
      CellsAt m' b
      (off + i.toNat * (3 : Nat) + (0 : Nat))
      [Value.int IntKind.i64 n] ∧
      ifB (n_8 != n)
      (Done
      (Value.bool false = Value.bool true))
      (∃ (b : Nat),
      ∃ (off : Nat),
      a =
      some
      { block := b, off := off : Addr } ∧
      ((0 : Int) ≤ i ∧
      i < (↑l.length : Int)) ∧
      ∃ (s : ByteArray),
      CellsAt m' b
      (off +
      i.toNat * (3 : Nat) +
      (1 : Nat))
      [Value.string s] ∧
      ifB
      (!s_1.toList == s.toList)
      (Done
      (Value.bool false =
      Value.bool true))
      (∃ (n : Int),
      QSpec Try.prog
      (23 : Nat)
      [Value.slice a
      l.length c]
      m'
      (Value.int
      IntKind.i64 n) ∧
      ifB (decide (n_9 ≤ n))
      (Done
      (Value.bool
      false =
      Value.bool
      true))
      (∃ (x : M),
      Row x a (pls l) ∧
      m' = x ∧
      ((SV.val
      (Value.slice
      a
      l.length
      c) =
      SV.val
      (Value.slice
      a
      l.length
      c) ∧
      true =
      true) ∧
      (SV.val
      (Value.string
      key) =
      SV.val
      (Value.string
      key) ∧
      true =
      true) ∧
      (SV.val
      (Value.int
      IntKind.i64
      g) =
      SV.val
      (Value.int
      IntKind.i64
      g) ∧
      true =
      true) ∧
      True) ∧
      True))))
      (ifB
      (!(n_8 == n_6 &&
      (s_1.toList == s.toList && (n_9 == n_7 && true))))
      (Done (Value.bool false = Value.bool true))
      (∃ (x : M),
      Row x a (pls l) ∧
      m' = x ∧
      ((SV.val (Value.slice a l.length c) =
      SV.val (Value.slice a l.length c) ∧
      true = true) ∧
      (SV.val (Value.string key) =
      SV.val (Value.string key) ∧
      true = true) ∧
      (SV.val (Value.int IntKind.i64 g) =
      SV.val (Value.int IntKind.i64 g) ∧
      true = true) ∧
      True) ∧
      True)))))
      (ifB (decide ((↑n_4 : Int) > (0 : Int))) (Done (Value.bool false = Value.bool true))
      (∃ (x : M),
      Row x a (pls l) ∧
      m' = x ∧
      ((SV.val (Value.slice a l.length c) = SV.val (Value.slice a l.length c) ∧ true = true) ∧
      (SV.val (Value.string key) = SV.val (Value.string key) ∧ true = true) ∧
      (SV.val (Value.int IntKind.i64 g) = SV.val (Value.int IntKind.i64 g) ∧ true = true) ∧ True) ∧
      True)) ∧
      ∀ (x : M),
      Row x a (pls l) →
      ∃ (S' : Nat → Prop),
      (∀ (b : Nat), S' b → x.uf b ∧ (n ≤ b ∨ False)) ∧
      ∀ (n_6 : Nat),
      x.sz ≤ n_6 →
      SpecW Try.prog (9 : Nat) [Value.slice a l.length c] { π := x.π, sz := n_6, uf := x.uf : M } S'
      fun (v : Value) (m' : M) =>
      ∃ (a_7 : Option Addr),
      ∃ (n_7 : Nat),
      ∃ (c_3 : Nat),
      v = Value.slice a_7 n_7 c_3 ∧
      ∃ (S' : Nat → Prop),
      (∀ (b : Nat), S' b → m'.uf b ∧ (n ≤ b ∨ False)) ∧
      ∀ (n_8 : Nat),
      m'.sz ≤ n_8 →
      SpecW Try.prog (26 : Nat) [Value.slice a_7 n_7 c_3, Value.string key, Value.int IntKind.i64 g]
      { π := m'.π, sz := n_8, uf := m'.uf : M } S' fun (v : Value) (m' : M) =>
      ∃ (a_9 : Option Addr),
      ∃ (n_9 : Nat),
      ∃ (c_4 : Nat),
      ∃ (n_10 : Int),
      v = Value.tuple #[Value.slice a_9 n_9 c_4, Value.int IntKind.i64 n_10] ∧
      ifB (n_10 != (0 : Int)) (Done (Value.bool ((↑n_9 : Int) == (0 : Int)) = Value.bool true))
      (∃ (n_11 : Int),
      QSpec Try.prog (16 : Nat) [Value.slice a l.length c, Value.string key] m'
      (Value.int IntKind.i64 n_11) ∧
      ∃ (S' : Nat → Prop),
      (∀ (b : Nat), S' b → m'.uf b ∧ (n ≤ b ∨ False)) ∧
      ∀ (n : Nat),
      m'.sz ≤ n →
      SpecW Try.prog (28 : Nat)
      [Value.slice a_9 n_9 c_4, Value.int IntKind.i64 n_11]
      { π := m'.π, sz := n, uf := m'.uf : M } S' fun (v : Value) (m' : M) =>
      ∃ (a_11 : Option Addr),
      ∃ (n : Nat),
      ∃ (c_5 : Nat),
      ∃ (n_12 : Int),
      v =
      Value.tuple
      #[Value.slice a_11 n c_5, Value.int IntKind.i64 n_12] ∧
      ifB (n_12 != (0 : Int))
      (ifB (n_12 == (170 : Int))
      (∃ (n : Int),
      QSpec Try.prog (23 : Nat) [Value.slice a_9 n_9 c_4] m'
      (Value.int IntKind.i64 n) ∧
      Done
      (Value.bool (n == (4611686018427387904 : Int)) =
      Value.bool true))
      (Done (Value.bool false = Value.bool true)))
      (ifB ((↑n : Int) != (↑l.length : Int))
      (ifB (n_12 == (170 : Int))
      (∃ (n : Int),
      QSpec Try.prog (23 : Nat) [Value.slice a_9 n_9 c_4] m'
      (Value.int IntKind.i64 n) ∧
      Done
      (Value.bool (n == (4611686018427387904 : Int)) =
      Value.bool true))
      (Done (Value.bool false = Value.bool true)))
      ((∃ (a_12 : MgX),
      ((a_12.k ≤ l.length ∧
      a_12.z.length = l.length ∧
      ∀ (j : Nat) (u v : Pl),
      a_12.z[j]? = some u →
      l[j]? = some v →
      u.gr = v.gr ∧ u.fr = v.fr) ∧
      Row a_12.m a_12.a (pls a_12.z) ∧
      Row a_12.m a (pls l)) ∧
      m' = a_12.m ∧
      ((SV.val (Value.int IntKind.i64 (0 : Int)) =
      SV.val
      (Value.int IntKind.i64 (↑a_12.k : Int)) ∧
      true = true) ∧
      (SV.val (Value.slice a_11 n c_5) =
      SV.val
      (Value.slice a_12.a a_12.z.length
      a_12.c) ∧
      true = true) ∧
      (SV.val (Value.slice a l.length c) =
      SV.val (Value.slice a l.length c) ∧
      true = true) ∧
      True) ∧
      True) ∧
      ∀ (a_12 : MgX),
      (a_12.k ≤ l.length ∧
      a_12.z.length = l.length ∧
      ∀ (j : Nat) (u v : Pl),
      a_12.z[j]? = some u →
      l[j]? = some v →
      u.gr = v.gr ∧ u.fr = v.fr) ∧
      Row a_12.m a_12.a (pls a_12.z) ∧
      Row a_12.m a (pls l) →
      ifB
      (decide ((↑a_12.k : Int) < (↑a_12.z.length : Int)))
      (true = true ∧
      ∃ (b : Nat),
      ∃ (off : Nat),
      a_12.a =
      some { block := b, off := off : Addr } ∧
      ((0 : Int) ≤ (↑a_12.k : Int) ∧
      (↑a_12.k : Int) <
      (↑a_12.z.length : Int)) ∧
      ∃ (n : Int),
      CellsAt a_12.m b
      (off +
      (↑a_12.k : Int).toNat *
      (3 : Nat) +
      (0 : Nat))
      [Value.int IntKind.i64 n] ∧
      ∃ (b : Nat),
      ∃ (off : Nat),
      a =
      some
      { block := b, off := off : Addr } ∧
      ((0 : Int) ≤ (↑a_12.k : Int) ∧
      (↑a_12.k : Int) <
      (↑l.length : Int)) ∧
      ∃ (n_13 : Int),
      CellsAt a_12.m b
      (off +
      (↑a_12.k :
      Int).toNat *
      (3 : Nat) +
      (0 : Nat))
      [Value.int IntKind.i64
      n_13] ∧
      ifB (n != n_13)
      (Done
      (Value.bool false =
      Value.bool true))
      (∃ (b : Nat),
      ∃ (off : Nat),
      a_12.a =
      some
      { block := b, off := off : Addr } ∧
      ((0 : Int) ≤
      (↑a_12.k :
      Int) ∧
      (↑a_12.k :
      Int) <
      (↑a_12.z.length :
      Int)) ∧
      ∃ (s :
      ByteArray),
      CellsAt a_12.m
      b
      (off +
      (↑a_12.k :
      Int).toNat *
      (3 :
      Nat) +
      (1 :
      Nat))
      [Value.string
      s] ∧
      ∃ (b : Nat),
      ∃ (off :
      Nat),
      a =
      some
      { block := b, off := off : Addr } ∧
      ((0 :
      Int) ≤
      (↑a_12.k :
      Int) ∧
      (↑a_12.k :
      Int) <
      (↑l.length :
      Int)) ∧
      ∃
      (s_1
      :
      ByteArray),
      CellsAt
      a_12.m
      b
      (off +
      (↑a_12.k :
      Int).toNat *
      (3 :
      Nat) +
      (1 :
      Nat))
      [Value.string
      s_1] ∧
      ifB
      (!s.toList ==
      s_1.toList)
      (Done
      (Value.bool
      false =
      Value.bool
      true))
      (∃
      (a'
      :
      MgX),
      (((a'.k ≤
      l.length ∧
      a'.z.length =
      l.length ∧
      ∀
      (j :
      Nat)
      (u
      v :
      Pl),
      a'.z[j]? =
      some
      u →
      l[j]? =
      some
      v →
      u.gr =
      v.gr ∧
      u.fr =
      v.fr) ∧
      Row
      a'.m
      a'.a
      (pls
      a'.z) ∧
      Row
      a'.m
      a
      (pls
      l)) ∧
      a_12.m =
      a'.m ∧
      ((SV.val
      (Value.int
      IntKind.i64
      (IntKind.i64.wrap
      ((↑a_12.k :
      Int) +
      (1 :
      Int)))) =
      SV.val
      (Value.int
      IntKind.i64
      (↑a'.k :
      Int)) ∧
      true =
      true) ∧
      (SV.val
      (Value.slice
      a_12.a
      a_12.z.length
      a_12.c) =
      SV.val
      (Value.slice
      a'.a
      a'.z.length
      a'.c) ∧
      true =
      true) ∧
      (SV.val
      (Value.slice
      a
      l.length
      c) =
      SV.val
      (Value.slice
      a
      l.length
      c) ∧
      true =
      true) ∧
      True) ∧
      True) ∧
      l.length -
      a'.k <
      l.length -
      a_12.k)))
      (Done (Value.bool true = Value.bool true))))))) (by kernel_rfl) ?_
  have h0 := h.sz hn
  have cutp : ∀ m' : M, Row m' a (pls l) → ∃ x, Row x a (pls l) ∧ m' = x ∧ ((SV.val (Value.slice a l.length c) = SV.val (Value.slice a l.length c) ∧ true = true) ∧ (SV.val (Value.string key) = SV.val (Value.string key) ∧ true = true) ∧ (SV.val (I g) = SV.val (I g) ∧ true = true) ∧ True) ∧ True := fun m' hm => ⟨m', hm, rfl, ⟨⟨rfl, rfl⟩, ⟨rfl, rfl⟩, ⟨rfl, rfl⟩, trivial⟩, trivial⟩
  refine ⟨rfl, _, rg_awake _, ifB_intro (fun h1 => by cases h1) (fun _ => ⟨_, noS, fun n1 hn1 => (rg_own a c l hl _ (h0.sz hn1)).monoW fun v1 m1 g1 ⟨b, hv1, ro⟩ => ⟨_, _, _, hv1, ?_⟩⟩)⟩
  have r1 := (h0.sz hn1).agree g1
  refine ⟨_, noS, fun n2 hn2 => (rg_merge l _ _ i hi (by omega) _ (ro.take.sz hn2)).monoW fun v2 m2 g2 ⟨ax, cx, hv2, rx⟩ => ⟨_, _, _, _, hv2, ?_⟩⟩
  have r2 := (r1.sz hn2).agree g2
  refine ⟨ifB_intro (fun h2 => ?_) (fun h2 => ?_), fun x hx => ?_⟩
  · obtain ⟨hR, hi0, hi1, hE, hsp⟩ := merge_ok (l := l) (i := i) (by simpa using h2)
    have hE0 : 0 ≤ epochL l := epoch_nn l 0
    have h7 := right_len hR
    have hp := right_pos hR
    obtain ⟨f, rfl⟩ : ∃ f : Nat, i = (f : Int) := ⟨i.toNat, by omega⟩
    simp only [Int.toNat_natCast] at hi1 hsp
    have hxR := del_right (e := epochL l + 1) hR ⟨by omega, by omega⟩ hi1
    have hxl := del_len (e := epochL l + 1) hi1
    obtain ⟨y, u, w, f1, f2, f5, f3, f4⟩ := merge_find (e := epochL l + 1) probe hR hi1
    rw [hsp] at rx ⊢
    simp only at rx ⊢
    have w1 : IntKind.i64.wrap ((l.length : Int) - 1) = ((l.length - 1 : Nat) : Int) := by rw [IntKind.wrap_i64]; omega
    have w2 : IntKind.i64.wrap ((f : Int) + 1) = ((f + 1 : Nat) : Int) := by rw [IntKind.wrap_i64]; omega
    rw [w1, w2, hxl]
    have hxk := find_lt_of f1
    rw [hxl] at hxk
    have hil := findL_len probe hp
    have cR := rg_check _ ax cx (by omega) m2 rx
    rw [hxl] at cR
    have fP := rg_find _ ax cx probe (by omega) m2 rx
    rw [hxl] at fP
    have he : endI l ((f + 1 : Nat) : Int) = endP l (f + 1) := by simp only [endI, Int.toNat_natCast]; rw [if_pos (by omega)]
    have eP := pl_end l a c ((f + 1 : Nat) : Int) ⟨by omega, by omega⟩ (by omega) m2 r2
    rw [he] at eP
    have hEq := rg_epoch l _ c hl (row_h0 r2) m2 r2
    obtain ⟨bx, ox, rfl, hcx⟩ := rx.cells (by rw [pl_len]; omega)
    obtain ⟨bl, ol, rfl, hcl⟩ := r2.cells (by rw [pl_len]; omega)
    obtain ⟨c1, c2, c3, c4⟩ := pl_cell hcx f1
    obtain ⟨d1, d2, d3, d4⟩ := pl_cell hcl f2
    obtain ⟨e1, e2, e3, e4⟩ := pl_cell hcl f5
    refine ⟨_, cR, ifB_intro (fun h3 => by simp [hxR] at h3) (fun h3 => ifB_intro (fun h4 => by simp at h4) (fun h4 => ⟨by trivial, _, rg_find l _ c probe (by omega) m2 r2, bl, ol, rfl, by omega, _, _, _, by simpa using d1, _, fP, bx, ox, rfl, by omega, _, _, _, by simpa using c1, by trivial, bl, ol, rfl, by omega, _, by simpa using e3, _, eP, _, rg_within _ _ _ m2, ifB_intro (fun h5 => ?_) (fun h5 => ?_)⟩))⟩
    · have := f3 h5
      subst this
      refine ⟨by trivial, bl, ol, rfl, by omega, _, by simpa using e2, ?_⟩
      have q1 : (w.gr != w.gr) = false := by simp
      rw [q1]
      refine ifB_false ⟨bl, ol, rfl, by omega, _, by simpa using e3, ?_⟩
      have q2 : (!w.fr.toList == w.fr.toList) = false := by simp
      rw [q2]
      refine ifB_false ⟨_, hEq, ?_⟩
      have q3 : decide (epochL l + 1 ≤ epochL l) = false := by simp; omega
      rw [q3]
      exact ifB_false ⟨m2, r2, rfl, by simp⟩
    · have := f4 h5
      subst this
      have q1 : (!(y.gr == y.gr && (y.fr.toList == y.fr.toList && (y.ep == y.ep && true)))) = false := by simp
      rw [q1]
      exact ifB_false ⟨m2, r2, rfl, by simp⟩
  · have hb := (merge_bad (l := l) (i := i) (by simpa using h2)).1
    rw [hb]
    exact ifB_false (cutp m2 r2)
  · refine ⟨_, noS, fun n3 hn3 => (rg_own a c l hl _ (hx.sz hn3)).monoW fun v3 m3 g3 ⟨b3, hv3, ro3⟩ => ⟨_, _, _, hv3, ?_⟩⟩
    have r3 := (hx.sz hn3).agree g3
    refine ⟨_, noS, fun n4 hn4 => (rg_split l _ _ key g (by omega) _ (ro3.take.sz hn4)).monoW fun v4 m4 g4 ⟨ay, cy, hv4, ry⟩ => ⟨_, _, _, _, hv4, ifB_intro (fun h2 => ⟨?_⟩) (fun h2 => ?_)⟩⟩
    · rw [split_bad (by simpa using h2)]; rfl
    have r4 := (r3.sz hn4).agree g4
    obtain ⟨hR, hk16, hG, hno, hne, hE, hsp⟩ := split_ok (l := l) (key := key) (g := g) (by simpa using h2)
    have hE0 : 0 ≤ epochL l := epoch_nn l 0
    have h7 := right_len hR
    have hp := right_pos hR
    have hfl := findL_len key hp
    have hyR := ins_right (e := epochL l + 1) hR hk16 hG ⟨by omega, by omega⟩ hno hne
    have hyl := ins_len l key g _ (epochL l + 1) hfl
    rw [hsp] at ry ⊢
    simp only at ry ⊢
    refine ⟨_, rg_find l a c key (by omega) m4 r4, ?_⟩
    generalize hff : findL key l 0 0 = f at *
    generalize hY : insS l key g f (epochL l + 1) = Y at *
    refine ⟨_, noS, fun n5 hn5 => (rg_merge Y ay cy (f : Int) ⟨by omega, by omega⟩ (by omega) _ (ry.sz hn5)).monoW fun v5 m5 g5 ⟨az, cz, hv5, rz⟩ => ⟨_, _, _, _, hv5, ?_⟩⟩
    have r5 := (r4.sz hn5).agree g5
    have ry5 := (ry.sz hn5).agree g5
    have hEy := rg_epoch Y ay cy (by omega) (row_h0 ry5) m5 ry5
    have hEyl := epoch_le hyR
    refine ifB_intro (fun h3 => ?_) (fun h3 => ?_)
    · obtain ⟨-, hb⟩ := merge_bad (l := Y) (i := (f : Int)) (by simpa using h3)
      obtain ⟨hb1, hb2⟩ := hb ⟨hyR, by omega, by simp; omega⟩
      rw [hb1]
      exact ifB_true ⟨_, hEy, ⟨by
        have : epochL Y = 4611686018427387904 := by omega
        rw [this]; rfl⟩⟩
    · obtain ⟨-, -, -, -, hmz⟩ := merge_ok (l := Y) (i := (f : Int)) (by simpa using h3)
      simp only [Int.toNat_natCast] at hmz
      rw [hmz] at rz ⊢
      simp only at rz ⊢
      obtain ⟨z1, z2⟩ := del_ins (key := key) (g := g) (e := epochL l + 1) (e2 := epochL Y + 1) (hff ▸ hfl : f < l.length)
      rw [hY] at z1 z2
      have q : (((delS Y f (epochL Y + 1)).length : Int) != (l.length : Int)) = false := by rw [z1]; simp
      rw [q]
      refine ifB_false ⟨⟨⟨0, m5, delS Y f (epochL Y + 1), az, cz⟩, ⟨⟨Nat.zero_le _, z1, z2⟩, rz, r5⟩, rfl, by simp⟩, ?_⟩
      rintro ⟨k, mk, z, azk, czk⟩ ⟨⟨hk, hzl, hzz⟩, hrz, hrl⟩
      simp only at hk hzl hzz hrz hrl ⊢
      refine ifB_intro (fun h6 => ?_) (fun h6 => ⟨by trivial⟩)
      have hlt : k < z.length := by simpa using h6
      have hltl : k < l.length := by omega
      obtain ⟨bz, oz, rfl, hcz⟩ := hrz.cells (by rw [pl_len]; omega)
      obtain ⟨bl, ol, rfl, hcl⟩ := hrl.cells (by rw [pl_len]; omega)
      obtain ⟨p1, p2⟩ := hzz k _ _ (List.getElem?_eq_getElem hlt) (List.getElem?_eq_getElem hltl)
      refine ⟨by trivial, bz, oz, rfl, by omega, _, by simpa using pl_grc hcz hlt, bl, ol, rfl, by omega, _, by simpa using pl_grc hcl hltl, ?_⟩
      have q1 : (z[k].gr != l[k].gr) = false := by rw [p1]; simp
      rw [q1]
      refine ifB_false ⟨bz, oz, rfl, by omega, _, by simpa using pl_frc hcz hlt, bl, ol, rfl, by omega, _, by simpa using pl_frc hcl hltl, ?_⟩
      have q2 : (!z[k].fr.toList == l[k].fr.toList) = false := by rw [p2]; simp
      rw [q2]
      exact ifB_false ⟨⟨k + 1, mk, z, _, czk⟩, ⟨⟨⟨hltl, hzl, hzz⟩, hrz, hrl⟩, rfl, by simp [wrap1 hltl (by omega)]⟩, by simp only; omega⟩

end Go.Proofs.Ytpnpebefcmgjoaa
set_option linter.unusedVariables false
set_option linter.unusedSimpArgs false
namespace Go.Proofs.Ytpnpebefcmgjoaa
open Go.Vc Go.RowKit
set_option maxRecDepth 100000

structure ToX where
  m : M

def stv (l : List (ByteArray × Pl)) : List Value := l.map fun e => .string e.1

def plv2 (l : List (ByteArray × Pl)) : List Value := l.flatMap fun e => encPl e.2

def ToldR (l : List Pl) (v : Value) (m' : M) : Prop :=
  ∃ ea ec pa pc, v = .tuple #[.slice ea l.length ec, .slice pa l.length pc, .bool true] ∧ Row m' ea (stv (endsL l)) ∧ Row m' pa (pls l)

structure ToG (b b1 b2 b3 b4 b5 : Nat) (m' : M) (x : Nat) : Prop where
  out : x = b ∨ x = b1 ∨ x = b2 ∨ x = b3 ∨ x = b4 ∨ x = b5 ∨ (x < m'.sz ∧ ∃ o v, m'.π x o = some v)

structure ToJ (B : Nat) (l : List Pl) (a : Option Addr) (c : Nat) (b b1 b2 b3 b4 b5 : Nat) (m' : M) (pre : List (ByteArray × Pl)) (x : M) : Prop where
  out : ∃ ea ec pa pc, Gr B (ToG b b1 b2 b3 b4 b5 m') x 1 ea pre.length ec (stv pre) 3 pa pre.length pc (plv2 pre) ∧ x.π b4 0 = some (.slice ea pre.length ec) ∧ x.π b5 0 = some (.slice pa pre.length pc)
  hd : x.π b 0 = some (.slice a l.length c)
  r1 : ∃ v, x.π b1 0 = some v
  r2 : ∃ v, x.π b2 0 = some v
  r3 : ∃ v, x.π b3 0 = some v
  uf : x.uf b1 ∧ x.uf b2 ∧ x.uf b3 ∧ x.uf b4 ∧ x.uf b5
  kn : ∀ bb o v, bb < m'.sz → m'.π bb o = some v → x.π bb o = some v

theorem rg_told (l : List Pl) (a : Option Addr) (c : Nat) (hl : l.length ≤ 4398046511000) (h0 : a = none → l = []) (m : M) (h : Row m a (pls l)) :
    Vc.Spec Try.prog 10 [.slice a l.length c] m (fun v m' => ToldR l v m') := by
  refine Vc.Spec.of_vc Try.func10 (ann := fun _ => { A := ToX, inv := fun _ => True, st := fun _ => [], own := fun _ => [], m := fun x => x.m, μ := fun _ => 0, esc := [0, 1, 2, 3, 9, 10], sh := [.str, .agg [.int .i64, .str, .int .i64]], loose := true }) ?_
  refine vc_by (X :=
      true = true ∧
      ∃ (S' : Nat → Prop),
      (∀ (b : Nat), S' b → m.uf b ∧ (m.sz ≤ b ∨ False)) ∧
      ∀ (n : Nat),
      m.sz ≤ n →
      SpecW Try.prog (31 : Nat) [Value.slice a l.length c] { π := m.π, sz := n, uf := m.uf : M } S' fun (v : Value) (m' : M) =>
      ∃ (f : FuncId),
      ∃ (caps : List Value),
      v = Value.func (Fn.func f) #[] caps.toArray ∧
      ∀ (b : Nat),
      Fresh m.sz m' b →
      ∀ (b_1 : Nat),
      Fresh m.sz (m'.newBlock b [Value.slice a l.length c]) b_1 →
      ∀ (b_2 : Nat),
      Fresh m.sz ((m'.newBlock b [Value.slice a l.length c]).newBlock b_1 [Value.slice none (0 : Nat) (0 : Nat)]) b_2 →
      ∀ (b_3 : Nat),
      Fresh m.sz
      (((m'.newBlock b [Value.slice a l.length c]).newBlock b_1 [Value.slice none (0 : Nat) (0 : Nat)]).newBlock b_2
      [Value.slice none (0 : Nat) (0 : Nat)])
      b_3 →
      ∀ (b_4 : Nat),
      Fresh m.sz
      ((((m'.newBlock b [Value.slice a l.length c]).newBlock b_1 [Value.slice none (0 : Nat) (0 : Nat)]).newBlock b_2
      [Value.slice none (0 : Nat) (0 : Nat)]).newBlock
      b_3 [Value.bool false])
      b_4 →
      ∀ (b_5 : Nat),
      Fresh m.sz
      (((((m'.newBlock b [Value.slice a l.length c]).newBlock b_1 [Value.slice none (0 : Nat) (0 : Nat)]).newBlock b_2
      [Value.slice none (0 : Nat) (0 : Nat)]).newBlock
      b_3 [Value.bool false]).newBlock
      b_4 [Value.slice none (0 : Nat) (0 : Nat)])
      b_5 →
      ∃ (gf : FuncId),
      ∃ (caps_1 : List Value),
      Value.func (Fn.func f) #[] caps.toArray = Value.func (Fn.func gf) #[] caps_1.toArray ∧
      ∃ (E : Type),
      ∃ (enc : E → List Value),
      ∃ (xs : List E),
      ∃ (mi : M),
      ∃ (J : List E → ToX → Prop),
      IterC Try.prog gf caps_1 mi enc xs ∧
      (∀ (e : E),
      (enc e).length = (2 : Nat) ∧
      ∃ (s : ByteArray),
      ∃ (n : Int),
      ∃ (s_1 : ByteArray),
      ∃ (n_1 : Int),
      enc e =
      [Value.string s, Value.agg #[Value.int IntKind.i64 n, Value.string s_1, Value.int IntKind.i64 n_1]]) ∧
      (∃ (x : ToX),
      (J [] x ∧ True) ∧
      (((((m'.newBlock b [Value.slice a l.length c]).newBlock b_1 [Value.slice none (0 : Nat) (0 : Nat)]).newBlock b_2
      [Value.slice none (0 : Nat) (0 : Nat)]).newBlock
      b_3 [Value.bool false]).newBlock
      b_4 [Value.slice none (0 : Nat) (0 : Nat)]).newBlock
      b_5 [Value.slice none (0 : Nat) (0 : Nat)] =
      x.m) ∧
      (∀ (pre : List E) (x : ToX), J pre x → True → Kn mi x.m) ∧
      (∀ (pre : List E) (e : E) (x : ToX),
      pre ++ [e] <+: xs →
      J pre x →
      True →
      ∀ (s : ByteArray) (n : Int) (s_1 : ByteArray) (n_1 : Int),
      enc e =
      [Value.string s,
      Value.agg #[Value.int IntKind.i64 n, Value.string s_1, Value.int IntKind.i64 n_1]] →
      true = true ∧
      ∃ (a : Option Addr),
      ∃ (n_2 : Nat),
      ∃ (c : Nat),
      CellsAt x.m b_4 (0 : Nat) [Value.slice a n_2 c] ∧
      ∃ (a_8 : Option Addr),
      ∃ (n_3 : Nat),
      ∃ (c_1 : Nat),
      CellsAt x.m b_5 (0 : Nat) [Value.slice a_8 n_3 c_1] ∧
      (true = true ∧
      ∀ (b_6 : Nat),
      x.m.sz ≤ b_6 →
      (KeepB b_4 x.m (x.m.newBlock b_6 [Value.string s]) ∧
      KeepB b_5 x.m (x.m.newBlock b_6 [Value.string s]) ∧ True ∧ True) ∧
      (∃ (old : List Value),
      ∃ (src : List Value),
      AppPre m.sz (fun (x : Nat) => False)
      (x.m.newBlock b_6 [Value.string s]) (1 : Nat) (16 : Nat) a n_2
      c (some { block := b_6, off := (0 : Nat) : Addr }) (1 : Nat)
      old src ∧
      ∀ (a' : Option Addr) (c' : Nat) (m' : M),
      AppPost Try.prog (9 : Nat) (x.m.newBlock b_6 [Value.string s])
      (1 : Nat) a n_2 c (1 : Nat) old src a' c' m' →
      (KeepB b_5 (x.m.newBlock b_6 [Value.string s]) m' ∧
      True ∧ True) ∧
      (true = true ∧
      ∀ (b_7 : Nat),
      m'.sz ≤ b_7 →
      (KeepB b_4 m'
      (m'.newBlock b_7
      [Value.int IntKind.i64 n,
      Value.string s_1,
      Value.int IntKind.i64 n_1]) ∧
      KeepB b_5 m'
      (m'.newBlock b_7
      [Value.int IntKind.i64 n,
      Value.string s_1,
      Value.int IntKind.i64 n_1]) ∧
      True) ∧
      (∃ (old : List Value),
      ∃ (src : List Value),
      AppPre m.sz (fun (x : Nat) => False)
      (m'.newBlock b_7
      [Value.int IntKind.i64 n,
      Value.string s_1,
      Value.int IntKind.i64 n_1])
      (3 : Nat) (32 : Nat) a_8 n_3 c_1
      (some
      { block := b_7, off := (0 : Nat) : Addr })
      (1 : Nat) old src ∧
      ∀ (a'_1 : Option Addr) (c'_1 : Nat)
      (m'_1 : M),
      AppPost Try.prog (39 : Nat)
      (m'.newBlock b_7
      [Value.int IntKind.i64 n,
      Value.string s_1,
      Value.int IntKind.i64 n_1])
      (3 : Nat) a_8 n_3 c_1 (1 : Nat)
      old src a'_1 c'_1 m'_1 →
      (Wr m.sz (fun (x : Nat) => False)
      m'_1 b_4 (0 : Nat)
      #[Value.slice a'
      (n_2 + (1 : Nat))
      c'].size ∧
      (Wr m.sz
      (fun (x : Nat) => False)
      (m'_1.setCells b_4
      (0 : Nat)
      [Value.slice a'
      (n_2 + (1 : Nat))
      c'])
      b_5 (0 : Nat)
      #[Value.slice a'_1
      (n_3 + (1 : Nat))
      c'_1].size ∧
      ∃ (a : Option Addr),
      ∃ (n : Nat),
      ∃ (c : Nat),
      CellsAt
      ((m'_1.setCells
      b_4
      (0 : Nat)
      [Value.slice
      a'
      (n_2 +
      (1 :
      Nat))
      c']).setCells
      b_5 (0 : Nat)
      [Value.slice
      a'_1
      (n_3 +
      (1 : Nat))
      c'_1])
      b_4 (0 : Nat)
      [Value.slice a n
      c] ∧
      ∃ (a : Option Addr),
      ∃ (n_4 : Nat),
      ∃ (c : Nat),
      CellsAt
      ((m'_1.setCells
      b_4
      (0 :
      Nat)
      [Value.slice
      a'
      (n_2 +
      (1 :
      Nat))
      c']).setCells
      b_5
      (0 :
      Nat)
      [Value.slice
      a'_1
      (n_3 +
      (1 :
      Nat))
      c'_1])
      b
      (0 : Nat)
      [Value.slice
      a n_4
      c] ∧
      ifB
      (decide
      ((↑n :
      Int) >
      (↑n_4 :
      Int)))
      (Wr m.sz
      (fun
      (x :
      Nat) =>
      False)
      ((m'_1.setCells
      b_4
      (0 :
      Nat)
      [Value.slice
      a'
      (n_2 +
      (1 :
      Nat))
      c']).setCells
      b_5
      (0 :
      Nat)
      [Value.slice
      a'_1
      (n_3 +
      (1 :
      Nat))
      c'_1])
      b_1
      (0 :
      Nat)
      (1 :
      Nat) ∧
      Wr m.sz
      (fun
      (x :
      Nat) =>
      False)
      (((m'_1.setCells
      b_4
      (0 :
      Nat)
      [Value.slice
      a'
      (n_2 +
      (1 :
      Nat))
      c']).setCells
      b_5
      (0 :
      Nat)
      [Value.slice
      a'_1
      (n_3 +
      (1 :
      Nat))
      c'_1]).setCells
      b_1
      (0 :
      Nat)
      [Value.slice
      none
      (0 :
      Nat)
      (0 :
      Nat)])
      b_2
      (0 :
      Nat)
      (1 :
      Nat) ∧
      Wr
      m.sz
      (fun
      (x :
      Nat) =>
      False)
      ((((m'_1.setCells
      b_4
      (0 :
      Nat)
      [Value.slice
      a'
      (n_2 +
      (1 :
      Nat))
      c']).setCells
      b_5
      (0 :
      Nat)
      [Value.slice
      a'_1
      (n_3 +
      (1 :
      Nat))
      c'_1]).setCells
      b_1
      (0 :
      Nat)
      [Value.slice
      none
      (0 :
      Nat)
      (0 :
      Nat)]).setCells
      b_2
      (0 :
      Nat)
      [Value.slice
      none
      (0 :
      Nat)
      (0 :
      Nat)])
      b_3
      (0 :
      Nat)
      (1 :
      Nat) ∧
      ∃ (a
      :
      Option
      Addr),
      ∃
      (n
      :
      Nat),
      ∃
      (c
      :
      Nat),
      CellsAt
      (((((m'_1.setCells
      b_4
      (0 :
      Nat)
      [Value.slice
      a'
      (n_2 +
      (1 :
      Nat))
      c']).setCells
      b_5
      (0 :
      Nat)
      [Value.slice
      a'_1
      (n_3 +
      (1 :
      Nat))
      c'_1]).setCells
      b_1
      (0 :
      Nat)
      [Value.slice
      none
      (0 :
      Nat)
      (0 :
      Nat)]).setCells
      b_2
      (0 :
      Nat)
      [Value.slice
      none
      (0 :
      Nat)
      (0 :
      Nat)]).setCells
      b_3
      (0 :
      Nat)
      [Value.bool
      false])
      b_1
      (0 :
      Nat)
      [Value.slice
      a
      n
      c] ∧
      ∃
      (a_10
      :
      Option
      Addr),
      ∃
      (n_5
      :
      Nat),
      ∃
      (c_2
      :
      Nat),
      CellsAt
      (((((m'_1.setCells
      b_4
      (0 :
      Nat)
      [Value.slice
      a'
      (n_2 +
      (1 :
      Nat))
      c']).setCells
      b_5
      (0 :
      Nat)
      [Value.slice
      a'_1
      (n_3 +
      (1 :
      Nat))
      c'_1]).setCells
      b_1
      (0 :
      Nat)
      [Value.slice
      none
      (0 :
      Nat)
      (0 :
      Nat)]).setCells
      b_2
      (0 :
      Nat)
      [Value.slice
      none
      (0 :
      Nat)
      (0 :
      Nat)]).setCells
      b_3
      (0 :
      Nat)
      [Value.bool
      false])
      b_2
      (0 :
      Nat)
      [Value.slice
      a_10
      n_5
      c_2] ∧
      ∃
      (b
      :
      Bool),
      CellsAt
      (((((m'_1.setCells
      b_4
      (0 :
      Nat)
      [Value.slice
      a'
      (n_2 +
      (1 :
      Nat))
      c']).setCells
      b_5
      (0 :
      Nat)
      [Value.slice
      a'_1
      (n_3 +
      (1 :
      Nat))
      c'_1]).setCells
      b_1
      (0 :
      Nat)
      [Value.slice
      none
      (0 :
      Nat)
      (0 :
      Nat)]).setCells
      b_2
      (0 :
      Nat)
      [Value.slice
      none
      (0 :
      Nat)
      (0 :
      Nat)]).setCells
      b_3
      (0 :
      Nat)
      [Value.bool
      false])
      b_3
      (0 :
      Nat)
      [Value.bool
      b] ∧
      Done
      (ToldR
      l
      (Value.tuple
      #[Value.slice
      a
      n
      c,
      Value.slice
      a_10
      n_5
      c_2,
      Value.bool
      b])
      (((((m'_1.setCells
      b_4
      (0 :
      Nat)
      [Value.slice
      a'
      (n_2 +
      (1 :
      Nat))
      c']).setCells
      b_5
      (0 :
      Nat)
      [Value.slice
      a'_1
      (n_3 +
      (1 :
      Nat))
      c'_1]).setCells
      b_1
      (0 :
      Nat)
      [Value.slice
      none
      (0 :
      Nat)
      (0 :
      Nat)]).setCells
      b_2
      (0 :
      Nat)
      [Value.slice
      none
      (0 :
      Nat)
      (0 :
      Nat)]).setCells
      b_3
      (0 :
      Nat)
      [Value.bool
      false])))
      (∃ (x' :
      ToX),
      (J
      (pre ++
      [e])
      x' ∧
      True) ∧
      (m'_1.setCells
      b_4
      (0 :
      Nat)
      [Value.slice
      a'
      (n_2 +
      (1 :
      Nat))
      c']).setCells
      b_5
      (0 :
      Nat)
      [Value.slice
      a'_1
      (n_3 +
      (1 :
      Nat))
      c'_1] =
      x'.m)) ∧
      True) ∧
      True) ∧
      True) ∧
      True) ∧
      (true = true ∧
      ∀ (b_7 : Nat),
      max x.m.sz (b_6 + (1 : Nat)) ≤ b_7 →
      (KeepB b_4 (x.m.newBlock b_6 [Value.string s])
      ((x.m.newBlock b_6 [Value.string s]).newBlock b_7
      [Value.int IntKind.i64 n, Value.string s_1,
      Value.int IntKind.i64 n_1]) ∧
      KeepB b_5 (x.m.newBlock b_6 [Value.string s])
      ((x.m.newBlock b_6 [Value.string s]).newBlock b_7
      [Value.int IntKind.i64 n, Value.string s_1,
      Value.int IntKind.i64 n_1]) ∧
      True) ∧
      (∃ (old : List Value),
      ∃ (src : List Value),
      AppPre m.sz (fun (x : Nat) => False)
      ((x.m.newBlock b_6 [Value.string s]).newBlock b_7
      [Value.int IntKind.i64 n, Value.string s_1,
      Value.int IntKind.i64 n_1])
      (1 : Nat) (16 : Nat) a n_2 c
      (some { block := b_6, off := (0 : Nat) : Addr })
      (1 : Nat) old src ∧
      ∀ (a' : Option Addr) (c' : Nat) (m' : M),
      AppPost Try.prog (9 : Nat)
      ((x.m.newBlock b_6 [Value.string s]).newBlock
      b_7
      [Value.int IntKind.i64 n, Value.string s_1,
      Value.int IntKind.i64 n_1])
      (1 : Nat) a n_2 c (1 : Nat) old src a' c' m' →
      (KeepB b_5
      ((x.m.newBlock b_6
      [Value.string s]).newBlock
      b_7
      [Value.int IntKind.i64 n,
      Value.string s_1,
      Value.int IntKind.i64 n_1])
      m' ∧
      True ∧ True) ∧
      (∃ (old : List Value),
      ∃ (src : List Value),
      AppPre m.sz (fun (x : Nat) => False) m'
      (3 : Nat) (32 : Nat) a_8 n_3 c_1
      (some
      { block := b_7, off := (0 : Nat) : Addr })
      (1 : Nat) old src ∧
      ∀ (a'_1 : Option Addr) (c'_1 : Nat)
      (m'_1 : M),
      AppPost Try.prog (39 : Nat) m'
      (3 : Nat) a_8 n_3 c_1 (1 : Nat)
      old src a'_1 c'_1 m'_1 →
      (Wr m.sz (fun (x : Nat) => False)
      m'_1 b_4 (0 : Nat)
      #[Value.slice a'
      (n_2 + (1 : Nat))
      c'].size ∧
      (Wr m.sz
      (fun (x : Nat) => False)
      (m'_1.setCells b_4
      (0 : Nat)
      [Value.slice a'
      (n_2 + (1 : Nat))
      c'])
      b_5 (0 : Nat)
      #[Value.slice a'_1
      (n_3 + (1 : Nat))
      c'_1].size ∧
      ∃ (a : Option Addr),
      ∃ (n : Nat),
      ∃ (c : Nat),
      CellsAt
      ((m'_1.setCells
      b_4
      (0 : Nat)
      [Value.slice
      a'
      (n_2 +
      (1 :
      Nat))
      c']).setCells
      b_5 (0 : Nat)
      [Value.slice
      a'_1
      (n_3 +
      (1 :
      Nat))
      c'_1])
      b_4 (0 : Nat)
      [Value.slice a n
      c] ∧
      ∃ (a :
      Option Addr),
      ∃ (n_4 : Nat),
      ∃ (c : Nat),
      CellsAt
      ((m'_1.setCells
      b_4
      (0 :
      Nat)
      [Value.slice
      a'
      (n_2 +
      (1 :
      Nat))
      c']).setCells
      b_5
      (0 :
      Nat)
      [Value.slice
      a'_1
      (n_3 +
      (1 :
      Nat))
      c'_1])
      b
      (0 :
      Nat)
      [Value.slice
      a
      n_4
      c] ∧
      ifB
      (decide
      ((↑n :
      Int) >
      (↑n_4 :
      Int)))
      (Wr m.sz
      (fun
      (x :
      Nat) =>
      False)
      ((m'_1.setCells
      b_4
      (0 :
      Nat)
      [Value.slice
      a'
      (n_2 +
      (1 :
      Nat))
      c']).setCells
      b_5
      (0 :
      Nat)
      [Value.slice
      a'_1
      (n_3 +
      (1 :
      Nat))
      c'_1])
      b_1
      (0 :
      Nat)
      (1 :
      Nat) ∧
      Wr
      m.sz
      (fun
      (x :
      Nat) =>
      False)
      (((m'_1.setCells
      b_4
      (0 :
      Nat)
      [Value.slice
      a'
      (n_2 +
      (1 :
      Nat))
      c']).setCells
      b_5
      (0 :
      Nat)
      [Value.slice
      a'_1
      (n_3 +
      (1 :
      Nat))
      c'_1]).setCells
      b_1
      (0 :
      Nat)
      [Value.slice
      none
      (0 :
      Nat)
      (0 :
      Nat)])
      b_2
      (0 :
      Nat)
      (1 :
      Nat) ∧
      Wr
      m.sz
      (fun
      (x :
      Nat) =>
      False)
      ((((m'_1.setCells
      b_4
      (0 :
      Nat)
      [Value.slice
      a'
      (n_2 +
      (1 :
      Nat))
      c']).setCells
      b_5
      (0 :
      Nat)
      [Value.slice
      a'_1
      (n_3 +
      (1 :
      Nat))
      c'_1]).setCells
      b_1
      (0 :
      Nat)
      [Value.slice
      none
      (0 :
      Nat)
      (0 :
      Nat)]).setCells
      b_2
      (0 :
      Nat)
      [Value.slice
      none
      (0 :
      Nat)
      (0 :
      Nat)])
      b_3
      (0 :
      Nat)
      (1 :
      Nat) ∧
      ∃
      (a
      :
      Option
      Addr),
      ∃
      (n
      :
      Nat),
      ∃
      (c
      :
      Nat),
      CellsAt
      (((((m'_1.setCells
      b_4
      (0 :
      Nat)
      [Value.slice
      a'
      (n_2 +
      (1 :
      Nat))
      c']).setCells
      b_5
      (0 :
      Nat)
      [Value.slice
      a'_1
      (n_3 +
      (1 :
      Nat))
      c'_1]).setCells
      b_1
      (0 :
      Nat)
      [Value.slice
      none
      (0 :
      Nat)
      (0 :
      Nat)]).setCells
      b_2
      (0 :
      Nat)
      [Value.slice
      none
      (0 :
      Nat)
      (0 :
      Nat)]).setCells
      b_3
      (0 :
      Nat)
      [Value.bool
      false])
      b_1
      (0 :
      Nat)
      [Value.slice
      a
      n
      c] ∧
      ∃
      (a_11
      :
      Option
      Addr),
      ∃
      (n_5
      :
      Nat),
      ∃
      (c_2
      :
      Nat),
      CellsAt
      (((((m'_1.setCells
      b_4
      (0 :
      Nat)
      [Value.slice
      a'
      (n_2 +
      (1 :
      Nat))
      c']).setCells
      b_5
      (0 :
      Nat)
      [Value.slice
      a'_1
      (n_3 +
      (1 :
      Nat))
      c'_1]).setCells
      b_1
      (0 :
      Nat)
      [Value.slice
      none
      (0 :
      Nat)
      (0 :
      Nat)]).setCells
      b_2
      (0 :
      Nat)
      [Value.slice
      none
      (0 :
      Nat)
      (0 :
      Nat)]).setCells
      b_3
      (0 :
      Nat)
      [Value.bool
      false])
      b_2
      (0 :
      Nat)
      [Value.slice
      a_11
      n_5
      c_2] ∧
      ∃
      (b
      :
      Bool),
      CellsAt
      (((((m'_1.setCells
      b_4
      (0 :
      Nat)
      [Value.slice
      a'
      (n_2 +
      (1 :
      Nat))
      c']).setCells
      b_5
      (0 :
      Nat)
      [Value.slice
      a'_1
      (n_3 +
      (1 :
      Nat))
      c'_1]).setCells
      b_1
      (0 :
      Nat)
      [Value.slice
      none
      (0 :
      Nat)
      (0 :
      Nat)]).setCells
      b_2
      (0 :
      Nat)
      [Value.slice
      none
      (0 :
      Nat)
      (0 :
      Nat)]).setCells
      b_3
      (0 :
      Nat)
      [Value.bool
      false])
      b_3
      (0 :
      Nat)
      [Value.bool
      b] ∧
      Done
      (ToldR
      l
      (Value.tuple
      #[Value.slice
      a
      n
      c,
      Value.slice
      a_11
      n_5
      c_2,
      Value.bool
      b])
      (((((m'_1.setCells
      b_4
      (0 :
      Nat)
      [Value.slice
      a'
      (n_2 +
      (1 :
      Nat))
      c']).setCells
      b_5
      (0 :
      Nat)
      [Value.slice
      a'_1
      (n_3 +
      (1 :
      Nat))
      c'_1]).setCells
      b_1
      (0 :
      Nat)
      [Value.slice
      none
      (0 :
      Nat)
      (0 :
      Nat)]).setCells
      b_2
      (0 :
      Nat)
      [Value.slice
      none
      (0 :
      Nat)
      (0 :
      Nat)]).setCells
      b_3
      (0 :
      Nat)
      [Value.bool
      false])))
      (∃ (x' :
      ToX),
      (J
      (pre ++
      [e])
      x' ∧
      True) ∧
      (m'_1.setCells
      b_4
      (0 :
      Nat)
      [Value.slice
      a'
      (n_2 +
      (1 :
      Nat))
      c']).setCells
      b_5
      (0 :
      Nat)
      [Value.slice
      a'_1
      (n_3 +
      (1 :
      Nat))
      c'_1] =
      x'.m)) ∧
      True) ∧
      True) ∧
      True) ∧
      True) ∧
      True) ∧
      (true = true ∧
      ∀ (b_6 : Nat),
      x.m.sz ≤ b_6 →
      (KeepB b_4 x.m
      (x.m.newBlock b_6
      [Value.int IntKind.i64 n, Value.string s_1,
      Value.int IntKind.i64 n_1]) ∧
      KeepB b_5 x.m
      (x.m.newBlock b_6
      [Value.int IntKind.i64 n, Value.string s_1,
      Value.int IntKind.i64 n_1]) ∧
      True) ∧
      (true = true ∧
      ∀ (b_7 : Nat),
      max x.m.sz (b_6 + (1 : Nat)) ≤ b_7 →
      (KeepB b_4
      (x.m.newBlock b_6
      [Value.int IntKind.i64 n, Value.string s_1,
      Value.int IntKind.i64 n_1])
      ((x.m.newBlock b_6
      [Value.int IntKind.i64 n, Value.string s_1,
      Value.int IntKind.i64 n_1]).newBlock
      b_7 [Value.string s]) ∧
      KeepB b_5
      (x.m.newBlock b_6
      [Value.int IntKind.i64 n, Value.string s_1,
      Value.int IntKind.i64 n_1])
      ((x.m.newBlock b_6
      [Value.int IntKind.i64 n, Value.string s_1,
      Value.int IntKind.i64 n_1]).newBlock
      b_7 [Value.string s]) ∧
      True ∧ True) ∧
      (∃ (old : List Value),
      ∃ (src : List Value),
      AppPre m.sz (fun (x : Nat) => False)
      ((x.m.newBlock b_6
      [Value.int IntKind.i64 n, Value.string s_1,
      Value.int IntKind.i64 n_1]).newBlock
      b_7 [Value.string s])
      (1 : Nat) (16 : Nat) a n_2 c
      (some { block := b_7, off := (0 : Nat) : Addr })
      (1 : Nat) old src ∧
      ∀ (a' : Option Addr) (c' : Nat) (m' : M),
      AppPost Try.prog (9 : Nat)
      ((x.m.newBlock b_6
      [Value.int IntKind.i64 n,
      Value.string s_1,
      Value.int IntKind.i64 n_1]).newBlock
      b_7 [Value.string s])
      (1 : Nat) a n_2 c (1 : Nat) old src a' c' m' →
      (KeepB b_5
      ((x.m.newBlock b_6
      [Value.int IntKind.i64 n,
      Value.string s_1,
      Value.int IntKind.i64
      n_1]).newBlock
      b_7 [Value.string s])
      m' ∧
      True ∧ True) ∧
      (∃ (old : List Value),
      ∃ (src : List Value),
      AppPre m.sz (fun (x : Nat) => False) m'
      (3 : Nat) (32 : Nat) a_8 n_3 c_1
      (some
      { block := b_6, off := (0 : Nat) : Addr })
      (1 : Nat) old src ∧
      ∀ (a'_1 : Option Addr) (c'_1 : Nat)
      (m'_1 : M),
      AppPost Try.prog (39 : Nat) m'
      (3 : Nat) a_8 n_3 c_1 (1 : Nat)
      old src a'_1 c'_1 m'_1 →
      (Wr m.sz (fun (x : Nat) => False)
      m'_1 b_4 (0 : Nat)
      #[Value.slice a'
      (n_2 + (1 : Nat))
      c'].size ∧
      (Wr m.sz
      (fun (x : Nat) => False)
      (m'_1.setCells b_4
      (0 : Nat)
      [Value.slice a'
      (n_2 + (1 : Nat))
      c'])
      b_5 (0 : Nat)
      #[Value.slice a'_1
      (n_3 + (1 : Nat))
      c'_1].size ∧
      ∃ (a : Option Addr),
      ∃ (n : Nat),
      ∃ (c : Nat),
      CellsAt
      ((m'_1.setCells
      b_4
      (0 : Nat)
      [Value.slice
      a'
      (n_2 +
      (1 :
      Nat))
      c']).setCells
      b_5 (0 : Nat)
      [Value.slice
      a'_1
      (n_3 +
      (1 :
      Nat))
      c'_1])
      b_4 (0 : Nat)
      [Value.slice a n
      c] ∧
      ∃ (a :
      Option Addr),
      ∃ (n_4 : Nat),
      ∃ (c : Nat),
      CellsAt
      ((m'_1.setCells
      b_4
      (0 :
      Nat)
      [Value.slice
      a'
      (n_2 +
      (1 :
      Nat))
      c']).setCells
      b_5
      (0 :
      Nat)
      [Value.slice
      a'_1
      (n_3 +
      (1 :
      Nat))
      c'_1])
      b
      (0 :
      Nat)
      [Value.slice
      a
      n_4
      c] ∧
      ifB
      (decide
      ((↑n :
      Int) >
      (↑n_4 :
      Int)))
      (Wr m.sz
      (fun
      (x :
      Nat) =>
      False)
      ((m'_1.setCells
      b_4
      (0 :
      Nat)
      [Value.slice
      a'
      (n_2 +
      (1 :
      Nat))
      c']).setCells
      b_5
      (0 :
      Nat)
      [Value.slice
      a'_1
      (n_3 +
      (1 :
      Nat))
      c'_1])
      b_1
      (0 :
      Nat)
      (1 :
      Nat) ∧
      Wr
      m.sz
      (fun
      (x :
      Nat) =>
      False)
      (((m'_1.setCells
      b_4
      (0 :
      Nat)
      [Value.slice
      a'
      (n_2 +
      (1 :
      Nat))
      c']).setCells
      b_5
      (0 :
      Nat)
      [Value.slice
      a'_1
      (n_3 +
      (1 :
      Nat))
      c'_1]).setCells
      b_1
      (0 :
      Nat)
      [Value.slice
      none
      (0 :
      Nat)
      (0 :
      Nat)])
      b_2
      (0 :
      Nat)
      (1 :
      Nat) ∧
      Wr
      m.sz
      (fun
      (x :
      Nat) =>
      False)
      ((((m'_1.setCells
      b_4
      (0 :
      Nat)
      [Value.slice
      a'
      (n_2 +
      (1 :
      Nat))
      c']).setCells
      b_5
      (0 :
      Nat)
      [Value.slice
      a'_1
      (n_3 +
      (1 :
      Nat))
      c'_1]).setCells
      b_1
      (0 :
      Nat)
      [Value.slice
      none
      (0 :
      Nat)
      (0 :
      Nat)]).setCells
      b_2
      (0 :
      Nat)
      [Value.slice
      none
      (0 :
      Nat)
      (0 :
      Nat)])
      b_3
      (0 :
      Nat)
      (1 :
      Nat) ∧
      ∃
      (a
      :
      Option
      Addr),
      ∃
      (n
      :
      Nat),
      ∃
      (c
      :
      Nat),
      CellsAt
      (((((m'_1.setCells
      b_4
      (0 :
      Nat)
      [Value.slice
      a'
      (n_2 +
      (1 :
      Nat))
      c']).setCells
      b_5
      (0 :
      Nat)
      [Value.slice
      a'_1
      (n_3 +
      (1 :
      Nat))
      c'_1]).setCells
      b_1
      (0 :
      Nat)
      [Value.slice
      none
      (0 :
      Nat)
      (0 :
      Nat)]).setCells
      b_2
      (0 :
      Nat)
      [Value.slice
      none
      (0 :
      Nat)
      (0 :
      Nat)]).setCells
      b_3
      (0 :
      Nat)
      [Value.bool
      false])
      b_1
      (0 :
      Nat)
      [Value.slice
      a
      n
      c] ∧
      ∃
      (a_11
      :
      Option
      Addr),
      ∃
      (n_5
      :
      Nat),
      ∃
      (c_2
      :
      Nat),
      CellsAt
      (((((m'_1.setCells
      b_4
      (0 :
      Nat)
      [Value.slice
      a'
      (n_2 +
      (1 :
      Nat))
      c']).setCells
      b_5
      (0 :
      Nat)
      [Value.slice
      a'_1
      (n_3 +
      (1 :
      Nat))
      c'_1]).setCells
      b_1
      (0 :
      Nat)
      [Value.slice
      none
      (0 :
      Nat)
      (0 :
      Nat)]).setCells
      b_2
      (0 :
      Nat)
      [Value.slice
      none
      (0 :
      Nat)
      (0 :
      Nat)]).setCells
      b_3
      (0 :
      Nat)
      [Value.bool
      false])
      b_2
      (0 :
      Nat)
      [Value.slice
      a_11
      n_5
      c_2] ∧
      ∃
      (b
      :
      Bool),
      CellsAt
      (((((m'_1.setCells
      b_4
      (0 :
      Nat)
      [Value.slice
      a'
      (n_2 +
      (1 :
      Nat))
      c']).setCells
      b_5
      (0 :
      Nat)
      [Value.slice
      a'_1
      (n_3 +
      (1 :
      Nat))
      c'_1]).setCells
      b_1
      (0 :
      Nat)
      [Value.slice
      none
      (0 :
      Nat)
      (0 :
      Nat)]).setCells
      b_2
      (0 :
      Nat)
      [Value.slice
      none
      (0 :
      Nat)
      (0 :
      Nat)]).setCells
      b_3
      (0 :
      Nat)
      [Value.bool
      false])
      b_3
      (0 :
      Nat)
      [Value.bool
      b] ∧
      Done
      (ToldR
      l
      (Value.tuple
      #[Value.slice
      a
      n
      c,
      Value.slice
      a_11
      n_5
      c_2,
      Value.bool
      b])
      (((((m'_1.setCells
      b_4
      (0 :
      Nat)
      [Value.slice
      a'
      (n_2 +
      (1 :
      Nat))
      c']).setCells
      b_5
      (0 :
      Nat)
      [Value.slice
      a'_1
      (n_3 +
      (1 :
      Nat))
      c'_1]).setCells
      b_1
      (0 :
      Nat)
      [Value.slice
      none
      (0 :
      Nat)
      (0 :
      Nat)]).setCells
      b_2
      (0 :
      Nat)
      [Value.slice
      none
      (0 :
      Nat)
      (0 :
      Nat)]).setCells
      b_3
      (0 :
      Nat)
      [Value.bool
      false])))
      (∃ (x' :
      ToX),
      (J
      (pre ++
      [e])
      x' ∧
      True) ∧
      (m'_1.setCells
      b_4
      (0 :
      Nat)
      [Value.slice
      a'
      (n_2 +
      (1 :
      Nat))
      c']).setCells
      b_5
      (0 :
      Nat)
      [Value.slice
      a'_1
      (n_3 +
      (1 :
      Nat))
      c'_1] =
      x'.m)) ∧
      True) ∧
      True) ∧
      True) ∧
      True) ∧
      True) ∧
      True) ∧
      ∀ (x : ToX),
      J xs x →
      True →
      true = true ∧
      ∃ (a : Option Addr),
      ∃ (n : Nat),
      ∃ (c : Nat),
      CellsAt x.m b_4 (0 : Nat) [Value.slice a n c] ∧
      ∃ (a_8 : Option Addr),
      ∃ (n_1 : Nat),
      ∃ (c_1 : Nat),
      CellsAt x.m b_5 (0 : Nat) [Value.slice a_8 n_1 c_1] ∧
      (Wr m.sz (fun (x : Nat) => False) x.m b_1 (0 : Nat) #[Value.slice a n c].size ∧
      (KeepB b_5 x.m (x.m.setCells b_1 (0 : Nat) [Value.slice a n c]) ∧ True) ∧
      (Wr m.sz (fun (x : Nat) => False) (x.m.setCells b_1 (0 : Nat) [Value.slice a n c])
      b_2 (0 : Nat) #[Value.slice a_8 n_1 c_1].size ∧
      (Wr m.sz (fun (x : Nat) => False)
      ((x.m.setCells b_1 (0 : Nat) [Value.slice a n c]).setCells b_2 (0 : Nat)
      [Value.slice a_8 n_1 c_1])
      b_3 (0 : Nat) (1 : Nat) ∧
      ∃ (a_9 : Option Addr),
      ∃ (n_2 : Nat),
      ∃ (c_2 : Nat),
      CellsAt
      (((x.m.setCells b_1 (0 : Nat) [Value.slice a n c]).setCells b_2
      (0 : Nat) [Value.slice a_8 n_1 c_1]).setCells
      b_3 (0 : Nat) [Value.bool true])
      b_1 (0 : Nat) [Value.slice a_9 n_2 c_2] ∧
      ∃ (a_10 : Option Addr),
      ∃ (n_3 : Nat),
      ∃ (c_3 : Nat),
      CellsAt
      (((x.m.setCells b_1 (0 : Nat)
      [Value.slice a n c]).setCells
      b_2 (0 : Nat) [Value.slice a_8 n_1 c_1]).setCells
      b_3 (0 : Nat) [Value.bool true])
      b_2 (0 : Nat) [Value.slice a_10 n_3 c_3] ∧
      ∃ (b : Bool),
      CellsAt
      (((x.m.setCells b_1 (0 : Nat)
      [Value.slice a n c]).setCells
      b_2 (0 : Nat)
      [Value.slice a_8 n_1 c_1]).setCells
      b_3 (0 : Nat) [Value.bool true])
      b_3 (0 : Nat) [Value.bool b] ∧
      Done
      (ToldR l
      (Value.tuple
      #[Value.slice a_9 n_2 c_2,
      Value.slice a_10 n_3 c_3, Value.bool b])
      (((x.m.setCells b_1 (0 : Nat)
      [Value.slice a n c]).setCells
      b_2 (0 : Nat)
      [Value.slice a_8 n_1 c_1]).setCells
      b_3 (0 : Nat) [Value.bool true]))) ∧
      True) ∧
      True) ∧
      True) (by kernel_rfl) ?_
  refine ⟨rfl, _, noS, fun n hn => (rg_all l a c hl h0 _ (h.sz hn)).monoW fun v m' hag ⟨kb, a', c', hv, hkb, hk0, hr⟩ => ⟨37, [.pointer (some ⟨kb, 0, none⟩)], hv, fun b f0 b1 f1 b2 f2 b3 f3 b4 f4 b5 f5 => ⟨37, [.pointer (some ⟨kb, 0, none⟩)], rfl, ByteArray × Pl, fun e => [.string e.1, plv e.2], endsL l, m'.cut,
    fun pre x => ToJ m.sz l a c b b1 b2 b3 b4 b5 m' pre x.m, all_it l (by omega) (by simp only [M.cut, if_pos hkb.2]; exact hk0) hr.cut, fun e => ⟨rfl, _, _, _, _, rfl⟩, ⟨⟨(((((m'.newBlock b [.slice a l.length c]).newBlock b1 [.slice none 0 0]).newBlock b2 [.slice none 0 0]).newBlock b3 [.bool false]).newBlock b4 [.slice none 0 0]).newBlock b5 [.slice none 0 0]⟩, ⟨?_, trivial⟩, rfl⟩, ?_, ?_, ?_⟩⟩⟩
  all_goals (
    have n01 : b ≠ b1 := fresh_ne2 f1 nb_same
    have n02 : b ≠ b2 := fresh_ne2 f2 (by rw [nb_ne n01, nb_same]; rfl)
    have n12 : b1 ≠ b2 := fresh_ne2 f2 nb_same
    have n03 : b ≠ b3 := fresh_ne2 f3 (by rw [nb_ne n02, nb_ne n01, nb_same]; rfl)
    have n13 : b1 ≠ b3 := fresh_ne2 f3 (by rw [nb_ne n12, nb_same]; rfl)
    have n23 : b2 ≠ b3 := fresh_ne2 f3 nb_same
    have n04 : b ≠ b4 := fresh_ne2 f4 (by rw [nb_ne n03, nb_ne n02, nb_ne n01, nb_same]; rfl)
    have n14 : b1 ≠ b4 := fresh_ne2 f4 (by rw [nb_ne n13, nb_ne n12, nb_same]; rfl)
    have n24 : b2 ≠ b4 := fresh_ne2 f4 (by rw [nb_ne n23, nb_same]; rfl)
    have n34 : b3 ≠ b4 := fresh_ne2 f4 nb_same
    have n05 : b ≠ b5 := fresh_ne2 f5 (by rw [nb_ne n04, nb_ne n03, nb_ne n02, nb_ne n01, nb_same]; rfl)
    have n15 : b1 ≠ b5 := fresh_ne2 f5 (by rw [nb_ne n14, nb_ne n13, nb_ne n12, nb_same]; rfl)
    have n25 : b2 ≠ b5 := fresh_ne2 f5 (by rw [nb_ne n24, nb_ne n23, nb_same]; rfl)
    have n35 : b3 ≠ b5 := fresh_ne2 f5 (by rw [nb_ne n34, nb_same]; rfl)
    have n45 : b4 ≠ b5 := fresh_ne2 f5 nb_same
    have k0 : ∀ o, m'.π b o = none := f0.cells
    have k1 : ∀ o, m'.π b1 o = none := fun o => by have := f1.cells o; rwa [nb_ne n01.symm] at this
    have k2 : ∀ o, m'.π b2 o = none := fun o => by have := f2.cells o; rwa [nb_ne n12.symm, nb_ne n02.symm] at this
    have k3 : ∀ o, m'.π b3 o = none := fun o => by have := f3.cells o; rwa [nb_ne n23.symm, nb_ne n13.symm, nb_ne n03.symm] at this
    have k4 : ∀ o, m'.π b4 o = none := fun o => by have := f4.cells o; rwa [nb_ne n34.symm, nb_ne n24.symm, nb_ne n14.symm, nb_ne n04.symm] at this
    have k5 : ∀ o, m'.π b5 o = none := fun o => by have := f5.cells o; rwa [nb_ne n45.symm, nb_ne n35.symm, nb_ne n25.symm, nb_ne n15.symm, nb_ne n05.symm] at this
    have hsz : m.sz ≤ m'.sz := Nat.le_trans hn hag.2.2)
  · dsimp only
    refine ⟨⟨none, 0, none, 0, ⟨Two.nil, fun _ _ e => (by cases e), fun _ _ e => (by cases e), fun x hx => ?_, by simp only [newBlock_sz]; omega⟩, ?_, ?_⟩, ?_, ⟨.slice none 0 0, ?_⟩, ⟨.slice none 0 0, ?_⟩, ⟨.bool false, ?_⟩, ?_, fun bb o v hlt hv => ?_⟩
    · simp only [newBlock_sz]
      rcases hx.out with e | e | e | e | e | e | ⟨e, -⟩ <;> omega
    · rw [nb_ne n45, nb_same]; rfl
    · rw [nb_same]; rfl
    · rw [nb_ne n05, nb_ne n04, nb_ne n03, nb_ne n02, nb_ne n01, nb_same]; rfl
    · rw [nb_ne n15, nb_ne n14, nb_ne n13, nb_ne n12, nb_same]; rfl
    · rw [nb_ne n25, nb_ne n24, nb_ne n23, nb_same]; rfl
    · rw [nb_ne n35, nb_ne n34, nb_same]; rfl
    · simp [M.newBlock]
    · have e0 : bb ≠ b := fun e => by subst e; rw [k0] at hv; cases hv
      have e1 : bb ≠ b1 := fun e => by subst e; rw [k1] at hv; cases hv
      have e2 : bb ≠ b2 := fun e => by subst e; rw [k2] at hv; cases hv
      have e3 : bb ≠ b3 := fun e => by subst e; rw [k3] at hv; cases hv
      have e4 : bb ≠ b4 := fun e => by subst e; rw [k4] at hv; cases hv
      have e5 : bb ≠ b5 := fun e => by subst e; rw [k5] at hv; cases hv
      rw [nb_ne e5, nb_ne e4, nb_ne e3, nb_ne e2, nb_ne e1, nb_ne e0]
      exact hv
  · rintro pre x hj - bb o v hv
    simp only [M.cut] at hv
    split at hv
    · rename_i hlt; exact hj.kn bb o v hlt hv
    · cases hv
  · rintro pre e x hpre ⟨⟨ea, ec, pa, pc, hG, h4, h5⟩, hd, ⟨v1, h1⟩, ⟨v2, h2⟩, ⟨v3, h3⟩, ⟨u1, u2, u3, u4, u5⟩, kn⟩ - s nn s1 n1 he
    have hlen : pre.length + 1 ≤ l.length := by
      have := hpre.length_le
      simpa [endsL] using this
    obtain ⟨xm⟩ := x
    simp only at hG h4 h5 hd h1 h2 h3 u1 u2 u3 u4 u5 kn ⊢
    simp only [List.cons.injEq, Value.string.injEq, Value.agg.injEq, Array.mk.injEq, Value.int.injEq, true_and, and_true] at he
    obtain ⟨he1, he2, he3, he4⟩ := he
    have hev : encPl e.2 = [I nn, .string s1, I n1] := by simp [encPl, he2, he3, he4]
    have gb : ToG b b1 b2 b3 b4 b5 m' b := ⟨.inl rfl⟩
    have gb1 : ToG b b1 b2 b3 b4 b5 m' b1 := ⟨.inr (.inl rfl)⟩
    have gb2 : ToG b b1 b2 b3 b4 b5 m' b2 := ⟨.inr (.inr (.inl rfl))⟩
    have gb3 : ToG b b1 b2 b3 b4 b5 m' b3 := ⟨.inr (.inr (.inr (.inl rfl)))⟩
    have gb4 : ToG b b1 b2 b3 b4 b5 m' b4 := ⟨.inr (.inr (.inr (.inr (.inl rfl))))⟩
    have gb5 : ToG b b1 b2 b3 b4 b5 m' b5 := ⟨.inr (.inr (.inr (.inr (.inr (.inl rfl)))))⟩
    have tl : ∀ (m2 : M) (x1 : Option Addr) (y1 : Nat) (x2 : Option Addr) (y2 : Nat), Gr m.sz (ToG b b1 b2 b3 b4 b5 m') m2 1 x1 (pre.length + 1) y1 (stv pre ++ [.string s]) 3 x2 (pre.length + 1) y2 (plv2 pre ++ [I nn, .string s1, I n1]) → Keep (ToG b b1 b2 b3 b4 b5 m') xm m2 →
        Wr m.sz (fun _ => False) m2 b4 0 1 ∧ Wr m.sz (fun _ => False) (m2.setCells b4 0 [.slice x1 (pre.length + 1) y1]) b5 0 1 ∧ ((m2.setCells b4 0 [.slice x1 (pre.length + 1) y1]).setCells b5 0 [.slice x2 (pre.length + 1) y2]).π b4 0 = some (.slice x1 (pre.length + 1) y1) ∧
          ((m2.setCells b4 0 [.slice x1 (pre.length + 1) y1]).setCells b5 0 [.slice x2 (pre.length + 1) y2]).π b 0 = some (.slice a l.length c) ∧
          ToJ m.sz l a c b b1 b2 b3 b4 b5 m' (pre ++ [e]) ((m2.setCells b4 0 [.slice x1 (pre.length + 1) y1]).setCells b5 0 [.slice x2 (pre.length + 1) y2]) := fun m2 x1 y1 x2 y2 hG2 hK => by
      have p4 : m2.π b4 0 = _ := (congrFun (hK.π b4 gb4) 0).trans h4
      have p5 : m2.π b5 0 = _ := (congrFun (hK.π b5 gb5) 0).trans h5
      refine ⟨wr1 f4.lo (hK.uf _ gb4 u4) p4, wr1 f5.lo (hK.uf _ gb5 u5) (by rw [sc_ne n45.symm]; exact p5), by rw [sc_ne n45, sc_same], ?_, ⟨⟨x1, y1, x2, y2, ?_, by rw [sc_ne n45, sc_same]; simp, by rw [sc_same]; simp⟩, ?_, ⟨v1, ?_⟩, ⟨v2, ?_⟩, ⟨v3, ?_⟩, ⟨hK.uf _ gb1 u1, hK.uf _ gb2 u2, hK.uf _ gb3 u3, hK.uf _ gb4 u4, hK.uf _ gb5 u5⟩, fun bb o v hlt hv => ?_⟩⟩
      · rw [sc_ne n05, sc_ne n04, hK.π b gb]; exact hd
      · have := (hG2.set (o := 0) (v := .slice x1 (pre.length + 1) y1) gb4).set (o := 0) (v := .slice x2 (pre.length + 1) y2) gb5
        simpa [stv, plv2, hev, he1] using this
      · rw [sc_ne n05, sc_ne n04, hK.π b gb]; exact hd
      · rw [sc_ne n15, sc_ne n14, hK.π b1 gb1]; exact h1
      · rw [sc_ne n25, sc_ne n24, hK.π b2 gb2]; exact h2
      · rw [sc_ne n35, sc_ne n34, hK.π b3 gb3]; exact h3
      · have e4 : bb ≠ b4 := fun e => by subst e; rw [k4] at hv; cases hv
        have e5 : bb ≠ b5 := fun e => by subst e; rw [k5] at hv; cases hv
        rw [sc_ne e5, sc_ne e4, hK.π bb ⟨.inr (.inr (.inr (.inr (.inr (.inr ⟨hlt, o, v, hv⟩)))))⟩]
        exact kn bb o v hlt hv
    have dec : decide (((pre.length + 1 : Nat) : Int) > (l.length : Int)) = false := by simp; omega
    have one1 : ∀ k, (zeroRow Try.prog 9 k).length = k * 1 := zrLen (by kernel_rfl)
    refine ⟨by trivial, ea, pre.length, ec, cell1 h4, pa, pre.length, pc, cell1 h5, ⟨by trivial, fun d6 hd6 => ?_⟩, ?_⟩
    · obtain ⟨g6, q6⟩ := hG.new (ds := [.string s]) hd6
      refine ⟨⟨q6.blk gb4, q6.blk gb5, trivial, trivial⟩, ?_, ?_⟩
      · obtain ⟨p1, p2⟩ := g6.app1 (P := Try.prog) (e := 9) (bytes := 16) (aw := some ⟨d6, 0, none⟩) (src := [.string s]) Row.new rfl rfl (by omega) one1
        refine ⟨_, _, p1, fun x1 y1 m1 hp => ?_⟩
        obtain ⟨g7, q7, -⟩ := p2 x1 y1 m1 hp
        refine ⟨⟨q7.blk (.inl gb5), trivial, trivial⟩, ⟨by trivial, fun d7 hd7 => ?_⟩, trivial⟩
        obtain ⟨g8, q8⟩ := g7.new (ds := [I nn, .string s1, I n1]) hd7
        refine ⟨⟨q8.blk (.inl gb4), q8.blk (.inl gb5), trivial⟩, ?_, trivial⟩
        obtain ⟨p3, p4⟩ := g8.symm.app1 (P := Try.prog) (e := 39) (bytes := 32) (aw := some ⟨d7, 0, none⟩) (src := [I nn, .string s1, I n1]) Row.new rfl rfl (by omega) pl_zr
        refine ⟨_, _, p3, fun x2 y2 m2 hp2 => ?_⟩
        obtain ⟨g9, q9, -⟩ := p4 x2 y2 m2 hp2
        obtain ⟨W4, W5, C4, C0, J'⟩ := tl m2 x1 y1 x2 y2 (g9.symm.weak fun z hz => .inl (.inl hz)) (((q6.trans (q7.weak fun z hz => .inl hz)).trans (q8.weak fun z hz => .inl hz)).trans (q9.weak fun z hz => .inl (.inl hz)))
        refine ⟨⟨W4, ⟨W5, _, _, _, cell1 C4, _, _, _, cell1 C0, ?_⟩, trivial⟩, trivial⟩
        rw [dec]
        exact ifB_false ⟨⟨_⟩, ⟨J', trivial⟩, rfl⟩
      · refine ⟨⟨by trivial, fun d7 hd7 => ?_⟩, trivial⟩
        obtain ⟨g7, q7⟩ := g6.new (ds := [I nn, .string s1, I n1]) hd7
        refine ⟨⟨q7.blk (.inl gb4), q7.blk (.inl gb5), trivial⟩, ?_, trivial⟩
        obtain ⟨p1, p2⟩ := g7.app1 (P := Try.prog) (e := 9) (bytes := 16) (aw := some ⟨d6, 0, none⟩) (src := [.string s]) (Row.new.newBlock hd7) rfl rfl (by omega) one1
        refine ⟨_, _, p1, fun x1 y1 m1 hp => ?_⟩
        obtain ⟨g8, q8, -⟩ := p2 x1 y1 m1 hp
        have r7 : Row m1 (some ⟨d7, 0, none⟩) [I nn, .string s1, I n1] := Row.new.of q8.sz fun b' o e _ => by cases e; exact q8.π d7 (.inr rfl)
        refine ⟨⟨q8.blk (.inl (.inl gb5)), trivial, trivial⟩, ?_, trivial⟩
        obtain ⟨p3, p4⟩ := g8.symm.app1 (P := Try.prog) (e := 39) (bytes := 32) (aw := some ⟨d7, 0, none⟩) (src := [I nn, .string s1, I n1]) r7 rfl rfl (by omega) pl_zr
        refine ⟨_, _, p3, fun x2 y2 m2 hp2 => ?_⟩
        obtain ⟨g9, q9, -⟩ := p4 x2 y2 m2 hp2
        obtain ⟨W4, W5, C4, C0, J'⟩ := tl m2 x1 y1 x2 y2 (g9.symm.weak fun z hz => .inl (.inl hz)) (((q6.trans (q7.weak fun z hz => .inl hz)).trans (q8.weak fun z hz => .inl (.inl hz))).trans (q9.weak fun z hz => .inl (.inl hz)))
        refine ⟨⟨W4, ⟨W5, _, _, _, cell1 C4, _, _, _, cell1 C0, ?_⟩, trivial⟩, trivial⟩
        rw [dec]
        exact ifB_false ⟨⟨_⟩, ⟨J', trivial⟩, rfl⟩
    · refine ⟨⟨by trivial, fun d7 hd7 => ?_⟩, trivial⟩
      obtain ⟨g6, q6⟩ := hG.new (ds := [I nn, .string s1, I n1]) hd7
      refine ⟨⟨q6.blk gb4, q6.blk gb5, trivial⟩, ⟨by trivial, fun d6 hd6 => ?_⟩, trivial⟩
      obtain ⟨g7, q7⟩ := g6.new (ds := [.string s]) hd6
      refine ⟨⟨q7.blk (.inl gb4), q7.blk (.inl gb5), trivial, trivial⟩, ?_, trivial⟩
      obtain ⟨p1, p2⟩ := g7.app1 (P := Try.prog) (e := 9) (bytes := 16) (aw := some ⟨d6, 0, none⟩) (src := [.string s]) Row.new rfl rfl (by omega) one1
      refine ⟨_, _, p1, fun x1 y1 m1 hp => ?_⟩
      obtain ⟨g8, q8, -⟩ := p2 x1 y1 m1 hp
      have r7 : Row m1 (some ⟨d7, 0, none⟩) [I nn, .string s1, I n1] := (Row.new.newBlock hd6).of q8.sz fun b' o e _ => by cases e; exact q8.π d7 (.inl (.inr rfl))
      refine ⟨⟨q8.blk (.inl (.inl gb5)), trivial, trivial⟩, ?_, trivial⟩
      obtain ⟨p3, p4⟩ := g8.symm.app1 (P := Try.prog) (e := 39) (bytes := 32) (aw := some ⟨d7, 0, none⟩) (src := [I nn, .string s1, I n1]) r7 rfl rfl (by omega) pl_zr
      refine ⟨_, _, p3, fun x2 y2 m2 hp2 => ?_⟩
      obtain ⟨g9, q9, -⟩ := p4 x2 y2 m2 hp2
      obtain ⟨W4, W5, C4, C0, J'⟩ := tl m2 x1 y1 x2 y2 (g9.symm.weak fun z hz => .inl (.inl hz)) (((q6.trans (q7.weak fun z hz => .inl hz)).trans (q8.weak fun z hz => .inl (.inl hz))).trans (q9.weak fun z hz => .inl (.inl hz)))
      refine ⟨⟨W4, ⟨W5, _, _, _, cell1 C4, _, _, _, cell1 C0, ?_⟩, trivial⟩, trivial⟩
      rw [dec]
      exact ifB_false ⟨⟨_⟩, ⟨J', trivial⟩, rfl⟩
  · rintro x ⟨⟨ea, ec, pa, pc, hG, h4, h5⟩, hd, ⟨v1, h1⟩, ⟨v2, h2⟩, ⟨v3, h3⟩, ⟨u1, u2, u3, u4, u5⟩, kn⟩ -
    have hlen : (endsL l).length = l.length := by simp [endsL]
    rw [hlen] at hG h4 h5
    refine ⟨by trivial, ea, l.length, ec, cell1 h4, pa, l.length, pc, cell1 h5, ⟨wr1 f1.lo u1 h1, ⟨⟨fun o v hv => by rw [sc_ne n15.symm]; exact hv, Nat.le_refl _⟩, trivial⟩, ⟨wr1 f2.lo u2 (by rw [sc_ne n12.symm]; exact h2), ⟨wr1 f3.lo u3 (by rw [sc_ne n23.symm, sc_ne n13.symm]; exact h3), ea, l.length, ec, cell1 (by rw [sc_ne n13, sc_ne n12, sc_same]), pa, l.length, pc, cell1 (by rw [sc_ne n23, sc_same]), true, cell1 (by rw [sc_same]), ⟨?_⟩⟩, trivial⟩, trivial⟩, ?_⟩
    · have gb1 : ToG b b1 b2 b3 b4 b5 m' b1 := ⟨.inr (.inl rfl)⟩
      have gb2 : ToG b b1 b2 b3 b4 b5 m' b2 := ⟨.inr (.inr (.inl rfl))⟩
      have gb3 : ToG b b1 b2 b3 b4 b5 m' b3 := ⟨.inr (.inr (.inr (.inl rfl)))⟩
      have hs := ((hG.set (o := 0) (v := .slice ea l.length ec) gb1).set (o := 0) (v := .slice pa l.length pc) gb2).set (o := 0) (v := .bool true) gb3
      have e2 : plv2 (endsL l) = pls l := by
        have := congrArg (List.flatMap encPl) (ends_snd l)
        rw [List.flatMap_map] at this
        exact this
      refine ⟨ea, ec, pa, pc, rfl, hs.two.o1.row, ?_⟩
      rw [← e2]
      exact hs.two.o2.row
    · trivial

end Go.Proofs.Ytpnpebefcmgjoaa
set_option linter.unusedVariables false
set_option linter.unusedSimpArgs false
namespace Go.Proofs.Ytpnpebefcmgjoaa
open Go.Vc Go.RowKit
set_option maxRecDepth 100000

structure LkX where
  k : Nat
  m : M
  ea : Option Addr
  ec : Nat

theorem stv_len (l : List Pl) : (stv (endsL l)).length = l.length := by simp [stv, endsL]

theorem stv_at {m : M} {b o k : Nat} {l : List Pl} (h : CellsAt m b o (stv (endsL l))) (hk : k < l.length) : CellsAt m b (o + k * 1) [.string (endP l k)] :=
  ⟨fun j hj => by
    have hj : j = 0 := by simpa using hj
    subst hj
    have := h.out k (by rw [stv_len]; exact hk)
    simpa [stv, endsL, hk] using this⟩

theorem rangeslooks (l : List Pl) (a : Option Addr) (c : Nat) (key : ByteArray) (g i : Int) (lo hi : ByteArray) (hi64 : In64 i) (hl : l.length ≤ 4398046511000) (m : M) (h : Row m a (pls l)) :
    QSpec Try.prog 3 [.slice a l.length c, .string key, I g, I i, .string lo, .string hi] m (.bool true) := by
  refine QSpec.of_vc Try.func3 (ann := fun n _ => { A := LkX, inv := fun x => x.k ≤ l.length ∧ Row x.m x.ea (stv (endsL l)) ∧ Row x.m a (pls l), st := fun x => [(21, .val (I x.k)), (14, .val (.slice x.ea l.length x.ec)), (0, .val (.slice a l.length c))], own := fun _ => [], m := fun x => x.m, μ := fun x => l.length - x.k }) fun n hn => ?_
  refine vc_by (X :=
      true = true ∧
      ∃ (S' : Nat → Prop),
      (∀ (b : Nat), S' b → m.uf b ∧ (n ≤ b ∨ False)) ∧
      ∀ (n_1 : Nat),
      n ≤ n_1 →
      SpecW Try.prog (9 : Nat) [Value.slice a l.length c] { π := m.π, sz := n_1, uf := m.uf : M } S' fun (v : Value) (m' : M) =>
      ∃ (a_2 : Option Addr),
      ∃ (n_2 : Nat),
      ∃ (c_1 : Nat),
      v = Value.slice a_2 n_2 c_1 ∧
      ∃ (S' : Nat → Prop),
      (∀ (b : Nat), S' b → m'.uf b ∧ (n ≤ b ∨ False)) ∧
      ∀ (n : Nat),
      m'.sz ≤ n →
      SpecW Try.prog (10 : Nat) [Value.slice a_2 n_2 c_1] { π := m'.π, sz := n, uf := m'.uf : M } S' fun (v : Value) (m' : M) =>
      ∃ (a_4 : Option Addr),
      ∃ (n : Nat),
      ∃ (c_2 : Nat),
      ∃ (a_5 : Option Addr),
      ∃ (n_3 : Nat),
      ∃ (c_3 : Nat),
      ∃ (b : Bool),
      v = Value.tuple #[Value.slice a_4 n c_2, Value.slice a_5 n_3 c_3, Value.bool b] ∧
      ∃ (n_4 : Int),
      ∃ (b_1 : Bool),
      QSpec Try.prog (11 : Nat) [Value.slice a_2 n_2 c_1, Value.int IntKind.i64 g] m'
      (Value.tuple #[Value.int IntKind.i64 n_4, Value.bool b_1]) ∧
      ∃ (b_2 : Bool),
      QSpec Try.prog (12 : Nat) [] m' (Value.bool b_2) ∧
      ifB (!b_2) (Done (Value.bool false = Value.bool true))
      (∃ (b_3 : Bool),
      QSpec Try.prog (13 : Nat) [Value.string lo, Value.string hi, Value.string key] m' (Value.bool b_3) ∧
      ∃ (b_4 : Bool),
      QSpec Try.prog (14 : Nat) [Value.string lo, Value.string hi, Value.string key] m' (Value.bool b_4) ∧
      ifB (!b_3 == b_4) (Done (Value.bool false = Value.bool true))
      (∃ (b_5 : Bool),
      QSpec Try.prog (15 : Nat) [Value.slice a_2 n_2 c_1, Value.slice a l.length c] m' (Value.bool b_5) ∧
      ifB (!b_5) (Done (Value.bool false = Value.bool true))
      (∃ (n_5 : Int),
      QSpec Try.prog (16 : Nat) [Value.slice a_2 n_2 c_1, Value.string key] m' (Value.int IntKind.i64 n_5) ∧
      ∃ (b_6 : Bool),
      QSpec Try.prog (17 : Nat) [Value.slice a l.length c] m' (Value.bool b_6) ∧
      ifB (!b_6)
      (∃ (s : ByteArray),
      QSpec Try.prog (18 : Nat) [Value.slice a_2 n_2 c_1, Value.int IntKind.i64 i] m'
      (Value.string s) ∧
      ∃ (n : Int),
      QSpec Try.prog (19 : Nat) [Value.slice a_2 n_2 c_1] m' (Value.int IntKind.i64 n) ∧
      Done (Value.bool (n == (21 : Int)) = Value.bool true))
      (∃ (n_6 : Int),
      ∃ (b_7 : Bool),
      QSpec Try.prog (20 : Nat) [Value.slice a l.length c, Value.int IntKind.i64 g] m'
      (Value.tuple #[Value.int IntKind.i64 n_6, Value.bool b_7]) ∧
      ifB (!b) (Done (Value.bool false = Value.bool true))
      (∃ (n_7 : Int),
      QSpec Try.prog (19 : Nat) [Value.slice a_2 n_2 c_1] m' (Value.int IntKind.i64 n_7) ∧
      ifB (n_7 != (0 : Int)) (Done (Value.bool false = Value.bool true))
      (∃ (n_8 : Int),
      QSpec Try.prog (16 : Nat) [Value.slice a_2 n_2 c_1, Value.string key] m'
      (Value.int IntKind.i64 n_8) ∧
      ∃ (n_9 : Int),
      QSpec Try.prog (21 : Nat) [Value.slice a l.length c, Value.string key] m'
      (Value.int IntKind.i64 n_9) ∧
      ifB (n_8 != n_9) (Done (Value.bool false = Value.bool true))
      (ifB (n_4 != n_6) (Done (Value.bool false = Value.bool true))
      (ifB (!b_1 == b_7) (Done (Value.bool false = Value.bool true))
      (∃ (s : ByteArray),
      QSpec Try.prog (18 : Nat)
      [Value.slice a_2 n_2 c_1, Value.int IntKind.i64 i] m'
      (Value.string s) ∧
      ∃ (s_1 : ByteArray),
      QSpec Try.prog (22 : Nat)
      [Value.slice a l.length c, Value.int IntKind.i64 i] m'
      (Value.string s_1) ∧
      ifB (!s.toList == s_1.toList)
      (Done (Value.bool false = Value.bool true))
      (∃ (n_10 : Int),
      QSpec Try.prog (23 : Nat) [Value.slice a_2 n_2 c_1] m'
      (Value.int IntKind.i64 n_10) ∧
      ∃ (n_11 : Int),
      QSpec Try.prog (24 : Nat) [Value.slice a l.length c]
      m' (Value.int IntKind.i64 n_11) ∧
      ifB (n_10 != n_11)
      (Done (Value.bool false = Value.bool true))
      (∃ (b : Bool),
      QSpec Try.prog (25 : Nat)
      [Value.slice a_5 n_3 c_3,
      Value.slice a l.length c]
      m' (Value.bool b) ∧
      ifB (!b)
      (Done
      (Value.bool false = Value.bool true))
      ((∃ (a_6 : LkX),
      (a_6.k ≤ l.length ∧
      Row a_6.m a_6.ea (stv (endsL l)) ∧
      Row a_6.m a (pls l)) ∧
      m' = a_6.m ∧
      ((SV.val
      (Value.int IntKind.i64
      (0 : Int)) =
      SV.val
      (Value.int IntKind.i64
      (↑a_6.k : Int)) ∧
      true = true) ∧
      (SV.val
      (Value.slice a_4 n
      c_2) =
      SV.val
      (Value.slice a_6.ea
      l.length a_6.ec) ∧
      true = true) ∧
      (SV.val
      (Value.slice a
      l.length c) =
      SV.val
      (Value.slice a
      l.length c) ∧
      true = true) ∧
      True) ∧
      True) ∧
      ∀ (a_6 : LkX),
      a_6.k ≤ l.length ∧
      Row a_6.m a_6.ea (stv (endsL l)) ∧
      Row a_6.m a (pls l) →
      ifB
      (decide
      ((↑a_6.k : Int) <
      (↑l.length : Int)))
      (true = true ∧
      ∃ (b : Nat),
      ∃ (off : Nat),
      a_6.ea =
      some
      { block := b, off := off : Addr } ∧
      ((0 : Int) ≤
      (↑a_6.k : Int) ∧
      (↑a_6.k : Int) <
      (↑l.length : Int)) ∧
      ∃ (s : ByteArray),
      CellsAt a_6.m b
      (off +
      (↑a_6.k :
      Int).toNat *
      (1 : Nat))
      [Value.string s] ∧
      ∃ (s_2 : ByteArray),
      QSpec Try.prog
      (22 : Nat)
      [Value.slice a
      l.length
      c,
      Value.int
      IntKind.i64
      (↑a_6.k :
      Int)]
      a_6.m
      (Value.string
      s_2) ∧
      ifB
      (!s.toList ==
      s_2.toList)
      (Done
      (Value.bool
      false =
      Value.bool
      true))
      (∃ (a' : LkX),
      ((a'.k ≤
      l.length ∧
      Row
      a'.m
      a'.ea
      (stv
      (endsL
      l)) ∧
      Row
      a'.m
      a
      (pls
      l)) ∧
      a_6.m =
      a'.m ∧
      ((SV.val
      (Value.int
      IntKind.i64
      (IntKind.i64.wrap
      ((↑a_6.k :
      Int) +
      (1 :
      Int)))) =
      SV.val
      (Value.int
      IntKind.i64
      (↑a'.k :
      Int)) ∧
      true =
      true) ∧
      (SV.val
      (Value.slice
      a_6.ea
      l.length
      a_6.ec) =
      SV.val
      (Value.slice
      a'.ea
      l.length
      a'.ec) ∧
      true =
      true) ∧
      (SV.val
      (Value.slice
      a
      l.length
      c) =
      SV.val
      (Value.slice
      a
      l.length
      c) ∧
      true =
      true) ∧
      True) ∧
      True) ∧
      l.length -
      a'.k <
      l.length -
      a_6.k))
      (Done
      (Value.bool true =
      Value.bool true))))))))))))))) (by kernel_rfl) ?_
  have h0 := h.sz hn
  have hl2 : l.length ≤ 9223372036854775807 := by omega
  refine ⟨rfl, _, noS, fun n1 hn1 => (rg_own a c l hl _ (h0.sz hn1)).monoW fun v1 m1 g1 ⟨b, hv1, ro⟩ => ⟨_, _, _, hv1, ?_⟩⟩
  have r1 := (h0.sz hn1).agree g1
  refine ⟨_, noS, fun n2 hn2 => (rg_told l _ _ hl (fun e => by cases e) _ (ro.take.sz hn2)).monoW fun v2 m2 g2 ⟨ea, ec, pa, pc, hv2, re, rp⟩ => ⟨_, _, _, _, _, _, _, hv2, ?_⟩⟩
  have r2 := (r1.sz hn2).agree g2
  have ro2 := (ro.sz hn2).agree g2
  have rt := ro2.take
  refine ⟨_, _, ofV_eq l g ▸ rg_of l _ _ g hl2 m2 rt, _, rg_awake _, ifB_intro (fun h1 => by cases h1) (fun _ => ⟨_, rg_within _ _ _ m2, _, rf_within _ _ _ m2, ifB_intro (fun h1 => by simp at h1) (fun _ => ⟨_, rg_kept b l a c hl _ ro2 r2, ifB_intro (fun h1 => by cases h1) (fun _ => ⟨_, rg_find l _ _ key hl2 m2 rt, _, rf_right l a c hl2 m2 r2, ifB_intro (fun h1 => ⟨_, pl_end l _ _ i hi64 hl2 m2 rt, _, rg_check l _ _ hl2 m2 rt, ⟨?_⟩⟩) (fun h1 => ?_)⟩)⟩)⟩)⟩
  · have : rightB l = false := by simpa using h1
    rw [this]; rfl
  have hR : rightB l = true := by simpa using h1
  have hfe := rfind_eq key hR
  have hpl := pl_plain pa a pc c l l hl2 m2 rp r2
  have et : decide (l = l) = true := by simp
  rw [et] at hpl
  refine ⟨_, _, ofV_eq l g ▸ rf_of l a c g hl2 m2 r2, ifB_intro (fun h1 => by cases h1) (fun _ => ⟨_, rg_check l _ _ hl2 m2 rt, ifB_intro (fun h1 => by simp [hR] at h1) (fun _ => ⟨_, rg_find l _ _ key hl2 m2 rt, _, hfe ▸ rf_find l a c key hl2 m2 r2, ifB_intro (fun h1 => by simp at h1) (fun _ => ifB_intro (fun h1 => by simp at h1) (fun _ => ifB_intro (fun h1 => by simp at h1) (fun _ => ⟨_, pl_end l _ _ i hi64 hl2 m2 rt, _, rf_end l a c i hi64 hl2 m2 r2, ifB_intro (fun h1 => by simp at h1) (fun _ => ⟨_, rg_epoch l _ _ hl (row_h0 rt) m2 rt, _, rf_epoch l a c hl2 m2 r2, ifB_intro (fun h1 => by simp at h1) (fun _ => ⟨_, hpl, ifB_intro (fun h1 => by cases h1) (fun _ => ⟨⟨⟨0, m2, ea, ec⟩, ⟨Nat.zero_le _, re, r2⟩, rfl, by simp⟩, ?_⟩)⟩)⟩)⟩)))⟩)⟩)⟩
  rintro ⟨k, mk, eak, eck⟩ ⟨hk, hre, hrl⟩
  simp only at hk hre hrl ⊢
  refine ifB_intro (fun h6 => ?_) (fun h6 => ⟨by trivial⟩)
  have hlt : k < l.length := by simpa using h6
  obtain ⟨be, oe, rfl, hce⟩ := hre.cells (by rw [stv_len]; omega)
  have he : endI l (k : Int) = endP l k := by simp [endI]
  have hE := rf_end l a c (k : Int) ⟨by omega, by omega⟩ hl2 mk hrl
  rw [he] at hE
  refine ⟨by trivial, be, oe, rfl, by omega, _, by simpa using stv_at hce hlt, _, hE, ?_⟩
  have q2 : (!(endP l k).toList == (endP l k).toList) = false := by simp
  rw [q2]
  exact ifB_false ⟨⟨k + 1, mk, _, eck⟩, ⟨⟨hlt, hre, hrl⟩, rfl, by simp [wrap1 hlt hl2]⟩, by simp only; omega⟩

end Go.Proofs.Ytpnpebefcmgjoaa
