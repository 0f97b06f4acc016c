/-
  Contracts of functions of this seat: what each hands back, and what it leaves of memory (rng7). Nothing here is trusted: Lean checks it.
-/
import Derived.Test.YtpnpebefcmgjoaaDelpl
set_option linter.unusedVariables false
set_option linter.unusedSimpArgs false
namespace Go.Proofs.Ytpnpebefcmgjoaa
open Go.Vc Go.RowKit
set_option maxRecDepth 100000

def ResR (r : List Pl × Int) (v : Value) (m' : M) : Prop :=
  ∃ a c, v = .tuple #[.slice a r.1.length c, I r.2] ∧ Row m' a (pls r.1)

theorem res_no (e : Int) (m : M) : ResR ([], e) (.tuple #[.slice none 0 0, I e]) m := ⟨none, 0, rfl, .nil _⟩

abbrev pl0 : Pl := ⟨0, .empty, 0⟩

def insS (l : List Pl) (key : ByteArray) (g : Int) (i : Nat) (e : Int) : List Pl :=
  ((l.take (i + 1)) ++ ⟨g, key, e⟩ :: l.drop (i + 1)).set i { l[i]?.getD pl0 with ep := e }

def splitL (l : List Pl) (key : ByteArray) (g : Int) : List Pl × Int :=
  if rightB l = false then ([], 21) else if (decide (1 ≤ key.size) && (decide (key.size ≤ 16) && grpB g)) = false then ([], 1)
  else if (decide (ofI l g < l.length) || decide ((l[findL key l 0 0]?.getD pl0).fr = key)) = true then ([], 171)
  else if epochL l ≥ 4611686018427387904 then ([], 170) else (insS l key g (findL key l 0 0) (epochL l + 1), 0)

theorem findL_lt (key : ByteArray) : ∀ (l : List Pl) (i a : Nat), a < i → findL key l i a < i + l.length
  | [], i, a, h => by simpa [findL] using h
  | x :: xs, i, a, h => by
    have := findL_lt key xs (i + 1) (if ltS key x.fr then a else i) (by split <;> omega)
    simp only [findL, List.length_cons]
    omega

theorem findL_len (key : ByteArray) {l : List Pl} (h : 0 < l.length) : findL key l 0 0 < l.length := by
  cases l with
  | nil => simp at h
  | cons x xs =>
    have := findL_lt key xs (0 + 1) (if ltS key x.fr then 0 else 0) (by split <;> omega)
    simp only [findL, List.length_cons]
    omega

theorem epoch_nn : ∀ (l : List Pl) (e : Int), e ≤ l.foldl (fun e p => max e p.ep) e
  | [], e => by simp
  | x :: xs, e => by
    have := epoch_nn xs (max e x.ep)
    simp only [List.foldl_cons]
    omega

theorem row_h0 {m : M} {a : Option Addr} {l : List Pl} (h : Row m a (pls l)) : a = none → l = [] := fun e => by
  subst e
  cases l with
  | nil => rfl
  | cons x xs =>
    obtain ⟨b, o, e, -⟩ := h.cells (by rw [pl_len]; simp)
    cases e

theorem right_pos {l : List Pl} (h : rightB l = true) : 0 < l.length := by
  cases l with
  | nil => cases h
  | cons x xs => simp

theorem ofV_eq (l : List Pl) (g : Int) : ofV l g = .tuple #[I (if ofI l g < l.length then ofI l g else 0), .bool (decide (ofI l g < l.length))] := by
  unfold ofV
  split <;> simp [*]

theorem ins_len (l : List Pl) (key : ByteArray) (g : Int) (i : Nat) (e : Int) (hi : i < l.length) : (insS l key g i e).length = l.length + 1 := by
  simp [insS]; omega

theorem rg_split (l : List Pl) (a : Option Addr) (c : Nat) (key : ByteArray) (g : Int) (hl : l.length ≤ 9223372036854775807) (m : M) (h : Row m a (pls l)) :
    Vc.Spec Try.prog 26 [.slice a l.length c, .string key, I g] m (fun v m' => ResR (splitL l key g) v m') := by
  refine Vc.Spec.of_vc Try.func26 (ann := noAnn) ?_
  refine vc_by (X :=
      true = true ∧
      ∃ (n : Int),
      QSpec Try.prog (19 : Nat) [Value.slice a l.length c] m (Value.int IntKind.i64 n) ∧
      ifB (n != (0 : Int)) (Done (ResR (splitL l key g) (Value.tuple #[Value.slice none (0 : Nat) (0 : Nat), Value.int IntKind.i64 (21 : Int)]) m))
      (ifB (decide ((↑key.size : Int) < (1 : Int))) (Done (ResR (splitL l key g) (Value.tuple #[Value.slice none (0 : Nat) (0 : Nat), Value.int IntKind.i64 (1 : Int)]) m))
      (ifB (decide ((↑key.size : Int) > (16 : Int))) (Done (ResR (splitL l key g) (Value.tuple #[Value.slice none (0 : Nat) (0 : Nat), Value.int IntKind.i64 (1 : Int)]) m))
      (∃ (b : Bool),
      QSpec Try.prog (33 : Nat) [Value.int IntKind.i64 g] m (Value.bool b) ∧
      ifB (!b) (Done (ResR (splitL l key g) (Value.tuple #[Value.slice none (0 : Nat) (0 : Nat), Value.int IntKind.i64 (1 : Int)]) m))
      (∃ (n : Int),
      QSpec Try.prog (16 : Nat) [Value.slice a l.length c, Value.string key] m (Value.int IntKind.i64 n) ∧
      ∃ (n_1 : Int),
      ∃ (b : Bool),
      QSpec Try.prog (11 : Nat) [Value.slice a l.length c, Value.int IntKind.i64 g] m (Value.tuple #[Value.int IntKind.i64 n_1, Value.bool b]) ∧
      ifB b (Done (ResR (splitL l key g) (Value.tuple #[Value.slice none (0 : Nat) (0 : Nat), Value.int IntKind.i64 (171 : Int)]) m))
      (∃ (b : Nat),
      ∃ (off : Nat),
      a = some { block := b, off := off : Addr } ∧
      ((0 : Int) ≤ n ∧ n < (↑l.length : Int)) ∧
      ∃ (s : ByteArray),
      CellsAt m b (off + n.toNat * (3 : Nat) + (1 : Nat)) [Value.string s] ∧
      ifB (s.toList == key.toList)
      (Done (ResR (splitL l key g) (Value.tuple #[Value.slice none (0 : Nat) (0 : Nat), Value.int IntKind.i64 (171 : Int)]) m))
      (∃ (n_2 : Int),
      QSpec Try.prog (23 : Nat) [Value.slice a l.length c] m (Value.int IntKind.i64 n_2) ∧
      ifB (decide (n_2 ≥ (4611686018427387904 : Int)))
      (Done (ResR (splitL l key g) (Value.tuple #[Value.slice none (0 : Nat) (0 : Nat), Value.int IntKind.i64 (170 : Int)]) m))
      (∃ (S' : Nat → Prop),
      (∀ (b : Nat), S' b → m.uf b ∧ (m.sz ≤ b ∨ False)) ∧
      ∀ (n_3 : Nat),
      m.sz ≤ n_3 →
      SpecW Try.prog (35 : Nat) [Value.slice a l.length c] { π := m.π, sz := n_3, uf := m.uf : M } S'
      fun (v : Value) (m' : M) =>
      ∃ (a : Option Addr),
      ∃ (n_4 : Nat),
      ∃ (c : Nat),
      v = Value.slice a n_4 c ∧
      true = true ∧
      ∀ (b : Nat),
      m'.sz ≤ b →
      ∃ (S' : Nat → Prop),
      (∀ (b_1 : Nat),
      S' b_1 →
      (m'.newBlock b
      [Value.int IntKind.i64 g, Value.string key,
      Value.int IntKind.i64 (IntKind.i64.wrap (n_2 + (1 : Int)))]).uf
      b_1 ∧
      (m.sz ≤ b_1 ∨ False)) ∧
      ∀ (n_5 : Nat),
      max m'.sz (b + (1 : Nat)) ≤ n_5 →
      SpecW Try.prog (34 : Nat)
      [Value.slice a n_4 c, Value.int IntKind.i64 (IntKind.i64.wrap (n + (1 : Int))),
      Value.slice (some { block := b, off := (0 : Nat) : Addr }) (1 : Nat) (1 : Nat)]
      { π := (m'.newBlock b [Value.int IntKind.i64 g, Value.string key, Value.int IntKind.i64 (IntKind.i64.wrap (n_2 + (1 : Int)))]).π, sz := n_5, uf := (m'.newBlock b [Value.int IntKind.i64 g, Value.string key, Value.int IntKind.i64 (IntKind.i64.wrap (n_2 + (1 : Int)))]).uf : M }
      S' fun (v : Value) (m' : M) =>
      ∃ (a : Option Addr),
      ∃ (n_6 : Nat),
      ∃ (c : Nat),
      v = Value.slice a n_6 c ∧
      ∃ (b : Nat),
      ∃ (off : Nat),
      a = some { block := b, off := off : Addr } ∧
      ((0 : Int) ≤ n ∧ n < (↑n_6 : Int)) ∧
      Wr m.sz (fun (x : Nat) => False) m' b (off + n.toNat * (3 : Nat) + (2 : Nat))
      #[Value.int IntKind.i64 (IntKind.i64.wrap (n_2 + (1 : Int)))].size ∧
      Done
      (ResR (splitL l key g)
      (Value.tuple #[Value.slice a n_6 c, Value.int IntKind.i64 (0 : Int)])
      (m'.setCells b (off + n.toNat * (3 : Nat) + (2 : Nat))
      [Value.int IntKind.i64 (IntKind.i64.wrap (n_2 + (1 : Int)))])))))))))) (by kernel_rfl) ?_
  refine ⟨rfl, _, rg_check l a c hl m h, ifB_intro (fun h1 => ⟨?_⟩) (fun h1 => ?_)⟩
  · have : rightB l = false := by
      cases hq : rightB l with
      | false => rfl
      | true => simp [hq] at h1
    simp only [splitL, this, if_true]
    exact res_no _ _
  have hR : rightB l = true := by
    cases hq : rightB l with
    | true => rfl
    | false => simp [hq] at h1
  have h7 := right_len hR
  have hp := right_pos hR
  have hfl := findL_len key hp
  refine ifB_intro (fun h2 => ⟨?_⟩) (fun h2 => ifB_intro (fun h3 => ⟨?_⟩) (fun h3 => ⟨_, rg_group g m, ifB_intro (fun h4 => ⟨?_⟩) (fun h4 => ?_)⟩))
  · have : ¬ 1 ≤ key.size := by simp at h2; omega
    simp only [splitL, hR, this]
    exact res_no _ _
  · have : ¬ key.size ≤ 16 := by simp at h3; omega
    simp only [splitL, hR, this, decide_false, Bool.false_and, Bool.and_false]
    exact res_no _ _
  · have : grpB g = false := by simpa using h4
    simp only [splitL, hR, this, Bool.and_false]
    exact res_no _ _
  have hG : (decide (1 ≤ key.size) && (decide (key.size ≤ 16) && grpB g)) = true := by
    have h4 : grpB g = true := by simpa using h4
    simp at h2 h3
    simp [h4]; omega
  obtain ⟨b0, o0, rfl, hc⟩ := h.cells (by rw [pl_len]; omega)
  refine ⟨_, rg_find l _ c key hl m h, _, _, ofV_eq l g ▸ rg_of l _ c g hl m h, ifB_intro (fun h5 => ⟨?_⟩) (fun h5 => ⟨b0, o0, rfl, by omega, _, by simpa using pl_frc hc hfl, ifB_intro (fun h6 => ⟨?_⟩) (fun h6 => ?_)⟩)⟩
  · simp only [splitL, hR, hG, h5, Bool.true_or, if_true]
    exact res_no _ _
  · have : l[findL key l 0 0].fr = key := toList_inj.1 (by simpa using h6)
    have e : (l[findL key l 0 0]?.getD pl0).fr = key := by rw [List.getElem?_eq_getElem hfl]; exact this
    simp only [splitL, hR, hG, e, decide_true, Bool.or_true, if_true]
    exact res_no _ _
  have hT : (decide (ofI l g < l.length) || decide ((l[findL key l 0 0]?.getD pl0).fr = key)) = false := by
    rw [List.getElem?_eq_getElem hfl, h5]
    have : ¬ l[findL key l 0 0].fr = key := fun e => by rw [e] at h6; simp at h6
    simp [this]
  refine ⟨_, rg_epoch l _ c (by omega) (row_h0 h) m h, ifB_intro (fun h7 => ⟨?_⟩) (fun h7 => ?_)⟩
  · have : epochL l ≥ 4611686018427387904 := by simpa using h7
    simp only [splitL, hR, hG, hT, this, if_true]
    exact res_no _ _
  have hE : ¬ epochL l ≥ 4611686018427387904 := by simpa using h7
  have hE0 : 0 ≤ epochL l := epoch_nn l 0
  have w1 : IntKind.i64.wrap (epochL l + 1) = epochL l + 1 := by rw [IntKind.wrap_i64]; omega
  have w2 := wrap1 hfl hl
  have hsp : splitL l key g = (insS l key g (findL key l 0 0) (epochL l + 1), 0) := by
    simp only [splitL, hR, hG, hT, hE]
    rfl
  rw [hsp, w1, w2]
  generalize hi : findL key l 0 0 = i at *
  generalize he : epochL l + 1 = e at *
  refine ⟨_, noS, fun n hn => (pl_clone l _ c (by omega) (row_h0 h) _ (h.sz hn)).monoW fun v m' hag ⟨a', c', hv, hr⟩ => ⟨a', l.length, c', hv, by trivial, fun b hb => ?_⟩⟩
  have hN : m.sz ≤ n := hn
  have hle : n ≤ m'.sz := hag.2.2
  have hrN := hr.newBlock (ds := encPl ⟨g, key, e⟩) hb
  have hs := pl_insert a' c' l (i + 1) b 0 1 ⟨g, key, e⟩ (fun b' => ∃ o, a' = some ⟨b', o, none⟩ ∧ (m'.newBlock b (encPl ⟨g, key, e⟩)).uf b' ∧ m.sz ≤ b') (by omega) (by omega)
  refine ⟨fun b' => ∃ o, a' = some ⟨b', o, none⟩ ∧ (m'.newBlock b (encPl ⟨g, key, e⟩)).uf b' ∧ m.sz ≤ b', fun b' ⟨o, e, hu, hlo⟩ => ⟨hu, .inl hlo⟩, fun n5 hn5 => ?_⟩
  refine (hs { m'.newBlock b (encPl ⟨g, key, e⟩) with sz := n5 } ((hrN.sz hn5).re fun b' o e hu hlo => .inr ⟨o, e, hu, by rcases hlo with h | h; simp only at h; omega; exact h.elim⟩)
      (fun hne b' o e => ?_) (by simp only; omega) (.inl rfl) ⟨(cellsAt_new (m := m') (b := b) (cs := encPl ⟨g, key, e⟩)).out⟩).mono fun v3 m3 hag3 ⟨a3, c3, hv3, hr3⟩ => ?_
  · have := (hr.toOwn (fun e => hne (List.eq_nil_of_length_eq_zero e))).lt e
    omega
  · obtain ⟨L, hL⟩ : ∃ L, L = l.take (i + 1) ++ (⟨g, key, e⟩ : Pl) :: l.drop (i + 1) := ⟨_, rfl⟩
    have hLl : L.length = l.length + 1 := by rw [hL]; simp; omega
    have hLi : i < L.length := by omega
    have hLg : L[i] = l[i] := by
      simp only [hL]
      rw [List.getElem_append_left (by simp; omega)]
      simp
    have hown : OwnB m.sz (fun _ => False) m3 3 a3 (l.length + 1) c3 (L.flatMap encPl) := by
      rw [hL]
      refine (hr3.toOwn (by omega)).re fun b' o e => ?_
      have h1 := (hr3.toOwn (by omega)).lo e
      rcases h1 with h1 | ⟨_, _, _, h1⟩
      · simp only at h1; omega
      · omega
    obtain ⟨b3, o3, rfl, -⟩ := hown.row.cells (by rw [pl_len]; omega)
    obtain ⟨g1, g2⟩ := OwnB.setField pl_k hown hLi { l[i] with ep := e } (p := [I l[i].gr, .string l[i].fr]) (old := [I l[i].ep]) (new := [I e]) (q := []) (by rw [hLg]; rfl) rfl rfl
    refine ⟨_, _, _, hv3, b3, o3, rfl, by omega, by simpa using g1, ⟨⟨some ⟨b3, o3, none⟩, c3, by rw [ins_len l key g i e hfl], ?_⟩⟩⟩
    · have e1 : insS l key g i e = L.set i { l[i] with ep := e } := by
        rw [insS, hL, List.getElem?_eq_getElem hfl]; rfl
      rw [e1]
      simpa using g2.row

end Go.Proofs.Ytpnpebefcmgjoaa
