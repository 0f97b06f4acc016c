/-
  Contracts of functions of this seat: what each hands back, and what it leaves of memory (rng8). Nothing here is trusted: Lean checks it.
-/
import Derived.Test.YtpnpebefcmgjoaaRng7
set_option linter.unusedVariables false
set_option linter.unusedSimpArgs false
namespace Go.Proofs.Ytpnpebefcmgjoaa
open Go.Vc Go.RowKit
set_option maxRecDepth 100000

abbrev aw0 : List Pl := [⟨1, ⟨#[]⟩, 1⟩]

abbrev aw1 : List Pl := [⟨1, ⟨#[]⟩, 2⟩, ⟨2, ⟨#[109]⟩, 2⟩]

theorem aw_split : splitL aw0 ⟨#[109]⟩ 2 = (aw1, 0) := by kernel_rfl

theorem aw_find : findL ⟨#[122]⟩ aw1 0 0 = 1 := by kernel_rfl

theorem rg_awake (m : M) : QSpec Try.prog 12 [] m (.bool true) := by
  refine QSpec.of_vc Try.func12 (ann := fun _ => noAnn) fun n hn => ?_
  refine vc_by (X :=
      true = true ∧
      true = true ∧
      ∀ (b : Nat),
      n ≤ b →
      ∃ (S' : Nat → Prop),
      (∀ (b_1 : Nat),
      S' b_1 →
      ({ π := m.π, sz := n, uf := m.uf : M }.newBlock b [Value.int IntKind.i64 (1 : Int), Value.string { data := #[] : ByteArray }, Value.int IntKind.i64 (1 : Int)]).uf
      b_1 ∧
      (n ≤ b_1 ∨ False)) ∧
      ∀ (n_1 : Nat),
      max n (b + (1 : Nat)) ≤ n_1 →
      SpecW Try.prog (26 : Nat)
      [Value.slice (some { block := b, off := (0 : Nat) : Addr }) (1 : Nat) (1 : Nat), Value.string { data := #[(109 : UInt8)] : ByteArray },
      Value.int IntKind.i64 (2 : Int)]
      { π := ({ π := m.π, sz := n, uf := m.uf : M }.newBlock b [Value.int IntKind.i64 (1 : Int), Value.string { data := #[] : ByteArray }, Value.int IntKind.i64 (1 : Int)]).π, sz := n_1, uf := ({ π := m.π, sz := n, uf := m.uf : M }.newBlock b [Value.int IntKind.i64 (1 : Int), Value.string { data := #[] : ByteArray }, Value.int IntKind.i64 (1 : Int)]).uf : M }
      S' fun (v : Value) (m' : M) =>
      ∃ (a : Option Addr),
      ∃ (n : Nat),
      ∃ (c : Nat),
      ∃ (n_2 : Int),
      v = Value.tuple #[Value.slice a n c, Value.int IntKind.i64 n_2] ∧
      ifB (n_2 == (0 : Int))
      (ifB ((↑n : Int) == (2 : Int))
      (∃ (n_3 : Int),
      QSpec Try.prog (16 : Nat) [Value.slice a n c, Value.string { data := #[(122 : UInt8)] : ByteArray }] m' (Value.int IntKind.i64 n_3) ∧
      ifB (n_3 == (1 : Int))
      (∃ (n : Int),
      QSpec Try.prog (19 : Nat) [Value.slice none (0 : Nat) (0 : Nat)] m' (Value.int IntKind.i64 n) ∧
      Done (Value.bool (n == (21 : Int)) = Value.bool true))
      (Done (Value.bool false = Value.bool true)))
      (Done (Value.bool false = Value.bool true)))
      (Done (Value.bool false = Value.bool true))) (by kernel_rfl) ?_
  refine ⟨rfl, by trivial, fun b hb => ⟨_, noS, fun n1 hn1 => ?_⟩⟩
  have hrow : Row ({ ({ m with sz := n } : M).newBlock b (encPl ⟨1, ⟨#[]⟩, 1⟩) with sz := n1 } : M) (some ⟨b, 0, none⟩) (pls aw0) := (Row.new (m := { m with sz := n }) (b := b) (cs := encPl ⟨1, ⟨#[]⟩, 1⟩)).sz hn1
  refine (rg_split aw0 _ 1 ⟨#[109]⟩ 2 (by simp) _ hrow).monoW fun v m' hag hv => ?_
  rw [aw_split] at hv
  obtain ⟨a, c, hv, hr⟩ := hv
  have hf := rg_find aw1 a c ⟨#[122]⟩ (by simp) m' hr
  rw [aw_find] at hf
  refine ⟨a, 2, c, 0, hv, ifB_true (ifB_true ⟨_, hf, ifB_true ⟨21, rg_check [] none 0 (by simp) m' (.nil _), ⟨rfl⟩⟩⟩)⟩

structure OnX where
  i : Nat
  n : Nat
  q : Int

/-- how many of the first places have the key, and which is the last of them -/
def cntO (key : ByteArray) : List Pl → Nat → Nat × Int → Nat × Int
  | [], _, r => r
  | x :: xs, i, r => cntO key xs (i + 1) (if withinB x.fr (hdF xs) key then (r.1 + 1, (i : Int)) else r)

theorem bl_nil : ∀ x : List UInt8, Op.bytesLess x [] = false
  | [] => rfl
  | _ :: _ => rfl

theorem lt_empty {a b : ByteArray} (h : ltS a b = true) : emptyB b = false := by
  cases hq : emptyB b with
  | false => rfl
  | true =>
    have e : b.toList = [] := by simpa [emptyB] using hq
    rw [ltS, e, bl_nil] at h
    cases h

theorem empty_lt {a b : ByteArray} (h : emptyB b = true) : ltS a b = false := by
  cases hq : ltS a b with
  | false => rfl
  | true => rw [lt_empty hq] at h; cases h

theorem chk_cons {seen : List Int} {last : Option ByteArray} {x : Pl} {xs : List Pl} (h : chk seen last (x :: xs) = true) : plB x = true ∧ seen.contains x.gr = false ∧ aftB last x = true ∧ chk (seen ++ [x.gr]) (some x.fr) xs = true := by
  simpa only [chk, Bool.and_eq_true, Bool.not_eq_true'] using h

theorem chk_gt {key : ByteArray} : ∀ {xs : List Pl} {seen : List Int} {s : ByteArray}, chk seen (some s) xs = true → ltS key s = true → ∀ z ∈ xs, ltS key z.fr = true
  | [], _, _, _, _, z, hz => by simp at hz
  | x :: xs, seen, s, h, hk, z, hz => by
    obtain ⟨-, -, h3, h4⟩ := chk_cons h
    have hx := ltS_trans hk h3
    rcases List.mem_cons.1 hz with rfl | hz
    · exact hx
    · exact chk_gt h4 hx z hz

theorem cnt_gt {key : ByteArray} : ∀ {xs : List Pl} (i q : Nat) (r : Nat × Int), (∀ z ∈ xs, ltS key z.fr = true) → cntO key xs i r = r ∧ findL key xs i q = q
  | [], _, _, _, _ => ⟨rfl, rfl⟩
  | x :: xs, i, q, r, h => by
    have hx := h x (by simp)
    have := cnt_gt (xs := xs) (i + 1) q r fun z hz => h z (by simp [hz])
    simp only [cntO, findL, withinB, hx, Bool.not_true, Bool.false_and, if_true]
    exact this

theorem emp_emp : emptyB .empty = true := by kernel_rfl

theorem cnt_one {key : ByteArray} : ∀ {xs : List Pl} {x : Pl} {seen : List Int} {last : Option ByteArray} (i q : Nat) (r : Nat × Int), chk seen last (x :: xs) = true → ltS key x.fr = false →
    cntO key (x :: xs) i r = (r.1 + 1, ((findL key (x :: xs) i q : Nat) : Int))
  | [], x, seen, last, i, q, r, h, hx => by
    have hw : withinB x.fr .empty key = true := by
      simp only [withinB, hx, Bool.not_false, Bool.true_and, emp_emp, Bool.true_or]
    simp only [cntO, hdF, findL, hx, hw, if_true]
    rfl
  | y :: ys, x, seen, last, i, q, r, h, hx => by
    obtain ⟨-, -, -, h4⟩ := chk_cons h
    obtain ⟨-, -, h7, h8⟩ := chk_cons h4
    have hxy : ltS x.fr y.fr = true := h7
    have hem := lt_empty hxy
    cases hy : ltS key y.fr with
    | true =>
      have hall : ∀ z ∈ y :: ys, ltS key z.fr = true := fun z hz => by
        rcases List.mem_cons.1 hz with rfl | hz
        · exact hy
        · exact chk_gt h8 hy z hz
      have hw : withinB x.fr y.fr key = true := by simp only [withinB, hx, hy, Bool.or_true]; rfl
      obtain ⟨e1, e2⟩ := cnt_gt (key := key) (i + 1) i (r.1 + 1, (i : Int)) hall
      rw [cntO, findL, hdF, hw, hx]
      simp only [if_true]
      rw [e1]
      simp only [Bool.false_eq_true, if_false]
      rw [e2]
    | false =>
      have hw : withinB x.fr y.fr key = false := by simp only [withinB, hx, hy, hem]; rfl
      have ih := cnt_one (i + 1) i r h4 hy
      rw [cntO, hdF, hw]
      simp only [Bool.false_eq_true, if_false]
      rw [ih]
      conv => rhs; rw [findL, hx]
      simp

theorem one_law {l : List Pl} (key : ByteArray) (h : rightB l = true) : cntO key l 0 (0, -1) = (1, ((findL key l 0 0 : Nat) : Int)) := by
  cases l with
  | nil => cases h
  | cons x xs =>
    simp only [rightB, Bool.and_eq_true] at h
    exact cnt_one 0 0 (0, -1) h.2.2 (empty_lt h.2.1)

theorem rangesone (l : List Pl) (a : Option Addr) (c : Nat) (key : ByteArray) (hl : l.length ≤ 9223372036854775807) (m : M) (h : Row m a (pls l)) :
    QSpec Try.prog 4 [.slice a l.length c, .string key] m (.bool true) := by
  refine QSpec.of_vc Try.func4 (ann := fun n _ => { A := OnX, inv := fun x => (rightB l = true ∧ x.i ≤ l.length ∧ x.n ≤ x.i) ∧ cntO key (l.drop x.i) x.i (x.n, x.q) = cntO key l 0 (0, -1), st := fun x => [(7, .val (I x.i)), (5, .val (I x.n)), (6, .val (I x.q)), (0, .val (.slice a l.length c)), (1, .val (.string key))], own := fun _ => [], m := fun _ => { m with sz := n }, μ := fun x => l.length - x.i }) fun n hn => ?_
  refine vc_by (X :=
      true = true ∧
      ∃ (b : Bool),
      QSpec Try.prog (12 : Nat) [] { π := m.π, sz := n, uf := m.uf : M } (Value.bool b) ∧
      ifB (!b) (Done (Value.bool false = Value.bool true))
      (∃ (n_1 : Int),
      QSpec Try.prog (19 : Nat) [Value.slice a l.length c] { π := m.π, sz := n, uf := m.uf : M } (Value.int IntKind.i64 n_1) ∧
      ifB (n_1 != (0 : Int))
      (∃ (b : Bool), QSpec Try.prog (17 : Nat) [Value.slice a l.length c] { π := m.π, sz := n, uf := m.uf : M } (Value.bool b) ∧ Done ((Value.bool !b) = Value.bool true))
      ((∃ (a_1 : OnX),
      ((rightB l = true ∧ a_1.i ≤ l.length ∧ a_1.n ≤ a_1.i) ∧ cntO key (List.drop a_1.i l) a_1.i (a_1.n, a_1.q) = cntO key l (0 : Nat) ((0 : Nat), (-1 : Int))) ∧
      { π := m.π, sz := n, uf := m.uf : M } = { π := m.π, sz := n, uf := m.uf : M } ∧
      ((SV.val (Value.int IntKind.i64 (0 : Int)) = SV.val (Value.int IntKind.i64 (↑a_1.i : Int)) ∧ true = true) ∧
      (SV.val (Value.int IntKind.i64 (0 : Int)) = SV.val (Value.int IntKind.i64 (↑a_1.n : Int)) ∧ true = true) ∧
      (SV.val (Value.int IntKind.i64 (-1 : Int)) = SV.val (Value.int IntKind.i64 a_1.q) ∧ true = true) ∧
      (SV.val (Value.slice a l.length c) = SV.val (Value.slice a l.length c) ∧ true = true) ∧
      (SV.val (Value.string key) = SV.val (Value.string key) ∧ true = true) ∧ True) ∧
      True) ∧
      ∀ (a_1 : OnX),
      (rightB l = true ∧ a_1.i ≤ l.length ∧ a_1.n ≤ a_1.i) ∧ cntO key (List.drop a_1.i l) a_1.i (a_1.n, a_1.q) = cntO key l (0 : Nat) ((0 : Nat), (-1 : Int)) →
      ifB (decide ((↑a_1.i : Int) < (↑l.length : Int)))
      (true = true ∧
      ∃ (b : Nat),
      ∃ (off : Nat),
      a = some { block := b, off := off : Addr } ∧
      ((0 : Int) ≤ (↑a_1.i : Int) ∧ (↑a_1.i : Int) < (↑l.length : Int)) ∧
      ∃ (s : ByteArray),
      CellsAt { π := m.π, sz := n, uf := m.uf : M } b (off + (↑a_1.i : Int).toNat * (3 : Nat) + (1 : Nat)) [Value.string s] ∧
      ∃ (s_1 : ByteArray),
      QSpec Try.prog (18 : Nat) [Value.slice a l.length c, Value.int IntKind.i64 (↑a_1.i : Int)] { π := m.π, sz := n, uf := m.uf : M }
      (Value.string s_1) ∧
      ∃ (b : Bool),
      QSpec Try.prog (13 : Nat) [Value.string s, Value.string s_1, Value.string key] { π := m.π, sz := n, uf := m.uf : M } (Value.bool b) ∧
      ifB b
      (∃ (a' : OnX),
      (((rightB l = true ∧ a'.i ≤ l.length ∧ a'.n ≤ a'.i) ∧
      cntO key (List.drop a'.i l) a'.i (a'.n, a'.q) = cntO key l (0 : Nat) ((0 : Nat), (-1 : Int))) ∧
      { π := m.π, sz := n, uf := m.uf : M } = { π := m.π, sz := n, uf := m.uf : M } ∧
      ((SV.val (Value.int IntKind.i64 (IntKind.i64.wrap ((↑a_1.i : Int) + (1 : Int)))) =
      SV.val (Value.int IntKind.i64 (↑a'.i : Int)) ∧
      true = true) ∧
      (SV.val (Value.int IntKind.i64 (IntKind.i64.wrap ((↑a_1.n : Int) + (1 : Int)))) =
      SV.val (Value.int IntKind.i64 (↑a'.n : Int)) ∧
      true = true) ∧
      (SV.val (Value.int IntKind.i64 (↑a_1.i : Int)) = SV.val (Value.int IntKind.i64 a'.q) ∧ true = true) ∧
      (SV.val (Value.slice a l.length c) = SV.val (Value.slice a l.length c) ∧ true = true) ∧
      (SV.val (Value.string key) = SV.val (Value.string key) ∧ true = true) ∧ True) ∧
      True) ∧
      l.length - a'.i < l.length - a_1.i)
      (∃ (a' : OnX),
      (((rightB l = true ∧ a'.i ≤ l.length ∧ a'.n ≤ a'.i) ∧
      cntO key (List.drop a'.i l) a'.i (a'.n, a'.q) = cntO key l (0 : Nat) ((0 : Nat), (-1 : Int))) ∧
      { π := m.π, sz := n, uf := m.uf : M } = { π := m.π, sz := n, uf := m.uf : M } ∧
      ((SV.val (Value.int IntKind.i64 (IntKind.i64.wrap ((↑a_1.i : Int) + (1 : Int)))) =
      SV.val (Value.int IntKind.i64 (↑a'.i : Int)) ∧
      true = true) ∧
      (SV.val (Value.int IntKind.i64 (↑a_1.n : Int)) = SV.val (Value.int IntKind.i64 (↑a'.n : Int)) ∧ true = true) ∧
      (SV.val (Value.int IntKind.i64 a_1.q) = SV.val (Value.int IntKind.i64 a'.q) ∧ true = true) ∧
      (SV.val (Value.slice a l.length c) = SV.val (Value.slice a l.length c) ∧ true = true) ∧
      (SV.val (Value.string key) = SV.val (Value.string key) ∧ true = true) ∧ True) ∧
      True) ∧
      l.length - a'.i < l.length - a_1.i))
      (ifB ((↑a_1.n : Int) == (1 : Int))
      (∃ (n_2 : Int),
      QSpec Try.prog (16 : Nat) [Value.slice a l.length c, Value.string key] { π := m.π, sz := n, uf := m.uf : M } (Value.int IntKind.i64 n_2) ∧
      Done (Value.bool (n_2 == a_1.q) = Value.bool true))
      (Done (Value.bool false = Value.bool true)))))) (by kernel_rfl) ?_
  have hr := h.sz hn
  have hlaw := one_law (l := l) key
  refine ⟨rfl, _, rg_awake _, ifB_intro (fun h1 => by cases h1) (fun _ => ⟨_, rg_check l a c hl _ hr, ifB_intro (fun h2 => ⟨_, rf_right l a c hl _ hr, ⟨?_⟩⟩) (fun h2 => ⟨⟨⟨0, 0, -1⟩, ⟨⟨?_, Nat.zero_le _, Nat.zero_le _⟩, rfl⟩, by simp⟩, fun x ⟨⟨hR, hk, hni⟩, hf⟩ => ?_⟩)⟩)⟩
  · have : rightB l = false := by
      cases hq : rightB l with
      | false => rfl
      | true => simp [hq] at h2
    simp [this]
  · cases hq : rightB l with
    | true => rfl
    | false => simp [hq] at h2
  · obtain ⟨k, n1, q⟩ := x
    simp only at hk hni hf ⊢
    refine ifB_intro (fun h3 => ?_) (fun h3 => ?_)
    · have hlt : k < l.length := by simpa using h3
      obtain ⟨b, o, rfl, hc⟩ := hr.cells (by rw [pl_len]; omega)
      have he : endI l (k : Int) = endP l k := by simp [endI]
      have w2 : IntKind.i64.wrap ((n1 : Int) + 1) = ((n1 + 1 : Nat) : Int) := wrap1 (by omega : n1 < l.length) hl
      rw [List.drop_eq_getElem_cons hlt, cntO, hdF_drop] at hf
      refine ⟨by trivial, b, o, rfl, by omega, _, by simpa using pl_frc hc hlt, endP l k, he ▸ pl_end l _ c k ⟨by omega, by omega⟩ hl _ hr, _, rg_within _ _ _ _, ifB_intro (fun h4 => ⟨⟨k + 1, n1 + 1, k⟩, ⟨⟨⟨hR, hlt, by simp only; omega⟩, ?_⟩, by simp [wrap1 hlt hl, w2]⟩, by simp only; omega⟩) (fun h4 => ⟨⟨k + 1, n1, q⟩, ⟨⟨⟨hR, hlt, by simp only; omega⟩, ?_⟩, by simp [wrap1 hlt hl]⟩, by simp only; omega⟩)⟩
      · rw [h4] at hf; simpa using hf
      · rw [h4] at hf; simpa using hf
    · have : k = l.length := by simp at h3; omega
      subst this
      rw [List.drop_length, cntO, hlaw hR] at hf
      simp only [Prod.mk.injEq] at hf
      obtain ⟨e1, e2⟩ := hf
      subst e1
      exact ifB_true ⟨_, rg_find l a c key hl _ hr, ⟨by rw [e2]; simp⟩⟩

end Go.Proofs.Ytpnpebefcmgjoaa
