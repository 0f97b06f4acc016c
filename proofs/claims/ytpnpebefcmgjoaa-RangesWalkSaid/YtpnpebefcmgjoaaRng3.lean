/-
  Contracts of functions of this seat: what each hands back, and what it leaves of memory (rng3). Nothing here is trusted: Lean checks it.
-/
import Derived.Test.YtpnpebefcmgjoaaRng1
import Derived.Test.YtpnpebefcmgjoaaVcStr
set_option linter.unusedVariables false
set_option linter.unusedSimpArgs false
namespace Go.Proofs.Ytpnpebefcmgjoaa
open Go.Vc Go.RowKit
set_option maxRecDepth 100000

def emptyB (s : ByteArray) : Bool := s.toList == []

def withinB (lo hi key : ByteArray) : Bool := !ltS key lo && (emptyB hi || ltS key hi)

theorem rg_within (lo hi key : ByteArray) (m : M) :
    QSpec Try.prog 13 [.string lo, .string hi, .string key] m (.bool (withinB lo hi key)) := by
  refine QSpec.of_vc Try.func13 (ann := fun _ => noAnn) fun n hn => ?_
  refine vc_by (X :=
      true = true ∧
      ifB (Op.bytesLess lo.toList key.toList || lo.toList == key.toList)
      (ifB (hi.toList == []) (Done (Value.bool true = Value.bool (withinB lo hi key))) (Done (Value.bool (Op.bytesLess key.toList hi.toList) = Value.bool (withinB lo hi key))))
      (Done (Value.bool false = Value.bool (withinB lo hi key)))) (by kernel_rfl) ?_
  rw [ltS_leq]
  refine ⟨rfl, ifB_intro (fun h1 => ifB_intro (fun h2 => ⟨?_⟩) (fun h2 => ⟨?_⟩)) (fun h1 => ⟨?_⟩)⟩
  · simp only [withinB, h1, emptyB, h2]; rfl
  · simp only [withinB, h1, emptyB, h2]; rfl
  · simp only [withinB, h1]; rfl

theorem rf_within (lo hi key : ByteArray) (m : M) :
    QSpec Try.prog 14 [.string lo, .string hi, .string key] m (.bool (withinB lo hi key)) := by
  refine QSpec.of_vc Try.func14 (ann := fun _ => noAnn) fun n hn => ?_
  refine vc_by (X :=
      true = true ∧
      ifB (!Op.bytesLess key.toList lo.toList)
      (ifB (hi.toList == []) (Done (Value.bool true = Value.bool (withinB lo hi key))) (Done (Value.bool (Op.bytesLess key.toList hi.toList) = Value.bool (withinB lo hi key))))
      (Done (Value.bool false = Value.bool (withinB lo hi key)))) (by kernel_rfl) ?_
  refine ⟨rfl, ifB_intro (fun h1 => ifB_intro (fun h2 => ⟨?_⟩) (fun h2 => ⟨?_⟩)) (fun h1 => ⟨?_⟩)⟩
  · simp only [withinB, ltS, h1, emptyB, h2]; rfl
  · simp only [withinB, ltS, h1, emptyB, h2]; rfl
  · simp only [withinB, ltS, h1]; rfl

def findL (key : ByteArray) : List Pl → Nat → Nat → Nat
  | [], _, at' => at'
  | x :: xs, i, at' => findL key xs (i + 1) (if ltS key x.fr then at' else i)

def hdF : List Pl → ByteArray
  | [] => .empty
  | x :: _ => x.fr

def rfindL (key : ByteArray) : List Pl → Nat → Nat
  | [], _ => 0
  | x :: xs, i => if withinB x.fr (hdF xs) key then i else rfindL key xs (i + 1)

def ofI (l : List Pl) (g : Int) : Nat := l.findIdx fun x => decide (x.gr = g)

def ofV (l : List Pl) (g : Int) : Value := if ofI l g < l.length then .tuple #[I (ofI l g), .bool true] else .tuple #[I 0, .bool false]

theorem pl_grc {m : M} {b o i : Nat} {l : List Pl} (h : CellsAt m b o (pls l)) (hi : i < l.length) : CellsAt m b (o + i * 3 + 0) [I l[i].gr] :=
  ⟨fun j hj => by
    have hj : j = 0 := by simpa using hj
    subst hj
    have := (pl_at h hi).out 0 (by simp [encPl])
    simpa [encPl] using this⟩

theorem pl_frc {m : M} {b o i : Nat} {l : List Pl} (h : CellsAt m b o (pls l)) (hi : i < l.length) : CellsAt m b (o + i * 3 + 1) [.string l[i].fr] :=
  ⟨fun j hj => by
    have hj : j = 0 := by simpa using hj
    subst hj
    have := (pl_at h hi).out 1 (by simp [encPl])
    simpa [encPl] using this⟩

theorem wrap1 {k n : Nat} (h : k < n) (hn : n ≤ 9223372036854775807) : IntKind.i64.wrap ((k : Int) + 1) = ((k + 1 : Nat) : Int) := by
  rw [IntKind.wrap_i64]; omega

theorem hdF_drop (l : List Pl) (k : Nat) : hdF (l.drop (k + 1)) = endP l k := by
  unfold endP
  cases h : l[k + 1]? with
  | none => rw [List.drop_eq_nil_of_le (by simpa using h)]; rfl
  | some x =>
    obtain ⟨hlt, e⟩ := List.getElem?_eq_some_iff.1 h
    rw [List.drop_eq_getElem_cons hlt, e]; rfl

theorem ofI_at {l : List Pl} {g : Int} {k : Nat} (hk : k < l.length) (hg : l[k].gr = g) (h : ∀ j (hj : j < l.length), j < k → l[j].gr ≠ g) : ofI l g = k :=
  (List.findIdx_eq hk).2 ⟨by simp [hg], fun j hj => by simpa using h j (by omega) hj⟩

theorem ofI_no {l : List Pl} {g : Int} (h : ∀ j (hj : j < l.length), j < l.length → l[j].gr ≠ g) : ofI l g = l.length :=
  List.findIdx_eq_length.2 fun x hx => by
    obtain ⟨j, hj, rfl⟩ := List.getElem_of_mem hx
    simpa using h j hj hj

structure FdX where
  i : Nat
  at' : Nat

theorem rg_find (l : List Pl) (a : Option Addr) (c : Nat) (key : ByteArray) (hl : l.length ≤ 9223372036854775807) (m : M) (h : Row m a (pls l)) :
    QSpec Try.prog 16 [.slice a l.length c, .string key] m (I (findL key l 0 0)) := by
  refine QSpec.of_vc Try.func16 (ann := fun n _ => { A := FdX, inv := fun x => x.i ≤ l.length ∧ findL key (l.drop x.i) x.i x.at' = findL key l 0 0, st := fun x => [(10, .val (I x.i)), (9, .val (I l.length)), (8, .val (.slice a l.length c)), (1, .val (.string key)), (5, .val (I x.at'))], own := fun _ => [], m := fun _ => { m with sz := n }, μ := fun x => l.length - x.i }) fun n hn => ?_
  refine vc_by (X :=
      true = true ∧
      (∃ (a_1 : FdX),
      (a_1.i ≤ l.length ∧ findL key (List.drop a_1.i l) a_1.i a_1.at' = findL key l (0 : Nat) (0 : Nat)) ∧
      { π := m.π, sz := n, uf := m.uf : M } = { π := m.π, sz := n, uf := m.uf : M } ∧
      ((SV.val (Value.int IntKind.i64 (0 : Int)) = SV.val (Value.int IntKind.i64 (↑a_1.i : Int)) ∧ true = true) ∧
      (SV.val (Value.int IntKind.i64 (↑l.length : Int)) = SV.val (Value.int IntKind.i64 (↑l.length : Int)) ∧ true = true) ∧
      (SV.val (Value.slice a l.length c) = SV.val (Value.slice a l.length c) ∧ true = true) ∧
      (SV.val (Value.string key) = SV.val (Value.string key) ∧ true = true) ∧
      (SV.val (Value.int IntKind.i64 (0 : Int)) = SV.val (Value.int IntKind.i64 (↑a_1.at' : Int)) ∧ true = true) ∧ True) ∧
      True) ∧
      ∀ (a_1 : FdX),
      a_1.i ≤ l.length ∧ findL key (List.drop a_1.i l) a_1.i a_1.at' = findL key l (0 : Nat) (0 : Nat) →
      ifB (decide ((↑a_1.i : Int) < (↑l.length : Int)))
      (∃ (b : Nat),
      ∃ (off : Nat),
      a = some { block := b, off := off : Addr } ∧
      ((0 : Int) ≤ (↑a_1.i : Int) ∧ (↑a_1.i : Int) < (↑l.length : Int)) ∧
      ∃ (n_1 : Int),
      ∃ (s : ByteArray),
      ∃ (n_2 : Int),
      CellsAt { π := m.π, sz := n, uf := m.uf : M } b (off + (↑a_1.i : Int).toNat * (3 : Nat))
      [Value.int IntKind.i64 n_1, Value.string s, Value.int IntKind.i64 n_2] ∧
      ifB (Op.bytesLess s.toList key.toList || s.toList == key.toList)
      (∃ (a' : FdX),
      ((a'.i ≤ l.length ∧ findL key (List.drop a'.i l) a'.i a'.at' = findL key l (0 : Nat) (0 : Nat)) ∧
      { π := m.π, sz := n, uf := m.uf : M } = { π := m.π, sz := n, uf := m.uf : M } ∧
      ((SV.val (Value.int IntKind.i64 (IntKind.i64.wrap ((↑a_1.i : Int) + (1 : Int)))) = SV.val (Value.int IntKind.i64 (↑a'.i : Int)) ∧ true = true) ∧
      (SV.val (Value.int IntKind.i64 (↑l.length : Int)) = SV.val (Value.int IntKind.i64 (↑l.length : Int)) ∧ true = true) ∧
      (SV.val (Value.slice a l.length c) = SV.val (Value.slice a l.length c) ∧ true = true) ∧
      (SV.val (Value.string key) = SV.val (Value.string key) ∧ true = true) ∧
      (SV.val (Value.int IntKind.i64 (↑a_1.i : Int)) = SV.val (Value.int IntKind.i64 (↑a'.at' : Int)) ∧ true = true) ∧ True) ∧
      True) ∧
      l.length - a'.i < l.length - a_1.i)
      (∃ (a' : FdX),
      ((a'.i ≤ l.length ∧ findL key (List.drop a'.i l) a'.i a'.at' = findL key l (0 : Nat) (0 : Nat)) ∧
      { π := m.π, sz := n, uf := m.uf : M } = { π := m.π, sz := n, uf := m.uf : M } ∧
      ((SV.val (Value.int IntKind.i64 (IntKind.i64.wrap ((↑a_1.i : Int) + (1 : Int)))) = SV.val (Value.int IntKind.i64 (↑a'.i : Int)) ∧ true = true) ∧
      (SV.val (Value.int IntKind.i64 (↑l.length : Int)) = SV.val (Value.int IntKind.i64 (↑l.length : Int)) ∧ true = true) ∧
      (SV.val (Value.slice a l.length c) = SV.val (Value.slice a l.length c) ∧ true = true) ∧
      (SV.val (Value.string key) = SV.val (Value.string key) ∧ true = true) ∧
      (SV.val (Value.int IntKind.i64 (↑a_1.at' : Int)) = SV.val (Value.int IntKind.i64 (↑a'.at' : Int)) ∧ true = true) ∧ True) ∧
      True) ∧
      l.length - a'.i < l.length - a_1.i))
      (Done (Value.int IntKind.i64 (↑a_1.at' : Int) = Value.int IntKind.i64 (↑(findL key l (0 : Nat) (0 : Nat)) : Int)))) (by kernel_rfl) ?_
  refine ⟨rfl, ⟨⟨0, 0⟩, ⟨Nat.zero_le _, rfl⟩, by simp⟩, fun ⟨k, q⟩ ⟨hk, hf⟩ => ifB_intro (fun h1 => ?_) (fun h1 => ⟨?_⟩)⟩
  · have hlt : k < l.length := by simpa using h1
    obtain ⟨b, o, rfl, hc⟩ := (h.sz hn).cells (by rw [pl_len]; omega)
    simp only at hf hk ⊢
    rw [List.drop_eq_getElem_cons hlt] at hf
    simp only [findL] at hf
    refine ⟨b, o, rfl, by omega, _, _, _, by simpa using pl_at hc hlt, ?_⟩
    rw [ltS_leq, wrap1 hlt hl]
    refine ifB_intro (fun h2 => ⟨⟨k + 1, k⟩, ⟨⟨by simp only; omega, ?_⟩, by simp⟩, by simp only; omega⟩) (fun h2 => ⟨⟨k + 1, q⟩, ⟨⟨by simp only; omega, ?_⟩, by simp⟩, by simp only; omega⟩)
    · rw [← hf]; simp at h2; simp [h2]
    · rw [← hf]; simp at h2; simp [h2]
  · have hk : k ≤ l.length := hk
    have : k = l.length := by simp at h1; omega
    subst this
    simp only [List.drop_length, findL] at hf
    rw [hf]

theorem rg_of (l : List Pl) (a : Option Addr) (c : Nat) (g : Int) (hl : l.length ≤ 9223372036854775807) (m : M) (h : Row m a (pls l)) :
    QSpec Try.prog 11 [.slice a l.length c, I g] m (ofV l g) := by
  refine QSpec.of_vc Try.func11 (ann := fun n _ => { A := Nat, inv := fun k => k ≤ l.length ∧ ∀ j (hj : j < l.length), j < k → l[j].gr ≠ g, st := fun k => [(10, .val (I k)), (9, .val (I l.length)), (8, .val (.slice a l.length c)), (1, .val (I g))], own := fun _ => [], m := fun _ => { m with sz := n }, μ := fun k => l.length - k }) fun n hn => ?_
  refine vc_by (X :=
      true = true ∧
      (∃ (a_1 : Nat),
      (a_1 ≤ l.length ∧ ∀ (j : Nat) (hj : j < l.length), j < a_1 → l[j].gr ≠ g) ∧
      { π := m.π, sz := n, uf := m.uf : M } = { π := m.π, sz := n, uf := m.uf : M } ∧
      ((SV.val (Value.int IntKind.i64 (0 : Int)) = SV.val (Value.int IntKind.i64 (↑a_1 : Int)) ∧ true = true) ∧
      (SV.val (Value.int IntKind.i64 (↑l.length : Int)) = SV.val (Value.int IntKind.i64 (↑l.length : Int)) ∧ true = true) ∧
      (SV.val (Value.slice a l.length c) = SV.val (Value.slice a l.length c) ∧ true = true) ∧
      (SV.val (Value.int IntKind.i64 g) = SV.val (Value.int IntKind.i64 g) ∧ true = true) ∧ True) ∧
      True) ∧
      ∀ (a_1 : Nat),
      (a_1 ≤ l.length ∧ ∀ (j : Nat) (hj : j < l.length), j < a_1 → l[j].gr ≠ g) →
      ifB (decide ((↑a_1 : Int) < (↑l.length : Int)))
      (∃ (b : Nat),
      ∃ (off : Nat),
      a = some { block := b, off := off : Addr } ∧
      ((0 : Int) ≤ (↑a_1 : Int) ∧ (↑a_1 : Int) < (↑l.length : Int)) ∧
      ∃ (n_1 : Int),
      ∃ (s : ByteArray),
      ∃ (n_2 : Int),
      CellsAt { π := m.π, sz := n, uf := m.uf : M } b (off + (↑a_1 : Int).toNat * (3 : Nat))
      [Value.int IntKind.i64 n_1, Value.string s, Value.int IntKind.i64 n_2] ∧
      ifB (n_1 == g) (Done (Value.tuple #[Value.int IntKind.i64 (↑a_1 : Int), Value.bool true] = ofV l g))
      (∃ (a' : Nat),
      ((a' ≤ l.length ∧ ∀ (j : Nat) (hj : j < l.length), j < a' → l[j].gr ≠ g) ∧
      { π := m.π, sz := n, uf := m.uf : M } = { π := m.π, sz := n, uf := m.uf : M } ∧
      ((SV.val (Value.int IntKind.i64 (IntKind.i64.wrap ((↑a_1 : Int) + (1 : Int)))) = SV.val (Value.int IntKind.i64 (↑a' : Int)) ∧ true = true) ∧
      (SV.val (Value.int IntKind.i64 (↑l.length : Int)) = SV.val (Value.int IntKind.i64 (↑l.length : Int)) ∧ true = true) ∧
      (SV.val (Value.slice a l.length c) = SV.val (Value.slice a l.length c) ∧ true = true) ∧
      (SV.val (Value.int IntKind.i64 g) = SV.val (Value.int IntKind.i64 g) ∧ true = true) ∧ True) ∧
      True) ∧
      l.length - a' < l.length - a_1))
      (Done (Value.tuple #[Value.int IntKind.i64 (0 : Int), Value.bool false] = ofV l g))) (by kernel_rfl) ?_
  refine ⟨rfl, ⟨0, ⟨by omega, fun j hj hk => by omega⟩, by simp⟩, fun k ⟨hk, hf⟩ => ifB_intro (fun h1 => ?_) (fun h1 => ⟨?_⟩)⟩
  · have hlt : k < l.length := by simpa using h1
    obtain ⟨b, o, rfl, hc⟩ := (h.sz hn).cells (by rw [pl_len]; omega)
    refine ⟨b, o, rfl, by omega, _, _, _, by simpa using pl_at hc hlt, ?_⟩
    rw [wrap1 hlt hl]
    refine ifB_intro (fun h2 => ⟨?_⟩) (fun h2 => ⟨k + 1, ⟨⟨by omega, fun j hj hj2 => ?_⟩, by simp⟩, by omega⟩)
    · have e := ofI_at hlt (by simpa using h2) hf
      simp [ofV, e, hlt]
    · by_cases e : j = k
      · subst e; simpa using h2
      · exact hf j hj (by omega)
  · have : k = l.length := by simp at h1; omega
    subst this
    simp [ofV, ofI_no hf]

theorem rf_of (l : List Pl) (a : Option Addr) (c : Nat) (g : Int) (hl : l.length ≤ 9223372036854775807) (m : M) (h : Row m a (pls l)) :
    QSpec Try.prog 20 [.slice a l.length c, I g] m (ofV l g) := by
  refine QSpec.of_vc Try.func20 (ann := fun n _ => { A := Nat, inv := fun k => k ≤ l.length ∧ ∀ j (hj : j < l.length), j < k → l[j].gr ≠ g, st := fun k => [(6, .val (I k)), (0, .val (.slice a l.length c)), (1, .val (I g))], own := fun _ => [], m := fun _ => { m with sz := n }, μ := fun k => l.length - k }) fun n hn => ?_
  refine vc_by (X :=
      true = true ∧
      (∃ (a_1 : Nat),
      (a_1 ≤ l.length ∧ ∀ (j : Nat) (hj : j < l.length), j < a_1 → l[j].gr ≠ g) ∧
      { π := m.π, sz := n, uf := m.uf : M } = { π := m.π, sz := n, uf := m.uf : M } ∧
      ((SV.val (Value.int IntKind.i64 (0 : Int)) = SV.val (Value.int IntKind.i64 (↑a_1 : Int)) ∧ true = true) ∧
      (SV.val (Value.slice a l.length c) = SV.val (Value.slice a l.length c) ∧ true = true) ∧
      (SV.val (Value.int IntKind.i64 g) = SV.val (Value.int IntKind.i64 g) ∧ true = true) ∧ True) ∧
      True) ∧
      ∀ (a_1 : Nat),
      (a_1 ≤ l.length ∧ ∀ (j : Nat) (hj : j < l.length), j < a_1 → l[j].gr ≠ g) →
      ifB (decide ((↑a_1 : Int) < (↑l.length : Int)))
      (∃ (b : Nat),
      ∃ (off : Nat),
      a = some { block := b, off := off : Addr } ∧
      ((0 : Int) ≤ (↑a_1 : Int) ∧ (↑a_1 : Int) < (↑l.length : Int)) ∧
      ∃ (n_1 : Int),
      CellsAt { π := m.π, sz := n, uf := m.uf : M } b (off + (↑a_1 : Int).toNat * (3 : Nat) + (0 : Nat)) [Value.int IntKind.i64 n_1] ∧
      ifB (n_1 == g) (Done (Value.tuple #[Value.int IntKind.i64 (↑a_1 : Int), Value.bool true] = ofV l g))
      (∃ (a' : Nat),
      ((a' ≤ l.length ∧ ∀ (j : Nat) (hj : j < l.length), j < a' → l[j].gr ≠ g) ∧
      { π := m.π, sz := n, uf := m.uf : M } = { π := m.π, sz := n, uf := m.uf : M } ∧
      ((SV.val (Value.int IntKind.i64 (IntKind.i64.wrap ((↑a_1 : Int) + (1 : Int)))) = SV.val (Value.int IntKind.i64 (↑a' : Int)) ∧ true = true) ∧
      (SV.val (Value.slice a l.length c) = SV.val (Value.slice a l.length c) ∧ true = true) ∧
      (SV.val (Value.int IntKind.i64 g) = SV.val (Value.int IntKind.i64 g) ∧ true = true) ∧ True) ∧
      True) ∧
      l.length - a' < l.length - a_1))
      (Done (Value.tuple #[Value.int IntKind.i64 (0 : Int), Value.bool false] = ofV l g))) (by kernel_rfl) ?_
  refine ⟨rfl, ⟨0, ⟨by omega, fun j hj hk => by omega⟩, by simp⟩, fun k ⟨hk, hf⟩ => ifB_intro (fun h1 => ?_) (fun h1 => ⟨?_⟩)⟩
  · have hlt : k < l.length := by simpa using h1
    obtain ⟨b, o, rfl, hc⟩ := (h.sz hn).cells (by rw [pl_len]; omega)
    refine ⟨b, o, rfl, by omega, _, by simpa using pl_grc hc hlt, ?_⟩
    rw [wrap1 hlt hl]
    refine ifB_intro (fun h2 => ⟨?_⟩) (fun h2 => ⟨k + 1, ⟨⟨by omega, fun j hj hj2 => ?_⟩, by simp⟩, by omega⟩)
    · have e := ofI_at hlt (by simpa using h2) hf
      simp [ofV, e, hlt]
    · by_cases e : j = k
      · subst e; simpa using h2
      · exact hf j hj (by omega)
  · have : k = l.length := by simp at h1; omega
    subst this
    simp [ofV, ofI_no hf]

theorem rf_end (l : List Pl) (a : Option Addr) (c : Nat) (i : Int) (hi : In64 i) (hl : l.length ≤ 9223372036854775807) (m : M) (h : Row m a (pls l)) :
    QSpec Try.prog 22 [.slice a l.length c, I i] m (.string (endI l i)) := by
  refine QSpec.of_vc Try.func22 (ann := fun _ => noAnn) fun n hn => ?_
  refine vc_by (X :=
      true = true ∧
      ifB (decide (i < (0 : Int))) (Done (Value.string { data := #[] : ByteArray } = Value.string (endI l i)))
      (ifB (decide (i ≥ IntKind.i64.wrap ((↑l.length : Int) - (1 : Int)))) (Done (Value.string { data := #[] : ByteArray } = Value.string (endI l i)))
      (∃ (b : Nat),
      ∃ (off : Nat),
      a = some { block := b, off := off : Addr } ∧
      ((0 : Int) ≤ IntKind.i64.wrap (i + (1 : Int)) ∧ IntKind.i64.wrap (i + (1 : Int)) < (↑l.length : Int)) ∧
      ∃ (s : ByteArray),
      CellsAt { π := m.π, sz := n, uf := m.uf : M } b (off + (IntKind.i64.wrap (i + (1 : Int))).toNat * (3 : Nat) + (1 : Nat)) [Value.string s] ∧
      Done (Value.string s = Value.string (endI l i))))) (by kernel_rfl) ?_
  have h' := h.sz hn
  have w0 : IntKind.i64.wrap ((l.length : Int) - 1) = (l.length : Int) - 1 := by rw [IntKind.wrap_i64]; omega
  rw [w0]
  refine ⟨rfl, ifB_intro (fun h1 => ⟨?_⟩) (fun h1 => ifB_intro (fun h2 => ⟨?_⟩) (fun h2 => ?_))⟩
  · have : i < 0 := by simpa using h1
    simp [endI, show ¬ 0 ≤ i by omega]; rfl
  · have h1 : 0 ≤ i := by simpa using h1
    have h2 : (l.length : Int) - 1 ≤ i := by simpa using h2
    simp [endI, h1, endP, show l[i.toNat + 1]? = none by rw [List.getElem?_eq_none_iff]; omega]; rfl
  · have h1 : 0 ≤ i := by simpa using h1
    have h2 : i < (l.length : Int) - 1 := by simpa using h2
    have w1 : IntKind.i64.wrap (i + 1) = ((i.toNat + 1 : Nat) : Int) := by rw [IntKind.wrap_i64]; omega
    have hlt : i.toNat + 1 < l.length := by omega
    rw [w1]
    obtain ⟨b, o, rfl, hc⟩ := h'.cells (by rw [pl_len]; omega)
    refine ⟨b, o, rfl, by omega, l[i.toNat + 1].fr, ?_, ⟨by simp [endI, h1, endP, hlt]⟩⟩
    have := pl_at hc hlt
    simp only [Int.toNat_natCast]
    exact ⟨fun j hj => by
      have hj : j = 0 := by simpa using hj
      subst hj
      have := this.out 1 (by simp [encPl])
      simpa [encPl] using this⟩

theorem rf_find (l : List Pl) (a : Option Addr) (c : Nat) (key : ByteArray) (hl : l.length ≤ 9223372036854775807) (m : M) (h : Row m a (pls l)) :
    QSpec Try.prog 21 [.slice a l.length c, .string key] m (I (rfindL key l 0)) := by
  refine QSpec.of_vc Try.func21 (ann := fun n _ => { A := Nat, inv := fun k => k ≤ l.length ∧ rfindL key (l.drop k) k = rfindL key l 0, st := fun k => [(5, .val (I k)), (0, .val (.slice a l.length c)), (1, .val (.string key))], own := fun _ => [], m := fun _ => { m with sz := n }, μ := fun k => l.length - k }) fun n hn => ?_
  refine vc_by (X :=
      true = true ∧
      (∃ (a_1 : Nat),
      (a_1 ≤ l.length ∧ rfindL key (List.drop a_1 l) a_1 = rfindL key l (0 : Nat)) ∧
      { π := m.π, sz := n, uf := m.uf : M } = { π := m.π, sz := n, uf := m.uf : M } ∧
      ((SV.val (Value.int IntKind.i64 (0 : Int)) = SV.val (Value.int IntKind.i64 (↑a_1 : Int)) ∧ true = true) ∧
      (SV.val (Value.slice a l.length c) = SV.val (Value.slice a l.length c) ∧ true = true) ∧
      (SV.val (Value.string key) = SV.val (Value.string key) ∧ true = true) ∧ True) ∧
      True) ∧
      ∀ (a_1 : Nat),
      a_1 ≤ l.length ∧ rfindL key (List.drop a_1 l) a_1 = rfindL key l (0 : Nat) →
      ifB (decide ((↑a_1 : Int) < (↑l.length : Int)))
      (true = true ∧
      ∃ (b : Nat),
      ∃ (off : Nat),
      a = some { block := b, off := off : Addr } ∧
      ((0 : Int) ≤ (↑a_1 : Int) ∧ (↑a_1 : Int) < (↑l.length : Int)) ∧
      ∃ (s : ByteArray),
      CellsAt { π := m.π, sz := n, uf := m.uf : M } b (off + (↑a_1 : Int).toNat * (3 : Nat) + (1 : Nat)) [Value.string s] ∧
      ∃ (s_1 : ByteArray),
      QSpec Try.prog (22 : Nat) [Value.slice a l.length c, Value.int IntKind.i64 (↑a_1 : Int)] { π := m.π, sz := n, uf := m.uf : M } (Value.string s_1) ∧
      ∃ (b : Bool),
      QSpec Try.prog (14 : Nat) [Value.string s, Value.string s_1, Value.string key] { π := m.π, sz := n, uf := m.uf : M } (Value.bool b) ∧
      ifB b (Done (Value.int IntKind.i64 (↑a_1 : Int) = Value.int IntKind.i64 (↑(rfindL key l (0 : Nat)) : Int)))
      (∃ (a' : Nat),
      ((a' ≤ l.length ∧ rfindL key (List.drop a' l) a' = rfindL key l (0 : Nat)) ∧
      { π := m.π, sz := n, uf := m.uf : M } = { π := m.π, sz := n, uf := m.uf : M } ∧
      ((SV.val (Value.int IntKind.i64 (IntKind.i64.wrap ((↑a_1 : Int) + (1 : Int)))) = SV.val (Value.int IntKind.i64 (↑a' : Int)) ∧
      true = true) ∧
      (SV.val (Value.slice a l.length c) = SV.val (Value.slice a l.length c) ∧ true = true) ∧
      (SV.val (Value.string key) = SV.val (Value.string key) ∧ true = true) ∧ True) ∧
      True) ∧
      l.length - a' < l.length - a_1))
      (Done (Value.int IntKind.i64 (0 : Int) = Value.int IntKind.i64 (↑(rfindL key l (0 : Nat)) : Int)))) (by kernel_rfl) ?_
  refine ⟨rfl, ⟨0, ⟨by omega, rfl⟩, by simp⟩, fun k ⟨hk, hf⟩ => ifB_intro (fun h1 => ?_) (fun h1 => ⟨?_⟩)⟩
  · have hlt : k < l.length := by simpa using h1
    have hr := h.sz hn
    obtain ⟨b, o, rfl, hc⟩ := hr.cells (by rw [pl_len]; omega)
    rw [List.drop_eq_getElem_cons hlt] at hf
    simp only [rfindL] at hf
    have he : endI l (k : Int) = endP l k := by simp [endI]
    refine ⟨rfl, b, o, rfl, by omega, _, by simpa using pl_frc hc hlt, endP l k, he ▸ rf_end l _ c k ⟨by omega, by omega⟩ hl _ hr, _, rf_within _ _ _ _, ?_⟩
    rw [hdF_drop] at hf
    rw [wrap1 hlt hl]
    refine ifB_intro (fun h2 => ⟨?_⟩) (fun h2 => ⟨k + 1, ⟨⟨by omega, ?_⟩, by simp⟩, by omega⟩)
    · rw [h2] at hf; simp only [if_true] at hf; rw [hf]
    · rw [h2] at hf; simpa using hf
  · have : k = l.length := by simp at h1; omega
    subst this
    simp only [List.drop_length, rfindL] at hf
    rw [← hf]; rfl

end Go.Proofs.Ytpnpebefcmgjoaa
