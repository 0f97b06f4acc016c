/-
  Contracts of functions of this seat: what each hands back, and what it leaves of memory (acc1). Nothing here is trusted: Lean checks it.
-/
import Derived.Test.YtfkielfnceeedaaNum
set_option linter.unusedVariables false
set_option linter.unusedSimpArgs false
namespace Go.Proofs.Ytfkielfnceeedaa
open Go.Vc Go.RowKit

structure Hd where
  nd : Int
  le : Int
  up : Int
  dn : Int

structure Lk where
  cl : Int
  sq : Int
  hm : Int
  n : Int

structure Ac where
  key : ByteArray
  lo : Int
  hi : Int
  base : Int
  round : Int
  hs : List Hd
  lk : Lk

def Hd.wf (h : Hd) : Prop := In64 h.nd ∧ In64 h.le ∧ In64 h.up ∧ In64 h.dn

def Lk.wf (h : Lk) : Prop := In64 h.cl ∧ In64 h.sq ∧ In64 h.hm ∧ In64 h.n

structure Ac.wf (x : Ac) : Prop where
  key : x.key.size ≤ 9223372036854775807
  lo : In64 x.lo
  hi : In64 x.hi
  base : In64 x.base
  round : In64 x.round
  hs : ∀ h ∈ x.hs, h.wf
  len : x.hs.length ≤ 9223372036854775807
  lk : x.lk.wf

abbrev encH (h : Hd) : List Value := [I h.nd, I h.le, I h.up, I h.dn]

abbrev hds (l : List Hd) : List Value := l.flatMap encH

abbrev lkc (k : Lk) : List Value := [I k.cl, I k.sq, I k.hm, I k.n]

abbrev acc (x : Ac) (a : Option Addr) (c : Nat) : List Value := [.string x.key, I x.lo, I x.hi, I x.base, I x.round, .slice a x.hs.length c, I x.lk.cl, I x.lk.sq, I x.lk.hm, I x.lk.n]

abbrev acv (x : Ac) (a : Option Addr) (c : Nat) : Value := .agg #[.string x.key, I x.lo, I x.hi, I x.base, I x.round, .slice a x.hs.length c, I x.lk.cl, I x.lk.sq, I x.lk.hm, I x.lk.n]

theorem hds_len (l : List Hd) : (hds l).length = l.length * 4 := by
  induction l with
  | nil => rfl
  | cons x r ih => simp only [hds, List.flatMap_cons, List.length_append, List.length_cons, List.length_nil] at *; omega

theorem hd_at {m : M} {b o i : Nat} {l : List Hd} (h : CellsAt m b o (hds l)) (hi : i < l.length) : CellsAt m b (o + i * 4) (encH l[i]) :=
  CellsAt.elem (k := 4) (enc := encH) (fun _ => rfl) l o i hi h

def hdB (last : Int) (h : Hd) : Bool := decide (last < h.nd) && decide (h.nd ≤ 5) && decide (1 ≤ h.le) && decide (0 ≤ h.up) && decide (0 ≤ h.dn)

def holdB : Int → List Hd → Bool
  | _, [] => true
  | last, h :: r => hdB last h && holdB h.nd r

def lastNd (l : List Hd) : Nat → Int
  | 0 => 0
  | k + 1 => match l[k]? with | some h => h.nd | none => 0

theorem holdB_drop {l : List Hd} {k : Nat} (hk : k < l.length) (last : Int) : holdB last (l.drop k) = (hdB last l[k] && holdB l[k].nd (l.drop (k + 1))) := by
  rw [List.drop_eq_getElem_cons hk]; rfl

theorem lastNd_succ {l : List Hd} {k : Nat} (hk : k < l.length) : lastNd l (k + 1) = l[k].nd := by
  simp [lastNd, List.getElem?_eq_getElem hk]

theorem hold_bounds : ∀ (l : List Hd) (last : Int), holdB last l = true → (l.length : Int) ≤ 5 - last ∨ l = []
  | [], _, _ => .inr rfl
  | h :: r, last, hb => by
    simp only [holdB, hdB, Bool.and_eq_true, decide_eq_true_eq] at hb
    left
    rcases hold_bounds r h.nd hb.2 with h1 | rfl
    · simp only [List.length_cons]; omega
    · simp only [List.length_cons, List.length_nil]; omega

theorem hold_len {l : List Hd} (h : holdB 0 l = true) : l.length ≤ 5 := by
  rcases hold_bounds l 0 h with h1 | rfl
  · omega
  · simp

theorem holders_q (a : Option Addr) (c : Nat) (l : List Hd) (hn : l.length ≤ 9223372036854775807) (m : M) (h : Row m a (hds l)) :
    QSpec Try.prog 87 [.slice a l.length c] m (.bool (holdB 0 l)) := by
  refine QSpec.of_vc Try.func87 (ann := fun n _ => { A := Nat, inv := fun k => k ≤ l.length ∧ holdB 0 l = holdB (lastNd l k) (l.drop k), st := fun k => [(8, .val (I k)), (7, .val (I l.length)), (6, .val (.slice a l.length c)), (3, .val (I (lastNd l k)))], own := fun _ => [], m := fun _ => { m with sz := n }, μ := fun k => l.length - k }) fun n hn => ?_
  refine vc_by (X :=
      true = true ∧
      (∃ (a_1 : Nat),
      (a_1 ≤ l.length ∧ holdB (0 : Int) l = holdB (lastNd l a_1) (List.drop a_1 l)) ∧
      { π := m.π, sz := n, uf := m.uf : M } = { π := m.π, sz := n, uf := m.uf : M } ∧
      ((SV.val (Value.int IntKind.i64 (0 : Int)) = SV.val (Value.int IntKind.i64 (↑a_1 : Int)) ∧ true = true) ∧
      (SV.val (Value.int IntKind.i64 (↑l.length : Int)) = SV.val (Value.int IntKind.i64 (↑l.length : Int)) ∧ true = true) ∧
      (SV.val (Value.slice a l.length c) = SV.val (Value.slice a l.length c) ∧ true = true) ∧
      (SV.val (Value.int IntKind.i64 (0 : Int)) = SV.val (Value.int IntKind.i64 (lastNd l a_1)) ∧ true = true) ∧ True) ∧
      True) ∧
      ∀ (a_1 : Nat),
      a_1 ≤ l.length ∧ holdB (0 : Int) l = holdB (lastNd l a_1) (List.drop a_1 l) →
      ifB (decide ((↑a_1 : Int) < (↑l.length : Int)))
      (∃ (b : Nat),
      ∃ (off : Nat),
      a = some { block := b, off := off : Addr } ∧
      ((0 : Int) ≤ (↑a_1 : Int) ∧ (↑a_1 : Int) < (↑l.length : Int)) ∧
      ∃ (n_1 : Int),
      ∃ (n_2 : Int),
      ∃ (n_3 : Int),
      ∃ (n_4 : Int),
      CellsAt { π := m.π, sz := n, uf := m.uf : M } b (off + (↑a_1 : Int).toNat * (4 : Nat))
      [Value.int IntKind.i64 n_1, Value.int IntKind.i64 n_2, Value.int IntKind.i64 n_3, Value.int IntKind.i64 n_4] ∧
      ifB (decide (n_1 ≤ lastNd l a_1)) (Done (Value.bool false = Value.bool (holdB (0 : Int) l)))
      (ifB (decide (n_1 > (5 : Int))) (Done (Value.bool false = Value.bool (holdB (0 : Int) l)))
      (ifB (decide (n_2 < (1 : Int))) (Done (Value.bool false = Value.bool (holdB (0 : Int) l)))
      (ifB (decide (n_3 < (0 : Int))) (Done (Value.bool false = Value.bool (holdB (0 : Int) l)))
      (ifB (decide (n_4 < (0 : Int))) (Done (Value.bool false = Value.bool (holdB (0 : Int) l)))
      (∃ (a' : Nat),
      ((a' ≤ l.length ∧ holdB (0 : Int) l = holdB (lastNd l a') (List.drop a' l)) ∧
      { π := m.π, sz := n, uf := m.uf : M } = { π := m.π, sz := n, uf := m.uf : M } ∧
      ((SV.val (Value.int IntKind.i64 (IntKind.i64.wrap ((↑a_1 : Int) + (1 : Int)))) = SV.val (Value.int IntKind.i64 (↑a' : Int)) ∧
      true = true) ∧
      (SV.val (Value.int IntKind.i64 (↑l.length : Int)) = SV.val (Value.int IntKind.i64 (↑l.length : Int)) ∧ true = true) ∧
      (SV.val (Value.slice a l.length c) = SV.val (Value.slice a l.length c) ∧ true = true) ∧
      (SV.val (Value.int IntKind.i64 n_1) = SV.val (Value.int IntKind.i64 (lastNd l a')) ∧ true = true) ∧ True) ∧
      True) ∧
      l.length - a' < l.length - a_1))))))
      (Done (Value.bool true = Value.bool (holdB (0 : Int) l)))) (by kernel_rfl) ?_
  have h' := h.sz hn
  refine ⟨rfl, ⟨0, by simp [lastNd]⟩, fun k ⟨hk, hq⟩ => ifB_intro (fun hb => ?_) (fun hb => ⟨?_⟩)⟩
  · have hk2 : k < l.length := by simpa using hb
    obtain ⟨b, o, rfl, hc⟩ := h'.cells (by rw [hds_len]; omega)
    have w1 : IntKind.i64.wrap ((k : Int) + 1) = ((k + 1 : Nat) : Int) := by simp [IntKind.wrap_i64]; omega
    rw [holdB_drop hk2] at hq
    refine ⟨b, o, rfl, by omega, _, _, _, _, by simpa using hd_at hc hk2, ?_⟩
    refine ifB_intro (fun h1 => ⟨?_⟩) (fun h1 => ifB_intro (fun h2 => ⟨?_⟩) (fun h2 => ifB_intro (fun h3 => ⟨?_⟩) (fun h3 => ifB_intro (fun h4 => ⟨?_⟩) (fun h4 => ifB_intro (fun h5 => ⟨?_⟩) (fun h5 => ⟨k + 1, ⟨⟨hk2, ?_⟩, rfl, ⟨⟨by rw [w1], rfl⟩, ⟨rfl, rfl⟩, ⟨rfl, rfl⟩, ⟨by rw [lastNd_succ hk2], rfl⟩, trivial⟩, trivial⟩, by omega⟩)))))
    · rw [hq]; simp [hdB] at *; omega
    · rw [hq]; simp [hdB] at *; omega
    · rw [hq]; simp [hdB] at *; omega
    · rw [hq]; simp [hdB] at *; omega
    · rw [hq]; simp [hdB] at *; omega
    · rw [hq, lastNd_succ hk2]; simp [hdB] at *; omega
  · have : k = l.length := by simp at hb; omega
    rw [hq, this]; simp [holdB]

end Go.Proofs.Ytfkielfnceeedaa
