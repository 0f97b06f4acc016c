/-
  Contracts of functions of this seat: what each hands back, and what it leaves of memory (acc6). Nothing here is trusted: Lean checks it.
-/
import Derived.Test.YtfkielfnceeedaaAcc5
set_option linter.unusedVariables false
set_option linter.unusedSimpArgs false
namespace Go.Proofs.Ytfkielfnceeedaa
open Go.Vc Go.RowKit

theorem wf_key (k : ByteArray) (hk : k.size ≤ 9223372036854775807) : (⟨k, 0, 0, 0, 0, [], ⟨0, 0, 0, 0⟩⟩ : Ac).wf :=
  ⟨hk, (by decide : In64 0), (by decide : In64 0), (by decide : In64 0), (by decide : In64 0), fun h hh => (by simp at hh), Nat.zero_le _, ⟨(by decide : In64 0), (by decide : In64 0), (by decide : In64 0), (by decide : In64 0)⟩⟩

theorem rfind_q (x : Ac) (a : Option Addr) (c : Nat) (nd : Int) (hx : x.wf) (m : M) (h : Row m a (hds x.hs)) : QSpec Try.prog 52 [acv x a c, I nd] m (.tuple #[hdv (findH x nd), .bool (findB x nd)]) := by
  refine QSpec.of_vc Try.func52 (ann := fun n _ => { A := Nat, inv := fun k => k ≤ x.hs.length ∧ fndH x.hs nd = fndH (x.hs.drop k) nd ∧ (rightB x = false → k = 0), st := fun k => [(6, .val (I k)), (2, .own 0 0), (1, .val (I nd)), (4, .own 1 0)], own := fun _ => [(0, ⟨46, acc x a c⟩), (1, ⟨67, [I 0, I 0, I 0, I 0]⟩)], m := fun _ => { m with sz := n }, μ := fun k => x.hs.length - k }) fun n hn => ?_
  refine vc_by (X :=
      true = true ∧
      (∃ (a_1 : Nat),
      (a_1 ≤ x.hs.length ∧ fndH x.hs nd = fndH (List.drop a_1 x.hs) nd ∧ (rightB x = false → a_1 = (0 : Nat))) ∧
      { π := m.π, sz := n, uf := m.uf : M } = { π := m.π, sz := n, uf := m.uf : M } ∧
      ((SV.val (Value.int IntKind.i64 (0 : Int)) = SV.val (Value.int IntKind.i64 (↑a_1 : Int)) ∧ true = true) ∧
      (SV.own ((0 : Nat) + (0 : Nat)) (0 : Nat) = SV.own (0 : Nat) (0 : Nat) ∧ true = true) ∧
      (SV.val (Value.int IntKind.i64 nd) = SV.val (Value.int IntKind.i64 nd) ∧ true = true) ∧
      (SV.own ((0 : Nat) + (1 : Nat)) (0 : Nat) = SV.own (1 : Nat) (0 : Nat) ∧ true = true) ∧ True) ∧
      (some
      { ty := (46 : Nat), cs := [Value.string x.key, Value.int IntKind.i64 x.lo, Value.int IntKind.i64 x.hi, Value.int IntKind.i64 x.base, Value.int IntKind.i64 x.round, Value.slice a x.hs.length c, Value.int IntKind.i64 x.lk.cl, Value.int IntKind.i64 x.lk.sq, Value.int IntKind.i64 x.lk.hm, Value.int IntKind.i64 x.lk.n] : Bx } =
      some
      { ty := (46 : TypeId), cs := [Value.string x.key, Value.int IntKind.i64 x.lo, Value.int IntKind.i64 x.hi, Value.int IntKind.i64 x.base, Value.int IntKind.i64 x.round, Value.slice a x.hs.length c, Value.int IntKind.i64 x.lk.cl, Value.int IntKind.i64 x.lk.sq, Value.int IntKind.i64 x.lk.hm, Value.int IntKind.i64 x.lk.n] : Bx } ∧
      true = true) ∧
      (some
      { ty := (67 : Nat), cs := [Value.int IntKind.i64 (0 : Int), Value.int IntKind.i64 (0 : Int), Value.int IntKind.i64 (0 : Int), Value.int IntKind.i64 (0 : Int)] : Bx } =
      some
      { ty := (67 : TypeId), cs := [Value.int IntKind.i64 (0 : Int), Value.int IntKind.i64 (0 : Int), Value.int IntKind.i64 (0 : Int), Value.int IntKind.i64 (0 : Int)] : Bx } ∧
      true = true) ∧
      True) ∧
      ∀ (a_1 : Nat),
      a_1 ≤ x.hs.length ∧ fndH x.hs nd = fndH (List.drop a_1 x.hs) nd ∧ (rightB x = false → a_1 = (0 : Nat)) →
      ∃ (b : Bool),
      QSpec Try.prog (32 : Nat)
      [Value.agg
      #[Value.string x.key, Value.int IntKind.i64 x.lo, Value.int IntKind.i64 x.hi, Value.int IntKind.i64 x.base, Value.int IntKind.i64 x.round,
      Value.slice a x.hs.length c, Value.int IntKind.i64 x.lk.cl, Value.int IntKind.i64 x.lk.sq, Value.int IntKind.i64 x.lk.hm, Value.int IntKind.i64 x.lk.n]]
      { π := m.π, sz := n, uf := m.uf : M } (Value.bool b) ∧
      ifB b
      (ifB (decide ((↑a_1 : Int) < (↑x.hs.length : Int)))
      (∃ (b : Nat),
      ∃ (off : Nat),
      a = some { block := b, off := off : Addr } ∧
      ((0 : Int) ≤ (↑a_1 : Int) ∧ (↑a_1 : Int) < (↑x.hs.length : Int)) ∧
      ∃ (n_1 : Int),
      CellsAt { π := m.π, sz := n, uf := m.uf : M } b (off + (↑a_1 : Int).toNat * (4 : Nat) + (0 : Nat)) [Value.int IntKind.i64 n_1] ∧
      ifB (n_1 == nd)
      (∃ (b : Nat),
      ∃ (off : Nat),
      a = some { block := b, off := off : Addr } ∧
      ((0 : Int) ≤ (↑a_1 : Int) ∧ (↑a_1 : Int) < (↑x.hs.length : Int)) ∧
      ∃ (n_2 : Int),
      ∃ (n_3 : Int),
      ∃ (n_4 : Int),
      ∃ (n_5 : Int),
      CellsAt { π := m.π, sz := n, uf := m.uf : M } b (off + (↑a_1 : Int).toNat * (4 : Nat))
      [Value.int IntKind.i64 n_2, Value.int IntKind.i64 n_3, Value.int IntKind.i64 n_4, Value.int IntKind.i64 n_5] ∧
      Done
      (Value.tuple
      #[Value.agg #[Value.int IntKind.i64 n_2, Value.int IntKind.i64 n_3, Value.int IntKind.i64 n_4, Value.int IntKind.i64 n_5],
      Value.bool true] =
      Value.tuple
      #[Value.agg
      #[Value.int IntKind.i64 (findH x nd).nd, Value.int IntKind.i64 (findH x nd).le, Value.int IntKind.i64 (findH x nd).up,
      Value.int IntKind.i64 (findH x nd).dn],
      Value.bool (findB x nd)]))
      (∃ (a' : Nat),
      ((a' ≤ x.hs.length ∧ fndH x.hs nd = fndH (List.drop a' x.hs) nd ∧ (rightB x = false → a' = (0 : Nat))) ∧
      { π := m.π, sz := n, uf := m.uf : M } = { π := m.π, sz := n, uf := m.uf : M } ∧
      ((SV.val (Value.int IntKind.i64 (IntKind.i64.wrap ((↑a_1 : Int) + (1 : Int)))) = SV.val (Value.int IntKind.i64 (↑a' : Int)) ∧ true = true) ∧
      (SV.own (0 : Nat) (0 : Nat) = SV.own (0 : Nat) (0 : Nat) ∧ true = true) ∧
      (SV.val (Value.int IntKind.i64 nd) = SV.val (Value.int IntKind.i64 nd) ∧ true = true) ∧
      (SV.own (1 : Nat) (0 : Nat) = SV.own (1 : Nat) (0 : Nat) ∧ true = true) ∧ True) ∧
      (some
      { ty := (46 : TypeId), cs := [Value.string x.key, Value.int IntKind.i64 x.lo, Value.int IntKind.i64 x.hi, Value.int IntKind.i64 x.base, Value.int IntKind.i64 x.round, Value.slice a x.hs.length c, Value.int IntKind.i64 x.lk.cl, Value.int IntKind.i64 x.lk.sq, Value.int IntKind.i64 x.lk.hm, Value.int IntKind.i64 x.lk.n] : Bx } =
      some
      { ty := (46 : TypeId), cs := [Value.string x.key, Value.int IntKind.i64 x.lo, Value.int IntKind.i64 x.hi, Value.int IntKind.i64 x.base, Value.int IntKind.i64 x.round, Value.slice a x.hs.length c, Value.int IntKind.i64 x.lk.cl, Value.int IntKind.i64 x.lk.sq, Value.int IntKind.i64 x.lk.hm, Value.int IntKind.i64 x.lk.n] : Bx } ∧
      true = true) ∧
      (some
      { ty := (67 : TypeId), cs := [Value.int IntKind.i64 (0 : Int), Value.int IntKind.i64 (0 : Int), Value.int IntKind.i64 (0 : Int), Value.int IntKind.i64 (0 : Int)] : Bx } =
      some
      { ty := (67 : TypeId), cs := [Value.int IntKind.i64 (0 : Int), Value.int IntKind.i64 (0 : Int), Value.int IntKind.i64 (0 : Int), Value.int IntKind.i64 (0 : Int)] : Bx } ∧
      true = true) ∧
      True) ∧
      x.hs.length - a' < x.hs.length - a_1))
      (Done
      (Value.tuple
      #[Value.agg #[Value.int IntKind.i64 (0 : Int), Value.int IntKind.i64 (0 : Int), Value.int IntKind.i64 (0 : Int), Value.int IntKind.i64 (0 : Int)],
      Value.bool false] =
      Value.tuple
      #[Value.agg
      #[Value.int IntKind.i64 (findH x nd).nd, Value.int IntKind.i64 (findH x nd).le, Value.int IntKind.i64 (findH x nd).up,
      Value.int IntKind.i64 (findH x nd).dn],
      Value.bool (findB x nd)])))
      (Done
      (Value.tuple
      #[Value.agg #[Value.int IntKind.i64 (0 : Int), Value.int IntKind.i64 (0 : Int), Value.int IntKind.i64 (0 : Int), Value.int IntKind.i64 (0 : Int)],
      Value.bool false] =
      Value.tuple
      #[Value.agg
      #[Value.int IntKind.i64 (findH x nd).nd, Value.int IntKind.i64 (findH x nd).le, Value.int IntKind.i64 (findH x nd).up,
      Value.int IntKind.i64 (findH x nd).dn],
      Value.bool (findB x nd)]))) (by kernel_rfl) ?_
  have h' := h.sz hn
  refine ⟨rfl, ⟨0, by simp⟩, fun k ⟨hk, hq, hz⟩ => ⟨_, rright_q x a c hx _ h', ?_⟩⟩
  cases hr : rightB x
  · exact ifB_false ⟨by simp [findH, findB, hr, hd0]⟩
  · refine ifB_true (ifB_intro (fun hb => ?_) (fun hb => ⟨?_⟩))
    · have hk2 : k < x.hs.length := by simpa using hb
      obtain ⟨b, o, rfl, hc⟩ := h'.cells (by rw [hds_len]; omega)
      have hlen := hx.len
      have w1 : IntKind.i64.wrap ((k : Int) + 1) = ((k + 1 : Nat) : Int) := by simp [IntKind.wrap_i64]; omega
      rw [fndH_drop hk2] at hq
      have hcell := hd_at hc hk2
      have hc0 : CellsAt { m with sz := n } b (o + k * 4) [I x.hs[k].nd] := hcell.take (ds := [I x.hs[k].le, I x.hs[k].up, I x.hs[k].dn])
      refine ⟨b, o, rfl, by omega, _, by simpa using hc0, ifB_intro (fun h1 => ⟨b, o, rfl, by omega, _, _, _, _, by simpa using hcell, ⟨?_⟩⟩) (fun h1 => ⟨k + 1, ⟨⟨hk2, ?_, fun h => by cases h⟩, by simp [w1]⟩, by omega⟩)⟩
      · simp at h1; simp [findH, findB, hr, hq, h1]
      · simp at h1; simp [hq, h1]
    · have : k = x.hs.length := by simp at hb; omega
      subst this
      simp [fndH] at hq
      have : List.find? (fun h => h.nd == nd) x.hs = none := by simpa using hq
      simp [findH, findB, hr, fndH, hd0, this]

theorem hd_ext {a b : Hd} : a = b ↔ a.nd = b.nd ∧ a.le = b.le ∧ a.up = b.up ∧ a.dn = b.dn := by
  cases a; cases b; simp

instance : DecidableEq Hd := fun _ _ => decidable_of_iff' _ hd_ext

theorem lk_ext {a b : Lk} : a = b ↔ a.cl = b.cl ∧ a.sq = b.sq ∧ a.hm = b.hm ∧ a.n = b.n := by
  cases a; cases b; simp

instance : DecidableEq Lk := fun _ _ => decidable_of_iff' _ lk_ext

theorem ac_ext {a b : Ac} : a = b ↔ a.key = b.key ∧ a.lo = b.lo ∧ a.hi = b.hi ∧ a.base = b.base ∧ a.round = b.round ∧ a.hs = b.hs ∧ a.lk = b.lk := by
  cases a; cases b; simp

instance : DecidableEq Ac := fun _ _ => decidable_of_iff' _ ac_ext

theorem hplain_q (a a2 : Option Addr) (c c2 : Nat) (l l2 : List Hd) (hn1 : l.length ≤ 9223372036854775807) (m : M) (h : Row m a (hds l)) (h2 : Row m a2 (hds l2)) :
    QSpec Try.prog 66 [.slice a l.length c, .slice a2 l2.length c2] m (.bool (decide (l = l2))) := by
  refine QSpec.of_vc Try.func66 (ann := fun n _ => { A := Nat, inv := fun k => k ≤ l.length ∧ l.take k = l2.take k, st := fun k => [(5, .val (I k)), (0, .val (.slice a l.length c)), (1, .val (.slice a2 l2.length c2))], own := fun _ => [], m := fun _ => { m with sz := n }, μ := fun k => (l.length - k) }) fun n hn => ?_
  refine vc_by (X :=
      true = true ∧
      ifB ((↑l.length : Int) != (↑l2.length : Int)) (Done (Value.bool false = Value.bool (decide (l = l2))))
      ((∃ (a_1 : Nat),
      (a_1 ≤ l.length ∧ List.take a_1 l = List.take a_1 l2) ∧
      { π := m.π, sz := n, uf := m.uf : M } = { π := m.π, sz := n, uf := m.uf : M } ∧
      ((SV.val (Value.int IntKind.i64 (0 : Int)) = SV.val (Value.int IntKind.i64 (↑a_1 : Int)) ∧ true = true) ∧
      (SV.val (Value.slice a l.length c) = SV.val (Value.slice a l.length c) ∧ true = true) ∧
      (SV.val (Value.slice a2 l2.length c2) = SV.val (Value.slice a2 l2.length c2) ∧ true = true) ∧ True) ∧
      True) ∧
      ∀ (a_1 : Nat),
      a_1 ≤ l.length ∧ List.take a_1 l = List.take a_1 l2 →
      ifB (decide ((↑a_1 : Int) < (↑l.length : Int)))
      (true = true ∧
      ∃ (b : Nat),
      ∃ (off : Nat),
      a = some { block := b, off := off : Addr } ∧
      ((0 : Int) ≤ (↑a_1 : Int) ∧ (↑a_1 : Int) < (↑l.length : Int)) ∧
      ∃ (n_1 : Int),
      ∃ (n_2 : Int),
      ∃ (n_3 : Int),
      ∃ (n_4 : Int),
      CellsAt { π := m.π, sz := n, uf := m.uf : M } b (off + (↑a_1 : Int).toNat * (4 : Nat))
      [Value.int IntKind.i64 n_1, Value.int IntKind.i64 n_2, Value.int IntKind.i64 n_3, Value.int IntKind.i64 n_4] ∧
      ∃ (b : Nat),
      ∃ (off : Nat),
      a2 = some { block := b, off := off : Addr } ∧
      ((0 : Int) ≤ (↑a_1 : Int) ∧ (↑a_1 : Int) < (↑l2.length : Int)) ∧
      ∃ (n_5 : Int),
      ∃ (n_6 : Int),
      ∃ (n_7 : Int),
      ∃ (n_8 : Int),
      CellsAt { π := m.π, sz := n, uf := m.uf : M } b (off + (↑a_1 : Int).toNat * (4 : Nat))
      [Value.int IntKind.i64 n_5, Value.int IntKind.i64 n_6, Value.int IntKind.i64 n_7, Value.int IntKind.i64 n_8] ∧
      ifB (!(n_1 == n_5 && (n_2 == n_6 && (n_3 == n_7 && (n_4 == n_8 && true)))))
      (Done (Value.bool false = Value.bool (decide (l = l2))))
      (∃ (a' : Nat),
      ((a' ≤ l.length ∧ List.take a' l = List.take a' l2) ∧
      { π := m.π, sz := n, uf := m.uf : M } = { π := m.π, sz := n, uf := m.uf : M } ∧
      ((SV.val (Value.int IntKind.i64 (IntKind.i64.wrap ((↑a_1 : Int) + (1 : Int)))) =
      SV.val (Value.int IntKind.i64 (↑a' : Int)) ∧
      true = true) ∧
      (SV.val (Value.slice a l.length c) = SV.val (Value.slice a l.length c) ∧ true = true) ∧
      (SV.val (Value.slice a2 l2.length c2) = SV.val (Value.slice a2 l2.length c2) ∧ true = true) ∧ True) ∧
      True) ∧
      l.length - a' < l.length - a_1))
      (Done (Value.bool true = Value.bool (decide (l = l2)))))) (by kernel_rfl) ?_
  have h' := h.sz hn
  have h2' := h2.sz hn
  refine ⟨rfl, ifB_intro (fun hb => ⟨?_⟩) (fun hb => ⟨⟨0, by simp⟩, fun k hk => ifB_intro (fun hb2 => ?_) (fun hb2 => ⟨?_⟩)⟩)⟩
  · have : l ≠ l2 := fun e => by subst e; simp at hb
    simp [this]
  · have hlen : l.length = l2.length := by simp at hb; omega
    have hk2 : k < l.length := by simpa using hb2
    obtain ⟨b, o, rfl, hc⟩ := h'.cells (by rw [hds_len]; omega)
    obtain ⟨b2, o2, rfl, hc2⟩ := h2'.cells (by rw [hds_len]; omega)
    have w1 : IntKind.i64.wrap ((k : Int) + 1) = ((k + 1 : Nat) : Int) := by simp [IntKind.wrap_i64]; omega
    refine ⟨rfl, b, o, rfl, by omega, _, _, _, _, by simpa using hd_at hc hk2, b2, o2, rfl, by omega, _, _, _, _, by simpa using hd_at hc2 (by omega : k < l2.length), ifB_intro (fun h3 => ⟨?_⟩) (fun h3 => ⟨k + 1, ⟨⟨hk2, ?_⟩, by simp [w1]⟩, by omega⟩)⟩
    · have : l ≠ l2 := fun e => by subst e; simp at h3
      simp [this]
    · have h3 : l[k] = l2[k] := by rw [hd_ext]; simpa using h3
      rw [List.take_succ_eq_append_getElem hk2, List.take_succ_eq_append_getElem (by omega : k < l2.length), hk.2, h3]
  · have hlen : l.length = l2.length := by simp at hb; omega
    have : k = l.length := by simp at hb2; omega
    have e := hk.2
    rw [this, List.take_length, hlen, List.take_length] at e
    simp [e]

theorem saccount_q (x y : Ac) (a a2 : Option Addr) (c c2 : Nat) (hx : x.wf) (hy : y.wf) (m : M) (h : Row m a (hds x.hs)) (h2' : Row m a2 (hds y.hs)) : QSpec Try.prog 31 [acv x a c, acv y a2 c2] m (.bool (decide (x = y))) := by
  refine QSpec.of_vc Try.func31 (ann := fun _ => noAnn) fun n hn => ?_
  refine vc_by (X :=
      true = true ∧
      ifB (x.key.toList == y.key.toList)
      (ifB (x.lo == y.lo && (x.hi == y.hi && true))
      (ifB (x.base == y.base)
      (ifB (x.round == y.round)
      (∃ (b : Bool),
      QSpec Try.prog (66 : Nat) [Value.slice a x.hs.length c, Value.slice a2 y.hs.length c2] { π := m.π, sz := n, uf := m.uf : M } (Value.bool b) ∧
      ifB b (Done (Value.bool (x.lk.cl == y.lk.cl && (x.lk.sq == y.lk.sq && (x.lk.hm == y.lk.hm && (x.lk.n == y.lk.n && true)))) = Value.bool (decide (x = y))))
      (Done (Value.bool false = Value.bool (decide (x = y)))))
      (Done (Value.bool false = Value.bool (decide (x = y)))))
      (Done (Value.bool false = Value.bool (decide (x = y)))))
      (Done (Value.bool false = Value.bool (decide (x = y)))))
      (Done (Value.bool false = Value.bool (decide (x = y))))) (by kernel_rfl) ?_
  refine ⟨rfl, ?_⟩
  rw [bytes_beq]
  refine ifB_intro (fun h1 => ifB_intro (fun h2 => ifB_intro (fun h3 => ifB_intro (fun h4 => ⟨_, hplain_q a a2 c c2 x.hs y.hs hx.len _ (h.sz hn) (h2'.sz hn), ifB_intro (fun h5 => ⟨?_⟩) (fun h5 => ⟨?_⟩)⟩) (fun h4 => ⟨?_⟩)) (fun h3 => ⟨?_⟩)) (fun h2 => ⟨?_⟩)) (fun h1 => ⟨?_⟩)
  all_goals simp only [Bool.and_eq_true, decide_eq_true_eq, beq_iff_eq, and_true, decide_eq_false_iff_not, beq_eq_false_iff_ne, Bool.and_eq_false_imp] at *
  all_goals rw [Value.bool.injEq, Bool.eq_iff_iff]
  all_goals simp [ac_ext, lk_ext, *]
  all_goals (intro e1 e2; exact absurd (h2 e1 e2) (by simp))

/-- what 'Own' hands back: the list, two marks behind it, in a block of its own -/
structure Owned (m : M) (cs marks : List Value) (len cap : Nat) (v : Value) (m' : M) : Prop where
  out : ∃ b, v = .slice (some ⟨b, 0, none⟩) len cap ∧ m.sz ≤ b ∧ b < m'.sz ∧ m'.uf b ∧ CellsAt m' b 0 (cs ++ marks)

end Go.Proofs.Ytfkielfnceeedaa
