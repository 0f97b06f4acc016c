/-
  Contracts of functions of this seat: what each hands back, and what it leaves of memory (acc6). Nothing here is trusted: Lean checks it.
-/
import Derived.Test.YtlifpjllhibdpaaAcc5
set_option linter.unusedVariables false
set_option linter.unusedSimpArgs false
namespace Go.Proofs.Ytlifpjllhibdpaa
open Go.Vc Go.RowKit

theorem wf_key (k : ByteArray) (hk : k.size ≤ 9223372036854775807) : (⟨k, 0, 0, 0, 0, [], ⟨0, 0, 0, 0⟩⟩ : Ac).wf :=
  ⟨hk, (by decide : In64 0), (by decide : In64 0), (by decide : In64 0), (by decide : In64 0), fun h hh => (by simp at hh), Nat.zero_le _, ⟨(by decide : In64 0), (by decide : In64 0), (by decide : In64 0), (by decide : In64 0)⟩⟩

theorem rnew_q (k : ByteArray) (m : M) : QSpec Try.prog 14 [.string k] m (.tuple #[acv { ac0 with key := if keyB k then k else .empty } none 0, I (if keyB k then 0 else 1)]) := by
  refine QSpec.of_vc Try.func14 (ann := fun _ => noAnn) fun n hn => ?_
  refine vc_by (X :=
      true = true ∧
      ∃ (b : Bool),
      QSpec Try.prog (39 : Nat) [Value.string k] { π := m.π, sz := n, uf := m.uf : M } (Value.bool b) ∧
      ifB (!b)
      (Done
      (Value.tuple
      #[Value.agg
      #[Value.string { data := #[] : ByteArray }, Value.int IntKind.i64 (0 : Int), Value.int IntKind.i64 (0 : Int), Value.int IntKind.i64 (0 : Int),
      Value.int IntKind.i64 (0 : Int), Value.slice none (0 : Nat) (0 : Nat), Value.int IntKind.i64 (0 : Int), Value.int IntKind.i64 (0 : Int),
      Value.int IntKind.i64 (0 : Int), Value.int IntKind.i64 (0 : Int)],
      Value.int IntKind.i64 (1 : Int)] =
      Value.tuple
      #[Value.agg
      #[Value.string (if keyB k = true then k else ByteArray.empty), Value.int IntKind.i64 (0 : Int), Value.int IntKind.i64 (0 : Int), Value.int IntKind.i64 (0 : Int),
      Value.int IntKind.i64 (0 : Int), Value.slice none (0 : Nat) (0 : Nat), Value.int IntKind.i64 (0 : Int), Value.int IntKind.i64 (0 : Int),
      Value.int IntKind.i64 (0 : Int), Value.int IntKind.i64 (0 : Int)],
      Value.int IntKind.i64 (if keyB k = true then (0 : Int) else (1 : Int))]))
      (Done
      (Value.tuple
      #[Value.agg
      #[Value.string k, Value.int IntKind.i64 (0 : Int), Value.int IntKind.i64 (0 : Int), Value.int IntKind.i64 (0 : Int), Value.int IntKind.i64 (0 : Int),
      Value.slice none (0 : Nat) (0 : Nat), Value.int IntKind.i64 (0 : Int), Value.int IntKind.i64 (0 : Int), Value.int IntKind.i64 (0 : Int),
      Value.int IntKind.i64 (0 : Int)],
      Value.int IntKind.i64 (0 : Int)] =
      Value.tuple
      #[Value.agg
      #[Value.string (if keyB k = true then k else ByteArray.empty), Value.int IntKind.i64 (0 : Int), Value.int IntKind.i64 (0 : Int), Value.int IntKind.i64 (0 : Int),
      Value.int IntKind.i64 (0 : Int), Value.slice none (0 : Nat) (0 : Nat), Value.int IntKind.i64 (0 : Int), Value.int IntKind.i64 (0 : Int),
      Value.int IntKind.i64 (0 : Int), Value.int IntKind.i64 (0 : Int)],
      Value.int IntKind.i64 (if keyB k = true then (0 : Int) else (1 : Int))]))) (by kernel_rfl) ?_
  refine ⟨rfl, _, rkey_q _ _, ?_⟩
  cases h : keyB k
  · exact ifB_true ⟨by simp; rfl⟩
  · exact ifB_false ⟨by simp⟩

theorem rroom_q (x : Ac) (a : Option Addr) (c : Nat) (hx : x.wf) (m : M) (h : Row m a (hds x.hs)) : QSpec Try.prog 16 [acv x a c] m (.tuple #[U (roomDn x), U (roomUp x)]) := by
  refine QSpec.of_vc Try.func16 (ann := fun _ => noAnn) fun n hn => ?_
  refine vc_by (X :=
      true = true ∧
      ∃ (b : Bool),
      QSpec Try.prog (12 : Nat)
      [Value.agg
      #[Value.string x.key, Value.int IntKind.i64 x.lo, Value.int IntKind.i64 x.hi, Value.int IntKind.i64 x.base, Value.int IntKind.i64 x.round, Value.slice a x.hs.length c,
      Value.int IntKind.i64 x.lk.cl, Value.int IntKind.i64 x.lk.sq, Value.int IntKind.i64 x.lk.hm, Value.int IntKind.i64 x.lk.n]]
      { π := m.π, sz := n, uf := m.uf : M } (Value.bool b) ∧
      ifB (!b)
      (Done (Value.tuple #[Value.int IntKind.u64 (0 : Int), Value.int IntKind.u64 (0 : Int)] = Value.tuple #[Value.int IntKind.u64 (roomDn x), Value.int IntKind.u64 (roomUp x)]))
      (ifB (x.lk.cl != (0 : Int))
      (Done
      (Value.tuple #[Value.int IntKind.u64 (0 : Int), Value.int IntKind.u64 (0 : Int)] = Value.tuple #[Value.int IntKind.u64 (roomDn x), Value.int IntKind.u64 (roomUp x)]))
      (∃ (n_1 : Int),
      ∃ (n_2 : Int),
      ∃ (n_3 : Int),
      ∃ (n_4 : Int),
      QSpec Try.prog (41 : Nat)
      [Value.agg
      #[Value.string x.key, Value.int IntKind.i64 x.lo, Value.int IntKind.i64 x.hi, Value.int IntKind.i64 x.base, Value.int IntKind.i64 x.round,
      Value.slice a x.hs.length c, Value.int IntKind.i64 x.lk.cl, Value.int IntKind.i64 x.lk.sq, Value.int IntKind.i64 x.lk.hm, Value.int IntKind.i64 x.lk.n]]
      { π := m.π, sz := n, uf := m.uf : M }
      (Value.tuple #[Value.agg #[Value.int IntKind.i64 n_1, Value.int IntKind.u64 n_2], Value.agg #[Value.int IntKind.i64 n_3, Value.int IntKind.u64 n_4]]) ∧
      true = true ∧
      ∃ (n_5 : Int),
      ∃ (n_6 : Int),
      QSpec Try.prog (43 : Nat) [Value.agg #[Value.int IntKind.i64 n_1, Value.int IntKind.u64 n_2], Value.int IntKind.i64 x.lo]
      { π := m.π, sz := n, uf := m.uf : M } (Value.agg #[Value.int IntKind.i64 n_5, Value.int IntKind.u64 n_6]) ∧
      (true = true ∧
      ∀ (b : Nat),
      n ≤ b →
      MLe { π := m.π, sz := n, uf := m.uf : M } ({ π := m.π, sz := n, uf := m.uf : M }.newBlock b [Value.int IntKind.i64 x.hi]) ∧
      ∃ (n_7 : Int),
      ∃ (n_8 : Int),
      QSpec Try.prog (29 : Nat) [Value.slice (some { block := b, off := (0 : Nat) : Addr }) (1 : Nat) (1 : Nat)]
      ({ π := m.π, sz := n, uf := m.uf : M }.newBlock b [Value.int IntKind.i64 x.hi])
      (Value.agg #[Value.int IntKind.i64 n_7, Value.int IntKind.u64 n_8]) ∧
      Done
      (Value.tuple #[Value.int IntKind.u64 n_6, Value.int IntKind.u64 (IntKind.u64.wrap (n_8 - n_4))] =
      Value.tuple #[Value.int IntKind.u64 (roomDn x), Value.int IntKind.u64 (roomUp x)])) ∧
      True))) (by kernel_rfl) ?_
  refine ⟨rfl, _, rright_q x a c hx _ (h.sz hn), ?_⟩
  cases hr : rightB x
  · exact ifB_true ⟨by simp [roomDn, roomUp, hr]⟩
  · refine ifB_false (ifB_intro (fun h1 => ⟨?_⟩) (fun h1 => ?_))
    · have hl : x.lk.cl ≠ 0 := by simpa using h1
      simp [roomDn, roomUp, hl]
    · have hl : x.lk.cl = 0 := by simpa using h1
      have hp := (right_iff x).1 hr
      have hbd := hp.bounds hx
      have h4 := hp.up
      have h5 := hp.dn
      have h6 := hx.lo
      have h7 := hx.hi
      refine ⟨_, _, _, _, ends_q x a c hx _ (h.sz hn), rfl, _, _, less_q _ _ hx.lo _, ⟨rfl, fun b hb => ⟨MLe.newBlock hb, _, _, of_q (some ⟨b, 0, none⟩) 1 [x.hi] (by simpa using hx.hi) (by simp) _ (.at _ _ _ (by simp only [M.newBlock]; omega) cellsAt_new), ⟨?_⟩⟩⟩, trivial⟩
      simp only [roomDn, roomUp, hr, hl, decide_true, Bool.and_self, if_true]
      have s1 : sumI [x.hi] = x.hi := by simp [sumI]
      rw [s1]
      have h8 := hbd.1
      have h9 := hbd.2.1
      unfold In64 at *
      simp [IntKind.wrap_u64, wideLo]
      omega

theorem rtotal_q (x : Ac) (a : Option Addr) (c : Nat) (hx : x.wf) (m : M) (h : Row m a (hds x.hs)) : QSpec Try.prog 18 [acv x a c] m (.tuple #[I (if totB x then x.base else 0), .bool (totB x)]) := by
  refine QSpec.of_vc Try.func18 (ann := fun _ => noAnn) fun n hn => ?_
  refine vc_by (X :=
      true = true ∧
      ∃ (b : Bool),
      QSpec Try.prog (12 : Nat)
      [Value.agg
      #[Value.string x.key, Value.int IntKind.i64 x.lo, Value.int IntKind.i64 x.hi, Value.int IntKind.i64 x.base, Value.int IntKind.i64 x.round, Value.slice a x.hs.length c,
      Value.int IntKind.i64 x.lk.cl, Value.int IntKind.i64 x.lk.sq, Value.int IntKind.i64 x.lk.hm, Value.int IntKind.i64 x.lk.n]]
      { π := m.π, sz := n, uf := m.uf : M } (Value.bool b) ∧
      ifB (!b)
      (Done
      (Value.tuple #[Value.int IntKind.i64 (0 : Int), Value.bool false] =
      Value.tuple #[Value.int IntKind.i64 (if totB x = true then x.base else (0 : Int)), Value.bool (totB x)]))
      (ifB (decide ((↑x.hs.length : Int) > (0 : Int)))
      (Done
      (Value.tuple #[Value.int IntKind.i64 (0 : Int), Value.bool false] =
      Value.tuple #[Value.int IntKind.i64 (if totB x = true then x.base else (0 : Int)), Value.bool (totB x)]))
      (ifB (x.lk.cl != (0 : Int))
      (Done
      (Value.tuple #[Value.int IntKind.i64 (0 : Int), Value.bool false] =
      Value.tuple #[Value.int IntKind.i64 (if totB x = true then x.base else (0 : Int)), Value.bool (totB x)]))
      (Done
      (Value.tuple #[Value.int IntKind.i64 x.base, Value.bool true] =
      Value.tuple #[Value.int IntKind.i64 (if totB x = true then x.base else (0 : Int)), Value.bool (totB x)]))))) (by kernel_rfl) ?_
  refine ⟨rfl, _, rright_q x a c hx _ (h.sz hn), ?_⟩
  cases hr : rightB x
  · exact ifB_true ⟨by simp [totB, hr]⟩
  · refine ifB_false (ifB_intro (fun h2 => ⟨?_⟩) (fun h2 => ifB_intro (fun h1 => ⟨?_⟩) (fun h1 => ⟨?_⟩)))
    · have : x.hs ≠ [] := fun e => by simp [e] at h2
      simp [totB, this]
    · simp at h1; simp [totB, h1]
    · have : x.hs = [] := by simpa using h2
      simp at h1; simp [totB, hr, h1, this]

theorem rfind_q (x : Ac) (a : Option Addr) (c : Nat) (nd : Int) (hx : x.wf) (m : M) (h : Row m a (hds x.hs)) : QSpec Try.prog 20 [acv x a c, I nd] m (.tuple #[hdv (findH x nd), .bool (findB x nd)]) := by
  refine QSpec.of_vc Try.func20 (ann := fun n _ => { A := Nat, inv := fun k => k ≤ x.hs.length ∧ fndH x.hs nd = fndH (x.hs.drop k) nd ∧ (rightB x = false → k = 0), st := fun k => [(6, .val (I k)), (2, .own 0 0), (1, .val (I nd)), (4, .own 1 0)], own := fun _ => [(0, ⟨28, acc x a c⟩), (1, ⟨31, [I 0, I 0, I 0, I 0]⟩)], m := fun _ => { m with sz := n }, μ := fun k => x.hs.length - k }) fun n hn => ?_
  refine vc_by (X :=
      true = true ∧
      (∃ (a_1 : Nat),
      (a_1 ≤ x.hs.length ∧ fndH x.hs nd = fndH (List.drop a_1 x.hs) nd ∧ (rightB x = false → a_1 = (0 : Nat))) ∧
      { π := m.π, sz := n, uf := m.uf : M } = { π := m.π, sz := n, uf := m.uf : M } ∧
      ((SV.val (Value.int IntKind.i64 (0 : Int)) = SV.val (Value.int IntKind.i64 (↑a_1 : Int)) ∧ true = true) ∧
      (SV.own ((0 : Nat) + (0 : Nat)) (0 : Nat) = SV.own (0 : Nat) (0 : Nat) ∧ true = true) ∧
      (SV.val (Value.int IntKind.i64 nd) = SV.val (Value.int IntKind.i64 nd) ∧ true = true) ∧
      (SV.own ((0 : Nat) + (1 : Nat)) (0 : Nat) = SV.own (1 : Nat) (0 : Nat) ∧ true = true) ∧ True) ∧
      (some
      { ty := (28 : Nat), cs := [Value.string x.key, Value.int IntKind.i64 x.lo, Value.int IntKind.i64 x.hi, Value.int IntKind.i64 x.base, Value.int IntKind.i64 x.round, Value.slice a x.hs.length c, Value.int IntKind.i64 x.lk.cl, Value.int IntKind.i64 x.lk.sq, Value.int IntKind.i64 x.lk.hm, Value.int IntKind.i64 x.lk.n] : Bx } =
      some
      { ty := (28 : TypeId), cs := [Value.string x.key, Value.int IntKind.i64 x.lo, Value.int IntKind.i64 x.hi, Value.int IntKind.i64 x.base, Value.int IntKind.i64 x.round, Value.slice a x.hs.length c, Value.int IntKind.i64 x.lk.cl, Value.int IntKind.i64 x.lk.sq, Value.int IntKind.i64 x.lk.hm, Value.int IntKind.i64 x.lk.n] : Bx } ∧
      true = true) ∧
      (some
      { ty := (31 : Nat), cs := [Value.int IntKind.i64 (0 : Int), Value.int IntKind.i64 (0 : Int), Value.int IntKind.i64 (0 : Int), Value.int IntKind.i64 (0 : Int)] : Bx } =
      some
      { ty := (31 : TypeId), cs := [Value.int IntKind.i64 (0 : Int), Value.int IntKind.i64 (0 : Int), Value.int IntKind.i64 (0 : Int), Value.int IntKind.i64 (0 : Int)] : Bx } ∧
      true = true) ∧
      True) ∧
      ∀ (a_1 : Nat),
      a_1 ≤ x.hs.length ∧ fndH x.hs nd = fndH (List.drop a_1 x.hs) nd ∧ (rightB x = false → a_1 = (0 : Nat)) →
      ∃ (b : Bool),
      QSpec Try.prog (12 : Nat)
      [Value.agg
      #[Value.string x.key, Value.int IntKind.i64 x.lo, Value.int IntKind.i64 x.hi, Value.int IntKind.i64 x.base, Value.int IntKind.i64 x.round,
      Value.slice a x.hs.length c, Value.int IntKind.i64 x.lk.cl, Value.int IntKind.i64 x.lk.sq, Value.int IntKind.i64 x.lk.hm, Value.int IntKind.i64 x.lk.n]]
      { π := m.π, sz := n, uf := m.uf : M } (Value.bool b) ∧
      ifB b
      (ifB (decide ((↑a_1 : Int) < (↑x.hs.length : Int)))
      (∃ (b : Nat),
      ∃ (off : Nat),
      a = some { block := b, off := off : Addr } ∧
      ((0 : Int) ≤ (↑a_1 : Int) ∧ (↑a_1 : Int) < (↑x.hs.length : Int)) ∧
      ∃ (n_1 : Int),
      CellsAt { π := m.π, sz := n, uf := m.uf : M } b (off + (↑a_1 : Int).toNat * (4 : Nat) + (0 : Nat)) [Value.int IntKind.i64 n_1] ∧
      ifB (n_1 == nd)
      (∃ (b : Nat),
      ∃ (off : Nat),
      a = some { block := b, off := off : Addr } ∧
      ((0 : Int) ≤ (↑a_1 : Int) ∧ (↑a_1 : Int) < (↑x.hs.length : Int)) ∧
      ∃ (n_2 : Int),
      ∃ (n_3 : Int),
      ∃ (n_4 : Int),
      ∃ (n_5 : Int),
      CellsAt { π := m.π, sz := n, uf := m.uf : M } b (off + (↑a_1 : Int).toNat * (4 : Nat))
      [Value.int IntKind.i64 n_2, Value.int IntKind.i64 n_3, Value.int IntKind.i64 n_4, Value.int IntKind.i64 n_5] ∧
      Done
      (Value.tuple
      #[Value.agg #[Value.int IntKind.i64 n_2, Value.int IntKind.i64 n_3, Value.int IntKind.i64 n_4, Value.int IntKind.i64 n_5],
      Value.bool true] =
      Value.tuple
      #[Value.agg
      #[Value.int IntKind.i64 (findH x nd).nd, Value.int IntKind.i64 (findH x nd).le, Value.int IntKind.i64 (findH x nd).up,
      Value.int IntKind.i64 (findH x nd).dn],
      Value.bool (findB x nd)]))
      (∃ (a' : Nat),
      ((a' ≤ x.hs.length ∧ fndH x.hs nd = fndH (List.drop a' x.hs) nd ∧ (rightB x = false → a' = (0 : Nat))) ∧
      { π := m.π, sz := n, uf := m.uf : M } = { π := m.π, sz := n, uf := m.uf : M } ∧
      ((SV.val (Value.int IntKind.i64 (IntKind.i64.wrap ((↑a_1 : Int) + (1 : Int)))) = SV.val (Value.int IntKind.i64 (↑a' : Int)) ∧ true = true) ∧
      (SV.own (0 : Nat) (0 : Nat) = SV.own (0 : Nat) (0 : Nat) ∧ true = true) ∧
      (SV.val (Value.int IntKind.i64 nd) = SV.val (Value.int IntKind.i64 nd) ∧ true = true) ∧
      (SV.own (1 : Nat) (0 : Nat) = SV.own (1 : Nat) (0 : Nat) ∧ true = true) ∧ True) ∧
      (some
      { ty := (28 : TypeId), cs := [Value.string x.key, Value.int IntKind.i64 x.lo, Value.int IntKind.i64 x.hi, Value.int IntKind.i64 x.base, Value.int IntKind.i64 x.round, Value.slice a x.hs.length c, Value.int IntKind.i64 x.lk.cl, Value.int IntKind.i64 x.lk.sq, Value.int IntKind.i64 x.lk.hm, Value.int IntKind.i64 x.lk.n] : Bx } =
      some
      { ty := (28 : TypeId), cs := [Value.string x.key, Value.int IntKind.i64 x.lo, Value.int IntKind.i64 x.hi, Value.int IntKind.i64 x.base, Value.int IntKind.i64 x.round, Value.slice a x.hs.length c, Value.int IntKind.i64 x.lk.cl, Value.int IntKind.i64 x.lk.sq, Value.int IntKind.i64 x.lk.hm, Value.int IntKind.i64 x.lk.n] : Bx } ∧
      true = true) ∧
      (some
      { ty := (31 : TypeId), cs := [Value.int IntKind.i64 (0 : Int), Value.int IntKind.i64 (0 : Int), Value.int IntKind.i64 (0 : Int), Value.int IntKind.i64 (0 : Int)] : Bx } =
      some
      { ty := (31 : TypeId), cs := [Value.int IntKind.i64 (0 : Int), Value.int IntKind.i64 (0 : Int), Value.int IntKind.i64 (0 : Int), Value.int IntKind.i64 (0 : Int)] : Bx } ∧
      true = true) ∧
      True) ∧
      x.hs.length - a' < x.hs.length - a_1))
      (Done
      (Value.tuple
      #[Value.agg #[Value.int IntKind.i64 (0 : Int), Value.int IntKind.i64 (0 : Int), Value.int IntKind.i64 (0 : Int), Value.int IntKind.i64 (0 : Int)],
      Value.bool false] =
      Value.tuple
      #[Value.agg
      #[Value.int IntKind.i64 (findH x nd).nd, Value.int IntKind.i64 (findH x nd).le, Value.int IntKind.i64 (findH x nd).up,
      Value.int IntKind.i64 (findH x nd).dn],
      Value.bool (findB x nd)])))
      (Done
      (Value.tuple
      #[Value.agg #[Value.int IntKind.i64 (0 : Int), Value.int IntKind.i64 (0 : Int), Value.int IntKind.i64 (0 : Int), Value.int IntKind.i64 (0 : Int)],
      Value.bool false] =
      Value.tuple
      #[Value.agg
      #[Value.int IntKind.i64 (findH x nd).nd, Value.int IntKind.i64 (findH x nd).le, Value.int IntKind.i64 (findH x nd).up,
      Value.int IntKind.i64 (findH x nd).dn],
      Value.bool (findB x nd)]))) (by kernel_rfl) ?_
  have h' := h.sz hn
  refine ⟨rfl, ⟨0, by simp⟩, fun k ⟨hk, hq, hz⟩ => ⟨_, rright_q x a c hx _ h', ?_⟩⟩
  cases hr : rightB x
  · exact ifB_false ⟨by simp [findH, findB, hr, hd0]⟩
  · refine ifB_true (ifB_intro (fun hb => ?_) (fun hb => ⟨?_⟩))
    · have hk2 : k < x.hs.length := by simpa using hb
      obtain ⟨b, o, rfl, hc⟩ := h'.cells (by rw [hds_len]; omega)
      have hlen := hx.len
      have w1 : IntKind.i64.wrap ((k : Int) + 1) = ((k + 1 : Nat) : Int) := by simp [IntKind.wrap_i64]; omega
      rw [fndH_drop hk2] at hq
      have hcell := hd_at hc hk2
      have hc0 : CellsAt { m with sz := n } b (o + k * 4) [I x.hs[k].nd] := hcell.take (ds := [I x.hs[k].le, I x.hs[k].up, I x.hs[k].dn])
      refine ⟨b, o, rfl, by omega, _, by simpa using hc0, ifB_intro (fun h1 => ⟨b, o, rfl, by omega, _, _, _, _, by simpa using hcell, ⟨?_⟩⟩) (fun h1 => ⟨k + 1, ⟨⟨hk2, ?_, fun h => by cases h⟩, by simp [w1]⟩, by omega⟩)⟩
      · simp at h1; simp [findH, findB, hr, hq, h1]
      · simp at h1; simp [hq, h1]
    · have : k = x.hs.length := by simp at hb; omega
      subst this
      simp [fndH] at hq
      have : List.find? (fun h => h.nd == nd) x.hs = none := by simpa using hq
      simp [findH, findB, hr, fndH, hd0, this]

theorem hd_ext {a b : Hd} : a = b ↔ a.nd = b.nd ∧ a.le = b.le ∧ a.up = b.up ∧ a.dn = b.dn := by
  cases a; cases b; simp

instance : DecidableEq Hd := fun _ _ => decidable_of_iff' _ hd_ext

theorem lk_ext {a b : Lk} : a = b ↔ a.cl = b.cl ∧ a.sq = b.sq ∧ a.hm = b.hm ∧ a.n = b.n := by
  cases a; cases b; simp

instance : DecidableEq Lk := fun _ _ => decidable_of_iff' _ lk_ext

theorem ac_ext {a b : Ac} : a = b ↔ a.key = b.key ∧ a.lo = b.lo ∧ a.hi = b.hi ∧ a.base = b.base ∧ a.round = b.round ∧ a.hs = b.hs ∧ a.lk = b.lk := by
  cases a; cases b; simp

instance : DecidableEq Ac := fun _ _ => decidable_of_iff' _ ac_ext

theorem hplain_q (a a2 : Option Addr) (c c2 : Nat) (l l2 : List Hd) (hn1 : l.length ≤ 9223372036854775807) (m : M) (h : Row m a (hds l)) (h2 : Row m a2 (hds l2)) :
    QSpec Try.prog 48 [.slice a l.length c, .slice a2 l2.length c2] m (.bool (decide (l = l2))) := by
  refine QSpec.of_vc Try.func48 (ann := fun n _ => { A := Nat, inv := fun k => k ≤ l.length ∧ l.take k = l2.take k, st := fun k => [(5, .val (I k)), (0, .val (.slice a l.length c)), (1, .val (.slice a2 l2.length c2))], own := fun _ => [], m := fun _ => { m with sz := n }, μ := fun k => (l.length - k) }) fun n hn => ?_
  refine vc_by (X :=
      true = true ∧
      ifB ((↑l.length : Int) != (↑l2.length : Int)) (Done (Value.bool false = Value.bool (decide (l = l2))))
      ((∃ (a_1 : Nat),
      (a_1 ≤ l.length ∧ List.take a_1 l = List.take a_1 l2) ∧
      { π := m.π, sz := n, uf := m.uf : M } = { π := m.π, sz := n, uf := m.uf : M } ∧
      ((SV.val (Value.int IntKind.i64 (0 : Int)) = SV.val (Value.int IntKind.i64 (↑a_1 : Int)) ∧ true = true) ∧
      (SV.val (Value.slice a l.length c) = SV.val (Value.slice a l.length c) ∧ true = true) ∧
      (SV.val (Value.slice a2 l2.length c2) = SV.val (Value.slice a2 l2.length c2) ∧ true = true) ∧ True) ∧
      True) ∧
      ∀ (a_1 : Nat),
      a_1 ≤ l.length ∧ List.take a_1 l = List.take a_1 l2 →
      ifB (decide ((↑a_1 : Int) < (↑l.length : Int)))
      (true = true ∧
      ∃ (b : Nat),
      ∃ (off : Nat),
      a = some { block := b, off := off : Addr } ∧
      ((0 : Int) ≤ (↑a_1 : Int) ∧ (↑a_1 : Int) < (↑l.length : Int)) ∧
      ∃ (n_1 : Int),
      ∃ (n_2 : Int),
      ∃ (n_3 : Int),
      ∃ (n_4 : Int),
      CellsAt { π := m.π, sz := n, uf := m.uf : M } b (off + (↑a_1 : Int).toNat * (4 : Nat))
      [Value.int IntKind.i64 n_1, Value.int IntKind.i64 n_2, Value.int IntKind.i64 n_3, Value.int IntKind.i64 n_4] ∧
      ∃ (b : Nat),
      ∃ (off : Nat),
      a2 = some { block := b, off := off : Addr } ∧
      ((0 : Int) ≤ (↑a_1 : Int) ∧ (↑a_1 : Int) < (↑l2.length : Int)) ∧
      ∃ (n_5 : Int),
      ∃ (n_6 : Int),
      ∃ (n_7 : Int),
      ∃ (n_8 : Int),
      CellsAt { π := m.π, sz := n, uf := m.uf : M } b (off + (↑a_1 : Int).toNat * (4 : Nat))
      [Value.int IntKind.i64 n_5, Value.int IntKind.i64 n_6, Value.int IntKind.i64 n_7, Value.int IntKind.i64 n_8] ∧
      ifB (!(n_1 == n_5 && (n_2 == n_6 && (n_3 == n_7 && (n_4 == n_8 && true)))))
      (Done (Value.bool false = Value.bool (decide (l = l2))))
      (∃ (a' : Nat),
      ((a' ≤ l.length ∧ List.take a' l = List.take a' l2) ∧
      { π := m.π, sz := n, uf := m.uf : M } = { π := m.π, sz := n, uf := m.uf : M } ∧
      ((SV.val (Value.int IntKind.i64 (IntKind.i64.wrap ((↑a_1 : Int) + (1 : Int)))) =
      SV.val (Value.int IntKind.i64 (↑a' : Int)) ∧
      true = true) ∧
      (SV.val (Value.slice a l.length c) = SV.val (Value.slice a l.length c) ∧ true = true) ∧
      (SV.val (Value.slice a2 l2.length c2) = SV.val (Value.slice a2 l2.length c2) ∧ true = true) ∧ True) ∧
      True) ∧
      l.length - a' < l.length - a_1))
      (Done (Value.bool true = Value.bool (decide (l = l2)))))) (by kernel_rfl) ?_
  have h' := h.sz hn
  have h2' := h2.sz hn
  refine ⟨rfl, ifB_intro (fun hb => ⟨?_⟩) (fun hb => ⟨⟨0, by simp⟩, fun k hk => ifB_intro (fun hb2 => ?_) (fun hb2 => ⟨?_⟩)⟩)⟩
  · have : l ≠ l2 := fun e => by subst e; simp at hb
    simp [this]
  · have hlen : l.length = l2.length := by simp at hb; omega
    have hk2 : k < l.length := by simpa using hb2
    obtain ⟨b, o, rfl, hc⟩ := h'.cells (by rw [hds_len]; omega)
    obtain ⟨b2, o2, rfl, hc2⟩ := h2'.cells (by rw [hds_len]; omega)
    have w1 : IntKind.i64.wrap ((k : Int) + 1) = ((k + 1 : Nat) : Int) := by simp [IntKind.wrap_i64]; omega
    refine ⟨rfl, b, o, rfl, by omega, _, _, _, _, by simpa using hd_at hc hk2, b2, o2, rfl, by omega, _, _, _, _, by simpa using hd_at hc2 (by omega : k < l2.length), ifB_intro (fun h3 => ⟨?_⟩) (fun h3 => ⟨k + 1, ⟨⟨hk2, ?_⟩, by simp [w1]⟩, by omega⟩)⟩
    · have : l ≠ l2 := fun e => by subst e; simp at h3
      simp [this]
    · have h3 : l[k] = l2[k] := by rw [hd_ext]; simpa using h3
      rw [List.take_succ_eq_append_getElem hk2, List.take_succ_eq_append_getElem (by omega : k < l2.length), hk.2, h3]
  · have hlen : l.length = l2.length := by simp at hb; omega
    have : k = l.length := by simp at hb2; omega
    have e := hk.2
    rw [this, List.take_length, hlen, List.take_length] at e
    simp [e]

theorem saccount_q (x y : Ac) (a a2 : Option Addr) (c c2 : Nat) (hx : x.wf) (hy : y.wf) (m : M) (h : Row m a (hds x.hs)) (h2' : Row m a2 (hds y.hs)) : QSpec Try.prog 23 [acv x a c, acv y a2 c2] m (.bool (decide (x = y))) := by
  refine QSpec.of_vc Try.func23 (ann := fun _ => noAnn) fun n hn => ?_
  refine vc_by (X :=
      true = true ∧
      ifB (x.key.toList == y.key.toList)
      (ifB (x.lo == y.lo && (x.hi == y.hi && true))
      (ifB (x.base == y.base)
      (ifB (x.round == y.round)
      (∃ (b : Bool),
      QSpec Try.prog (48 : Nat) [Value.slice a x.hs.length c, Value.slice a2 y.hs.length c2] { π := m.π, sz := n, uf := m.uf : M } (Value.bool b) ∧
      ifB b (Done (Value.bool (x.lk.cl == y.lk.cl && (x.lk.sq == y.lk.sq && (x.lk.hm == y.lk.hm && (x.lk.n == y.lk.n && true)))) = Value.bool (decide (x = y))))
      (Done (Value.bool false = Value.bool (decide (x = y)))))
      (Done (Value.bool false = Value.bool (decide (x = y)))))
      (Done (Value.bool false = Value.bool (decide (x = y)))))
      (Done (Value.bool false = Value.bool (decide (x = y)))))
      (Done (Value.bool false = Value.bool (decide (x = y))))) (by kernel_rfl) ?_
  refine ⟨rfl, ?_⟩
  rw [bytes_beq]
  refine ifB_intro (fun h1 => ifB_intro (fun h2 => ifB_intro (fun h3 => ifB_intro (fun h4 => ⟨_, hplain_q a a2 c c2 x.hs y.hs hx.len _ (h.sz hn) (h2'.sz hn), ifB_intro (fun h5 => ⟨?_⟩) (fun h5 => ⟨?_⟩)⟩) (fun h4 => ⟨?_⟩)) (fun h3 => ⟨?_⟩)) (fun h2 => ⟨?_⟩)) (fun h1 => ⟨?_⟩)
  all_goals simp only [Bool.and_eq_true, decide_eq_true_eq, beq_iff_eq, and_true, decide_eq_false_iff_not, beq_eq_false_iff_ne, Bool.and_eq_false_imp] at *
  all_goals rw [Value.bool.injEq, Bool.eq_iff_iff]
  all_goals simp [ac_ext, lk_ext, *]
  all_goals (intro e1 e2; exact absurd (h2 e1 e2) (by simp))

theorem rplain_q (x : Ac) (a : Option Addr) (c : Nat) (hx : x.wf) (m : M) (h : Row m a (hds x.hs)) : QSpec Try.prog 25 [acv x a c] m (.bool (plainB x)) := by
  refine QSpec.of_vc Try.func25 (ann := fun _ => noAnn) fun n hn => ?_
  refine vc_by (X :=
      true = true ∧
      ∀ (n_1 : Nat),
      n ≤ n_1 →
      Vc.Spec Try.prog (14 : Nat) [Value.string x.key] { π := m.π, sz := n_1, uf := m.uf : M } fun (v : Value) (m' : M) =>
      ∃ (s : ByteArray),
      ∃ (n : Int),
      ∃ (n_2 : Int),
      ∃ (n_3 : Int),
      ∃ (n_4 : Int),
      ∃ (a_2 : Option Addr),
      ∃ (n_5 : Nat),
      ∃ (c_1 : Nat),
      ∃ (n_6 : Int),
      ∃ (n_7 : Int),
      ∃ (n_8 : Int),
      ∃ (n_9 : Int),
      ∃ (n_10 : Int),
      v =
      Value.tuple
      #[Value.agg
      #[Value.string s, Value.int IntKind.i64 n, Value.int IntKind.i64 n_2, Value.int IntKind.i64 n_3, Value.int IntKind.i64 n_4,
      Value.slice a_2 n_5 c_1, Value.int IntKind.i64 n_6, Value.int IntKind.i64 n_7, Value.int IntKind.i64 n_8, Value.int IntKind.i64 n_9],
      Value.int IntKind.i64 n_10] ∧
      ifB (n_10 == (0 : Int))
      (∃ (b : Bool),
      QSpec Try.prog (23 : Nat)
      [Value.agg
      #[Value.string x.key, Value.int IntKind.i64 x.lo, Value.int IntKind.i64 x.hi, Value.int IntKind.i64 x.base,
      Value.int IntKind.i64 x.round, Value.slice a x.hs.length c, Value.int IntKind.i64 x.lk.cl, Value.int IntKind.i64 x.lk.sq,
      Value.int IntKind.i64 x.lk.hm, Value.int IntKind.i64 x.lk.n],
      Value.agg
      #[Value.string s, Value.int IntKind.i64 n, Value.int IntKind.i64 n_2, Value.int IntKind.i64 n_3, Value.int IntKind.i64 n_4,
      Value.slice a_2 n_5 c_1, Value.int IntKind.i64 n_6, Value.int IntKind.i64 n_7, Value.int IntKind.i64 n_8,
      Value.int IntKind.i64 n_9]]
      m' (Value.bool b) ∧
      Done (Value.bool b = Value.bool (plainB x)))
      (Done (Value.bool false = Value.bool (plainB x)))) (by kernel_rfl) ?_
  refine ⟨rfl, fun n1 hn1 => (rnew_q x.key _).spec.mono fun v m' hag ⟨hv, hpi, huf⟩ => ⟨_, _, _, _, _, _, _, _, _, _, _, _, _, hv, ?_⟩⟩
  have hr : Row m' a (hds x.hs) := (h.sz (Nat.le_trans hn hn1)).agree hag
  cases hk : keyB x.key
  · refine ifB_false ⟨?_⟩
    simp [plainB, rightB, hk]
  · refine ifB_true ⟨_, saccount_q x { ac0 with key := x.key } a none c 0 hx (wf_key _ hx.key) m' hr (.nil _), ⟨?_⟩⟩
    rw [Value.bool.injEq, Bool.eq_iff_iff]
    simp only [decide_eq_true_eq, ac_ext, ac0, plainB, Bool.and_eq_true, List.isEmpty_iff, true_and]
    constructor
    · rintro ⟨h1, h2, h3, h4, h5, h6⟩
      refine ⟨⟨⟨⟨⟨⟨?_, h1⟩, h2⟩, h3⟩, h5⟩, h4⟩, by rw [h6]⟩
      simp [rightB, hk, hasB, h1, h2, h3, h4, h5, h6, holdB, lockB, lkZ, sumI]
    · rintro ⟨⟨⟨⟨⟨⟨h0, h1⟩, h2⟩, h3⟩, h5⟩, h4⟩, h6⟩
      have hp := (right_iff x).1 h0
      have hlk := hp.lock
      simp only [lockB, h6, if_true, lkZ, decide_true, Bool.true_and, Bool.and_eq_true, decide_eq_true_eq] at hlk
      exact ⟨h1, h2, h3, h4, h5, lk_ext.2 ⟨h6, hlk.1.1, hlk.1.2, hlk.2⟩⟩

/-- what 'Own' hands back: the list, two marks behind it, in a block of its own -/
structure Owned (m : M) (cs marks : List Value) (len cap : Nat) (v : Value) (m' : M) : Prop where
  out : ∃ b, v = .slice (some ⟨b, 0, none⟩) len cap ∧ m.sz ≤ b ∧ b < m'.sz ∧ m'.uf b ∧ CellsAt m' b 0 (cs ++ marks)

theorem hown_q (a : Option Addr) (c : Nat) (l : List Hd) (mk : Hd) (hn : l.length ≤ 1048576) (m : M) (h : Row m a (hds l)) :
    Vc.Spec Try.prog 11 [.slice a l.length c, hdv mk] m (Owned m (hds l) (encH mk ++ encH mk) l.length (l.length + 2)) := by
  refine Vc.Spec.of_vc Try.func11 (ann := noAnn) ?_
  refine vc_by (X :=
      true = true ∧
      ((0 : Int) ≤ (0 : Int) ∧
      (0 : Int) ≤ IntKind.i64.wrap ((↑l.length : Int) + (2 : Int)) ∧
      (↑(32 : Nat) : Int) * IntKind.i64.wrap ((↑l.length : Int) + (2 : Int)) ≤ (281474976710656 : Int) ∧
      IntKind.i64.wrap ((↑l.length : Int) + (2 : Int)) ≤ (9223372036854775807 : Int)) ∧
      ∀ (b : Nat),
      m.sz ≤ b →
      ∃ (old : List Value),
      ∃ (src : List Value),
      AppPre m.sz (fun (x : Nat) => False)
      (m.newBlock b
      (madeCells #[Value.int IntKind.i64 (0 : Int), Value.int IntKind.i64 (0 : Int), Value.int IntKind.i64 (0 : Int), Value.int IntKind.i64 (0 : Int)]
      ((IntKind.i64.wrap ((↑l.length : Int) + (2 : Int))).toNat * (4 : Nat))).toList)
      (4 : Nat) (32 : Nat) (some { block := b, off := (0 : Nat) : Addr }) (0 : Nat) (IntKind.i64.wrap ((↑l.length : Int) + (2 : Int))).toNat a l.length old src ∧
      ∀ (a' : Option Addr) (c' : Nat) (m' : M),
      AppPost Try.prog (31 : Nat)
      (m.newBlock b
      (madeCells #[Value.int IntKind.i64 (0 : Int), Value.int IntKind.i64 (0 : Int), Value.int IntKind.i64 (0 : Int), Value.int IntKind.i64 (0 : Int)]
      ((IntKind.i64.wrap ((↑l.length : Int) + (2 : Int))).toNat * (4 : Nat))).toList)
      (4 : Nat) (some { block := b, off := (0 : Nat) : Addr }) (0 : Nat) (IntKind.i64.wrap ((↑l.length : Int) + (2 : Int))).toNat l.length old src a' c' m' →
      true = true ∧
      ∀ (b : Nat),
      m'.sz ≤ b →
      ∃ (old : List Value),
      ∃ (src : List Value),
      AppPre m.sz (fun (x : Nat) => False)
      (m'.newBlock b
      [Value.int IntKind.i64 mk.nd, Value.int IntKind.i64 mk.le, Value.int IntKind.i64 mk.up, Value.int IntKind.i64 mk.dn, Value.int IntKind.i64 mk.nd,
      Value.int IntKind.i64 mk.le, Value.int IntKind.i64 mk.up, Value.int IntKind.i64 mk.dn])
      (4 : Nat) (32 : Nat) a' ((0 : Nat) + l.length) c' (some { block := b, off := (0 : Nat) : Addr }) (2 : Nat) old src ∧
      ∀ (a'_1 : Option Addr) (c'_1 : Nat) (m'_1 : M),
      AppPost Try.prog (31 : Nat)
      (m'.newBlock b
      [Value.int IntKind.i64 mk.nd, Value.int IntKind.i64 mk.le, Value.int IntKind.i64 mk.up, Value.int IntKind.i64 mk.dn,
      Value.int IntKind.i64 mk.nd, Value.int IntKind.i64 mk.le, Value.int IntKind.i64 mk.up, Value.int IntKind.i64 mk.dn])
      (4 : Nat) a' ((0 : Nat) + l.length) c' (2 : Nat) old src a'_1 c'_1 m'_1 →
      (true = true ∧ (0 : Int) ≤ (0 : Int) ∧ (0 : Int) ≤ (↑l.length : Int) ∧ (↑l.length : Int) ≤ (↑c'_1 : Int) ∧ True) ∧
      Done
      (Owned m (hds l)
      [Value.int IntKind.i64 mk.nd, Value.int IntKind.i64 mk.le, Value.int IntKind.i64 mk.up, Value.int IntKind.i64 mk.dn,
      Value.int IntKind.i64 mk.nd, Value.int IntKind.i64 mk.le, Value.int IntKind.i64 mk.up, Value.int IntKind.i64 mk.dn]
      l.length (l.length + (2 : Nat))
      (Value.slice (if (↑c'_1 : Int).toNat = (0 : Nat) then a'_1 else Option.map (fun (x : Addr) => x) a'_1) ((↑l.length : Int).toNat - (0 : Nat))
      ((↑c'_1 : Int).toNat - (0 : Nat)))
      m'_1)) (by kernel_rfl) ?_
  have e : IntKind.i64.wrap ((l.length : Int) + 2) = ((l.length + 2 : Nat) : Int) := by simp [IntKind.wrap_i64]; omega
  rw [e]
  simp only [Int.toNat_natCast]
  refine ⟨trivial, by omega, fun b hb => ?_⟩
  obtain ⟨p1, p2⟩ := owned_calc (P := Try.prog) (e := 31) (size := 4) (bytes := 32) (len := l.length) (m := m) (b := b) (z := (madeCells #[I 0, I 0, I 0, I 0] ((l.length + 2) * 4)).toList) (cs := hds l) (marks := encH mk ++ encH mk) hb h (hds_len l) (one_hds l) rfl rfl zr_hd (by simp [madeCells]) (by omega)
  refine ⟨[], hds l, p1, fun a' c' m' hp => ⟨trivial, fun b2 hb2 => ?_⟩⟩
  obtain ⟨p3, p4⟩ := p2 a' c' m' hp b2 hb2
  refine ⟨hds l, encH mk ++ encH mk, p3, fun a'' c'' m'' hp2 => ?_⟩
  obtain ⟨rfl, rfl, q3, q5, q4⟩ := p4 a'' c'' m'' hp2
  exact ⟨⟨trivial, by omega, by omega, by omega, trivial⟩, ⟨⟨b, by simp, hb, q3, q5, q4⟩⟩⟩

theorem hkept_q (b : Nat) (l : List Hd) (a2 : Option Addr) (c2 : Nat) (mk : Hd) (hn : l.length ≤ 1048576) (m : M) (hb : b < m.sz) (h : CellsAt m b 0 (hds l ++ (encH mk ++ encH mk))) (h2 : Row m a2 (hds l)) :
    QSpec Try.prog 26 [.slice (some ⟨b, 0, none⟩) l.length (l.length + 2), .slice a2 l.length c2, hdv mk] m (.bool true) := by
  refine QSpec.of_vc Try.func26 (ann := fun _ => noAnn) fun n hn => ?_
  refine vc_by (X :=
      true = true ∧
      ifB ((↑l.length : Int) != (↑l.length : Int)) (Done (Value.bool false = Value.bool true))
      (ifB (decide ((↑(l.length + (2 : Nat)) : Int) < IntKind.i64.wrap ((↑l.length : Int) + (2 : Int)))) (Done (Value.bool false = Value.bool true))
      ((true = true ∧
      (0 : Int) ≤ (0 : Int) ∧
      (0 : Int) ≤ IntKind.i64.wrap ((↑l.length : Int) + (2 : Int)) ∧ IntKind.i64.wrap ((↑l.length : Int) + (2 : Int)) ≤ (↑(l.length + (2 : Nat)) : Int) ∧ True) ∧
      true = true ∧
      ∃ (b_1 : Bool),
      QSpec Try.prog (48 : Nat) [Value.slice (some { block := b, off := (0 : Nat) : Addr }) l.length (l.length + (2 : Nat)), Value.slice a2 l.length c2]
      { π := m.π, sz := n, uf := m.uf : M } (Value.bool b_1) ∧
      ifB b_1
      (∃ (b_2 : Nat),
      ∃ (off : Nat),
      some { block := b, off := (0 : Nat) : Addr } = some { block := b_2, off := off : Addr } ∧
      ((0 : Int) ≤ (↑l.length : Int) ∧ (↑l.length : Int) < (↑((IntKind.i64.wrap ((↑l.length : Int) + (2 : Int))).toNat - (0 : Nat)) : Int)) ∧
      ∃ (n_1 : Int),
      ∃ (n_2 : Int),
      ∃ (n_3 : Int),
      ∃ (n_4 : Int),
      CellsAt { π := m.π, sz := n, uf := m.uf : M } b_2 (off + (↑l.length : Int).toNat * (4 : Nat))
      [Value.int IntKind.i64 n_1, Value.int IntKind.i64 n_2, Value.int IntKind.i64 n_3, Value.int IntKind.i64 n_4] ∧
      ifB (n_1 == mk.nd && (n_2 == mk.le && (n_3 == mk.up && (n_4 == mk.dn && true))))
      (∃ (b_3 : Nat),
      ∃ (off : Nat),
      some { block := b, off := (0 : Nat) : Addr } = some { block := b_3, off := off : Addr } ∧
      ((0 : Int) ≤ IntKind.i64.wrap ((↑l.length : Int) + (1 : Int)) ∧
      IntKind.i64.wrap ((↑l.length : Int) + (1 : Int)) < (↑((IntKind.i64.wrap ((↑l.length : Int) + (2 : Int))).toNat - (0 : Nat)) : Int)) ∧
      ∃ (n_5 : Int),
      ∃ (n_6 : Int),
      ∃ (n_7 : Int),
      ∃ (n_8 : Int),
      CellsAt { π := m.π, sz := n, uf := m.uf : M } b_3 (off + (IntKind.i64.wrap ((↑l.length : Int) + (1 : Int))).toNat * (4 : Nat))
      [Value.int IntKind.i64 n_5, Value.int IntKind.i64 n_6, Value.int IntKind.i64 n_7, Value.int IntKind.i64 n_8] ∧
      Done (Value.bool (n_5 == mk.nd && (n_6 == mk.le && (n_7 == mk.up && (n_8 == mk.dn && true)))) = Value.bool true))
      (Done (Value.bool false = Value.bool true)))
      (Done (Value.bool false = Value.bool true))))) (by kernel_rfl) ?_
  have e : IntKind.i64.wrap ((l.length : Int) + 2) = ((l.length + 2 : Nat) : Int) := by simp [IntKind.wrap_i64]; omega
  have e1 : IntKind.i64.wrap ((l.length : Int) + 1) = ((l.length + 1 : Nat) : Int) := by simp [IntKind.wrap_i64]; omega
  rw [e, e1]
  simp only [Int.toNat_natCast]
  have hk := h.drop
  rw [hds_len] at hk
  have k1 : CellsAt m b (0 + l.length * 4) (encH mk) := hk.take
  have k2 : CellsAt m b (0 + (l.length + 1) * 4) (encH mk) := by
    have := hk.drop (cs := encH mk)
    rw [show 0 + (l.length + 1) * 4 = 0 + l.length * 4 + (encH mk).length by simp; omega]
    exact this
  have hq := hplain_q (some ⟨b, 0, none⟩) a2 (l.length + 2) c2 l l (by omega) { m with sz := n } (.at _ _ _ (Nat.lt_of_lt_of_le hb hn) ⟨h.take.out⟩) (h2.sz hn)
  refine ⟨trivial, ifB_intro (fun h3 => by simp at h3) (fun h3 => ifB_intro (fun h4 => by simp at h4) (fun h4 => ⟨⟨trivial, by omega, by omega, by omega, trivial⟩, trivial, _, hq, ?_⟩))⟩
  have et : decide (l = l) = true := by simp
  rw [et]
  refine ifB_true ⟨b, 0, rfl, by constructor <;> simp <;> omega, _, _, _, _, ⟨k1.out⟩, ifB_intro (fun h5 => ⟨b, 0, rfl, by constructor <;> simp <;> omega, _, _, _, _, ⟨k2.out⟩, ⟨by simp⟩⟩) (fun h5 => by simp at h5)⟩

theorem awake_q (m : M) : QSpec Try.prog 21 [] m (.bool true) := by
  refine QSpec.of_vc Try.func21 (ann := fun _ => noAnn) fun n hn => ?_
  refine vc_by (X :=
      true = true ∧
      ∀ (n_1 : Nat),
      n ≤ n_1 →
      Vc.Spec Try.prog (13 : Nat) [Value.string { data := #[(107 : UInt8)] : ByteArray }] { π := m.π, sz := n_1, uf := m.uf : M } fun (v : Value) (m' : M) =>
      ∃ (s : ByteArray),
      ∃ (n : Int),
      ∃ (n_2 : Int),
      ∃ (n_3 : Int),
      ∃ (n_4 : Int),
      ∃ (a : Option Addr),
      ∃ (n_5 : Nat),
      ∃ (c : Nat),
      ∃ (n_6 : Int),
      ∃ (n_7 : Int),
      ∃ (n_8 : Int),
      ∃ (n_9 : Int),
      ∃ (n_10 : Int),
      v =
      Value.tuple
      #[Value.agg
      #[Value.string s, Value.int IntKind.i64 n, Value.int IntKind.i64 n_2, Value.int IntKind.i64 n_3, Value.int IntKind.i64 n_4,
      Value.slice a n_5 c, Value.int IntKind.i64 n_6, Value.int IntKind.i64 n_7, Value.int IntKind.i64 n_8, Value.int IntKind.i64 n_9],
      Value.int IntKind.i64 n_10] ∧
      ifB (n_10 == (0 : Int))
      (ifB (s.toList == [{ data := #[(107 : UInt8)] : ByteArray }.get! (0 : Nat)])
      (∃ (b : Bool),
      QSpec Try.prog (24 : Nat)
      [Value.agg
      #[Value.string s, Value.int IntKind.i64 n, Value.int IntKind.i64 n_2, Value.int IntKind.i64 n_3, Value.int IntKind.i64 n_4,
      Value.slice a n_5 c, Value.int IntKind.i64 n_6, Value.int IntKind.i64 n_7, Value.int IntKind.i64 n_8,
      Value.int IntKind.i64 n_9]]
      m' (Value.bool b) ∧
      ifB b
      (∃ (n : Int),
      QSpec Try.prog (22 : Nat)
      [Value.agg
      #[Value.string { data := #[] : ByteArray }, Value.int IntKind.i64 (0 : Int), Value.int IntKind.i64 (0 : Int),
      Value.int IntKind.i64 (0 : Int), Value.int IntKind.i64 (0 : Int), Value.slice none (0 : Nat) (0 : Nat),
      Value.int IntKind.i64 (0 : Int), Value.int IntKind.i64 (0 : Int), Value.int IntKind.i64 (0 : Int),
      Value.int IntKind.i64 (0 : Int)]]
      m' (Value.int IntKind.i64 n) ∧
      Done (Value.bool (n == (21 : Int)) = Value.bool true))
      (Done (Value.bool false = Value.bool true)))
      (Done (Value.bool false = Value.bool true)))
      (Done (Value.bool false = Value.bool true))) (by kernel_rfl) ?_
  refine ⟨rfl, fun n1 hn1 => (new_q _ _).spec.mono fun v m' hag ⟨hv, hpi, huf⟩ => ⟨_, _, _, _, _, _, _, _, _, _, _, _, _, hv, ?_⟩⟩
  have hk : keyB ⟨#[107]⟩ = true := by decide
  have e : (ByteArray.toList ⟨#[107]⟩ == [ByteArray.get! ⟨#[107]⟩ 0]) = true := by rw [ByteArray.toList_eq]; rfl
  simp only [hk, if_true]
  refine ifB_true ?_
  rw [e]
  refine ifB_true ⟨_, plain_acc_q { ac0 with key := ⟨#[107]⟩ } none 0 (wf_key _ (by decide)) m' (.nil _), ifB_true ⟨_, check_q ac0 none 0 (wf_key _ (by decide)) m' (.nil _), ⟨?_⟩⟩⟩
  have : rightB ac0 = false := by decide
  simp [this]

end Go.Proofs.Ytlifpjllhibdpaa
