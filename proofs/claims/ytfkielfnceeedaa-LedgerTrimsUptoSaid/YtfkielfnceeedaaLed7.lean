/-
  Contracts of functions of this seat: what each hands back, and what it leaves of memory (led7). Nothing here is trusted: Lean checks it.
-/
import Derived.Test.YtfkielfnceeedaaLed6
set_option linter.unusedVariables false
set_option linter.unusedSimpArgs false
namespace Go.Proofs.Ytfkielfnceeedaa
open Go.Vc Go.RowKit
set_option maxRecDepth 100000

/-- the two numbers between which the total lies -/
def brackE (l : List Rt) (g : Int) (x : Ac) (nd : Int) : Int × Int × Int :=
  if heldE l g x nd false ≠ 0 then (0, 0, heldE l g x nd false) else
  if inB (findH x nd) (netR l g x.key (findH x nd).le) = false then (0, 0, 150) else
  (x.lo + (findH x nd).dn + netR l g x.key (findH x nd).le, x.hi - (findH x nd).up + netR l g x.key (findH x nd).le, 0)

theorem lbracket_q (al : Option Addr) (cl : Nat) (l : List Rt) (g : Int) (x : Ac) (a : Option Addr) (c : Nat) (nd : Int) (hl : l.length ≤ 9223372036854775807) (hlw : ∀ r ∈ l, r.wf) (hx : x.wf) (m : M) (h1 : Row m al (rts l)) (h2 : Row m a (hds x.hs)) :
    QSpec Try.prog 26 [.slice al l.length cl, I g, acv x a c, I nd] m (.tuple #[I (brackE l g x nd).1, I (brackE l g x nd).2.1, I (brackE l g x nd).2.2]) := by
  refine QSpec.of_vc Try.func26 (ann := fun _ => noAnn) fun N hN => ?_
  refine vc_by (X :=
      true = true ∧
      ∃ (n : Int),
      ∃ (n_1 : Int),
      ∃ (n_2 : Int),
      ∃ (n_3 : Int),
      ∃ (n_4 : Int),
      QSpec Try.prog (54 : Nat)
      [Value.slice al l.length cl, Value.int IntKind.i64 g,
      Value.agg
      #[Value.string x.key, Value.int IntKind.i64 x.lo, Value.int IntKind.i64 x.hi, Value.int IntKind.i64 x.base, Value.int IntKind.i64 x.round,
      Value.slice a x.hs.length c, Value.int IntKind.i64 x.lk.cl, Value.int IntKind.i64 x.lk.sq, Value.int IntKind.i64 x.lk.hm, Value.int IntKind.i64 x.lk.n],
      Value.int IntKind.i64 nd, Value.int IntKind.i64 (1 : Int)]
      { π := m.π, sz := N, uf := m.uf : M }
      (Value.tuple #[Value.agg #[Value.int IntKind.i64 n, Value.int IntKind.i64 n_1, Value.int IntKind.i64 n_2, Value.int IntKind.i64 n_3], Value.int IntKind.i64 n_4]) ∧
      ifB (n_4 != (0 : Int))
      (Done
      (Value.tuple #[Value.int IntKind.i64 (0 : Int), Value.int IntKind.i64 (0 : Int), Value.int IntKind.i64 n_4] =
      Value.tuple #[Value.int IntKind.i64 (brackE l g x nd).fst, Value.int IntKind.i64 (brackE l g x nd).snd.fst, Value.int IntKind.i64 (brackE l g x nd).snd.snd]))
      (∃ (n_5 : Int),
      QSpec Try.prog (16 : Nat) [Value.slice al l.length cl, Value.int IntKind.i64 g, Value.string x.key, Value.int IntKind.i64 n_1]
      { π := m.π, sz := N, uf := m.uf : M } (Value.int IntKind.i64 n_5) ∧
      ∃ (b : Bool),
      QSpec Try.prog (56 : Nat)
      [Value.agg #[Value.int IntKind.i64 n, Value.int IntKind.i64 n_1, Value.int IntKind.i64 n_2, Value.int IntKind.i64 n_3], Value.int IntKind.i64 n_5]
      { π := m.π, sz := N, uf := m.uf : M } (Value.bool b) ∧
      ifB (!b)
      (Done
      (Value.tuple #[Value.int IntKind.i64 (0 : Int), Value.int IntKind.i64 (0 : Int), Value.int IntKind.i64 (150 : Int)] =
      Value.tuple
      #[Value.int IntKind.i64 (brackE l g x nd).fst, Value.int IntKind.i64 (brackE l g x nd).snd.fst, Value.int IntKind.i64 (brackE l g x nd).snd.snd]))
      (true = true ∧
      ∀ (b : Nat),
      N ≤ b →
      ∃ (n : Int),
      ∃ (n_6 : Int),
      QSpec Try.prog (59 : Nat) [Value.slice (some { block := b, off := (0 : Nat) : Addr }) (3 : Nat) (3 : Nat)]
      ({ π := m.π, sz := N, uf := m.uf : M }.newBlock b [Value.int IntKind.i64 x.lo, Value.int IntKind.i64 n_3, Value.int IntKind.i64 n_5])
      (Value.tuple #[Value.int IntKind.i64 n, Value.int IntKind.i64 n_6]) ∧
      true = true ∧
      ∀ (b_1 : Nat),
      max N (b + (1 : Nat)) ≤ b_1 →
      ∃ (n_7 : Int),
      ∃ (n_8 : Int),
      QSpec Try.prog (59 : Nat) [Value.slice (some { block := b_1, off := (0 : Nat) : Addr }) (3 : Nat) (3 : Nat)]
      (({ π := m.π, sz := N, uf := m.uf : M }.newBlock b
      [Value.int IntKind.i64 x.lo, Value.int IntKind.i64 n_3, Value.int IntKind.i64 n_5]).newBlock
      b_1 [Value.int IntKind.i64 x.hi, Value.int IntKind.i64 (IntKind.i64.wrap ((0 : Int) - n_2)), Value.int IntKind.i64 n_5])
      (Value.tuple #[Value.int IntKind.i64 n_7, Value.int IntKind.i64 n_8]) ∧
      ifB (n_6 != (0 : Int))
      (Done
      (Value.tuple #[Value.int IntKind.i64 (0 : Int), Value.int IntKind.i64 (0 : Int), Value.int IntKind.i64 (150 : Int)] =
      Value.tuple
      #[Value.int IntKind.i64 (brackE l g x nd).fst, Value.int IntKind.i64 (brackE l g x nd).snd.fst,
      Value.int IntKind.i64 (brackE l g x nd).snd.snd]))
      (ifB (n_8 != (0 : Int))
      (Done
      (Value.tuple #[Value.int IntKind.i64 (0 : Int), Value.int IntKind.i64 (0 : Int), Value.int IntKind.i64 (150 : Int)] =
      Value.tuple
      #[Value.int IntKind.i64 (brackE l g x nd).fst, Value.int IntKind.i64 (brackE l g x nd).snd.fst,
      Value.int IntKind.i64 (brackE l g x nd).snd.snd]))
      (Done
      (Value.tuple #[Value.int IntKind.i64 n, Value.int IntKind.i64 n_7, Value.int IntKind.i64 (0 : Int)] =
      Value.tuple
      #[Value.int IntKind.i64 (brackE l g x nd).fst, Value.int IntKind.i64 (brackE l g x nd).snd.fst,
      Value.int IntKind.i64 (brackE l g x nd).snd.snd])))))) (by kernel_rfl) ?_
  have k1 := h1.sz hN
  have k2 := h2.sz hN
  have hq := holder_q al cl l g x a c nd 1 hl hx _ k1 k2
  have e10 : (decide ((1 : Int) = 0)) = false := by simp
  rw [e10] at hq
  refine ⟨rfl, _, _, _, _, _, hq, ?_⟩
  refine ifB_intro (fun q => ⟨?_⟩) (fun q => ?_)
  · have q : heldE l g x nd false ≠ 0 := by simpa using q
    simp [brackE, q]
  have q : heldE l g x nd false = 0 := by simpa using q
  have hh : heldH l g x nd false = findH x nd := by simp [heldH, q]
  have hb : findB x nd = true := by
    unfold heldE at q
    split at q; · simp at q
    split at q; · simp at q
    split at q; · simp at q
    rename_i h; simpa using h
  have F := find_fact hx hb
  have hnet := net_in hlw g x.key (findH x nd).le
  have hup := F.up
  have hdn := F.dn
  have hlo := hx.lo
  have hhi := hx.hi
  have hba := hx.base
  have fhi := F.hi
  have flo := F.lo
  have w : IntKind.i64.wrap (0 - (findH x nd).up) = -(findH x nd).up := by simp [IntKind.wrap_i64]; omega
  rw [hh]
  rw [w]
  refine ⟨_, lnet_q al cl l g x.key (findH x nd).le hl _ k1, ?_⟩
  generalize hnv : netR l g x.key (findH x nd).le = nv at *
  refine ⟨_, within_q _ _ hdn _, ifB_intro (fun q3 => ⟨?_⟩) (fun q3 => ?_)⟩
  · have q3 : inB (findH x nd) nv = false := by simpa using q3
    simp [brackE, q, hnv, q3]
  have q3 : inB (findH x nd) nv = true := by simpa using q3
  have q4 : -(findH x nd).dn ≤ nv ∧ nv ≤ (findH x nd).up := by simp [inB] at q3; omega
  have s1 : sumI [x.lo, (findH x nd).dn, nv] = x.lo + (findH x nd).dn + nv := by simp [sumI]
  have s2 : sumI [x.hi, -(findH x nd).up, nv] = x.hi - (findH x nd).up + nv := by simp [sumI]; omega
  have i1 : In64 (x.lo + (findH x nd).dn + nv) := by unfold In64 at *; omega
  have i2 : In64 (x.hi - (findH x nd).up + nv) := by unfold In64 at *; omega
  refine ⟨rfl, fun b hb => ?_⟩
  have g1 := sum_q (some ⟨b, 0, none⟩) 3 [x.lo, (findH x nd).dn, nv] (fun y hy => by
    simp at hy
    rcases hy with rfl | rfl | rfl
    · exact hlo
    · unfold In64; omega
    · exact hnet) (by simp) _ (Row.new (m := { m with sz := N }))
  rw [s1, if_pos i1, if_pos i1] at g1
  refine ⟨_, _, g1, rfl, fun b2 hb2 => ?_⟩
  have g2 := sum_q (some ⟨b2, 0, none⟩) 3 [x.hi, -(findH x nd).up, nv] (fun y hy => by
    simp at hy
    rcases hy with rfl | rfl | rfl
    · exact hhi
    · unfold In64; omega
    · exact hnet) (by simp) _ (Row.new (m := (({ m with sz := N } : M).newBlock b [I x.lo, I (findH x nd).dn, I nv])))
  rw [s2, if_pos i2, if_pos i2] at g2
  exact ⟨_, _, g2, ifB_false (ifB_false ⟨by simp [brackE, q, hnv, q3]⟩)⟩

theorem rbracket_q (al : Option Addr) (cl : Nat) (l : List Rt) (g : Int) (x : Ac) (a : Option Addr) (c : Nat) (nd : Int) (hl : l.length ≤ 9223372036854775807) (hlw : ∀ r ∈ l, r.wf) (hx : x.wf) (m : M) (h1 : Row m al (rts l)) (h2 : Row m a (hds x.hs)) :
    QSpec Try.prog 27 [.slice al l.length cl, I g, acv x a c, I nd] m (.tuple #[I (brackE l g x nd).1, I (brackE l g x nd).2.1, I (brackE l g x nd).2.2]) := by
  refine QSpec.of_vc Try.func27 (ann := fun _ => noAnn) fun N hN => ?_
  refine vc_by (X :=
      true = true ∧
      ∃ (n : Int),
      ∃ (n_1 : Int),
      ∃ (n_2 : Int),
      ∃ (n_3 : Int),
      ∃ (n_4 : Int),
      QSpec Try.prog (57 : Nat)
      [Value.slice al l.length cl, Value.int IntKind.i64 g,
      Value.agg
      #[Value.string x.key, Value.int IntKind.i64 x.lo, Value.int IntKind.i64 x.hi, Value.int IntKind.i64 x.base, Value.int IntKind.i64 x.round,
      Value.slice a x.hs.length c, Value.int IntKind.i64 x.lk.cl, Value.int IntKind.i64 x.lk.sq, Value.int IntKind.i64 x.lk.hm, Value.int IntKind.i64 x.lk.n],
      Value.int IntKind.i64 nd, Value.bool false]
      { π := m.π, sz := N, uf := m.uf : M }
      (Value.tuple #[Value.agg #[Value.int IntKind.i64 n, Value.int IntKind.i64 n_1, Value.int IntKind.i64 n_2, Value.int IntKind.i64 n_3], Value.int IntKind.i64 n_4]) ∧
      ifB (n_4 != (0 : Int))
      (Done
      (Value.tuple #[Value.int IntKind.i64 (0 : Int), Value.int IntKind.i64 (0 : Int), Value.int IntKind.i64 n_4] =
      Value.tuple #[Value.int IntKind.i64 (brackE l g x nd).fst, Value.int IntKind.i64 (brackE l g x nd).snd.fst, Value.int IntKind.i64 (brackE l g x nd).snd.snd]))
      (∃ (n_5 : Int),
      QSpec Try.prog (17 : Nat) [Value.slice al l.length cl, Value.int IntKind.i64 g, Value.string x.key, Value.int IntKind.i64 n_1]
      { π := m.π, sz := N, uf := m.uf : M } (Value.int IntKind.i64 n_5) ∧
      ∃ (b : Bool),
      QSpec Try.prog (58 : Nat)
      [Value.agg #[Value.int IntKind.i64 n, Value.int IntKind.i64 n_1, Value.int IntKind.i64 n_2, Value.int IntKind.i64 n_3], Value.int IntKind.i64 n_5,
      Value.int IntKind.i64 (0 : Int)]
      { π := m.π, sz := N, uf := m.uf : M } (Value.bool b) ∧
      ifB (!b)
      (Done
      (Value.tuple #[Value.int IntKind.i64 (0 : Int), Value.int IntKind.i64 (0 : Int), Value.int IntKind.i64 (150 : Int)] =
      Value.tuple
      #[Value.int IntKind.i64 (brackE l g x nd).fst, Value.int IntKind.i64 (brackE l g x nd).snd.fst, Value.int IntKind.i64 (brackE l g x nd).snd.snd]))
      (true = true ∧
      ∀ (b : Nat),
      N ≤ b →
      ∃ (n : Int),
      ∃ (n_6 : Int),
      QSpec Try.prog (60 : Nat) [Value.slice (some { block := b, off := (0 : Nat) : Addr }) (3 : Nat) (3 : Nat)]
      ({ π := m.π, sz := N, uf := m.uf : M }.newBlock b [Value.int IntKind.i64 x.lo, Value.int IntKind.i64 n_3, Value.int IntKind.i64 n_5])
      (Value.agg #[Value.int IntKind.i64 n, Value.int IntKind.u64 n_6]) ∧
      ∃ (n_7 : Int),
      ∃ (b_1 : Bool),
      QSpec Try.prog (61 : Nat) [Value.agg #[Value.int IntKind.i64 n, Value.int IntKind.u64 n_6]]
      ({ π := m.π, sz := N, uf := m.uf : M }.newBlock b [Value.int IntKind.i64 x.lo, Value.int IntKind.i64 n_3, Value.int IntKind.i64 n_5])
      (Value.tuple #[Value.int IntKind.i64 n_7, Value.bool b_1]) ∧
      true = true ∧
      (true = true ∧
      ∀ (b_2 : Nat),
      max N (b + (1 : Nat)) ≤ b_2 →
      MLe
      ({ π := m.π, sz := N, uf := m.uf : M }.newBlock b
      [Value.int IntKind.i64 x.lo, Value.int IntKind.i64 n_3, Value.int IntKind.i64 n_5])
      (({ π := m.π, sz := N, uf := m.uf : M }.newBlock b
      [Value.int IntKind.i64 x.lo, Value.int IntKind.i64 n_3, Value.int IntKind.i64 n_5]).newBlock
      b_2 [Value.int IntKind.i64 x.hi, Value.int IntKind.i64 n_5]) ∧
      ∃ (n : Int),
      ∃ (n_8 : Int),
      QSpec Try.prog (60 : Nat) [Value.slice (some { block := b_2, off := (0 : Nat) : Addr }) (2 : Nat) (2 : Nat)]
      (({ π := m.π, sz := N, uf := m.uf : M }.newBlock b
      [Value.int IntKind.i64 x.lo, Value.int IntKind.i64 n_3, Value.int IntKind.i64 n_5]).newBlock
      b_2 [Value.int IntKind.i64 x.hi, Value.int IntKind.i64 n_5])
      (Value.agg #[Value.int IntKind.i64 n, Value.int IntKind.u64 n_8]) ∧
      ∃ (n_9 : Int),
      ∃ (n_10 : Int),
      QSpec Try.prog (62 : Nat)
      [Value.agg #[Value.int IntKind.i64 n, Value.int IntKind.u64 n_8], Value.int IntKind.i64 n_2]
      (({ π := m.π, sz := N, uf := m.uf : M }.newBlock b
      [Value.int IntKind.i64 x.lo, Value.int IntKind.i64 n_3, Value.int IntKind.i64 n_5]).newBlock
      b_2 [Value.int IntKind.i64 x.hi, Value.int IntKind.i64 n_5])
      (Value.agg #[Value.int IntKind.i64 n_9, Value.int IntKind.u64 n_10]) ∧
      ∃ (n : Int),
      ∃ (b_3 : Bool),
      QSpec Try.prog (61 : Nat) [Value.agg #[Value.int IntKind.i64 n_9, Value.int IntKind.u64 n_10]]
      (({ π := m.π, sz := N, uf := m.uf : M }.newBlock b
      [Value.int IntKind.i64 x.lo, Value.int IntKind.i64 n_3, Value.int IntKind.i64 n_5]).newBlock
      b_2 [Value.int IntKind.i64 x.hi, Value.int IntKind.i64 n_5])
      (Value.tuple #[Value.int IntKind.i64 n, Value.bool b_3]) ∧
      Done
      (Value.tuple #[Value.int IntKind.i64 n_7, Value.int IntKind.i64 n, Value.int IntKind.i64 (0 : Int)] =
      Value.tuple
      #[Value.int IntKind.i64 (brackE l g x nd).fst, Value.int IntKind.i64 (brackE l g x nd).snd.fst,
      Value.int IntKind.i64 (brackE l g x nd).snd.snd])) ∧
      True))) (by kernel_rfl) ?_
  have k1 := h1.sz hN
  have k2 := h2.sz hN
  refine ⟨rfl, _, _, _, _, _, held_q al cl l g x a c nd false hl hx _ k1 k2, ?_⟩
  refine ifB_intro (fun q => ⟨?_⟩) (fun q => ?_)
  · have q : heldE l g x nd false ≠ 0 := by simpa using q
    simp [brackE, q]
  have q : heldE l g x nd false = 0 := by simpa using q
  have hh : heldH l g x nd false = findH x nd := by simp [heldH, q]
  have hb : findB x nd = true := by
    unfold heldE at q
    split at q; · simp at q
    split at q; · simp at q
    split at q; · simp at q
    rename_i h; simpa using h
  have F := find_fact hx hb
  have hnet := net_in hlw g x.key (findH x nd).le
  have hup := F.up
  have hdn := F.dn
  have hlo := hx.lo
  have hhi := hx.hi
  have hba := hx.base
  have fhi := F.hi
  have flo := F.lo
  have w : IntKind.i64.wrap (0 - (findH x nd).up) = -(findH x nd).up := by simp [IntKind.wrap_i64]; omega
  rw [hh]
  refine ⟨_, rnet_q al cl l g x.key (findH x nd).le hl _ k1, ?_⟩
  generalize hnv : netR l g x.key (findH x nd).le = nv at *
  have hw := rwithin_q (findH x nd) nv 0 (by unfold In64; omega) hdn hnet (by simp [In64]) { m with sz := N }
  rw [Int.add_zero] at hw
  refine ⟨_, hw, ifB_intro (fun q3 => ⟨?_⟩) (fun q3 => ?_)⟩
  · have q3 : inB (findH x nd) nv = false := by simpa using q3
    simp [brackE, q, hnv, q3]
  have q3 : inB (findH x nd) nv = true := by simpa using q3
  have q4 : -(findH x nd).dn ≤ nv ∧ nv ≤ (findH x nd).up := by simp [inB] at q3; omega
  have s1 : sumI [x.lo, (findH x nd).dn, nv] = x.lo + (findH x nd).dn + nv := by simp [sumI]
  have s2 : sumI [x.hi, nv] - (findH x nd).up = x.hi - (findH x nd).up + nv := by simp [sumI]; omega
  have i1 : In64 (x.lo + (findH x nd).dn + nv) := by unfold In64 at *; omega
  have i2 : In64 (x.hi - (findH x nd).up + nv) := by unfold In64 at *; omega
  have j1 : -85070591730234615865843651857942052864 ≤ x.lo + (findH x nd).dn + nv ∧ x.lo + (findH x nd).dn + nv ≤ 85070591730234615865843651857942052864 := by unfold In64 at i1; omega
  have j2 : -85070591730234615865843651857942052864 ≤ x.hi - (findH x nd).up + nv ∧ x.hi - (findH x nd).up + nv ≤ 85070591730234615865843651857942052864 := by unfold In64 at i2; omega
  refine ⟨rfl, fun b hb => ?_⟩
  have g1 := of_q (some ⟨b, 0, none⟩) 3 [x.lo, (findH x nd).dn, nv] (fun y hy => by
    simp at hy
    rcases hy with rfl | rfl | rfl
    · exact hlo
    · unfold In64; omega
    · exact hnet) (by simp) _ (Row.new (m := { m with sz := N }))
  rw [s1] at g1
  refine ⟨_, _, g1, _, _, int_q _ j1.1 j1.2 _, rfl, ⟨rfl, fun b2 hb2 => ?_⟩, trivial⟩
  have g2 := of_q (some ⟨b2, 0, none⟩) 2 [x.hi, nv] (fun y hy => by
    simp at hy
    rcases hy with rfl | rfl
    · exact hhi
    · exact hnet) (by simp) _ (Row.new (m := (({ m with sz := N } : M).newBlock b [I x.lo, I (findH x nd).dn, I nv])))
  have g3 := less_q (sumI [x.hi, nv]) (findH x nd).up (by unfold In64; omega) (((({ m with sz := N } : M).newBlock b [I x.lo, I (findH x nd).dn, I nv])).newBlock b2 [I x.hi, I nv])
  rw [s2] at g3
  refine ⟨MLe.newBlock hb2, _, _, g2, _, _, g3, _, _, int_q _ j2.1 j2.2 _, ⟨?_⟩⟩
  have v1 : IntKind.i64.wrap (x.lo + (findH x nd).dn + nv) = x.lo + (findH x nd).dn + nv := by unfold In64 at i1; simp [IntKind.wrap_i64]; omega
  have v2 : IntKind.i64.wrap (x.hi - (findH x nd).up + nv) = x.hi - (findH x nd).up + nv := by unfold In64 at i2; simp [IntKind.wrap_i64]; omega
  simp [brackE, q, hnv, q3, i1, i2, v1, v2]

structure Cm where
  k : Int
  nd : Int
  ky : ByteArray
  le : Int
  ro : Int
  ne : Int

abbrev cmv (c : Cm) : Value := .agg #[I c.k, I 0, I 0, I 0, I c.nd, I 0, .string c.ky, I c.le, I c.ro, I c.ne, .bool false, I 0, .string .empty, .string .empty, I 0, I 0, I 0, I 0, I 0, I 0, .string .empty, .string .empty, I 0, I 0, .slice none 0 0]

def repB (l : List Rt) (g : Int) (x : Ac) (nd : Int) : Bool := ledB none l && findB x nd && decide (x.round ≠ 0) && groupB g

def repC (l : List Rt) (g : Int) (x : Ac) (nd : Int) : Cm := if repB l g x nd then ⟨2, nd, x.key, (findH x nd).le, x.round, netR l g x.key (findH x nd).le⟩ else ⟨0, 0, .empty, 0, 0, 0⟩

theorem lreport_q (al : Option Addr) (cl : Nat) (l : List Rt) (g : Int) (x : Ac) (a : Option Addr) (c : Nat) (nd : Int) (hl : l.length ≤ 9223372036854775807) (hx : x.wf) (m : M) (h1 : Row m al (rts l)) (h2 : Row m a (hds x.hs)) :
    QSpec Try.prog 28 [.slice al l.length cl, I g, acv x a c, I nd] m (.tuple #[cmv (repC l g x nd), .bool (repB l g x nd)]) := by
  refine QSpec.of_vc Try.func28 (ann := fun _ => noAnn) fun N hN => ?_
  refine vc_by (X :=
      true = true ∧
      ∃ (n : Int),
      QSpec Try.prog (14 : Nat) [Value.slice al l.length cl] { π := m.π, sz := N, uf := m.uf : M } (Value.int IntKind.i64 n) ∧
      ifB (n != (0 : Int))
      (Done
      (Value.tuple
      #[Value.agg
      #[Value.int IntKind.i64 (0 : Int), Value.int IntKind.i64 (0 : Int), Value.int IntKind.i64 (0 : Int), Value.int IntKind.i64 (0 : Int),
      Value.int IntKind.i64 (0 : Int), Value.int IntKind.i64 (0 : Int), Value.string { data := #[] : ByteArray }, Value.int IntKind.i64 (0 : Int),
      Value.int IntKind.i64 (0 : Int), Value.int IntKind.i64 (0 : Int), Value.bool false, Value.int IntKind.i64 (0 : Int), Value.string { data := #[] : ByteArray },
      Value.string { data := #[] : ByteArray }, Value.int IntKind.i64 (0 : Int), Value.int IntKind.i64 (0 : Int), Value.int IntKind.i64 (0 : Int),
      Value.int IntKind.i64 (0 : Int), Value.int IntKind.i64 (0 : Int), Value.int IntKind.i64 (0 : Int), Value.string { data := #[] : ByteArray },
      Value.string { data := #[] : ByteArray }, Value.int IntKind.i64 (0 : Int), Value.int IntKind.i64 (0 : Int), Value.slice none (0 : Nat) (0 : Nat)],
      Value.bool false] =
      Value.tuple
      #[Value.agg
      #[Value.int IntKind.i64 (repC l g x nd).k, Value.int IntKind.i64 (0 : Int), Value.int IntKind.i64 (0 : Int), Value.int IntKind.i64 (0 : Int),
      Value.int IntKind.i64 (repC l g x nd).nd, Value.int IntKind.i64 (0 : Int), Value.string (repC l g x nd).ky, Value.int IntKind.i64 (repC l g x nd).le,
      Value.int IntKind.i64 (repC l g x nd).ro, Value.int IntKind.i64 (repC l g x nd).ne, Value.bool false, Value.int IntKind.i64 (0 : Int),
      Value.string ByteArray.empty, Value.string ByteArray.empty, Value.int IntKind.i64 (0 : Int), Value.int IntKind.i64 (0 : Int), Value.int IntKind.i64 (0 : Int),
      Value.int IntKind.i64 (0 : Int), Value.int IntKind.i64 (0 : Int), Value.int IntKind.i64 (0 : Int), Value.string ByteArray.empty, Value.string ByteArray.empty,
      Value.int IntKind.i64 (0 : Int), Value.int IntKind.i64 (0 : Int), Value.slice none (0 : Nat) (0 : Nat)],
      Value.bool (repB l g x nd)]))
      (∃ (n : Int),
      QSpec Try.prog (47 : Nat)
      [Value.agg
      #[Value.string x.key, Value.int IntKind.i64 x.lo, Value.int IntKind.i64 x.hi, Value.int IntKind.i64 x.base, Value.int IntKind.i64 x.round,
      Value.slice a x.hs.length c, Value.int IntKind.i64 x.lk.cl, Value.int IntKind.i64 x.lk.sq, Value.int IntKind.i64 x.lk.hm, Value.int IntKind.i64 x.lk.n]]
      { π := m.π, sz := N, uf := m.uf : M } (Value.int IntKind.i64 n) ∧
      ifB (n != (0 : Int))
      (Done
      (Value.tuple
      #[Value.agg
      #[Value.int IntKind.i64 (0 : Int), Value.int IntKind.i64 (0 : Int), Value.int IntKind.i64 (0 : Int), Value.int IntKind.i64 (0 : Int),
      Value.int IntKind.i64 (0 : Int), Value.int IntKind.i64 (0 : Int), Value.string { data := #[] : ByteArray }, Value.int IntKind.i64 (0 : Int),
      Value.int IntKind.i64 (0 : Int), Value.int IntKind.i64 (0 : Int), Value.bool false, Value.int IntKind.i64 (0 : Int),
      Value.string { data := #[] : ByteArray }, Value.string { data := #[] : ByteArray }, Value.int IntKind.i64 (0 : Int), Value.int IntKind.i64 (0 : Int),
      Value.int IntKind.i64 (0 : Int), Value.int IntKind.i64 (0 : Int), Value.int IntKind.i64 (0 : Int), Value.int IntKind.i64 (0 : Int),
      Value.string { data := #[] : ByteArray }, Value.string { data := #[] : ByteArray }, Value.int IntKind.i64 (0 : Int), Value.int IntKind.i64 (0 : Int),
      Value.slice none (0 : Nat) (0 : Nat)],
      Value.bool false] =
      Value.tuple
      #[Value.agg
      #[Value.int IntKind.i64 (repC l g x nd).k, Value.int IntKind.i64 (0 : Int), Value.int IntKind.i64 (0 : Int), Value.int IntKind.i64 (0 : Int),
      Value.int IntKind.i64 (repC l g x nd).nd, Value.int IntKind.i64 (0 : Int), Value.string (repC l g x nd).ky, Value.int IntKind.i64 (repC l g x nd).le,
      Value.int IntKind.i64 (repC l g x nd).ro, Value.int IntKind.i64 (repC l g x nd).ne, Value.bool false, Value.int IntKind.i64 (0 : Int),
      Value.string ByteArray.empty, Value.string ByteArray.empty, Value.int IntKind.i64 (0 : Int), Value.int IntKind.i64 (0 : Int),
      Value.int IntKind.i64 (0 : Int), Value.int IntKind.i64 (0 : Int), Value.int IntKind.i64 (0 : Int), Value.int IntKind.i64 (0 : Int),
      Value.string ByteArray.empty, Value.string ByteArray.empty, Value.int IntKind.i64 (0 : Int), Value.int IntKind.i64 (0 : Int),
      Value.slice none (0 : Nat) (0 : Nat)],
      Value.bool (repB l g x nd)]))
      (ifB (x.round == (0 : Int))
      (Done
      (Value.tuple
      #[Value.agg
      #[Value.int IntKind.i64 (0 : Int), Value.int IntKind.i64 (0 : Int), Value.int IntKind.i64 (0 : Int), Value.int IntKind.i64 (0 : Int),
      Value.int IntKind.i64 (0 : Int), Value.int IntKind.i64 (0 : Int), Value.string { data := #[] : ByteArray }, Value.int IntKind.i64 (0 : Int),
      Value.int IntKind.i64 (0 : Int), Value.int IntKind.i64 (0 : Int), Value.bool false, Value.int IntKind.i64 (0 : Int),
      Value.string { data := #[] : ByteArray }, Value.string { data := #[] : ByteArray }, Value.int IntKind.i64 (0 : Int), Value.int IntKind.i64 (0 : Int),
      Value.int IntKind.i64 (0 : Int), Value.int IntKind.i64 (0 : Int), Value.int IntKind.i64 (0 : Int), Value.int IntKind.i64 (0 : Int),
      Value.string { data := #[] : ByteArray }, Value.string { data := #[] : ByteArray }, Value.int IntKind.i64 (0 : Int), Value.int IntKind.i64 (0 : Int),
      Value.slice none (0 : Nat) (0 : Nat)],
      Value.bool false] =
      Value.tuple
      #[Value.agg
      #[Value.int IntKind.i64 (repC l g x nd).k, Value.int IntKind.i64 (0 : Int), Value.int IntKind.i64 (0 : Int), Value.int IntKind.i64 (0 : Int),
      Value.int IntKind.i64 (repC l g x nd).nd, Value.int IntKind.i64 (0 : Int), Value.string (repC l g x nd).ky, Value.int IntKind.i64 (repC l g x nd).le,
      Value.int IntKind.i64 (repC l g x nd).ro, Value.int IntKind.i64 (repC l g x nd).ne, Value.bool false, Value.int IntKind.i64 (0 : Int),
      Value.string ByteArray.empty, Value.string ByteArray.empty, Value.int IntKind.i64 (0 : Int), Value.int IntKind.i64 (0 : Int),
      Value.int IntKind.i64 (0 : Int), Value.int IntKind.i64 (0 : Int), Value.int IntKind.i64 (0 : Int), Value.int IntKind.i64 (0 : Int),
      Value.string ByteArray.empty, Value.string ByteArray.empty, Value.int IntKind.i64 (0 : Int), Value.int IntKind.i64 (0 : Int),
      Value.slice none (0 : Nat) (0 : Nat)],
      Value.bool (repB l g x nd)]))
      (∃ (b : Bool),
      QSpec Try.prog (63 : Nat) [Value.int IntKind.i64 g] { π := m.π, sz := N, uf := m.uf : M } (Value.bool b) ∧
      ifB (!b)
      (Done
      (Value.tuple
      #[Value.agg
      #[Value.int IntKind.i64 (0 : Int), Value.int IntKind.i64 (0 : Int), Value.int IntKind.i64 (0 : Int), Value.int IntKind.i64 (0 : Int),
      Value.int IntKind.i64 (0 : Int), Value.int IntKind.i64 (0 : Int), Value.string { data := #[] : ByteArray }, Value.int IntKind.i64 (0 : Int),
      Value.int IntKind.i64 (0 : Int), Value.int IntKind.i64 (0 : Int), Value.bool false, Value.int IntKind.i64 (0 : Int),
      Value.string { data := #[] : ByteArray }, Value.string { data := #[] : ByteArray }, Value.int IntKind.i64 (0 : Int),
      Value.int IntKind.i64 (0 : Int), Value.int IntKind.i64 (0 : Int), Value.int IntKind.i64 (0 : Int), Value.int IntKind.i64 (0 : Int),
      Value.int IntKind.i64 (0 : Int), Value.string { data := #[] : ByteArray }, Value.string { data := #[] : ByteArray },
      Value.int IntKind.i64 (0 : Int), Value.int IntKind.i64 (0 : Int), Value.slice none (0 : Nat) (0 : Nat)],
      Value.bool false] =
      Value.tuple
      #[Value.agg
      #[Value.int IntKind.i64 (repC l g x nd).k, Value.int IntKind.i64 (0 : Int), Value.int IntKind.i64 (0 : Int), Value.int IntKind.i64 (0 : Int),
      Value.int IntKind.i64 (repC l g x nd).nd, Value.int IntKind.i64 (0 : Int), Value.string (repC l g x nd).ky,
      Value.int IntKind.i64 (repC l g x nd).le, Value.int IntKind.i64 (repC l g x nd).ro, Value.int IntKind.i64 (repC l g x nd).ne, Value.bool false,
      Value.int IntKind.i64 (0 : Int), Value.string ByteArray.empty, Value.string ByteArray.empty, Value.int IntKind.i64 (0 : Int),
      Value.int IntKind.i64 (0 : Int), Value.int IntKind.i64 (0 : Int), Value.int IntKind.i64 (0 : Int), Value.int IntKind.i64 (0 : Int),
      Value.int IntKind.i64 (0 : Int), Value.string ByteArray.empty, Value.string ByteArray.empty, Value.int IntKind.i64 (0 : Int),
      Value.int IntKind.i64 (0 : Int), Value.slice none (0 : Nat) (0 : Nat)],
      Value.bool (repB l g x nd)]))
      (∃ (n : Int),
      ∃ (n_1 : Int),
      ∃ (n_2 : Int),
      ∃ (n_3 : Int),
      ∃ (b : Bool),
      QSpec Try.prog (33 : Nat)
      [Value.agg
      #[Value.string x.key, Value.int IntKind.i64 x.lo, Value.int IntKind.i64 x.hi, Value.int IntKind.i64 x.base, Value.int IntKind.i64 x.round,
      Value.slice a x.hs.length c, Value.int IntKind.i64 x.lk.cl, Value.int IntKind.i64 x.lk.sq, Value.int IntKind.i64 x.lk.hm,
      Value.int IntKind.i64 x.lk.n],
      Value.int IntKind.i64 nd]
      { π := m.π, sz := N, uf := m.uf : M }
      (Value.tuple
      #[Value.agg #[Value.int IntKind.i64 n, Value.int IntKind.i64 n_1, Value.int IntKind.i64 n_2, Value.int IntKind.i64 n_3], Value.bool b]) ∧
      ifB (!b)
      (Done
      (Value.tuple
      #[Value.agg
      #[Value.int IntKind.i64 (0 : Int), Value.int IntKind.i64 (0 : Int), Value.int IntKind.i64 (0 : Int), Value.int IntKind.i64 (0 : Int),
      Value.int IntKind.i64 (0 : Int), Value.int IntKind.i64 (0 : Int), Value.string { data := #[] : ByteArray },
      Value.int IntKind.i64 (0 : Int), Value.int IntKind.i64 (0 : Int), Value.int IntKind.i64 (0 : Int), Value.bool false,
      Value.int IntKind.i64 (0 : Int), Value.string { data := #[] : ByteArray }, Value.string { data := #[] : ByteArray },
      Value.int IntKind.i64 (0 : Int), Value.int IntKind.i64 (0 : Int), Value.int IntKind.i64 (0 : Int), Value.int IntKind.i64 (0 : Int),
      Value.int IntKind.i64 (0 : Int), Value.int IntKind.i64 (0 : Int), Value.string { data := #[] : ByteArray },
      Value.string { data := #[] : ByteArray }, Value.int IntKind.i64 (0 : Int), Value.int IntKind.i64 (0 : Int),
      Value.slice none (0 : Nat) (0 : Nat)],
      Value.bool false] =
      Value.tuple
      #[Value.agg
      #[Value.int IntKind.i64 (repC l g x nd).k, Value.int IntKind.i64 (0 : Int), Value.int IntKind.i64 (0 : Int),
      Value.int IntKind.i64 (0 : Int), Value.int IntKind.i64 (repC l g x nd).nd, Value.int IntKind.i64 (0 : Int),
      Value.string (repC l g x nd).ky, Value.int IntKind.i64 (repC l g x nd).le, Value.int IntKind.i64 (repC l g x nd).ro,
      Value.int IntKind.i64 (repC l g x nd).ne, Value.bool false, Value.int IntKind.i64 (0 : Int), Value.string ByteArray.empty,
      Value.string ByteArray.empty, Value.int IntKind.i64 (0 : Int), Value.int IntKind.i64 (0 : Int), Value.int IntKind.i64 (0 : Int),
      Value.int IntKind.i64 (0 : Int), Value.int IntKind.i64 (0 : Int), Value.int IntKind.i64 (0 : Int), Value.string ByteArray.empty,
      Value.string ByteArray.empty, Value.int IntKind.i64 (0 : Int), Value.int IntKind.i64 (0 : Int),
      Value.slice none (0 : Nat) (0 : Nat)],
      Value.bool (repB l g x nd)]))
      (true = true ∧
      ∃ (n : Int),
      QSpec Try.prog (16 : Nat) [Value.slice al l.length cl, Value.int IntKind.i64 g, Value.string x.key, Value.int IntKind.i64 n_1]
      { π := m.π, sz := N, uf := m.uf : M } (Value.int IntKind.i64 n) ∧
      Done
      (Value.tuple
      #[Value.agg
      #[Value.int IntKind.i64 (2 : Int), Value.int IntKind.i64 (0 : Int), Value.int IntKind.i64 (0 : Int),
      Value.int IntKind.i64 (0 : Int), Value.int IntKind.i64 nd, Value.int IntKind.i64 (0 : Int), Value.string x.key,
      Value.int IntKind.i64 n_1, Value.int IntKind.i64 x.round, Value.int IntKind.i64 n, Value.bool false,
      Value.int IntKind.i64 (0 : Int), Value.string { data := #[] : ByteArray }, Value.string { data := #[] : ByteArray },
      Value.int IntKind.i64 (0 : Int), Value.int IntKind.i64 (0 : Int), Value.int IntKind.i64 (0 : Int),
      Value.int IntKind.i64 (0 : Int), Value.int IntKind.i64 (0 : Int), Value.int IntKind.i64 (0 : Int),
      Value.string { data := #[] : ByteArray }, Value.string { data := #[] : ByteArray }, Value.int IntKind.i64 (0 : Int),
      Value.int IntKind.i64 (0 : Int), Value.slice none (0 : Nat) (0 : Nat)],
      Value.bool true] =
      Value.tuple
      #[Value.agg
      #[Value.int IntKind.i64 (repC l g x nd).k, Value.int IntKind.i64 (0 : Int), Value.int IntKind.i64 (0 : Int),
      Value.int IntKind.i64 (0 : Int), Value.int IntKind.i64 (repC l g x nd).nd, Value.int IntKind.i64 (0 : Int),
      Value.string (repC l g x nd).ky, Value.int IntKind.i64 (repC l g x nd).le, Value.int IntKind.i64 (repC l g x nd).ro,
      Value.int IntKind.i64 (repC l g x nd).ne, Value.bool false, Value.int IntKind.i64 (0 : Int), Value.string ByteArray.empty,
      Value.string ByteArray.empty, Value.int IntKind.i64 (0 : Int), Value.int IntKind.i64 (0 : Int),
      Value.int IntKind.i64 (0 : Int), Value.int IntKind.i64 (0 : Int), Value.int IntKind.i64 (0 : Int),
      Value.int IntKind.i64 (0 : Int), Value.string ByteArray.empty, Value.string ByteArray.empty, Value.int IntKind.i64 (0 : Int),
      Value.int IntKind.i64 (0 : Int), Value.slice none (0 : Nat) (0 : Nat)],
      Value.bool (repB l g x nd)]))))))) (by kernel_rfl) ?_
  have k1 := h1.sz hN
  have k2 := h2.sz hN
  refine ⟨rfl, _, lcheck_q al cl l hl _ k1, ?_⟩
  cases ht : ledB none l
  · exact ifB_true ⟨by simp [repC, repB, ht]; rfl⟩
  refine ifB_false ⟨_, check_q x a c hx _ k2, ?_⟩
  cases hr : rightB x
  · have hb : findB x nd = false := by simp [findB, hr]
    exact ifB_true ⟨by simp [repC, repB, hb]; rfl⟩
  refine ifB_false (ifB_intro (fun q1 => ⟨?_⟩) (fun q1 => ⟨_, group_q g _, ifB_intro (fun q2 => ⟨?_⟩) (fun q2 => ⟨_, _, _, _, _, find_q x a c nd hx _ k2, ifB_intro (fun q3 => ⟨?_⟩) (fun q3 => ⟨rfl, _, lnet_q al cl l g x.key _ hl _ k1, ⟨?_⟩⟩)⟩)⟩))
  · have q1 : x.round = 0 := by simpa using q1
    simp [repC, repB, q1]; rfl
  all_goals have q1 : x.round ≠ 0 := by simpa using q1
  · have q2 : groupB g = false := by simp at q2; simp [groupB]; omega
    simp [repC, repB, q2]; rfl
  all_goals have q2 : groupB g = true := by simpa [groupB] using q2
  · have q3 : findB x nd = false := by simpa using q3
    simp [repC, repB, q3]; rfl
  · have q3 : findB x nd = true := by simpa using q3
    simp [repC, repB, ht, q1, q2, q3]; rfl

theorem rreport_q (al : Option Addr) (cl : Nat) (l : List Rt) (g : Int) (x : Ac) (a : Option Addr) (c : Nat) (nd : Int) (hl : l.length ≤ 9223372036854775807) (hx : x.wf) (m : M) (h1 : Row m al (rts l)) (h2 : Row m a (hds x.hs)) :
    QSpec Try.prog 29 [.slice al l.length cl, I g, acv x a c, I nd] m (.tuple #[cmv (repC l g x nd), .bool (repB l g x nd)]) := by
  refine QSpec.of_vc Try.func29 (ann := fun _ => noAnn) fun N hN => ?_
  refine vc_by (X :=
      true = true ∧
      ∃ (n : Int),
      ∃ (n_1 : Int),
      ∃ (n_2 : Int),
      ∃ (n_3 : Int),
      ∃ (b : Bool),
      QSpec Try.prog (52 : Nat)
      [Value.agg
      #[Value.string x.key, Value.int IntKind.i64 x.lo, Value.int IntKind.i64 x.hi, Value.int IntKind.i64 x.base, Value.int IntKind.i64 x.round,
      Value.slice a x.hs.length c, Value.int IntKind.i64 x.lk.cl, Value.int IntKind.i64 x.lk.sq, Value.int IntKind.i64 x.lk.hm, Value.int IntKind.i64 x.lk.n],
      Value.int IntKind.i64 nd]
      { π := m.π, sz := N, uf := m.uf : M }
      (Value.tuple #[Value.agg #[Value.int IntKind.i64 n, Value.int IntKind.i64 n_1, Value.int IntKind.i64 n_2, Value.int IntKind.i64 n_3], Value.bool b]) ∧
      ∃ (b_1 : Bool),
      QSpec Try.prog (10 : Nat) [Value.slice al l.length cl] { π := m.π, sz := N, uf := m.uf : M } (Value.bool b_1) ∧
      ifB (!b_1)
      (Done
      (Value.tuple
      #[Value.agg
      #[Value.int IntKind.i64 (0 : Int), Value.int IntKind.i64 (0 : Int), Value.int IntKind.i64 (0 : Int), Value.int IntKind.i64 (0 : Int),
      Value.int IntKind.i64 (0 : Int), Value.int IntKind.i64 (0 : Int), Value.string { data := #[] : ByteArray }, Value.int IntKind.i64 (0 : Int),
      Value.int IntKind.i64 (0 : Int), Value.int IntKind.i64 (0 : Int), Value.bool false, Value.int IntKind.i64 (0 : Int),
      Value.string { data := #[] : ByteArray }, Value.string { data := #[] : ByteArray }, Value.int IntKind.i64 (0 : Int),
      Value.int IntKind.i64 (0 : Int), Value.int IntKind.i64 (0 : Int), Value.int IntKind.i64 (0 : Int), Value.int IntKind.i64 (0 : Int),
      Value.int IntKind.i64 (0 : Int), Value.string { data := #[] : ByteArray }, Value.string { data := #[] : ByteArray },
      Value.int IntKind.i64 (0 : Int), Value.int IntKind.i64 (0 : Int), Value.slice none (0 : Nat) (0 : Nat)],
      Value.bool false] =
      Value.tuple
      #[Value.agg
      #[Value.int IntKind.i64 (repC l g x nd).k, Value.int IntKind.i64 (0 : Int), Value.int IntKind.i64 (0 : Int), Value.int IntKind.i64 (0 : Int),
      Value.int IntKind.i64 (repC l g x nd).nd, Value.int IntKind.i64 (0 : Int), Value.string (repC l g x nd).ky,
      Value.int IntKind.i64 (repC l g x nd).le, Value.int IntKind.i64 (repC l g x nd).ro, Value.int IntKind.i64 (repC l g x nd).ne, Value.bool false,
      Value.int IntKind.i64 (0 : Int), Value.string ByteArray.empty, Value.string ByteArray.empty, Value.int IntKind.i64 (0 : Int),
      Value.int IntKind.i64 (0 : Int), Value.int IntKind.i64 (0 : Int), Value.int IntKind.i64 (0 : Int), Value.int IntKind.i64 (0 : Int),
      Value.int IntKind.i64 (0 : Int), Value.string ByteArray.empty, Value.string ByteArray.empty, Value.int IntKind.i64 (0 : Int),
      Value.int IntKind.i64 (0 : Int), Value.slice none (0 : Nat) (0 : Nat)],
      Value.bool (repB l g x nd)]))
      (ifB (!b)
      (Done
      (Value.tuple
      #[Value.agg
      #[Value.int IntKind.i64 (0 : Int), Value.int IntKind.i64 (0 : Int), Value.int IntKind.i64 (0 : Int), Value.int IntKind.i64 (0 : Int),
      Value.int IntKind.i64 (0 : Int), Value.int IntKind.i64 (0 : Int), Value.string { data := #[] : ByteArray }, Value.int IntKind.i64 (0 : Int),
      Value.int IntKind.i64 (0 : Int), Value.int IntKind.i64 (0 : Int), Value.bool false, Value.int IntKind.i64 (0 : Int),
      Value.string { data := #[] : ByteArray }, Value.string { data := #[] : ByteArray }, Value.int IntKind.i64 (0 : Int),
      Value.int IntKind.i64 (0 : Int), Value.int IntKind.i64 (0 : Int), Value.int IntKind.i64 (0 : Int), Value.int IntKind.i64 (0 : Int),
      Value.int IntKind.i64 (0 : Int), Value.string { data := #[] : ByteArray }, Value.string { data := #[] : ByteArray },
      Value.int IntKind.i64 (0 : Int), Value.int IntKind.i64 (0 : Int), Value.slice none (0 : Nat) (0 : Nat)],
      Value.bool false] =
      Value.tuple
      #[Value.agg
      #[Value.int IntKind.i64 (repC l g x nd).k, Value.int IntKind.i64 (0 : Int), Value.int IntKind.i64 (0 : Int), Value.int IntKind.i64 (0 : Int),
      Value.int IntKind.i64 (repC l g x nd).nd, Value.int IntKind.i64 (0 : Int), Value.string (repC l g x nd).ky,
      Value.int IntKind.i64 (repC l g x nd).le, Value.int IntKind.i64 (repC l g x nd).ro, Value.int IntKind.i64 (repC l g x nd).ne, Value.bool false,
      Value.int IntKind.i64 (0 : Int), Value.string ByteArray.empty, Value.string ByteArray.empty, Value.int IntKind.i64 (0 : Int),
      Value.int IntKind.i64 (0 : Int), Value.int IntKind.i64 (0 : Int), Value.int IntKind.i64 (0 : Int), Value.int IntKind.i64 (0 : Int),
      Value.int IntKind.i64 (0 : Int), Value.string ByteArray.empty, Value.string ByteArray.empty, Value.int IntKind.i64 (0 : Int),
      Value.int IntKind.i64 (0 : Int), Value.slice none (0 : Nat) (0 : Nat)],
      Value.bool (repB l g x nd)]))
      (ifB (x.round == (0 : Int))
      (Done
      (Value.tuple
      #[Value.agg
      #[Value.int IntKind.i64 (0 : Int), Value.int IntKind.i64 (0 : Int), Value.int IntKind.i64 (0 : Int), Value.int IntKind.i64 (0 : Int),
      Value.int IntKind.i64 (0 : Int), Value.int IntKind.i64 (0 : Int), Value.string { data := #[] : ByteArray }, Value.int IntKind.i64 (0 : Int),
      Value.int IntKind.i64 (0 : Int), Value.int IntKind.i64 (0 : Int), Value.bool false, Value.int IntKind.i64 (0 : Int),
      Value.string { data := #[] : ByteArray }, Value.string { data := #[] : ByteArray }, Value.int IntKind.i64 (0 : Int),
      Value.int IntKind.i64 (0 : Int), Value.int IntKind.i64 (0 : Int), Value.int IntKind.i64 (0 : Int), Value.int IntKind.i64 (0 : Int),
      Value.int IntKind.i64 (0 : Int), Value.string { data := #[] : ByteArray }, Value.string { data := #[] : ByteArray },
      Value.int IntKind.i64 (0 : Int), Value.int IntKind.i64 (0 : Int), Value.slice none (0 : Nat) (0 : Nat)],
      Value.bool false] =
      Value.tuple
      #[Value.agg
      #[Value.int IntKind.i64 (repC l g x nd).k, Value.int IntKind.i64 (0 : Int), Value.int IntKind.i64 (0 : Int), Value.int IntKind.i64 (0 : Int),
      Value.int IntKind.i64 (repC l g x nd).nd, Value.int IntKind.i64 (0 : Int), Value.string (repC l g x nd).ky,
      Value.int IntKind.i64 (repC l g x nd).le, Value.int IntKind.i64 (repC l g x nd).ro, Value.int IntKind.i64 (repC l g x nd).ne, Value.bool false,
      Value.int IntKind.i64 (0 : Int), Value.string ByteArray.empty, Value.string ByteArray.empty, Value.int IntKind.i64 (0 : Int),
      Value.int IntKind.i64 (0 : Int), Value.int IntKind.i64 (0 : Int), Value.int IntKind.i64 (0 : Int), Value.int IntKind.i64 (0 : Int),
      Value.int IntKind.i64 (0 : Int), Value.string ByteArray.empty, Value.string ByteArray.empty, Value.int IntKind.i64 (0 : Int),
      Value.int IntKind.i64 (0 : Int), Value.slice none (0 : Nat) (0 : Nat)],
      Value.bool (repB l g x nd)]))
      (∃ (b : Bool),
      QSpec Try.prog (64 : Nat) [Value.int IntKind.i64 g] { π := m.π, sz := N, uf := m.uf : M } (Value.bool b) ∧
      ifB (!b)
      (Done
      (Value.tuple
      #[Value.agg
      #[Value.int IntKind.i64 (0 : Int), Value.int IntKind.i64 (0 : Int), Value.int IntKind.i64 (0 : Int), Value.int IntKind.i64 (0 : Int),
      Value.int IntKind.i64 (0 : Int), Value.int IntKind.i64 (0 : Int), Value.string { data := #[] : ByteArray },
      Value.int IntKind.i64 (0 : Int), Value.int IntKind.i64 (0 : Int), Value.int IntKind.i64 (0 : Int), Value.bool false,
      Value.int IntKind.i64 (0 : Int), Value.string { data := #[] : ByteArray }, Value.string { data := #[] : ByteArray },
      Value.int IntKind.i64 (0 : Int), Value.int IntKind.i64 (0 : Int), Value.int IntKind.i64 (0 : Int), Value.int IntKind.i64 (0 : Int),
      Value.int IntKind.i64 (0 : Int), Value.int IntKind.i64 (0 : Int), Value.string { data := #[] : ByteArray },
      Value.string { data := #[] : ByteArray }, Value.int IntKind.i64 (0 : Int), Value.int IntKind.i64 (0 : Int),
      Value.slice none (0 : Nat) (0 : Nat)],
      Value.bool false] =
      Value.tuple
      #[Value.agg
      #[Value.int IntKind.i64 (repC l g x nd).k, Value.int IntKind.i64 (0 : Int), Value.int IntKind.i64 (0 : Int),
      Value.int IntKind.i64 (0 : Int), Value.int IntKind.i64 (repC l g x nd).nd, Value.int IntKind.i64 (0 : Int),
      Value.string (repC l g x nd).ky, Value.int IntKind.i64 (repC l g x nd).le, Value.int IntKind.i64 (repC l g x nd).ro,
      Value.int IntKind.i64 (repC l g x nd).ne, Value.bool false, Value.int IntKind.i64 (0 : Int), Value.string ByteArray.empty,
      Value.string ByteArray.empty, Value.int IntKind.i64 (0 : Int), Value.int IntKind.i64 (0 : Int), Value.int IntKind.i64 (0 : Int),
      Value.int IntKind.i64 (0 : Int), Value.int IntKind.i64 (0 : Int), Value.int IntKind.i64 (0 : Int), Value.string ByteArray.empty,
      Value.string ByteArray.empty, Value.int IntKind.i64 (0 : Int), Value.int IntKind.i64 (0 : Int), Value.slice none (0 : Nat) (0 : Nat)],
      Value.bool (repB l g x nd)]))
      (true = true ∧
      ∃ (n : Int),
      QSpec Try.prog (17 : Nat) [Value.slice al l.length cl, Value.int IntKind.i64 g, Value.string x.key, Value.int IntKind.i64 n_1]
      { π := m.π, sz := N, uf := m.uf : M } (Value.int IntKind.i64 n) ∧
      Done
      (Value.tuple
      #[Value.agg
      #[Value.int IntKind.i64 (2 : Int), Value.int IntKind.i64 (0 : Int), Value.int IntKind.i64 (0 : Int), Value.int IntKind.i64 (0 : Int),
      Value.int IntKind.i64 nd, Value.int IntKind.i64 (0 : Int), Value.string x.key, Value.int IntKind.i64 n_1,
      Value.int IntKind.i64 x.round, Value.int IntKind.i64 n, Value.bool false, Value.int IntKind.i64 (0 : Int),
      Value.string { data := #[] : ByteArray }, Value.string { data := #[] : ByteArray }, Value.int IntKind.i64 (0 : Int),
      Value.int IntKind.i64 (0 : Int), Value.int IntKind.i64 (0 : Int), Value.int IntKind.i64 (0 : Int), Value.int IntKind.i64 (0 : Int),
      Value.int IntKind.i64 (0 : Int), Value.string { data := #[] : ByteArray }, Value.string { data := #[] : ByteArray },
      Value.int IntKind.i64 (0 : Int), Value.int IntKind.i64 (0 : Int), Value.slice none (0 : Nat) (0 : Nat)],
      Value.bool true] =
      Value.tuple
      #[Value.agg
      #[Value.int IntKind.i64 (repC l g x nd).k, Value.int IntKind.i64 (0 : Int), Value.int IntKind.i64 (0 : Int),
      Value.int IntKind.i64 (0 : Int), Value.int IntKind.i64 (repC l g x nd).nd, Value.int IntKind.i64 (0 : Int),
      Value.string (repC l g x nd).ky, Value.int IntKind.i64 (repC l g x nd).le, Value.int IntKind.i64 (repC l g x nd).ro,
      Value.int IntKind.i64 (repC l g x nd).ne, Value.bool false, Value.int IntKind.i64 (0 : Int), Value.string ByteArray.empty,
      Value.string ByteArray.empty, Value.int IntKind.i64 (0 : Int), Value.int IntKind.i64 (0 : Int), Value.int IntKind.i64 (0 : Int),
      Value.int IntKind.i64 (0 : Int), Value.int IntKind.i64 (0 : Int), Value.int IntKind.i64 (0 : Int), Value.string ByteArray.empty,
      Value.string ByteArray.empty, Value.int IntKind.i64 (0 : Int), Value.int IntKind.i64 (0 : Int),
      Value.slice none (0 : Nat) (0 : Nat)],
      Value.bool (repB l g x nd)])))))) (by kernel_rfl) ?_
  have k1 := h1.sz hN
  have k2 := h2.sz hN
  refine ⟨rfl, _, _, _, _, _, rfind_q x a c nd hx _ k2, _, rright_l al cl l hl _ k1, ?_⟩
  refine ifB_intro (fun q0 => ⟨?_⟩) (fun q0 => ifB_intro (fun q3 => ⟨?_⟩) (fun q3 => ifB_intro (fun q1 => ⟨?_⟩) (fun q1 => ⟨_, rgroup_q g _, ifB_intro (fun q2 => ⟨?_⟩) (fun q2 => ⟨rfl, _, rnet_q al cl l g x.key _ hl _ k1, ⟨?_⟩⟩)⟩)))
  · have q0 : ledB none l = false := by simpa using q0
    simp [repC, repB, q0]; rfl
  all_goals have q0 : ledB none l = true := by simpa using q0
  · have q3 : findB x nd = false := by simpa using q3
    simp [repC, repB, q3]; rfl
  all_goals have q3 : findB x nd = true := by simpa using q3
  · have q1 : x.round = 0 := by simpa using q1
    simp [repC, repB, q1]; rfl
  all_goals have q1 : x.round ≠ 0 := by simpa using q1
  · have q2 : groupB g = false := by simp at q2; simp [groupB]; omega
    simp [repC, repB, q2]; rfl
  · have q2 : groupB g = true := by simpa [groupB] using q2
    simp [repC, repB, q0, q1, q2, q3]; rfl

end Go.Proofs.Ytfkielfnceeedaa
