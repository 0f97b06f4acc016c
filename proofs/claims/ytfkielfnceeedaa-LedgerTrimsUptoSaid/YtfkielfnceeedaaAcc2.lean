/-
  Contracts of functions of this seat: what each hands back, and what it leaves of memory (acc2). Nothing here is trusted: Lean checks it.
-/
import Derived.Test.YtfkielfnceeedaaAcc1
import Derived.Test.YtfkielfnceeedaaVcRow
set_option linter.unusedVariables false
set_option linter.unusedSimpArgs false
namespace Go.Proofs.Ytfkielfnceeedaa
open Go.Vc Go.RowKit

def clip (n : Int) : Int := if In64 n then n else 0

abbrev upsL (x : Ac) : List Int := x.base :: x.hs.map (·.up)

abbrev dnsL (x : Ac) : List Int := x.base :: x.hs.map (-·.dn)

structure LentX where
  k : Nat
  a1 : Option Addr
  c1 : Nat
  a2 : Option Addr
  c2 : Nat
  m : M

structure LentI (x : Ac) (m : M) (y : LentX) : Prop where
  k : y.k ≤ x.hs.length
  o1 : OwnB m.sz (fun _ => False) y.m 1 y.a1 (y.k + 1) y.c1 (ints ((upsL x).take (y.k + 1)))
  o2 : OwnB m.sz (fun _ => False) y.m 1 y.a2 (y.k + 1) y.c2 (ints ((dnsL x).take (y.k + 1)))
  ap : Apart y.a1 y.a2
  ag : Agree m.sz m y.m

def lentAnn (x : Ac) (a : Option Addr) (c : Nat) (m : M) : Nat → Ann
  | 2 => {
    A := LentX
    inv y := LentI x m y ∧ y.k = 0
    st y := [(1, .own 0 0), (5, .val (.slice y.a1 1 y.c1)), (6, .val (.slice y.a2 1 y.c2))]
    own _ := [(0, ⟨46, acc x a c⟩)]
    m y := y.m
    μ y := 0
    cut := true }
  | _ => {
    A := LentX
    inv y := LentI x m y
    st y := [(20, .val (I y.k)), (19, .val (I x.hs.length)), (18, .val (.slice a x.hs.length c)), (5, .val (.slice y.a1 (y.k + 1) y.c1)), (6, .val (.slice y.a2 (y.k + 1) y.c2))]
    own _ := []
    m y := y.m
    μ y := x.hs.length - y.k }

theorem lent_q (x : Ac) (a : Option Addr) (c : Nat) (hx : x.wf) (hn : x.hs.length ≤ 5) (hd : ∀ h ∈ x.hs, 0 ≤ h.up ∧ 0 ≤ h.dn) (m : M) (h : Row m a (hds x.hs)) :
    QSpec Try.prog 88 [acv x a c] m (.tuple #[I (clip (sumI (upsL x))), I (clip (sumI (dnsL x))), .bool (decide (In64 (sumI (upsL x))) && decide (In64 (sumI (dnsL x))))]) := by
  refine QSpec.of_vc Try.func88 (ann := fun n => lentAnn x a c { m with sz := n }) fun n hn => ?_
  refine vc_by (X :=
      true = true ∧
      (true = true ∧
      (true = true ∧
      ∀ (b : Nat),
      n ≤ b →
      MLe { π := m.π, sz := n, uf := m.uf : M } ({ π := m.π, sz := n, uf := m.uf : M }.newBlock b [Value.int IntKind.i64 x.base]) ∧
      (true = true ∧
      ∀ (b_1 : Nat),
      max n (b + (1 : Nat)) ≤ b_1 →
      MLe ({ π := m.π, sz := n, uf := m.uf : M }.newBlock b [Value.int IntKind.i64 x.base])
      (({ π := m.π, sz := n, uf := m.uf : M }.newBlock b [Value.int IntKind.i64 x.base]).newBlock b_1 [Value.int IntKind.i64 x.base]) ∧
      ∃ (x_1 : LentX),
      (LentI x { π := m.π, sz := n, uf := m.uf : M } x_1 ∧ x_1.k = (0 : Nat)) ∧
      ({ π := m.π, sz := n, uf := m.uf : M }.newBlock b [Value.int IntKind.i64 x.base]).newBlock b_1 [Value.int IntKind.i64 x.base] = x_1.m ∧
      ((SV.own ((0 : Nat) + (0 : Nat)) (0 : Nat) = SV.own (0 : Nat) (0 : Nat) ∧ true = true) ∧
      (SV.val (Value.slice (some { block := b, off := (0 : Nat) : Addr }) (1 : Nat) (1 : Nat)) = SV.val (Value.slice x_1.a1 (1 : Nat) x_1.c1) ∧
      true = true) ∧
      (SV.val (Value.slice (some { block := b_1, off := (0 : Nat) : Addr }) (1 : Nat) (1 : Nat)) = SV.val (Value.slice x_1.a2 (1 : Nat) x_1.c2) ∧
      true = true) ∧
      True) ∧
      (some
      { ty := (46 : Nat), cs := [Value.string x.key, Value.int IntKind.i64 x.lo, Value.int IntKind.i64 x.hi, Value.int IntKind.i64 x.base, Value.int IntKind.i64 x.round, Value.slice a x.hs.length c, Value.int IntKind.i64 x.lk.cl, Value.int IntKind.i64 x.lk.sq, Value.int IntKind.i64 x.lk.hm, Value.int IntKind.i64 x.lk.n] : Bx } =
      some
      { ty := (46 : TypeId), cs := [Value.string x.key, Value.int IntKind.i64 x.lo, Value.int IntKind.i64 x.hi, Value.int IntKind.i64 x.base, Value.int IntKind.i64 x.round, Value.slice a x.hs.length c, Value.int IntKind.i64 x.lk.cl, Value.int IntKind.i64 x.lk.sq, Value.int IntKind.i64 x.lk.hm, Value.int IntKind.i64 x.lk.n] : Bx } ∧
      true = true) ∧
      True) ∧
      True) ∧
      (true = true ∧
      ∀ (b : Nat),
      n ≤ b →
      MLe { π := m.π, sz := n, uf := m.uf : M } ({ π := m.π, sz := n, uf := m.uf : M }.newBlock b [Value.int IntKind.i64 x.base]) ∧
      (true = true ∧
      ∀ (b_1 : Nat),
      max n (b + (1 : Nat)) ≤ b_1 →
      MLe ({ π := m.π, sz := n, uf := m.uf : M }.newBlock b [Value.int IntKind.i64 x.base])
      (({ π := m.π, sz := n, uf := m.uf : M }.newBlock b [Value.int IntKind.i64 x.base]).newBlock b_1 [Value.int IntKind.i64 x.base]) ∧
      ∃ (x_1 : LentX),
      (LentI x { π := m.π, sz := n, uf := m.uf : M } x_1 ∧ x_1.k = (0 : Nat)) ∧
      ({ π := m.π, sz := n, uf := m.uf : M }.newBlock b [Value.int IntKind.i64 x.base]).newBlock b_1 [Value.int IntKind.i64 x.base] = x_1.m ∧
      ((SV.own ((0 : Nat) + (0 : Nat)) (0 : Nat) = SV.own (0 : Nat) (0 : Nat) ∧ true = true) ∧
      (SV.val (Value.slice (some { block := b_1, off := (0 : Nat) : Addr }) (1 : Nat) (1 : Nat)) = SV.val (Value.slice x_1.a1 (1 : Nat) x_1.c1) ∧
      true = true) ∧
      (SV.val (Value.slice (some { block := b, off := (0 : Nat) : Addr }) (1 : Nat) (1 : Nat)) = SV.val (Value.slice x_1.a2 (1 : Nat) x_1.c2) ∧
      true = true) ∧
      True) ∧
      (some
      { ty := (46 : Nat), cs := [Value.string x.key, Value.int IntKind.i64 x.lo, Value.int IntKind.i64 x.hi, Value.int IntKind.i64 x.base, Value.int IntKind.i64 x.round, Value.slice a x.hs.length c, Value.int IntKind.i64 x.lk.cl, Value.int IntKind.i64 x.lk.sq, Value.int IntKind.i64 x.lk.hm, Value.int IntKind.i64 x.lk.n] : Bx } =
      some
      { ty := (46 : TypeId), cs := [Value.string x.key, Value.int IntKind.i64 x.lo, Value.int IntKind.i64 x.hi, Value.int IntKind.i64 x.base, Value.int IntKind.i64 x.round, Value.slice a x.hs.length c, Value.int IntKind.i64 x.lk.cl, Value.int IntKind.i64 x.lk.sq, Value.int IntKind.i64 x.lk.hm, Value.int IntKind.i64 x.lk.n] : Bx } ∧
      true = true) ∧
      True) ∧
      True) ∧
      True) ∧
      ∀ (x_1 : LentX),
      LentI x { π := m.π, sz := n, uf := m.uf : M } x_1 ∧ x_1.k = (0 : Nat) →
      (∃ (a_2 : LentX),
      LentI x { π := m.π, sz := n, uf := m.uf : M } a_2 ∧
      x_1.m = a_2.m ∧
      ((SV.val (Value.int IntKind.i64 (0 : Int)) = SV.val (Value.int IntKind.i64 (↑a_2.k : Int)) ∧ true = true) ∧
      (SV.val (Value.int IntKind.i64 (↑x.hs.length : Int)) = SV.val (Value.int IntKind.i64 (↑x.hs.length : Int)) ∧ true = true) ∧
      (SV.val (Value.slice a x.hs.length c) = SV.val (Value.slice a x.hs.length c) ∧ true = true) ∧
      (SV.val (Value.slice x_1.a1 (1 : Nat) x_1.c1) = SV.val (Value.slice a_2.a1 (a_2.k + (1 : Nat)) a_2.c1) ∧ true = true) ∧
      (SV.val (Value.slice x_1.a2 (1 : Nat) x_1.c2) = SV.val (Value.slice a_2.a2 (a_2.k + (1 : Nat)) a_2.c2) ∧ true = true) ∧ True) ∧
      True) ∧
      ∀ (a_2 : LentX),
      LentI x { π := m.π, sz := n, uf := m.uf : M } a_2 →
      ifB (decide ((↑a_2.k : Int) < (↑x.hs.length : Int)))
      (∃ (b : Nat),
      ∃ (off : Nat),
      a = some { block := b, off := off : Addr } ∧
      ((0 : Int) ≤ (↑a_2.k : Int) ∧ (↑a_2.k : Int) < (↑x.hs.length : Int)) ∧
      ∃ (n_1 : Int),
      ∃ (n_2 : Int),
      ∃ (n_3 : Int),
      ∃ (n_4 : Int),
      CellsAt a_2.m b (off + (↑a_2.k : Int).toNat * (4 : Nat))
      [Value.int IntKind.i64 n_1, Value.int IntKind.i64 n_2, Value.int IntKind.i64 n_3, Value.int IntKind.i64 n_4] ∧
      true = true ∧
      ∀ (b : Nat),
      a_2.m.sz ≤ b →
      ∃ (old : List Value),
      ∃ (src : List Value),
      AppPre n (fun (x : Nat) => False) (a_2.m.newBlock b [Value.int IntKind.i64 n_3]) (1 : Nat) (8 : Nat) a_2.a1 (a_2.k + (1 : Nat)) a_2.c1
      (some { block := b, off := (0 : Nat) : Addr }) (1 : Nat) old src ∧
      ∀ (a' : Option Addr) (c' : Nat) (m' : M),
      AppPost Try.prog (3 : Nat) (a_2.m.newBlock b [Value.int IntKind.i64 n_3]) (1 : Nat) a_2.a1 (a_2.k + (1 : Nat)) a_2.c1 (1 : Nat) old
      src a' c' m' →
      true = true ∧
      ∀ (b : Nat),
      m'.sz ≤ b →
      ∃ (old : List Value),
      ∃ (src : List Value),
      AppPre n (fun (x : Nat) => False) (m'.newBlock b [Value.int IntKind.i64 (IntKind.i64.wrap ((0 : Int) - n_4))]) (1 : Nat)
      (8 : Nat) a_2.a2 (a_2.k + (1 : Nat)) a_2.c2 (some { block := b, off := (0 : Nat) : Addr }) (1 : Nat) old src ∧
      ∀ (a'_1 : Option Addr) (c'_1 : Nat) (m'_1 : M),
      AppPost Try.prog (3 : Nat) (m'.newBlock b [Value.int IntKind.i64 (IntKind.i64.wrap ((0 : Int) - n_4))]) (1 : Nat)
      a_2.a2 (a_2.k + (1 : Nat)) a_2.c2 (1 : Nat) old src a'_1 c'_1 m'_1 →
      ∃ (a'_2 : LentX),
      (LentI x { π := m.π, sz := n, uf := m.uf : M } a'_2 ∧
      m'_1 = a'_2.m ∧
      ((SV.val (Value.int IntKind.i64 (IntKind.i64.wrap ((↑a_2.k : Int) + (1 : Int)))) =
      SV.val (Value.int IntKind.i64 (↑a'_2.k : Int)) ∧
      true = true) ∧
      (SV.val (Value.int IntKind.i64 (↑x.hs.length : Int)) =
      SV.val (Value.int IntKind.i64 (↑x.hs.length : Int)) ∧
      true = true) ∧
      (SV.val (Value.slice a x.hs.length c) = SV.val (Value.slice a x.hs.length c) ∧ true = true) ∧
      (SV.val (Value.slice a' (a_2.k + (1 : Nat) + (1 : Nat)) c') =
      SV.val (Value.slice a'_2.a1 (a'_2.k + (1 : Nat)) a'_2.c1) ∧
      true = true) ∧
      (SV.val (Value.slice a'_1 (a_2.k + (1 : Nat) + (1 : Nat)) c'_1) =
      SV.val (Value.slice a'_2.a2 (a'_2.k + (1 : Nat)) a'_2.c2) ∧
      true = true) ∧
      True) ∧
      True) ∧
      x.hs.length - a'_2.k < x.hs.length - a_2.k)
      (∃ (n : Int),
      ∃ (n_1 : Int),
      QSpec Try.prog (59 : Nat) [Value.slice a_2.a1 (a_2.k + (1 : Nat)) a_2.c1] a_2.m (Value.tuple #[Value.int IntKind.i64 n, Value.int IntKind.i64 n_1]) ∧
      ∃ (n_2 : Int),
      ∃ (n_3 : Int),
      QSpec Try.prog (59 : Nat) [Value.slice a_2.a2 (a_2.k + (1 : Nat)) a_2.c2] a_2.m (Value.tuple #[Value.int IntKind.i64 n_2, Value.int IntKind.i64 n_3]) ∧
      ifB (n_1 == (0 : Int))
      (Done
      (Value.tuple #[Value.int IntKind.i64 n, Value.int IntKind.i64 n_2, Value.bool (n_3 == (0 : Int))] =
      Value.tuple
      #[Value.int IntKind.i64 (clip (sumI (upsL x))), Value.int IntKind.i64 (clip (sumI (dnsL x))),
      Value.bool (decide (In64 (sumI (upsL x))) && decide (In64 (sumI (dnsL x))))]))
      (Done
      (Value.tuple #[Value.int IntKind.i64 n, Value.int IntKind.i64 n_2, Value.bool false] =
      Value.tuple
      #[Value.int IntKind.i64 (clip (sumI (upsL x))), Value.int IntKind.i64 (clip (sumI (dnsL x))),
      Value.bool (decide (In64 (sumI (upsL x))) && decide (In64 (sumI (dnsL x))))])))) (by kernel_rfl) ?_
  have h' := h.sz hn
  have z1 : ∀ k, (zeroRow Try.prog 3 k).length = k * 1 := zrLen (by kernel_rfl)
  have i1 : ∀ b b2, n ≤ b → max n (b + 1) ≤ b2 → LentI x { m with sz := n } ⟨0, some ⟨b, 0, none⟩, 1, some ⟨b2, 0, none⟩, 1, (({ m with sz := n } : M).newBlock b [I x.base]).newBlock b2 [I x.base]⟩ := fun b b2 hb hb2 =>
    ⟨Nat.zero_le _, (OwnB.fresh (cs := [I x.base]) hb rfl).newBlock (by rw [newBlock_sz]; exact hb2), OwnB.fresh (cs := [I x.base]) (by show n ≤ b2; omega) rfl, Apart.symm (Apart.new fun b' o e => by cases e; omega),
      (newBlock_agreeB hb).trans (newBlock_agreeB (by show n ≤ b2; omega))⟩
  have i2 : ∀ b b2, n ≤ b → max n (b + 1) ≤ b2 → LentI x { m with sz := n } ⟨0, some ⟨b2, 0, none⟩, 1, some ⟨b, 0, none⟩, 1, (({ m with sz := n } : M).newBlock b [I x.base]).newBlock b2 [I x.base]⟩ := fun b b2 hb hb2 => by
    have := i1 b b2 hb hb2
    exact ⟨this.k, this.o2, this.o1, this.ap.symm, this.ag⟩
  refine ⟨rfl, ⟨rfl, ⟨rfl, fun b hb => ⟨MLe.newBlock hb, ⟨rfl, fun b2 hb2 => ⟨MLe.newBlock hb2, _, ⟨i1 b b2 hb hb2, rfl⟩, by simp⟩⟩, trivial⟩⟩, ⟨rfl, fun b hb => ⟨MLe.newBlock hb, ⟨rfl, fun b2 hb2 => ⟨MLe.newBlock hb2, _, ⟨i2 b b2 hb hb2, rfl⟩, by simp⟩⟩, trivial⟩⟩, trivial⟩,
    fun y ⟨hy, hy0⟩ => ⟨⟨y, hy, by simp [hy0]⟩, fun y hy => ifB_intro (fun hb => ?_) (fun hb => ?_)⟩⟩
  · have hk2 : y.k < x.hs.length := by simpa using hb
    have hy2 := hy.ag.2.2
    simp only at hy2
    obtain ⟨b, o, rfl, hc⟩ := (h'.agree hy.ag).cells (by rw [hds_len]; omega)
    have w1 : IntKind.i64.wrap ((y.k : Int) + 1) = ((y.k + 1 : Nat) : Int) := by simp [IntKind.wrap_i64]; omega
    have hw := (hx.hs _ (List.getElem_mem hk2)).2.2.2
    have hd2 := (hd _ (List.getElem_mem hk2)).2
    have w2 : IntKind.i64.wrap (0 - x.hs[y.k].dn) = - x.hs[y.k].dn := by unfold In64 at hw; simp [IntKind.wrap_i64]; omega
    refine ⟨b, o, rfl, by omega, _, _, _, _, by simpa using hd_at hc hk2, rfl, fun b1 hb1 => ?_⟩
    obtain ⟨p1, p2⟩ := hy.o1.push (P := Try.prog) (e := 3) (bytes := 8) (src := [I x.hs[y.k].up]) hb1 (by simp only; omega) rfl rfl (by omega) z1
    refine ⟨_, _, p1, fun a1 c1 m1 hp1 => ⟨rfl, fun b2 hb2 => ?_⟩⟩
    obtain ⟨q1, q2⟩ := p2 a1 c1 m1 hp1
    have ap1 : Apart a1 y.a2 := hp1.apart hy.ap fun b o e => by have := hy.o2.lt e; simp only [M.newBlock]; omega
    have oo := (hy.o2.newBlock (ds := [I x.hs[y.k].up]) hb1).other hp1 hy.ap
    obtain ⟨p3, p4⟩ := oo.push (P := Try.prog) (e := 3) (bytes := 8) (src := [I (IntKind.i64.wrap (0 - x.hs[y.k].dn))]) hb2 (by simp only; omega) rfl rfl (by omega) z1
    refine ⟨_, _, p3, fun a2 c2 m2 hp2 => ?_⟩
    obtain ⟨q3, q4⟩ := p4 a2 c2 m2 hp2
    have ap2 : Apart a2 a1 := hp2.apart ap1.symm fun b o e => by have := q1.lt e; simp only [M.newBlock]; omega
    have oo2 := (q1.newBlock (ds := [I (IntKind.i64.wrap (0 - x.hs[y.k].dn))]) hb2).other hp2 ap1.symm
    have e1 : ints ((upsL x).take (y.k + 1)) ++ [I x.hs[y.k].up] = ints ((upsL x).take (y.k + 1 + 1)) := by
      simp only [upsL, List.take_succ_cons, List.flatMap_cons]
      rw [List.take_succ_eq_append_getElem (l := x.hs.map (·.up)) (i := y.k) (by simpa using hk2)]
      simp
    have e2 : ints ((dnsL x).take (y.k + 1)) ++ [I (IntKind.i64.wrap (0 - x.hs[y.k].dn))] = ints ((dnsL x).take (y.k + 1 + 1)) := by
      rw [w2]
      simp only [dnsL, List.take_succ_cons, List.flatMap_cons]
      rw [List.take_succ_eq_append_getElem (l := x.hs.map (-·.dn)) (i := y.k) (by simpa using hk2)]
      simp
    rw [e1] at oo2
    rw [e2] at q3
    refine ⟨⟨y.k + 1, a1, c1, a2, c2, m2⟩, ⟨⟨hk2, oo2, q3, ap2.symm, ?_⟩, by simp [w1]⟩, by simp only; omega⟩
    have g1 := (newBlock_agreeB (B := n) (m := y.m) (cs := [I x.hs[y.k].up]) (by omega : n ≤ b1)).trans (hp1.agree (by simp only [M.newBlock]; omega) (hy.o1.newBlock hb1))
    have g2 := (newBlock_agreeB (B := n) (m := m1) (cs := [I (IntKind.i64.wrap (0 - x.hs[y.k].dn))]) (by omega : n ≤ b2)).trans (hp2.agree (by simp only [M.newBlock]; omega) (oo.newBlock hb2))
    exact (hy.ag.trans g1).trans g2
  · have hk2 : y.k = x.hs.length := by have := hy.k; simp at hb; omega
    have r1 := hy.o1.row
    have r2 := hy.o2.row
    rw [hk2, List.take_of_length_le (by simp)] at r1 r2
    have b1 : ∀ v ∈ upsL x, In64 v := fun v hv => by
      rcases List.mem_cons.1 hv with rfl | hv
      · exact hx.base
      · obtain ⟨h, hh, rfl⟩ := List.mem_map.1 hv
        exact (hx.hs h hh).2.2.1
    have b2 : ∀ v ∈ dnsL x, In64 v := fun v hv => by
      rcases List.mem_cons.1 hv with rfl | hv
      · exact hx.base
      · obtain ⟨h, hh, rfl⟩ := List.mem_map.1 hv
        have h1 := (hx.hs h hh).2.2.2
        have h2 := (hd h hh).2
        unfold In64 at *; omega
    have s1 := sum_q _ y.c1 _ b1 (by simp; omega) y.m r1
    have s2 := sum_q _ y.c2 _ b2 (by simp; omega) y.m r2
    simp only [List.length_cons, List.length_map, ← hk2] at s1 s2
    refine ⟨_, _, s1, _, _, s2, ?_⟩
    by_cases i1 : In64 (sumI (upsL x)) <;> by_cases i2 : In64 (sumI (dnsL x)) <;> simp [clip, i1, i2, ifB, done_iff]

end Go.Proofs.Ytfkielfnceeedaa
