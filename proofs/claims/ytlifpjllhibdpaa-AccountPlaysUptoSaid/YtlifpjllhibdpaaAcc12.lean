/-
  Contracts of functions of this seat: what each hands back, and what it leaves of memory (acc12). Nothing here is trusted: Lean checks it.
-/
import Derived.Test.YtlifpjllhibdpaaAcc11
set_option linter.unusedVariables false
set_option linter.unusedSimpArgs false
namespace Go.Proofs.Ytlifpjllhibdpaa
open Go.Vc Go.RowKit
set_option maxRecDepth 100000

structure WoX where
  k : Nat
  a : Option Addr
  c : Nat
  m : M

structure WoI (l : List Hd) (p : Hd → Bool) (m : M) (y : WoX) : Prop where
  k : y.k ≤ l.length
  own : NewR m.sz (fun _ => False) y.m 4 y.a ((l.take y.k).filter p).length y.c (hds ((l.take y.k).filter p))
  ag : Agree m.sz m y.m

theorem without_s (x : Ac) (a : Option Addr) (c : Nat) (nd : Int) (hn : x.hs.length ≤ 1048576) (m : M) (h : Row m a (hds x.hs)) :
    Vc.Spec Try.prog 84 [acv x a c, I nd] m fun v m' => ∃ a' c', v = acv { x with hs := x.hs.filter fun h => decide (h.nd ≠ nd) } a' c' ∧ NewR m.sz (fun _ => False) m' 4 a' (x.hs.filter fun h => decide (h.nd ≠ nd)).length c' (hds (x.hs.filter fun h => decide (h.nd ≠ nd))) := by
  refine Vc.Spec.of_vc Try.func84 (ann := fun _ => { A := WoX, inv := WoI x.hs (fun h => decide (h.nd ≠ nd)) m, st := fun y => [(6, .val (I y.k)), (1, .val (I nd)), (2, .own 0 0), (4, .own 1 0), (5, .val (.slice y.a ((x.hs.take y.k).filter fun h => decide (h.nd ≠ nd)).length y.c))], own := fun _ => [(0, ⟨28, acc x a c⟩), (1, ⟨28, acc ac0 none 0⟩)], m := fun y => y.m, μ := fun y => x.hs.length - y.k }) ?_
  refine vc_by (X :=
      true = true ∧
      (∃ (a_1 : WoX),
      WoI x.hs (fun (h : Hd) => decide (h.nd ≠ nd)) m a_1 ∧
      m = a_1.m ∧
      ((SV.val (Value.int IntKind.i64 (0 : Int)) = SV.val (Value.int IntKind.i64 (↑a_1.k : Int)) ∧ true = true) ∧
      (SV.val (Value.int IntKind.i64 nd) = SV.val (Value.int IntKind.i64 nd) ∧ true = true) ∧
      (SV.own ((0 : Nat) + (0 : Nat)) (0 : Nat) = SV.own (0 : Nat) (0 : Nat) ∧ true = true) ∧
      (SV.own ((0 : Nat) + (1 : Nat)) (0 : Nat) = SV.own (1 : Nat) (0 : Nat) ∧ true = true) ∧
      (SV.val (Value.slice none (0 : Nat) (0 : Nat)) =
      SV.val (Value.slice a_1.a (List.filter (fun (h : Hd) => decide (h.nd ≠ nd)) (List.take a_1.k x.hs)).length a_1.c) ∧
      true = true) ∧
      True) ∧
      (some
      { ty := (28 : Nat), cs := [Value.string x.key, Value.int IntKind.i64 x.lo, Value.int IntKind.i64 x.hi, Value.int IntKind.i64 x.base, Value.int IntKind.i64 x.round, Value.slice a x.hs.length c, Value.int IntKind.i64 x.lk.cl, Value.int IntKind.i64 x.lk.sq, Value.int IntKind.i64 x.lk.hm, Value.int IntKind.i64 x.lk.n] : Bx } =
      some
      { ty := (28 : TypeId), cs := [Value.string x.key, Value.int IntKind.i64 x.lo, Value.int IntKind.i64 x.hi, Value.int IntKind.i64 x.base, Value.int IntKind.i64 x.round, Value.slice a x.hs.length c, Value.int IntKind.i64 x.lk.cl, Value.int IntKind.i64 x.lk.sq, Value.int IntKind.i64 x.lk.hm, Value.int IntKind.i64 x.lk.n] : Bx } ∧
      true = true) ∧
      (some
      { ty := (28 : Nat), cs := [Value.string { data := #[] : ByteArray }, Value.int IntKind.i64 (0 : Int), Value.int IntKind.i64 (0 : Int), Value.int IntKind.i64 (0 : Int), Value.int IntKind.i64 (0 : Int), Value.slice none (0 : Nat) (0 : Nat), Value.int IntKind.i64 (0 : Int), Value.int IntKind.i64 (0 : Int), Value.int IntKind.i64 (0 : Int), Value.int IntKind.i64 (0 : Int)] : Bx } =
      some
      { ty := (28 : TypeId), cs := [Value.string ByteArray.empty, Value.int IntKind.i64 (0 : Int), Value.int IntKind.i64 (0 : Int), Value.int IntKind.i64 (0 : Int), Value.int IntKind.i64 (0 : Int), Value.slice none (0 : Nat) (0 : Nat), Value.int IntKind.i64 (0 : Int), Value.int IntKind.i64 (0 : Int), Value.int IntKind.i64 (0 : Int), Value.int IntKind.i64 (0 : Int)] : Bx } ∧
      true = true) ∧
      True) ∧
      ∀ (a_1 : WoX),
      WoI x.hs (fun (h : Hd) => decide (h.nd ≠ nd)) m a_1 →
      ifB (decide ((↑a_1.k : Int) < (↑x.hs.length : Int)))
      (∃ (b : Nat),
      ∃ (off : Nat),
      a = some { block := b, off := off : Addr } ∧
      ((0 : Int) ≤ (↑a_1.k : Int) ∧ (↑a_1.k : Int) < (↑x.hs.length : Int)) ∧
      ∃ (n : Int),
      CellsAt a_1.m b (off + (↑a_1.k : Int).toNat * (4 : Nat) + (0 : Nat)) [Value.int IntKind.i64 n] ∧
      ifB (n != nd)
      (∃ (b : Nat),
      ∃ (off : Nat),
      a = some { block := b, off := off : Addr } ∧
      ((0 : Int) ≤ (↑a_1.k : Int) ∧ (↑a_1.k : Int) < (↑x.hs.length : Int)) ∧
      ∃ (n : Int),
      ∃ (n_1 : Int),
      ∃ (n_2 : Int),
      ∃ (n_3 : Int),
      CellsAt a_1.m b (off + (↑a_1.k : Int).toNat * (4 : Nat))
      [Value.int IntKind.i64 n, Value.int IntKind.i64 n_1, Value.int IntKind.i64 n_2, Value.int IntKind.i64 n_3] ∧
      true = true ∧
      ∀ (b : Nat),
      a_1.m.sz ≤ b →
      ∃ (old : List Value),
      ∃ (src : List Value),
      AppPre m.sz (fun (x : Nat) => False)
      (a_1.m.newBlock b
      [Value.int IntKind.i64 n, Value.int IntKind.i64 n_1, Value.int IntKind.i64 n_2, Value.int IntKind.i64 n_3])
      (4 : Nat) (32 : Nat) a_1.a (List.filter (fun (h : Hd) => decide (h.nd ≠ nd)) (List.take a_1.k x.hs)).length a_1.c
      (some { block := b, off := (0 : Nat) : Addr }) (1 : Nat) old src ∧
      ∀ (a' : Option Addr) (c' : Nat) (m' : M),
      AppPost Try.prog (31 : Nat)
      (a_1.m.newBlock b
      [Value.int IntKind.i64 n, Value.int IntKind.i64 n_1, Value.int IntKind.i64 n_2, Value.int IntKind.i64 n_3])
      (4 : Nat) a_1.a (List.filter (fun (h : Hd) => decide (h.nd ≠ nd)) (List.take a_1.k x.hs)).length a_1.c (1 : Nat) old src
      a' c' m' →
      ∃ (a'_1 : WoX),
      (WoI x.hs (fun (h : Hd) => decide (h.nd ≠ nd)) m a'_1 ∧
      m' = a'_1.m ∧
      ((SV.val (Value.int IntKind.i64 (IntKind.i64.wrap ((↑a_1.k : Int) + (1 : Int)))) =
      SV.val (Value.int IntKind.i64 (↑a'_1.k : Int)) ∧
      true = true) ∧
      (SV.val (Value.int IntKind.i64 nd) = SV.val (Value.int IntKind.i64 nd) ∧ true = true) ∧
      (SV.own (0 : Nat) (0 : Nat) = SV.own (0 : Nat) (0 : Nat) ∧ true = true) ∧
      (SV.own (1 : Nat) (0 : Nat) = SV.own (1 : Nat) (0 : Nat) ∧ true = true) ∧
      (SV.val
      (Value.slice a'
      ((List.filter (fun (h : Hd) => decide (h.nd ≠ nd)) (List.take a_1.k x.hs)).length + (1 : Nat))
      c') =
      SV.val
      (Value.slice a'_1.a
      (List.filter (fun (h : Hd) => decide (h.nd ≠ nd)) (List.take a'_1.k x.hs)).length a'_1.c) ∧
      true = true) ∧
      True) ∧
      (some
      { ty := (28 : TypeId), cs := [Value.string x.key, Value.int IntKind.i64 x.lo, Value.int IntKind.i64 x.hi, Value.int IntKind.i64 x.base, Value.int IntKind.i64 x.round, Value.slice a x.hs.length c, Value.int IntKind.i64 x.lk.cl, Value.int IntKind.i64 x.lk.sq, Value.int IntKind.i64 x.lk.hm, Value.int IntKind.i64 x.lk.n] : Bx } =
      some
      { ty := (28 : TypeId), cs := [Value.string x.key, Value.int IntKind.i64 x.lo, Value.int IntKind.i64 x.hi, Value.int IntKind.i64 x.base, Value.int IntKind.i64 x.round, Value.slice a x.hs.length c, Value.int IntKind.i64 x.lk.cl, Value.int IntKind.i64 x.lk.sq, Value.int IntKind.i64 x.lk.hm, Value.int IntKind.i64 x.lk.n] : Bx } ∧
      true = true) ∧
      (some
      { ty := (28 : TypeId), cs := [Value.string ByteArray.empty, Value.int IntKind.i64 (0 : Int), Value.int IntKind.i64 (0 : Int), Value.int IntKind.i64 (0 : Int), Value.int IntKind.i64 (0 : Int), Value.slice none (0 : Nat) (0 : Nat), Value.int IntKind.i64 (0 : Int), Value.int IntKind.i64 (0 : Int), Value.int IntKind.i64 (0 : Int), Value.int IntKind.i64 (0 : Int)] : Bx } =
      some
      { ty := (28 : TypeId), cs := [Value.string ByteArray.empty, Value.int IntKind.i64 (0 : Int), Value.int IntKind.i64 (0 : Int), Value.int IntKind.i64 (0 : Int), Value.int IntKind.i64 (0 : Int), Value.slice none (0 : Nat) (0 : Nat), Value.int IntKind.i64 (0 : Int), Value.int IntKind.i64 (0 : Int), Value.int IntKind.i64 (0 : Int), Value.int IntKind.i64 (0 : Int)] : Bx } ∧
      true = true) ∧
      True) ∧
      x.hs.length - a'_1.k < x.hs.length - a_1.k)
      (∃ (a' : WoX),
      (WoI x.hs (fun (h : Hd) => decide (h.nd ≠ nd)) m a' ∧
      a_1.m = a'.m ∧
      ((SV.val (Value.int IntKind.i64 (IntKind.i64.wrap ((↑a_1.k : Int) + (1 : Int)))) = SV.val (Value.int IntKind.i64 (↑a'.k : Int)) ∧ true = true) ∧
      (SV.val (Value.int IntKind.i64 nd) = SV.val (Value.int IntKind.i64 nd) ∧ true = true) ∧
      (SV.own (0 : Nat) (0 : Nat) = SV.own (0 : Nat) (0 : Nat) ∧ true = true) ∧
      (SV.own (1 : Nat) (0 : Nat) = SV.own (1 : Nat) (0 : Nat) ∧ true = true) ∧
      (SV.val (Value.slice a_1.a (List.filter (fun (h : Hd) => decide (h.nd ≠ nd)) (List.take a_1.k x.hs)).length a_1.c) =
      SV.val (Value.slice a'.a (List.filter (fun (h : Hd) => decide (h.nd ≠ nd)) (List.take a'.k x.hs)).length a'.c) ∧
      true = true) ∧
      True) ∧
      (some
      { ty := (28 : TypeId), cs := [Value.string x.key, Value.int IntKind.i64 x.lo, Value.int IntKind.i64 x.hi, Value.int IntKind.i64 x.base, Value.int IntKind.i64 x.round, Value.slice a x.hs.length c, Value.int IntKind.i64 x.lk.cl, Value.int IntKind.i64 x.lk.sq, Value.int IntKind.i64 x.lk.hm, Value.int IntKind.i64 x.lk.n] : Bx } =
      some
      { ty := (28 : TypeId), cs := [Value.string x.key, Value.int IntKind.i64 x.lo, Value.int IntKind.i64 x.hi, Value.int IntKind.i64 x.base, Value.int IntKind.i64 x.round, Value.slice a x.hs.length c, Value.int IntKind.i64 x.lk.cl, Value.int IntKind.i64 x.lk.sq, Value.int IntKind.i64 x.lk.hm, Value.int IntKind.i64 x.lk.n] : Bx } ∧
      true = true) ∧
      (some
      { ty := (28 : TypeId), cs := [Value.string ByteArray.empty, Value.int IntKind.i64 (0 : Int), Value.int IntKind.i64 (0 : Int), Value.int IntKind.i64 (0 : Int), Value.int IntKind.i64 (0 : Int), Value.slice none (0 : Nat) (0 : Nat), Value.int IntKind.i64 (0 : Int), Value.int IntKind.i64 (0 : Int), Value.int IntKind.i64 (0 : Int), Value.int IntKind.i64 (0 : Int)] : Bx } =
      some
      { ty := (28 : TypeId), cs := [Value.string ByteArray.empty, Value.int IntKind.i64 (0 : Int), Value.int IntKind.i64 (0 : Int), Value.int IntKind.i64 (0 : Int), Value.int IntKind.i64 (0 : Int), Value.slice none (0 : Nat) (0 : Nat), Value.int IntKind.i64 (0 : Int), Value.int IntKind.i64 (0 : Int), Value.int IntKind.i64 (0 : Int), Value.int IntKind.i64 (0 : Int)] : Bx } ∧
      true = true) ∧
      True) ∧
      x.hs.length - a'.k < x.hs.length - a_1.k))
      (Done
      (∃ (a' : Option Addr),
      ∃ (c' : Nat),
      Value.agg
      #[Value.string x.key, Value.int IntKind.i64 x.lo, Value.int IntKind.i64 x.hi, Value.int IntKind.i64 x.base, Value.int IntKind.i64 x.round,
      Value.slice a_1.a (List.filter (fun (h : Hd) => decide (h.nd ≠ nd)) (List.take a_1.k x.hs)).length a_1.c, Value.int IntKind.i64 x.lk.cl,
      Value.int IntKind.i64 x.lk.sq, Value.int IntKind.i64 x.lk.hm, Value.int IntKind.i64 x.lk.n] =
      Value.agg
      #[Value.string x.key, Value.int IntKind.i64 x.lo, Value.int IntKind.i64 x.hi, Value.int IntKind.i64 x.base, Value.int IntKind.i64 x.round,
      Value.slice a' (List.filter (fun (h : Hd) => decide (h.nd ≠ nd)) x.hs).length c', Value.int IntKind.i64 x.lk.cl, Value.int IntKind.i64 x.lk.sq,
      Value.int IntKind.i64 x.lk.hm, Value.int IntKind.i64 x.lk.n] ∧
      NewR m.sz (fun (x : Nat) => False) a_1.m (4 : Nat) a' (List.filter (fun (h : Hd) => decide (h.nd ≠ nd)) x.hs).length c'
      (hds (List.filter (fun (h : Hd) => decide (h.nd ≠ nd)) x.hs))))) (by kernel_rfl) ?_
  refine ⟨rfl, ⟨⟨0, none, 0, m⟩, ⟨Nat.zero_le _, .nil _, Agree.refl _ _⟩, rfl, by simp, ⟨⟨rfl, rfl⟩, ⟨rfl, rfl⟩, trivial⟩⟩, fun y hy => ifB_intro (fun hb => ?_) (fun hb => ?_)⟩
  · have hk2 : y.k < x.hs.length := by simpa using hb
    obtain ⟨b, o, rfl, hc⟩ := (h.agree hy.ag).cells (by rw [hds_len]; omega)
    have w1 : IntKind.i64.wrap ((y.k : Int) + 1) = ((y.k + 1 : Nat) : Int) := by simp [IntKind.wrap_i64]; omega
    have hcell := hd_at hc hk2
    have hc0 : CellsAt y.m b (o + y.k * 4) [I x.hs[y.k].nd] := hcell.take (ds := [I x.hs[y.k].le, I x.hs[y.k].up, I x.hs[y.k].dn])
    have ts : x.hs.take (y.k + 1) = x.hs.take y.k ++ [x.hs[y.k]] := List.take_succ_eq_append_getElem hk2
    refine ⟨b, o, rfl, by omega, _, by simpa using hc0, ifB_intro (fun h1 => ⟨b, o, rfl, by omega, _, _, _, _, by simpa using hcell, rfl, fun b2 hb2 => ?_⟩) (fun h1 => ?_)⟩
    · have h1 : x.hs[y.k].nd ≠ nd := by simpa using h1
      have hfl : ((x.hs.take y.k).filter fun h => decide (h.nd ≠ nd)).length ≤ x.hs.length := Nat.le_trans (List.length_filter_le _ _) (by simp; omega)
      obtain ⟨g1, g2⟩ := hy.own.push (P := Try.prog) (e := 31) (bytes := 32) (src := encH x.hs[y.k]) hb2 hy.ag.2.2 rfl rfl (by omega) zr_hd
      refine ⟨_, _, g1, fun a' c' m' hp => ?_⟩
      obtain ⟨g3, g4⟩ := g2 a' c' m' hp
      have ef : (x.hs.take (y.k + 1)).filter (fun h => decide (h.nd ≠ nd)) = (x.hs.take y.k).filter (fun h => decide (h.nd ≠ nd)) ++ [x.hs[y.k]] := by
        rw [ts, List.filter_append]; simp [h1]
      have eh : hds ((x.hs.take (y.k + 1)).filter fun h => decide (h.nd ≠ nd)) = hds ((x.hs.take y.k).filter fun h => decide (h.nd ≠ nd)) ++ encH x.hs[y.k] := by
        rw [ef]; simp [hds]
      refine ⟨⟨y.k + 1, a', c', m'⟩, ⟨⟨hk2, ?_, hy.ag.trans g4⟩, rfl, ?_, ⟨⟨rfl, rfl⟩, ⟨rfl, rfl⟩, trivial⟩⟩, by simp only; omega⟩
      · simp only [eh]
        rw [show ((x.hs.take (y.k + 1)).filter fun h => decide (h.nd ≠ nd)).length = ((x.hs.take y.k).filter fun h => decide (h.nd ≠ nd)).length + 1 by rw [ef]; simp]
        exact g3
      · simp only [ef, w1]
        simp
    · have h1 : x.hs[y.k].nd = nd := by simpa using h1
      have ef : (x.hs.take (y.k + 1)).filter (fun h => decide (h.nd ≠ nd)) = (x.hs.take y.k).filter (fun h => decide (h.nd ≠ nd)) := by
        rw [ts, List.filter_append]; simp [h1]
      refine ⟨⟨y.k + 1, y.a, y.c, y.m⟩, ⟨⟨hk2, ?_, hy.ag⟩, rfl, ?_, ⟨⟨rfl, rfl⟩, ⟨rfl, rfl⟩, trivial⟩⟩, by simp only; omega⟩
      · simp only [ef]; exact hy.own
      · simp only [ef, w1]
        simp
  · have hk : y.k = x.hs.length := by have := hy.k; simp at hb; omega
    have ho := hy.own
    rw [hk, List.take_length] at ho ⊢
    exact ⟨_, _, rfl, ho⟩

theorem rreport_s (x : Ac) (a : Option Addr) (c : Nat) (nd le ro net : Int) (hx : x.wf) (hn : In64 net) (m : M) (h : Row m a (hds x.hs)) : Vc.Spec Try.prog 67 [acv x a c, I nd, I le, I ro, I net] m (AcR m (aReport x nd le ro net)) := by
  refine Vc.Spec.of_vc Try.func67 (ann := noAnn) ?_
  refine vc_by (X :=
      true = true ∧
      ∃ (b : Bool),
      QSpec Try.prog (12 : Nat)
      [Value.agg
      #[Value.string x.key, Value.int IntKind.i64 x.lo, Value.int IntKind.i64 x.hi, Value.int IntKind.i64 x.base, Value.int IntKind.i64 x.round, Value.slice a x.hs.length c,
      Value.int IntKind.i64 x.lk.cl, Value.int IntKind.i64 x.lk.sq, Value.int IntKind.i64 x.lk.hm, Value.int IntKind.i64 x.lk.n]]
      m (Value.bool b) ∧
      ifB (!b)
      (Done
      (AcR m (aReport x nd le ro net)
      (Value.tuple
      #[Value.agg
      #[Value.string { data := #[] : ByteArray }, Value.int IntKind.i64 (0 : Int), Value.int IntKind.i64 (0 : Int), Value.int IntKind.i64 (0 : Int),
      Value.int IntKind.i64 (0 : Int), Value.slice none (0 : Nat) (0 : Nat), Value.int IntKind.i64 (0 : Int), Value.int IntKind.i64 (0 : Int),
      Value.int IntKind.i64 (0 : Int), Value.int IntKind.i64 (0 : Int)],
      Value.int IntKind.i64 (21 : Int)])
      m))
      (∃ (n : Int),
      ∃ (n_1 : Int),
      ∃ (n_2 : Int),
      ∃ (n_3 : Int),
      ∃ (b : Bool),
      QSpec Try.prog (20 : Nat)
      [Value.agg
      #[Value.string x.key, Value.int IntKind.i64 x.lo, Value.int IntKind.i64 x.hi, Value.int IntKind.i64 x.base, Value.int IntKind.i64 x.round,
      Value.slice a x.hs.length c, Value.int IntKind.i64 x.lk.cl, Value.int IntKind.i64 x.lk.sq, Value.int IntKind.i64 x.lk.hm, Value.int IntKind.i64 x.lk.n],
      Value.int IntKind.i64 nd]
      m (Value.tuple #[Value.agg #[Value.int IntKind.i64 n, Value.int IntKind.i64 n_1, Value.int IntKind.i64 n_2, Value.int IntKind.i64 n_3], Value.bool b]) ∧
      ifB (!b)
      (Done
      (AcR m (aReport x nd le ro net)
      (Value.tuple
      #[Value.agg
      #[Value.string { data := #[] : ByteArray }, Value.int IntKind.i64 (0 : Int), Value.int IntKind.i64 (0 : Int), Value.int IntKind.i64 (0 : Int),
      Value.int IntKind.i64 (0 : Int), Value.slice none (0 : Nat) (0 : Nat), Value.int IntKind.i64 (0 : Int), Value.int IntKind.i64 (0 : Int),
      Value.int IntKind.i64 (0 : Int), Value.int IntKind.i64 (0 : Int)],
      Value.int IntKind.i64 (151 : Int)])
      m))
      (ifB (n_1 != le)
      (Done
      (AcR m (aReport x nd le ro net)
      (Value.tuple
      #[Value.agg
      #[Value.string { data := #[] : ByteArray }, Value.int IntKind.i64 (0 : Int), Value.int IntKind.i64 (0 : Int), Value.int IntKind.i64 (0 : Int),
      Value.int IntKind.i64 (0 : Int), Value.slice none (0 : Nat) (0 : Nat), Value.int IntKind.i64 (0 : Int), Value.int IntKind.i64 (0 : Int),
      Value.int IntKind.i64 (0 : Int), Value.int IntKind.i64 (0 : Int)],
      Value.int IntKind.i64 (151 : Int)])
      m))
      (ifB (x.round == (0 : Int))
      (Done
      (AcR m (aReport x nd le ro net)
      (Value.tuple
      #[Value.agg
      #[Value.string { data := #[] : ByteArray }, Value.int IntKind.i64 (0 : Int), Value.int IntKind.i64 (0 : Int), Value.int IntKind.i64 (0 : Int),
      Value.int IntKind.i64 (0 : Int), Value.slice none (0 : Nat) (0 : Nat), Value.int IntKind.i64 (0 : Int), Value.int IntKind.i64 (0 : Int),
      Value.int IntKind.i64 (0 : Int), Value.int IntKind.i64 (0 : Int)],
      Value.int IntKind.i64 (152 : Int)])
      m))
      (ifB (x.round != ro)
      (Done
      (AcR m (aReport x nd le ro net)
      (Value.tuple
      #[Value.agg
      #[Value.string { data := #[] : ByteArray }, Value.int IntKind.i64 (0 : Int), Value.int IntKind.i64 (0 : Int), Value.int IntKind.i64 (0 : Int),
      Value.int IntKind.i64 (0 : Int), Value.slice none (0 : Nat) (0 : Nat), Value.int IntKind.i64 (0 : Int), Value.int IntKind.i64 (0 : Int),
      Value.int IntKind.i64 (0 : Int), Value.int IntKind.i64 (0 : Int)],
      Value.int IntKind.i64 (152 : Int)])
      m))
      (ifB (decide (net > n_2))
      (Done
      (AcR m (aReport x nd le ro net)
      (Value.tuple
      #[Value.agg
      #[Value.string { data := #[] : ByteArray }, Value.int IntKind.i64 (0 : Int), Value.int IntKind.i64 (0 : Int),
      Value.int IntKind.i64 (0 : Int), Value.int IntKind.i64 (0 : Int), Value.slice none (0 : Nat) (0 : Nat), Value.int IntKind.i64 (0 : Int),
      Value.int IntKind.i64 (0 : Int), Value.int IntKind.i64 (0 : Int), Value.int IntKind.i64 (0 : Int)],
      Value.int IntKind.i64 (150 : Int)])
      m))
      (true = true ∧
      ∀ (b : Nat),
      m.sz ≤ b →
      ∃ (n : Int),
      ∃ (n_4 : Int),
      QSpec Try.prog (29 : Nat) [Value.slice (some { block := b, off := (0 : Nat) : Addr }) (2 : Nat) (2 : Nat)]
      (m.newBlock b [Value.int IntKind.i64 n_3, Value.int IntKind.i64 net])
      (Value.agg #[Value.int IntKind.i64 n, Value.int IntKind.u64 n_4]) ∧
      ifB (decide (n < (0 : Int)))
      (Done
      (AcR m (aReport x nd le ro net)
      (Value.tuple
      #[Value.agg
      #[Value.string { data := #[] : ByteArray }, Value.int IntKind.i64 (0 : Int), Value.int IntKind.i64 (0 : Int),
      Value.int IntKind.i64 (0 : Int), Value.int IntKind.i64 (0 : Int), Value.slice none (0 : Nat) (0 : Nat),
      Value.int IntKind.i64 (0 : Int), Value.int IntKind.i64 (0 : Int), Value.int IntKind.i64 (0 : Int),
      Value.int IntKind.i64 (0 : Int)],
      Value.int IntKind.i64 (150 : Int)])
      (m.newBlock b [Value.int IntKind.i64 n_3, Value.int IntKind.i64 net])))
      (∀ (n : Nat),
      max m.sz (b + (1 : Nat)) ≤ n →
      Vc.Spec Try.prog (84 : Nat)
      [Value.agg
      #[Value.string x.key, Value.int IntKind.i64 x.lo, Value.int IntKind.i64 x.hi, Value.int IntKind.i64 x.base,
      Value.int IntKind.i64 x.round, Value.slice a x.hs.length c, Value.int IntKind.i64 x.lk.cl, Value.int IntKind.i64 x.lk.sq,
      Value.int IntKind.i64 x.lk.hm, Value.int IntKind.i64 x.lk.n],
      Value.int IntKind.i64 nd]
      { π := (m.newBlock b [Value.int IntKind.i64 n_3, Value.int IntKind.i64 net]).π, sz := n, uf := (m.newBlock b [Value.int IntKind.i64 n_3, Value.int IntKind.i64 net]).uf : M }
      fun (v : Value) (m' : M) =>
      ∃ (s : ByteArray),
      ∃ (n : Int),
      ∃ (n_5 : Int),
      ∃ (n_6 : Int),
      ∃ (n_7 : Int),
      ∃ (a : Option Addr),
      ∃ (n_8 : Nat),
      ∃ (c : Nat),
      ∃ (n_9 : Int),
      ∃ (n_10 : Int),
      ∃ (n_11 : Int),
      ∃ (n_12 : Int),
      v =
      Value.agg
      #[Value.string s, Value.int IntKind.i64 n, Value.int IntKind.i64 n_5, Value.int IntKind.i64 n_6,
      Value.int IntKind.i64 n_7, Value.slice a n_8 c, Value.int IntKind.i64 n_9,
      Value.int IntKind.i64 n_10, Value.int IntKind.i64 n_11, Value.int IntKind.i64 n_12] ∧
      Done
      (AcR m (aReport x nd le ro net)
      (Value.tuple
      #[Value.agg
      #[Value.string s, Value.int IntKind.i64 n, Value.int IntKind.i64 n_5,
      Value.int IntKind.i64 (IntKind.i64.wrap (n_6 + net)), Value.int IntKind.i64 n_7,
      Value.slice a n_8 c, Value.int IntKind.i64 n_9, Value.int IntKind.i64 n_10,
      Value.int IntKind.i64 n_11, Value.int IntKind.i64 n_12],
      Value.int IntKind.i64 (0 : Int)])
      m'))))))))) (by kernel_rfl) ?_
  refine ⟨rfl, _, rright_q x a c hx _ h, ?_⟩
  cases hr : rightB x
  · exact ifB_true (fail_d (by simp [aReport, hr]))
  refine ifB_false ⟨_, _, _, _, _, rfind_q x a c nd hx _ h, ifB_intro (fun h1 => fail_d ?_) (fun h1 => ifB_intro (fun h2 => fail_d ?_) (fun h2 => ifB_intro (fun h3 => fail_d ?_) (fun h3 => ifB_intro (fun h4 => fail_d ?_) (fun h4 => ?_))))⟩
  · simp at h1; simp [aReport, hr, h1]
  · simp at h1 h2; simp [aReport, hr, h2]
  · simp at h1 h2 h3; simp [aReport, hr, h1, h2, h3]
  · simp at h1 h2 h3 h4; simp [aReport, hr, h1, h2, h4]
  have h1 : findB x nd = true := by simpa using h1
  obtain ⟨-, hmem, hnd⟩ := find_mem h1
  have hroom := hold_room hr hmem
  have hlo := hx.lo
  have hhi := hx.hi
  have hdn := (hx.hs _ hmem).2.2.2
  simp at h2 h3 h4
  refine ifB_intro (fun h5 => fail_d ?_) (fun h5 => ⟨rfl, fun b hb => ?_⟩)
  · simp at h5; simp [aReport, hr, h1, h2, ← h4, h3, h5]
  simp at h5
  have s2 : sumI [(findH x nd).dn, net] = (findH x nd).dn + net := by simp [sumI]
  have q1 := of_q (some ⟨b, 0, none⟩) 2 [(findH x nd).dn, net] (by intro y hy; simp at hy; rcases hy with rfl | rfl; exact hdn; exact hn) (by simp) (m.newBlock b [I (findH x nd).dn, I net]) (.at _ _ _ (by simp only [M.newBlock]; omega) cellsAt_new)
  rw [s2] at q1
  have e1 : wideHi ((findH x nd).dn + net) < 0 ↔ (findH x nd).dn + net < 0 := by unfold In64 at *; simp [wideHi, IntKind.wrap_i64]; omega
  refine ⟨_, _, q1, ifB_intro (fun h6 => fail_d ?_) (fun h6 N hN => ?_)⟩
  · have h6 := e1.1 (by simpa using h6)
    have : net < -(findH x nd).dn := by omega
    simp [aReport, hr, h1, h2, ← h4, h3, this]
  have h6 : ¬ (findH x nd).dn + net < 0 := fun hh => by simp at h6; have := e1.2 hh; omega
  have w1 : IntKind.i64.wrap (x.base + net) = x.base + net := by unfold In64 at *; simp [IntKind.wrap_i64]; omega
  refine (without_s x a c nd (by have := right_len hr; omega) _ ((h.newBlock hb).sz hN)).mono fun v m' hag ⟨a', c', hv, hr'⟩ => ⟨_, _, _, _, _, _, _, _, _, _, _, _, hv, ?_⟩
  rw [w1]
  refine ok_d (z := { x with base := x.base + net, hs := x.hs.filter fun h => decide (h.nd ≠ nd) }) ?_ hr' (by simp only; omega)
  have hnb : ¬ ((findH x nd).up < net ∨ net < -(findH x nd).dn) := by omega
  simp [aReport, hr, h1, h2, ← h4, h3, hnb]

end Go.Proofs.Ytlifpjllhibdpaa
