/-
  Contracts of functions of this seat: what each hands back, and what it leaves of memory (l_mk). Nothing here is trusted: Lean checks it.
-/
import Derived.Test.YtpfiodchlbofmaaOpn
import Derived.Test.YtpfiodchlbofmaaVcOver
set_option linter.unusedVariables false
set_option linter.unusedSimpArgs false
namespace Go.Proofs.Ytpfiodchlbofmaa
open Go.Vc Go.RowKit Go.ChangeShapes Go.WideShapes Go.ChangeAt
set_option maxRecDepth 100000

structure Mk where
  cl : Int
  sq : Int
  op : Bool
  an_er : Int
  an_va : Int
  an_le : Int
  an_mo : Int

def Mk.wf (x : Mk) : Prop := In64 x.cl ∧ In64 x.sq ∧ In64 x.an_er ∧ In64 x.an_va ∧ In64 x.an_le ∧ In64 x.an_mo

abbrev encMk (x : Mk) : List Value := [I x.cl, I x.sq, .bool x.op, I x.an_er, I x.an_va, I x.an_le, I x.an_mo]

abbrev mkv (x : Mk) : Value := .agg #[I x.cl, I x.sq, .bool x.op, I x.an_er, I x.an_va, I x.an_le, I x.an_mo]

abbrev mks (l : List Mk) : List Value := l.flatMap encMk

theorem mk_k (x : Mk) : (encMk x).length = 7 := rfl

theorem mk_len (l : List Mk) : (mks l).length = l.length * 7 := flat_len mk_k l

theorem mk_at {m : M} {b o i : Nat} {l : List Mk} (h : CellsAt m b o (mks l)) (hi : i < l.length) : CellsAt m b (o + i * 7) (encMk l[i]) := CellsAt.elem mk_k l o i hi h

theorem mk_ext {a b : Mk} : a = b ↔ a.cl = b.cl ∧ a.sq = b.sq ∧ a.op = b.op ∧ a.an_er = b.an_er ∧ a.an_va = b.an_va ∧ a.an_le = b.an_le ∧ a.an_mo = b.an_mo := by
  cases a; cases b; simp

instance : DecidableEq Mk := fun _ _ => decidable_of_iff' _ mk_ext

theorem mk_one (l : List Mk) : oneCells (mks l) = true := by
  rw [oneCells_iff]; intro v hv
  obtain ⟨w, -, hw⟩ := List.mem_flatMap.1 hv
  exact oneCells_iff.1 (rfl : oneCells (encMk w) = true) v hw

theorem mk_zr (k : Nat) : (zeroRow Try.prog 32 k).length = k * 7 := zrLen (by kernel_rfl) k

theorem mk_cells : Try.prog.cellsOf 32 = 7 := by kernel_rfl

theorem mk_rd {m : M} {N d : Nat} {cs : List Value} (h : Rd Try.prog m N (d + 3) 32 cs) (hN : N ≤ 9223372036854775807) : ∃ x : Mk, cs = encMk x ∧ x.wf := by
  have hc1 := (by kernel_rfl : Try.prog.cellsOf 4 = 1)
  have hc2 := (by kernel_rfl : Try.prog.cellsOf 3 = 1)
  have hc3 := (by kernel_rfl : Try.prog.cellsOf 24 = 1)
  have hc4 := (by kernel_rfl : Try.prog.cellsOf 30 = 4)
  simp only [Rd, Try.underlying32, Try.underlying4, Try.underlying3, Try.underlying24, Try.underlying30, fieldsD, mk_cells, hc1, hc2, hc3, hc4] at h
  obtain ⟨hl, ⟨k1, e1, w1⟩, ⟨k2, e2, w2⟩, ⟨k3, e3⟩, ⟨-, ⟨k4, e4, w4⟩, ⟨k5, e5, w5⟩, ⟨k6, e6, w6⟩, ⟨k7, e7, w7⟩, -⟩, -⟩ := h
  obtain ⟨c1, c2, c3, c4, c5, c6, c7, rfl⟩ : ∃ c1 c2 c3 c4 c5 c6 c7, cs = [c1, c2, c3, c4, c5, c6, c7] := by
    match cs, hl with
    | [c1, c2, c3, c4, c5, c6, c7], _ => exact ⟨_, _, _, _, _, _, _, rfl⟩
  simp at e1 e2 e3 e4 e5 e6 e7
  subst e1 e2 e3 e4 e5 e6 e7
  exact ⟨⟨k1, k2, k3, k4, k5, k6, k7⟩, rfl, in64_of w1, in64_of w2, in64_of w4, in64_of w5, in64_of w6, in64_of w7⟩

theorem open_mk {H : Type} {enc : TypeId × Value → H} {W : World} {r : Reach} {b0 : Nat} {v : Value} {d : DataW H} {p : List MemPlace} {N : Nat} {Bd : DataW H → Prop} (B : Bound N Bd) (hN : N ≤ 9223372036854775807) (hv : Value.okWide Try.prog W r b0 32 v) (h : DataW.Trod enc Try.prog W 0 (fun _ => true) true 32 v d p) (hb : Bd d) : ∃ x : Mk, v = mkv x ∧ x.wf := by
  obtain ⟨cs, rfl, hl⟩ := open_agg Try.underlying32 mk_cells hv
  obtain ⟨fuel, hf⟩ := h
  have hr := rd_of_trod B 3 fuel 32 _ _ hf hb
  simp only [Value.cells] at hr
  obtain ⟨x, he, hw⟩ := mk_rd (d := 0) hr hN
  exact ⟨x, by rw [show cs = encMk x from he], hw⟩

theorem open_mks {H : Type} {enc : TypeId × Value → H} {W : World} {r : Reach} {b0 : Nat} {v : Value} {d : DataW H} {p : List MemPlace} {N : Nat} {Bd : DataW H → Prop} (B : Bound N Bd) (hN : N ≤ 9223372036854775807) (hv : Value.okWide Try.prog W r b0 22 v) (h : DataW.Trod enc Try.prog W 0 (fun _ => true) true 22 v d p) (hb : Bd d) :
    ∃ (a : Option Addr) (c : Nat) (z : List Mk), v = .slice a z.length c ∧ z.length ≤ N ∧ (∀ x ∈ z, x.wf) ∧ (a = none → z = []) ∧ Row (M.all W) a (mks z) := by
  obtain ⟨a, len, cap, rfl⟩ := okWide_slice Try.underlying22 hv
  obtain ⟨fuel, hf⟩ := h
  have hr := rd_of_trod B 4 fuel 22 _ _ hf hb
  rw [Rd] at hr
  simp only [Try.underlying22] at hr
  obtain ⟨a', cap', rows, hcs, h1, h2, h3, h4, h5⟩ := hr
  obtain ⟨z, hz, he, hi⟩ := rows_list (α := Mk) (e := encMk) (p := Mk.wf) rows fun r hr => mk_rd (d := 0) (h4 r hr).2 hN
  simp [Value.cells] at hcs
  obtain ⟨rfl, rfl, rfl⟩ := hcs
  rw [he] at h5
  exact ⟨a, cap, z, by rw [hz], by omega, hi, fun e => List.eq_nil_of_length_eq_zero (by have := h3 e; omega), h5⟩

theorem mk_plain (a a2 : Option Addr) (c c2 : Nat) (l l2 : List Mk) (hn1 : l.length ≤ 9223372036854775807) (m : M) (h : Row m a (mks l)) (h2 : Row m a2 (mks l2)) :
    QSpec Try.prog 14 [.slice a l.length c, .slice a2 l2.length c2] m (.bool (decide (l = l2))) := by
  refine QSpec.of_vc Try.func14 (ann := fun n _ => { A := Nat, inv := fun k => k ≤ l.length ∧ l.take k = l2.take k, st := fun k => [(5, .val (I k)), (0, .val (.slice a l.length c)), (1, .val (.slice a2 l2.length c2))], own := fun _ => [], m := fun _ => { m with sz := n }, μ := fun k => (l.length - k) }) fun n hn => ?_
  refine vc_by (X :=
      true = true ∧
      ifB ((↑l.length : Int) != (↑l2.length : Int)) (Done (Value.bool false = Value.bool (decide (l = l2))))
      ((∃ (a_1 : Nat),
      (a_1 ≤ l.length ∧ List.take a_1 l = List.take a_1 l2) ∧
      { π := m.π, sz := n, uf := m.uf : M } = { π := m.π, sz := n, uf := m.uf : M } ∧
      ((SV.val (Value.int IntKind.i64 (0 : Int)) = SV.val (Value.int IntKind.i64 (↑a_1 : Int)) ∧ true = true) ∧
      (SV.val (Value.slice a l.length c) = SV.val (Value.slice a l.length c) ∧ true = true) ∧
      (SV.val (Value.slice a2 l2.length c2) = SV.val (Value.slice a2 l2.length c2) ∧ true = true) ∧ True) ∧
      True) ∧
      ∀ (a_1 : Nat),
      a_1 ≤ l.length ∧ List.take a_1 l = List.take a_1 l2 →
      ifB (decide ((↑a_1 : Int) < (↑l.length : Int)))
      (true = true ∧
      ∃ (b : Nat),
      ∃ (off : Nat),
      a = some { block := b, off := off : Addr } ∧
      ((0 : Int) ≤ (↑a_1 : Int) ∧ (↑a_1 : Int) < (↑l.length : Int)) ∧
      ∃ (n_1 : Int),
      ∃ (n_2 : Int),
      ∃ (b_1 : Bool),
      ∃ (n_3 : Int),
      ∃ (n_4 : Int),
      ∃ (n_5 : Int),
      ∃ (n_6 : Int),
      CellsAt { π := m.π, sz := n, uf := m.uf : M } b (off + (↑a_1 : Int).toNat * (7 : Nat))
      [Value.int IntKind.i64 n_1, Value.int IntKind.i64 n_2, Value.bool b_1, Value.int IntKind.i64 n_3, Value.int IntKind.i64 n_4,
      Value.int IntKind.i64 n_5, Value.int IntKind.i64 n_6] ∧
      ∃ (b : Nat),
      ∃ (off : Nat),
      a2 = some { block := b, off := off : Addr } ∧
      ((0 : Int) ≤ (↑a_1 : Int) ∧ (↑a_1 : Int) < (↑l2.length : Int)) ∧
      ∃ (n_7 : Int),
      ∃ (n_8 : Int),
      ∃ (b_2 : Bool),
      ∃ (n_9 : Int),
      ∃ (n_10 : Int),
      ∃ (n_11 : Int),
      ∃ (n_12 : Int),
      CellsAt { π := m.π, sz := n, uf := m.uf : M } b (off + (↑a_1 : Int).toNat * (7 : Nat))
      [Value.int IntKind.i64 n_7, Value.int IntKind.i64 n_8, Value.bool b_2, Value.int IntKind.i64 n_9,
      Value.int IntKind.i64 n_10, Value.int IntKind.i64 n_11, Value.int IntKind.i64 n_12] ∧
      ifB
      (!(n_1 == n_7 &&
      (n_2 == n_8 &&
      (b_1 == b_2 && (n_3 == n_9 && (n_4 == n_10 && (n_5 == n_11 && (n_6 == n_12 && true))) && true)))))
      (Done (Value.bool false = Value.bool (decide (l = l2))))
      (∃ (a' : Nat),
      ((a' ≤ l.length ∧ List.take a' l = List.take a' l2) ∧
      { π := m.π, sz := n, uf := m.uf : M } = { π := m.π, sz := n, uf := m.uf : M } ∧
      ((SV.val (Value.int IntKind.i64 (IntKind.i64.wrap ((↑a_1 : Int) + (1 : Int)))) =
      SV.val (Value.int IntKind.i64 (↑a' : Int)) ∧
      true = true) ∧
      (SV.val (Value.slice a l.length c) = SV.val (Value.slice a l.length c) ∧ true = true) ∧
      (SV.val (Value.slice a2 l2.length c2) = SV.val (Value.slice a2 l2.length c2) ∧ true = true) ∧ True) ∧
      True) ∧
      l.length - a' < l.length - a_1))
      (Done (Value.bool true = Value.bool (decide (l = l2)))))) (by kernel_rfl) ?_
  have h' := h.sz hn
  have h2' := h2.sz hn
  refine ⟨rfl, ifB_intro (fun hb => ⟨?_⟩) (fun hb => ⟨⟨0, by simp⟩, fun k hk => ifB_intro (fun hb2 => ?_) (fun hb2 => ⟨?_⟩)⟩)⟩
  · have : l ≠ l2 := fun e => by subst e; simp at hb
    simp [this]
  · have hlen : l.length = l2.length := by simp at hb; omega
    have hk2 : k < l.length := by simpa using hb2
    obtain ⟨b, o, rfl, hc⟩ := h'.cells (by rw [mk_len]; omega)
    obtain ⟨b2, o2, rfl, hc2⟩ := h2'.cells (by rw [mk_len]; omega)
    have w1 : IntKind.i64.wrap ((k : Int) + 1) = ((k + 1 : Nat) : Int) := by simp [IntKind.wrap_i64]; omega
    refine ⟨rfl, b, o, rfl, by omega, _, _, _, _, _, _, _, by simpa using mk_at hc hk2, b2, o2, rfl, by omega, _, _, _, _, _, _, _, by simpa using mk_at hc2 (by omega : k < l2.length), ifB_intro (fun h3 => ⟨?_⟩) (fun h3 => ⟨k + 1, ⟨⟨hk2, ?_⟩, by simp [w1]⟩, by omega⟩)⟩
    · have : l ≠ l2 := fun e => by subst e; simp at h3
      simp [this]
    · have h3 : l[k] = l2[k] := by rw [mk_ext]; simpa using h3
      rw [List.take_succ_eq_append_getElem hk2, List.take_succ_eq_append_getElem (by omega : k < l2.length), hk.2, h3]
  · have hlen : l.length = l2.length := by simp at hb; omega
    have : k = l.length := by simp at hb2; omega
    have e := hk.2
    rw [this, List.take_length, hlen, List.take_length] at e
    simp [e]

theorem mk_clone (l : List Mk) (a : Option Addr) (c : Nat) (hn : l.length ≤ 1048576) (h0 : a = none → l = []) (m : M) (h : Row m a (mks l)) : Vc.Spec Try.prog 27 [.slice a l.length c] m (fun v m' => ∃ a' c', v = .slice a' l.length c' ∧ NewR m.sz (fun _ => False) m' 7 a' l.length c' (mks l)) := by
  refine Vc.Spec.of_vc Try.func27 (ann := noAnn) ?_
  refine vc_by (X :=
      true = true ∧
      ifB a.isNone
      (Done
      (∃ (a' : Option Addr),
      ∃ (c' : Nat), Value.slice none (0 : Nat) (0 : Nat) = Value.slice a' l.length c' ∧ NewR m.sz (fun (x : Nat) => False) m (7 : Nat) a' l.length c' (mks l)))
      (true = true ∧
      ∀ (b : Nat),
      m.sz ≤ b →
      ∃ (old : List Value),
      ∃ (src : List Value),
      AppPre m.sz (fun (x : Nat) => False) (m.newBlock b []) (7 : Nat) (56 : Nat) (some { block := b, off := (0 : Nat) : Addr }) (0 : Nat) (0 : Nat) a l.length old src ∧
      ∀ (a' : Option Addr) (c' : Nat) (m' : M),
      AppPost Try.prog (32 : Nat) (m.newBlock b []) (7 : Nat) (some { block := b, off := (0 : Nat) : Addr }) (0 : Nat) (0 : Nat) l.length old src a' c' m' →
      Done
      (∃ (a'_1 : Option Addr),
      ∃ (c'_1 : Nat),
      Value.slice a' ((0 : Nat) + l.length) c' = Value.slice a'_1 l.length c'_1 ∧ NewR m.sz (fun (x : Nat) => False) m' (7 : Nat) a'_1 l.length c'_1 (mks l)))) (by kernel_rfl) ?_
  refine ⟨rfl, ifB_intro (fun h1 => ⟨?_⟩) (fun h1 => ⟨rfl, fun b hb => ?_⟩)⟩
  · have : l = [] := h0 (by simpa using h1)
    subst this
    exact ⟨_, _, rfl, .nil _⟩
  · have ho : Own m.sz (fun _ => False) (m.newBlock b []) 7 (some ⟨b, 0, none⟩) 0 0 [] := Own.fresh hb rfl
    have hr : Row (m.newBlock b []) a (mks l) := h.newBlock hb
    refine ⟨_, _, ho.appPre hr (mk_len l) (mk_one l) (by omega), fun a' c' m' hp => ⟨a', c', by simp, .own ?_⟩⟩
    have := ho.append hp (mk_len l) mk_zr (by simp only [M.newBlock]; omega)
    simpa using this

theorem mk_own (a : Option Addr) (c : Nat) (l : List Mk) (mk : Mk) (hn : l.length ≤ 1048576) (m : M) (h : Row m a (mks l)) :
    Vc.Spec Try.prog 26 [.slice a l.length c, mkv mk] m (Owned m (mks l) (encMk mk ++ encMk mk) l.length (l.length + 2)) := by
  refine Vc.Spec.of_vc Try.func26 (ann := noAnn) ?_
  refine vc_by (X :=
      true = true ∧
      ((0 : Int) ≤ (0 : Int) ∧
      (0 : Int) ≤ IntKind.i64.wrap ((↑l.length : Int) + (2 : Int)) ∧
      (↑(56 : Nat) : Int) * IntKind.i64.wrap ((↑l.length : Int) + (2 : Int)) ≤ (281474976710656 : Int) ∧
      IntKind.i64.wrap ((↑l.length : Int) + (2 : Int)) ≤ (9223372036854775807 : Int)) ∧
      ∀ (b : Nat),
      m.sz ≤ b →
      ∃ (old : List Value),
      ∃ (src : List Value),
      AppPre m.sz (fun (x : Nat) => False)
      (m.newBlock b
      (madeCells
      #[Value.int IntKind.i64 (0 : Int), Value.int IntKind.i64 (0 : Int), Value.bool false, Value.int IntKind.i64 (0 : Int), Value.int IntKind.i64 (0 : Int),
      Value.int IntKind.i64 (0 : Int), Value.int IntKind.i64 (0 : Int)]
      ((IntKind.i64.wrap ((↑l.length : Int) + (2 : Int))).toNat * (7 : Nat))).toList)
      (7 : Nat) (56 : Nat) (some { block := b, off := (0 : Nat) : Addr }) (0 : Nat) (IntKind.i64.wrap ((↑l.length : Int) + (2 : Int))).toNat a l.length old src ∧
      ∀ (a' : Option Addr) (c' : Nat) (m' : M),
      AppPost Try.prog (32 : Nat)
      (m.newBlock b
      (madeCells
      #[Value.int IntKind.i64 (0 : Int), Value.int IntKind.i64 (0 : Int), Value.bool false, Value.int IntKind.i64 (0 : Int), Value.int IntKind.i64 (0 : Int),
      Value.int IntKind.i64 (0 : Int), Value.int IntKind.i64 (0 : Int)]
      ((IntKind.i64.wrap ((↑l.length : Int) + (2 : Int))).toNat * (7 : Nat))).toList)
      (7 : Nat) (some { block := b, off := (0 : Nat) : Addr }) (0 : Nat) (IntKind.i64.wrap ((↑l.length : Int) + (2 : Int))).toNat l.length old src a' c' m' →
      true = true ∧
      ∀ (b : Nat),
      m'.sz ≤ b →
      ∃ (old : List Value),
      ∃ (src : List Value),
      AppPre m.sz (fun (x : Nat) => False)
      (m'.newBlock b
      [Value.int IntKind.i64 mk.cl, Value.int IntKind.i64 mk.sq, Value.bool mk.op, Value.int IntKind.i64 mk.an_er, Value.int IntKind.i64 mk.an_va,
      Value.int IntKind.i64 mk.an_le, Value.int IntKind.i64 mk.an_mo, Value.int IntKind.i64 mk.cl, Value.int IntKind.i64 mk.sq, Value.bool mk.op,
      Value.int IntKind.i64 mk.an_er, Value.int IntKind.i64 mk.an_va, Value.int IntKind.i64 mk.an_le, Value.int IntKind.i64 mk.an_mo])
      (7 : Nat) (56 : Nat) a' ((0 : Nat) + l.length) c' (some { block := b, off := (0 : Nat) : Addr }) (2 : Nat) old src ∧
      ∀ (a'_1 : Option Addr) (c'_1 : Nat) (m'_1 : M),
      AppPost Try.prog (32 : Nat)
      (m'.newBlock b
      [Value.int IntKind.i64 mk.cl, Value.int IntKind.i64 mk.sq, Value.bool mk.op, Value.int IntKind.i64 mk.an_er, Value.int IntKind.i64 mk.an_va,
      Value.int IntKind.i64 mk.an_le, Value.int IntKind.i64 mk.an_mo, Value.int IntKind.i64 mk.cl, Value.int IntKind.i64 mk.sq, Value.bool mk.op,
      Value.int IntKind.i64 mk.an_er, Value.int IntKind.i64 mk.an_va, Value.int IntKind.i64 mk.an_le, Value.int IntKind.i64 mk.an_mo])
      (7 : Nat) a' ((0 : Nat) + l.length) c' (2 : Nat) old src a'_1 c'_1 m'_1 →
      (true = true ∧ (0 : Int) ≤ (0 : Int) ∧ (0 : Int) ≤ (↑l.length : Int) ∧ (↑l.length : Int) ≤ (↑c'_1 : Int) ∧ True) ∧
      Done
      (Owned m (mks l)
      [Value.int IntKind.i64 mk.cl, Value.int IntKind.i64 mk.sq, Value.bool mk.op, Value.int IntKind.i64 mk.an_er, Value.int IntKind.i64 mk.an_va,
      Value.int IntKind.i64 mk.an_le, Value.int IntKind.i64 mk.an_mo, Value.int IntKind.i64 mk.cl, Value.int IntKind.i64 mk.sq,
      Value.bool mk.op, Value.int IntKind.i64 mk.an_er, Value.int IntKind.i64 mk.an_va, Value.int IntKind.i64 mk.an_le,
      Value.int IntKind.i64 mk.an_mo]
      l.length (l.length + (2 : Nat))
      (Value.slice (if (↑c'_1 : Int).toNat = (0 : Nat) then a'_1 else Option.map (fun (x : Addr) => x) a'_1) ((↑l.length : Int).toNat - (0 : Nat))
      ((↑c'_1 : Int).toNat - (0 : Nat)))
      m'_1)) (by kernel_rfl) ?_
  have e : IntKind.i64.wrap ((l.length : Int) + 2) = ((l.length + 2 : Nat) : Int) := by simp [IntKind.wrap_i64]; omega
  rw [e]
  simp only [Int.toNat_natCast]
  refine ⟨trivial, by omega, fun b hb => ?_⟩
  obtain ⟨p1, p2⟩ := owned_calc (P := Try.prog) (e := 32) (size := 7) (bytes := 56) (len := l.length) (m := m) (b := b) (z := (madeCells #[I 0, I 0, .bool false, I 0, I 0, I 0, I 0] ((l.length + 2) * 7)).toList) (cs := mks l) (marks := encMk mk ++ encMk mk) hb h (mk_len l) (mk_one l) rfl rfl mk_zr (by simp [madeCells]) (by omega)
  refine ⟨[], mks l, p1, fun a' c' m' hp => ⟨trivial, fun b2 hb2 => ?_⟩⟩
  obtain ⟨p3, p4⟩ := p2 a' c' m' hp b2 hb2
  refine ⟨mks l, encMk mk ++ encMk mk, p3, fun a'' c'' m'' hp2 => ?_⟩
  obtain ⟨rfl, rfl, q3, q5, q4⟩ := p4 a'' c'' m'' hp2
  exact ⟨⟨trivial, by omega, by omega, by omega, trivial⟩, ⟨⟨b, by simp, hb, q3, q5, q4⟩⟩⟩

theorem mk_kept (b : Nat) (l : List Mk) (a2 : Option Addr) (c2 : Nat) (mk : Mk) (hn : l.length ≤ 1048576) (m : M) (hb : b < m.sz) (h : CellsAt m b 0 (mks l ++ (encMk mk ++ encMk mk))) (h2 : Row m a2 (mks l)) :
    QSpec Try.prog 29 [.slice (some ⟨b, 0, none⟩) l.length (l.length + 2), .slice a2 l.length c2, mkv mk] m (.bool true) := by
  refine QSpec.of_vc Try.func29 (ann := fun _ => noAnn) fun n hn => ?_
  refine vc_by (X :=
      true = true ∧
      ifB ((↑l.length : Int) != (↑l.length : Int)) (Done (Value.bool false = Value.bool true))
      (ifB (decide ((↑(l.length + (2 : Nat)) : Int) < IntKind.i64.wrap ((↑l.length : Int) + (2 : Int)))) (Done (Value.bool false = Value.bool true))
      ((true = true ∧
      (0 : Int) ≤ (0 : Int) ∧
      (0 : Int) ≤ IntKind.i64.wrap ((↑l.length : Int) + (2 : Int)) ∧ IntKind.i64.wrap ((↑l.length : Int) + (2 : Int)) ≤ (↑(l.length + (2 : Nat)) : Int) ∧ True) ∧
      true = true ∧
      ∃ (b_1 : Bool),
      QSpec Try.prog (14 : Nat) [Value.slice (some { block := b, off := (0 : Nat) : Addr }) l.length (l.length + (2 : Nat)), Value.slice a2 l.length c2]
      { π := m.π, sz := n, uf := m.uf : M } (Value.bool b_1) ∧
      ifB b_1
      (∃ (b_2 : Nat),
      ∃ (off : Nat),
      some { block := b, off := (0 : Nat) : Addr } = some { block := b_2, off := off : Addr } ∧
      ((0 : Int) ≤ (↑l.length : Int) ∧ (↑l.length : Int) < (↑((IntKind.i64.wrap ((↑l.length : Int) + (2 : Int))).toNat - (0 : Nat)) : Int)) ∧
      ∃ (n_1 : Int),
      ∃ (n_2 : Int),
      ∃ (b_3 : Bool),
      ∃ (n_3 : Int),
      ∃ (n_4 : Int),
      ∃ (n_5 : Int),
      ∃ (n_6 : Int),
      CellsAt { π := m.π, sz := n, uf := m.uf : M } b_2 (off + (↑l.length : Int).toNat * (7 : Nat))
      [Value.int IntKind.i64 n_1, Value.int IntKind.i64 n_2, Value.bool b_3, Value.int IntKind.i64 n_3, Value.int IntKind.i64 n_4,
      Value.int IntKind.i64 n_5, Value.int IntKind.i64 n_6] ∧
      ifB
      (n_1 == mk.cl &&
      (n_2 == mk.sq && (b_3 == mk.op && (n_3 == mk.an_er && (n_4 == mk.an_va && (n_5 == mk.an_le && (n_6 == mk.an_mo && true))) && true))))
      (∃ (b_4 : Nat),
      ∃ (off : Nat),
      some { block := b, off := (0 : Nat) : Addr } = some { block := b_4, off := off : Addr } ∧
      ((0 : Int) ≤ IntKind.i64.wrap ((↑l.length : Int) + (1 : Int)) ∧
      IntKind.i64.wrap ((↑l.length : Int) + (1 : Int)) <
      (↑((IntKind.i64.wrap ((↑l.length : Int) + (2 : Int))).toNat - (0 : Nat)) : Int)) ∧
      ∃ (n_7 : Int),
      ∃ (n_8 : Int),
      ∃ (b : Bool),
      ∃ (n_9 : Int),
      ∃ (n_10 : Int),
      ∃ (n_11 : Int),
      ∃ (n_12 : Int),
      CellsAt { π := m.π, sz := n, uf := m.uf : M } b_4
      (off + (IntKind.i64.wrap ((↑l.length : Int) + (1 : Int))).toNat * (7 : Nat))
      [Value.int IntKind.i64 n_7, Value.int IntKind.i64 n_8, Value.bool b, Value.int IntKind.i64 n_9,
      Value.int IntKind.i64 n_10, Value.int IntKind.i64 n_11, Value.int IntKind.i64 n_12] ∧
      Done
      (Value.bool
      (n_7 == mk.cl &&
      (n_8 == mk.sq &&
      (b == mk.op &&
      (n_9 == mk.an_er && (n_10 == mk.an_va && (n_11 == mk.an_le && (n_12 == mk.an_mo && true))) &&
      true)))) =
      Value.bool true))
      (Done (Value.bool false = Value.bool true)))
      (Done (Value.bool false = Value.bool true))))) (by kernel_rfl) ?_
  have e : IntKind.i64.wrap ((l.length : Int) + 2) = ((l.length + 2 : Nat) : Int) := by simp [IntKind.wrap_i64]; omega
  have e1 : IntKind.i64.wrap ((l.length : Int) + 1) = ((l.length + 1 : Nat) : Int) := by simp [IntKind.wrap_i64]; omega
  rw [e, e1]
  simp only [Int.toNat_natCast]
  have hk := h.drop
  rw [mk_len] at hk
  have k1 : CellsAt m b (0 + l.length * 7) (encMk mk) := hk.take
  have k2 : CellsAt m b (0 + (l.length + 1) * 7) (encMk mk) := by
    have := hk.drop (cs := encMk mk)
    rw [show 0 + (l.length + 1) * 7 = 0 + l.length * 7 + (encMk mk).length by rw [mk_k]; omega]
    exact this
  have hq := mk_plain (some ⟨b, 0, none⟩) a2 (l.length + 2) c2 l l (by omega) { m with sz := n } (.at _ _ _ (Nat.lt_of_lt_of_le hb hn) ⟨h.take.out⟩) (h2.sz hn)
  refine ⟨trivial, ifB_intro (fun h3 => by simp at h3) (fun h3 => ifB_intro (fun h4 => by simp at h4) (fun h4 => ⟨⟨trivial, by omega, by omega, by omega, trivial⟩, trivial, _, hq, ?_⟩))⟩
  have et : decide (l = l) = true := by simp
  rw [et]
  refine ifB_true ⟨b, 0, rfl, by constructor <;> simp <;> omega, _, _, _, _, _, _, _, ⟨k1.out⟩, ifB_intro (fun h5 => ⟨b, 0, rfl, by constructor <;> simp <;> omega, _, _, _, _, _, _, _, ⟨k2.out⟩, ⟨by simp⟩⟩) (fun h5 => by simp at h5)⟩

theorem mk_keptr (b : Nat) (l : List Mk) (a2 : Option Addr) (c2 : Nat) (mk : Mk) (hn : l.length ≤ 1048576) (m : M) (h : Row m (some ⟨b, 0, none⟩) (mks l ++ (encMk mk ++ encMk mk))) (h2 : Row m a2 (mks l)) :
    QSpec Try.prog 29 [.slice (some ⟨b, 0, none⟩) l.length (l.length + 2), .slice a2 l.length c2, mkv mk] m (.bool true) := by
  obtain ⟨b', o, e, hc⟩ := h.cells (by simp)
  cases e
  exact mk_kept b l a2 c2 mk hn m (h.lt (by simp) rfl) hc h2

end Go.Proofs.Ytpfiodchlbofmaa
