/-
  Contracts of functions of this seat: what each hands back, and what it leaves of memory (l_cl). Nothing here is trusted: Lean checks it.
-/
import Derived.Test.YtbhlhnkjmncloaaOpn
import Derived.Test.YtbhlhnkjmncloaaVcOver
set_option linter.unusedVariables false
set_option linter.unusedSimpArgs false
namespace Go.Proofs.Ytbhlhnkjmncloaa
open Go.Vc Go.RowKit Go.ChangeShapes Go.WideShapes Go.ChangeAt
set_option maxRecDepth 100000

structure Cl where
  cl : Int
  sq : Int
  nd : Int
  op_kd : Int
  op_ky : ByteArray
  op_ot : ByteArray
  op_n : Int
  op_lo : Int
  op_hi : Int
  ca : Int
  mo : Int
  aw : Int
  an_er : Int
  an_va : Int
  an_le : Int
  an_mo : Int

def Cl.wf (x : Cl) : Prop := In64 x.cl ∧ In64 x.sq ∧ In64 x.nd ∧ In64 x.op_kd ∧ x.op_ky.size ≤ 9223372036854775807 ∧ x.op_ot.size ≤ 9223372036854775807 ∧ In64 x.op_n ∧ In64 x.op_lo ∧ In64 x.op_hi ∧ In64 x.ca ∧ In64 x.mo ∧ In64 x.aw ∧ In64 x.an_er ∧ In64 x.an_va ∧ In64 x.an_le ∧ In64 x.an_mo

abbrev encCl (x : Cl) : List Value := [I x.cl, I x.sq, I x.nd, I x.op_kd, .string x.op_ky, .string x.op_ot, I x.op_n, I x.op_lo, I x.op_hi, I x.ca, I x.mo, I x.aw, I x.an_er, I x.an_va, I x.an_le, I x.an_mo]

abbrev clv (x : Cl) : Value := .agg #[I x.cl, I x.sq, I x.nd, I x.op_kd, .string x.op_ky, .string x.op_ot, I x.op_n, I x.op_lo, I x.op_hi, I x.ca, I x.mo, I x.aw, I x.an_er, I x.an_va, I x.an_le, I x.an_mo]

abbrev cls (l : List Cl) : List Value := l.flatMap encCl

theorem cl_k (x : Cl) : (encCl x).length = 16 := rfl

theorem cl_len (l : List Cl) : (cls l).length = l.length * 16 := flat_len cl_k l

theorem cl_at {m : M} {b o i : Nat} {l : List Cl} (h : CellsAt m b o (cls l)) (hi : i < l.length) : CellsAt m b (o + i * 16) (encCl l[i]) := CellsAt.elem cl_k l o i hi h

theorem cl_ext {a b : Cl} : a = b ↔ a.cl = b.cl ∧ a.sq = b.sq ∧ a.nd = b.nd ∧ a.op_kd = b.op_kd ∧ a.op_ky = b.op_ky ∧ a.op_ot = b.op_ot ∧ a.op_n = b.op_n ∧ a.op_lo = b.op_lo ∧ a.op_hi = b.op_hi ∧ a.ca = b.ca ∧ a.mo = b.mo ∧ a.aw = b.aw ∧ a.an_er = b.an_er ∧ a.an_va = b.an_va ∧ a.an_le = b.an_le ∧ a.an_mo = b.an_mo := by
  cases a; cases b; simp

instance : DecidableEq Cl := fun _ _ => decidable_of_iff' _ cl_ext

theorem cl_one (l : List Cl) : oneCells (cls l) = true := by
  rw [oneCells_iff]; intro v hv
  obtain ⟨w, -, hw⟩ := List.mem_flatMap.1 hv
  exact oneCells_iff.1 (rfl : oneCells (encCl w) = true) v hw

theorem cl_zr (k : Nat) : (zeroRow Try.prog 51 k).length = k * 16 := zrLen (by kernel_rfl) k

theorem cl_cells : Try.prog.cellsOf 51 = 16 := by kernel_rfl

theorem cl_rd {m : M} {N d : Nat} {cs : List Value} (h : Rd Try.prog m N (d + 3) 51 cs) (hN : N ≤ 9223372036854775807) : ∃ x : Cl, cs = encCl x ∧ x.wf := by
  have hc1 := (by kernel_rfl : Try.prog.cellsOf 9 = 1)
  have hc2 := (by kernel_rfl : Try.prog.cellsOf 3 = 1)
  have hc3 := (by kernel_rfl : Try.prog.cellsOf 30 = 1)
  have hc4 := (by kernel_rfl : Try.prog.cellsOf 24 = 6)
  have hc5 := (by kernel_rfl : Try.prog.cellsOf 33 = 4)
  simp only [Rd, Try.underlying51, Try.underlying9, Try.underlying3, Try.underlying30, Try.underlying24, Try.underlying33, fieldsD, cl_cells, hc1, hc2, hc3, hc4, hc5] at h
  obtain ⟨hl, ⟨k1, e1, w1⟩, ⟨k2, e2, w2⟩, ⟨k3, e3, w3⟩, ⟨-, ⟨k4, e4, w4⟩, ⟨k5, e5, w5⟩, ⟨k6, e6, w6⟩, ⟨k7, e7, w7⟩, ⟨k8, e8, w8⟩, ⟨k9, e9, w9⟩, -⟩, ⟨k10, e10, w10⟩, ⟨k11, e11, w11⟩, ⟨k12, e12, w12⟩, ⟨-, ⟨k13, e13, w13⟩, ⟨k14, e14, w14⟩, ⟨k15, e15, w15⟩, ⟨k16, e16, w16⟩, -⟩, -⟩ := h
  obtain ⟨c1, c2, c3, c4, c5, c6, c7, c8, c9, c10, c11, c12, c13, c14, c15, c16, rfl⟩ : ∃ c1 c2 c3 c4 c5 c6 c7 c8 c9 c10 c11 c12 c13 c14 c15 c16, cs = [c1, c2, c3, c4, c5, c6, c7, c8, c9, c10, c11, c12, c13, c14, c15, c16] := by
    match cs, hl with
    | [c1, c2, c3, c4, c5, c6, c7, c8, c9, c10, c11, c12, c13, c14, c15, c16], _ => exact ⟨_, _, _, _, _, _, _, _, _, _, _, _, _, _, _, _, rfl⟩
  simp at e1 e2 e3 e4 e5 e6 e7 e8 e9 e10 e11 e12 e13 e14 e15 e16
  subst e1 e2 e3 e4 e5 e6 e7 e8 e9 e10 e11 e12 e13 e14 e15 e16
  exact ⟨⟨k1, k2, k3, k4, k5, k6, k7, k8, k9, k10, k11, k12, k13, k14, k15, k16⟩, rfl, in64_of w1, in64_of w2, in64_of w3, in64_of w4, Nat.le_trans w5 hN, Nat.le_trans w6 hN, in64_of w7, in64_of w8, in64_of w9, in64_of w10, in64_of w11, in64_of w12, in64_of w13, in64_of w14, in64_of w15, in64_of w16⟩

theorem open_cl {H : Type} {enc : TypeId × Value → H} {W : World} {r : Reach} {b0 : Nat} {v : Value} {d : DataW H} {p : List MemPlace} {N : Nat} {Bd : DataW H → Prop} (B : Bound N Bd) (hN : N ≤ 9223372036854775807) (hv : Value.okWide Try.prog W r b0 51 v) (h : DataW.Trod enc Try.prog W 0 (fun _ => true) true 51 v d p) (hb : Bd d) : ∃ x : Cl, v = clv x ∧ x.wf := by
  obtain ⟨cs, rfl, hl⟩ := open_agg Try.underlying51 cl_cells hv
  obtain ⟨fuel, hf⟩ := h
  have hr := rd_of_trod B 3 fuel 51 _ _ hf hb
  simp only [Value.cells] at hr
  obtain ⟨x, he, hw⟩ := cl_rd (d := 0) hr hN
  exact ⟨x, by rw [show cs = encCl x from he], hw⟩

theorem open_cls {H : Type} {enc : TypeId × Value → H} {W : World} {r : Reach} {b0 : Nat} {v : Value} {d : DataW H} {p : List MemPlace} {N : Nat} {Bd : DataW H → Prop} (B : Bound N Bd) (hN : N ≤ 9223372036854775807) (hv : Value.okWide Try.prog W r b0 48 v) (h : DataW.Trod enc Try.prog W 0 (fun _ => true) true 48 v d p) (hb : Bd d) :
    ∃ (a : Option Addr) (c : Nat) (z : List Cl), v = .slice a z.length c ∧ z.length ≤ N ∧ (∀ x ∈ z, x.wf) ∧ (a = none → z = []) ∧ Row (M.all W) a (cls z) := by
  obtain ⟨a, len, cap, rfl⟩ := okWide_slice Try.underlying48 hv
  obtain ⟨fuel, hf⟩ := h
  have hr := rd_of_trod B 4 fuel 48 _ _ hf hb
  rw [Rd] at hr
  simp only [Try.underlying48] at hr
  obtain ⟨a', cap', rows, hcs, h1, h2, h3, h4, h5⟩ := hr
  obtain ⟨z, hz, he, hi⟩ := rows_list (α := Cl) (e := encCl) (p := Cl.wf) rows fun r hr => cl_rd (d := 0) (h4 r hr).2 hN
  simp [Value.cells] at hcs
  obtain ⟨rfl, rfl, rfl⟩ := hcs
  rw [he] at h5
  exact ⟨a, cap, z, by rw [hz], by omega, hi, fun e => List.eq_nil_of_length_eq_zero (by have := h3 e; omega), h5⟩

theorem cl_plain (a a2 : Option Addr) (c c2 : Nat) (l l2 : List Cl) (hn1 : l.length ≤ 9223372036854775807) (m : M) (h : Row m a (cls l)) (h2 : Row m a2 (cls l2)) :
    QSpec Try.prog 23 [.slice a l.length c, .slice a2 l2.length c2] m (.bool (decide (l = l2))) := by
  refine QSpec.of_vc Try.func23 (ann := fun n _ => { A := Nat, inv := fun k => k ≤ l.length ∧ l.take k = l2.take k, st := fun k => [(5, .val (I k)), (0, .val (.slice a l.length c)), (1, .val (.slice a2 l2.length c2))], own := fun _ => [], m := fun _ => { m with sz := n }, μ := fun k => (l.length - k) }) fun n hn => ?_
  refine vc_by (X :=
      true = true ∧
      ifB ((↑l.length : Int) != (↑l2.length : Int)) (Done (Value.bool false = Value.bool (decide (l = l2))))
      ((∃ (a_1 : Nat),
      (a_1 ≤ l.length ∧ List.take a_1 l = List.take a_1 l2) ∧
      { π := m.π, sz := n, uf := m.uf : M } = { π := m.π, sz := n, uf := m.uf : M } ∧
      ((SV.val (Value.int IntKind.i64 (0 : Int)) = SV.val (Value.int IntKind.i64 (↑a_1 : Int)) ∧ true = true) ∧
      (SV.val (Value.slice a l.length c) = SV.val (Value.slice a l.length c) ∧ true = true) ∧
      (SV.val (Value.slice a2 l2.length c2) = SV.val (Value.slice a2 l2.length c2) ∧ true = true) ∧ True) ∧
      True) ∧
      ∀ (a_1 : Nat),
      a_1 ≤ l.length ∧ List.take a_1 l = List.take a_1 l2 →
      ifB (decide ((↑a_1 : Int) < (↑l.length : Int)))
      (true = true ∧
      ∃ (b : Nat),
      ∃ (off : Nat),
      a = some { block := b, off := off : Addr } ∧
      ((0 : Int) ≤ (↑a_1 : Int) ∧ (↑a_1 : Int) < (↑l.length : Int)) ∧
      ∃ (n_1 : Int),
      ∃ (n_2 : Int),
      ∃ (n_3 : Int),
      ∃ (n_4 : Int),
      ∃ (s : ByteArray),
      ∃ (s_1 : ByteArray),
      ∃ (n_5 : Int),
      ∃ (n_6 : Int),
      ∃ (n_7 : Int),
      ∃ (n_8 : Int),
      ∃ (n_9 : Int),
      ∃ (n_10 : Int),
      ∃ (n_11 : Int),
      ∃ (n_12 : Int),
      ∃ (n_13 : Int),
      ∃ (n_14 : Int),
      CellsAt { π := m.π, sz := n, uf := m.uf : M } b (off + (↑a_1 : Int).toNat * (16 : Nat))
      [Value.int IntKind.i64 n_1, Value.int IntKind.i64 n_2, Value.int IntKind.i64 n_3, Value.int IntKind.i64 n_4,
      Value.string s, Value.string s_1, Value.int IntKind.i64 n_5, Value.int IntKind.i64 n_6, Value.int IntKind.i64 n_7,
      Value.int IntKind.i64 n_8, Value.int IntKind.i64 n_9, Value.int IntKind.i64 n_10, Value.int IntKind.i64 n_11,
      Value.int IntKind.i64 n_12, Value.int IntKind.i64 n_13, Value.int IntKind.i64 n_14] ∧
      ∃ (b : Nat),
      ∃ (off : Nat),
      a2 = some { block := b, off := off : Addr } ∧
      ((0 : Int) ≤ (↑a_1 : Int) ∧ (↑a_1 : Int) < (↑l2.length : Int)) ∧
      ∃ (n_15 : Int),
      ∃ (n_16 : Int),
      ∃ (n_17 : Int),
      ∃ (n_18 : Int),
      ∃ (s_2 : ByteArray),
      ∃ (s_3 : ByteArray),
      ∃ (n_19 : Int),
      ∃ (n_20 : Int),
      ∃ (n_21 : Int),
      ∃ (n_22 : Int),
      ∃ (n_23 : Int),
      ∃ (n_24 : Int),
      ∃ (n_25 : Int),
      ∃ (n_26 : Int),
      ∃ (n_27 : Int),
      ∃ (n_28 : Int),
      CellsAt { π := m.π, sz := n, uf := m.uf : M } b
      (off + (↑a_1 : Int).toNat * (16 : Nat))
      [Value.int IntKind.i64 n_15, Value.int IntKind.i64 n_16,
      Value.int IntKind.i64 n_17, Value.int IntKind.i64 n_18, Value.string s_2,
      Value.string s_3, Value.int IntKind.i64 n_19, Value.int IntKind.i64 n_20,
      Value.int IntKind.i64 n_21, Value.int IntKind.i64 n_22,
      Value.int IntKind.i64 n_23, Value.int IntKind.i64 n_24,
      Value.int IntKind.i64 n_25, Value.int IntKind.i64 n_26,
      Value.int IntKind.i64 n_27, Value.int IntKind.i64 n_28] ∧
      ifB
      (!(n_1 == n_15 &&
      (n_2 == n_16 &&
      (n_3 == n_17 &&
      (n_4 == n_18 &&
      (s.toList == s_2.toList &&
      (s_1.toList == s_3.toList &&
      (n_5 == n_19 && (n_6 == n_20 && (n_7 == n_21 && true))))) &&
      (n_8 == n_22 &&
      (n_9 == n_23 &&
      (n_10 == n_24 &&
      (n_11 == n_25 &&
      (n_12 == n_26 &&
      (n_13 == n_27 && (n_14 == n_28 && true))) &&
      true)))))))))
      (Done (Value.bool false = Value.bool (decide (l = l2))))
      (∃ (a' : Nat),
      ((a' ≤ l.length ∧ List.take a' l = List.take a' l2) ∧
      { π := m.π, sz := n, uf := m.uf : M } =
      { π := m.π, sz := n, uf := m.uf : M } ∧
      ((SV.val
      (Value.int IntKind.i64
      (IntKind.i64.wrap ((↑a_1 : Int) + (1 : Int)))) =
      SV.val (Value.int IntKind.i64 (↑a' : Int)) ∧
      true = true) ∧
      (SV.val (Value.slice a l.length c) =
      SV.val (Value.slice a l.length c) ∧
      true = true) ∧
      (SV.val (Value.slice a2 l2.length c2) =
      SV.val (Value.slice a2 l2.length c2) ∧
      true = true) ∧
      True) ∧
      True) ∧
      l.length - a' < l.length - a_1))
      (Done (Value.bool true = Value.bool (decide (l = l2)))))) (by kernel_rfl) ?_
  have h' := h.sz hn
  have h2' := h2.sz hn
  refine ⟨rfl, ifB_intro (fun hb => ⟨?_⟩) (fun hb => ⟨⟨0, by simp⟩, fun k hk => ifB_intro (fun hb2 => ?_) (fun hb2 => ⟨?_⟩)⟩)⟩
  · have : l ≠ l2 := fun e => by subst e; simp at hb
    simp [this]
  · have hlen : l.length = l2.length := by simp at hb; omega
    have hk2 : k < l.length := by simpa using hb2
    obtain ⟨b, o, rfl, hc⟩ := h'.cells (by rw [cl_len]; omega)
    obtain ⟨b2, o2, rfl, hc2⟩ := h2'.cells (by rw [cl_len]; omega)
    have w1 : IntKind.i64.wrap ((k : Int) + 1) = ((k + 1 : Nat) : Int) := by simp [IntKind.wrap_i64]; omega
    refine ⟨rfl, b, o, rfl, by omega, _, _, _, _, _, _, _, _, _, _, _, _, _, _, _, _, by simpa using cl_at hc hk2, b2, o2, rfl, by omega, _, _, _, _, _, _, _, _, _, _, _, _, _, _, _, _, by simpa using cl_at hc2 (by omega : k < l2.length), ifB_intro (fun h3 => ⟨?_⟩) (fun h3 => ⟨k + 1, ⟨⟨hk2, ?_⟩, by simp [w1]⟩, by omega⟩)⟩
    · have : l ≠ l2 := fun e => by subst e; simp at h3
      simp [this]
    · have h3 : l[k] = l2[k] := by rw [cl_ext]; simpa [bytes_beq, and_assoc] using h3
      rw [List.take_succ_eq_append_getElem hk2, List.take_succ_eq_append_getElem (by omega : k < l2.length), hk.2, h3]
  · have hlen : l.length = l2.length := by simp at hb; omega
    have : k = l.length := by simp at hb2; omega
    have e := hk.2
    rw [this, List.take_length, hlen, List.take_length] at e
    simp [e]

theorem cl_own (a : Option Addr) (c : Nat) (l : List Cl) (mk : Cl) (hn : l.length ≤ 1048576) (m : M) (h : Row m a (cls l)) :
    Vc.Spec Try.prog 26 [.slice a l.length c, clv mk] m (Owned m (cls l) (encCl mk ++ encCl mk) l.length (l.length + 2)) := by
  refine Vc.Spec.of_vc Try.func26 (ann := noAnn) ?_
  refine vc_by (X :=
      true = true ∧
      ((0 : Int) ≤ (0 : Int) ∧
      (0 : Int) ≤ IntKind.i64.wrap ((↑l.length : Int) + (2 : Int)) ∧
      (↑(144 : Nat) : Int) * IntKind.i64.wrap ((↑l.length : Int) + (2 : Int)) ≤ (281474976710656 : Int) ∧
      IntKind.i64.wrap ((↑l.length : Int) + (2 : Int)) ≤ (9223372036854775807 : Int)) ∧
      ∀ (b : Nat),
      m.sz ≤ b →
      ∃ (old : List Value),
      ∃ (src : List Value),
      AppPre m.sz (fun (x : Nat) => False)
      (m.newBlock b
      (madeCells
      #[Value.int IntKind.i64 (0 : Int), Value.int IntKind.i64 (0 : Int), Value.int IntKind.i64 (0 : Int), Value.int IntKind.i64 (0 : Int),
      Value.string { data := #[] : ByteArray }, Value.string { data := #[] : ByteArray }, Value.int IntKind.i64 (0 : Int), Value.int IntKind.i64 (0 : Int),
      Value.int IntKind.i64 (0 : Int), Value.int IntKind.i64 (0 : Int), Value.int IntKind.i64 (0 : Int), Value.int IntKind.i64 (0 : Int),
      Value.int IntKind.i64 (0 : Int), Value.int IntKind.i64 (0 : Int), Value.int IntKind.i64 (0 : Int), Value.int IntKind.i64 (0 : Int)]
      ((IntKind.i64.wrap ((↑l.length : Int) + (2 : Int))).toNat * (16 : Nat))).toList)
      (16 : Nat) (144 : Nat) (some { block := b, off := (0 : Nat) : Addr }) (0 : Nat) (IntKind.i64.wrap ((↑l.length : Int) + (2 : Int))).toNat a l.length old src ∧
      ∀ (a' : Option Addr) (c' : Nat) (m' : M),
      AppPost Try.prog (51 : Nat)
      (m.newBlock b
      (madeCells
      #[Value.int IntKind.i64 (0 : Int), Value.int IntKind.i64 (0 : Int), Value.int IntKind.i64 (0 : Int), Value.int IntKind.i64 (0 : Int),
      Value.string { data := #[] : ByteArray }, Value.string { data := #[] : ByteArray }, Value.int IntKind.i64 (0 : Int), Value.int IntKind.i64 (0 : Int),
      Value.int IntKind.i64 (0 : Int), Value.int IntKind.i64 (0 : Int), Value.int IntKind.i64 (0 : Int), Value.int IntKind.i64 (0 : Int),
      Value.int IntKind.i64 (0 : Int), Value.int IntKind.i64 (0 : Int), Value.int IntKind.i64 (0 : Int), Value.int IntKind.i64 (0 : Int)]
      ((IntKind.i64.wrap ((↑l.length : Int) + (2 : Int))).toNat * (16 : Nat))).toList)
      (16 : Nat) (some { block := b, off := (0 : Nat) : Addr }) (0 : Nat) (IntKind.i64.wrap ((↑l.length : Int) + (2 : Int))).toNat l.length old src a' c' m' →
      true = true ∧
      ∀ (b : Nat),
      m'.sz ≤ b →
      ∃ (old : List Value),
      ∃ (src : List Value),
      AppPre m.sz (fun (x : Nat) => False)
      (m'.newBlock b
      [Value.int IntKind.i64 mk.cl, Value.int IntKind.i64 mk.sq, Value.int IntKind.i64 mk.nd, Value.int IntKind.i64 mk.op_kd, Value.string mk.op_ky,
      Value.string mk.op_ot, Value.int IntKind.i64 mk.op_n, Value.int IntKind.i64 mk.op_lo, Value.int IntKind.i64 mk.op_hi,
      Value.int IntKind.i64 mk.ca, Value.int IntKind.i64 mk.mo, Value.int IntKind.i64 mk.aw, Value.int IntKind.i64 mk.an_er,
      Value.int IntKind.i64 mk.an_va, Value.int IntKind.i64 mk.an_le, Value.int IntKind.i64 mk.an_mo, Value.int IntKind.i64 mk.cl,
      Value.int IntKind.i64 mk.sq, Value.int IntKind.i64 mk.nd, Value.int IntKind.i64 mk.op_kd, Value.string mk.op_ky, Value.string mk.op_ot,
      Value.int IntKind.i64 mk.op_n, Value.int IntKind.i64 mk.op_lo, Value.int IntKind.i64 mk.op_hi, Value.int IntKind.i64 mk.ca,
      Value.int IntKind.i64 mk.mo, Value.int IntKind.i64 mk.aw, Value.int IntKind.i64 mk.an_er, Value.int IntKind.i64 mk.an_va,
      Value.int IntKind.i64 mk.an_le, Value.int IntKind.i64 mk.an_mo])
      (16 : Nat) (144 : Nat) a' ((0 : Nat) + l.length) c' (some { block := b, off := (0 : Nat) : Addr }) (2 : Nat) old src ∧
      ∀ (a'_1 : Option Addr) (c'_1 : Nat) (m'_1 : M),
      AppPost Try.prog (51 : Nat)
      (m'.newBlock b
      [Value.int IntKind.i64 mk.cl, Value.int IntKind.i64 mk.sq, Value.int IntKind.i64 mk.nd, Value.int IntKind.i64 mk.op_kd, Value.string mk.op_ky,
      Value.string mk.op_ot, Value.int IntKind.i64 mk.op_n, Value.int IntKind.i64 mk.op_lo, Value.int IntKind.i64 mk.op_hi,
      Value.int IntKind.i64 mk.ca, Value.int IntKind.i64 mk.mo, Value.int IntKind.i64 mk.aw, Value.int IntKind.i64 mk.an_er,
      Value.int IntKind.i64 mk.an_va, Value.int IntKind.i64 mk.an_le, Value.int IntKind.i64 mk.an_mo, Value.int IntKind.i64 mk.cl,
      Value.int IntKind.i64 mk.sq, Value.int IntKind.i64 mk.nd, Value.int IntKind.i64 mk.op_kd, Value.string mk.op_ky, Value.string mk.op_ot,
      Value.int IntKind.i64 mk.op_n, Value.int IntKind.i64 mk.op_lo, Value.int IntKind.i64 mk.op_hi, Value.int IntKind.i64 mk.ca,
      Value.int IntKind.i64 mk.mo, Value.int IntKind.i64 mk.aw, Value.int IntKind.i64 mk.an_er, Value.int IntKind.i64 mk.an_va,
      Value.int IntKind.i64 mk.an_le, Value.int IntKind.i64 mk.an_mo])
      (16 : Nat) a' ((0 : Nat) + l.length) c' (2 : Nat) old src a'_1 c'_1 m'_1 →
      (true = true ∧ (0 : Int) ≤ (0 : Int) ∧ (0 : Int) ≤ (↑l.length : Int) ∧ (↑l.length : Int) ≤ (↑c'_1 : Int) ∧ True) ∧
      Done
      (Owned m (cls l)
      [Value.int IntKind.i64 mk.cl, Value.int IntKind.i64 mk.sq, Value.int IntKind.i64 mk.nd, Value.int IntKind.i64 mk.op_kd,
      Value.string mk.op_ky, Value.string mk.op_ot, Value.int IntKind.i64 mk.op_n, Value.int IntKind.i64 mk.op_lo,
      Value.int IntKind.i64 mk.op_hi, Value.int IntKind.i64 mk.ca, Value.int IntKind.i64 mk.mo, Value.int IntKind.i64 mk.aw,
      Value.int IntKind.i64 mk.an_er, Value.int IntKind.i64 mk.an_va, Value.int IntKind.i64 mk.an_le, Value.int IntKind.i64 mk.an_mo,
      Value.int IntKind.i64 mk.cl, Value.int IntKind.i64 mk.sq, Value.int IntKind.i64 mk.nd, Value.int IntKind.i64 mk.op_kd,
      Value.string mk.op_ky, Value.string mk.op_ot, Value.int IntKind.i64 mk.op_n, Value.int IntKind.i64 mk.op_lo,
      Value.int IntKind.i64 mk.op_hi, Value.int IntKind.i64 mk.ca, Value.int IntKind.i64 mk.mo, Value.int IntKind.i64 mk.aw,
      Value.int IntKind.i64 mk.an_er, Value.int IntKind.i64 mk.an_va, Value.int IntKind.i64 mk.an_le, Value.int IntKind.i64 mk.an_mo]
      l.length (l.length + (2 : Nat))
      (Value.slice (if (↑c'_1 : Int).toNat = (0 : Nat) then a'_1 else Option.map (fun (x : Addr) => x) a'_1) ((↑l.length : Int).toNat - (0 : Nat))
      ((↑c'_1 : Int).toNat - (0 : Nat)))
      m'_1)) (by kernel_rfl) ?_
  have e : IntKind.i64.wrap ((l.length : Int) + 2) = ((l.length + 2 : Nat) : Int) := by simp [IntKind.wrap_i64]; omega
  rw [e]
  simp only [Int.toNat_natCast]
  refine ⟨trivial, by omega, fun b hb => ?_⟩
  obtain ⟨p1, p2⟩ := owned_calc (P := Try.prog) (e := 51) (size := 16) (bytes := 144) (len := l.length) (m := m) (b := b) (z := (madeCells #[I 0, I 0, I 0, I 0, .string .empty, .string .empty, I 0, I 0, I 0, I 0, I 0, I 0, I 0, I 0, I 0, I 0] ((l.length + 2) * 16)).toList) (cs := cls l) (marks := encCl mk ++ encCl mk) hb h (cl_len l) (cl_one l) rfl rfl cl_zr (by simp [madeCells]) (by omega)
  refine ⟨[], cls l, p1, fun a' c' m' hp => ⟨trivial, fun b2 hb2 => ?_⟩⟩
  obtain ⟨p3, p4⟩ := p2 a' c' m' hp b2 hb2
  refine ⟨cls l, encCl mk ++ encCl mk, p3, fun a'' c'' m'' hp2 => ?_⟩
  obtain ⟨rfl, rfl, q3, q5, q4⟩ := p4 a'' c'' m'' hp2
  exact ⟨⟨trivial, by omega, by omega, by omega, trivial⟩, ⟨⟨b, by simp, hb, q3, q5, q4⟩⟩⟩

theorem cl_kept (b : Nat) (l : List Cl) (a2 : Option Addr) (c2 : Nat) (mk : Cl) (hn : l.length ≤ 1048576) (m : M) (hb : b < m.sz) (h : CellsAt m b 0 (cls l ++ (encCl mk ++ encCl mk))) (h2 : Row m a2 (cls l)) :
    QSpec Try.prog 30 [.slice (some ⟨b, 0, none⟩) l.length (l.length + 2), .slice a2 l.length c2, clv mk] m (.bool true) := by
  refine QSpec.of_vc Try.func30 (ann := fun _ => noAnn) fun n hn => ?_
  refine vc_by (X :=
      true = true ∧
      ifB ((↑l.length : Int) != (↑l.length : Int)) (Done (Value.bool false = Value.bool true))
      (ifB (decide ((↑(l.length + (2 : Nat)) : Int) < IntKind.i64.wrap ((↑l.length : Int) + (2 : Int)))) (Done (Value.bool false = Value.bool true))
      ((true = true ∧
      (0 : Int) ≤ (0 : Int) ∧
      (0 : Int) ≤ IntKind.i64.wrap ((↑l.length : Int) + (2 : Int)) ∧ IntKind.i64.wrap ((↑l.length : Int) + (2 : Int)) ≤ (↑(l.length + (2 : Nat)) : Int) ∧ True) ∧
      true = true ∧
      ∃ (b_1 : Bool),
      QSpec Try.prog (23 : Nat) [Value.slice (some { block := b, off := (0 : Nat) : Addr }) l.length (l.length + (2 : Nat)), Value.slice a2 l.length c2]
      { π := m.π, sz := n, uf := m.uf : M } (Value.bool b_1) ∧
      ifB b_1
      (∃ (b_2 : Nat),
      ∃ (off : Nat),
      some { block := b, off := (0 : Nat) : Addr } = some { block := b_2, off := off : Addr } ∧
      ((0 : Int) ≤ (↑l.length : Int) ∧ (↑l.length : Int) < (↑((IntKind.i64.wrap ((↑l.length : Int) + (2 : Int))).toNat - (0 : Nat)) : Int)) ∧
      ∃ (n_1 : Int),
      ∃ (n_2 : Int),
      ∃ (n_3 : Int),
      ∃ (n_4 : Int),
      ∃ (s : ByteArray),
      ∃ (s_1 : ByteArray),
      ∃ (n_5 : Int),
      ∃ (n_6 : Int),
      ∃ (n_7 : Int),
      ∃ (n_8 : Int),
      ∃ (n_9 : Int),
      ∃ (n_10 : Int),
      ∃ (n_11 : Int),
      ∃ (n_12 : Int),
      ∃ (n_13 : Int),
      ∃ (n_14 : Int),
      CellsAt { π := m.π, sz := n, uf := m.uf : M } b_2 (off + (↑l.length : Int).toNat * (16 : Nat))
      [Value.int IntKind.i64 n_1, Value.int IntKind.i64 n_2, Value.int IntKind.i64 n_3, Value.int IntKind.i64 n_4,
      Value.string s, Value.string s_1, Value.int IntKind.i64 n_5, Value.int IntKind.i64 n_6, Value.int IntKind.i64 n_7,
      Value.int IntKind.i64 n_8, Value.int IntKind.i64 n_9, Value.int IntKind.i64 n_10, Value.int IntKind.i64 n_11,
      Value.int IntKind.i64 n_12, Value.int IntKind.i64 n_13, Value.int IntKind.i64 n_14] ∧
      ifB
      (n_1 == mk.cl &&
      (n_2 == mk.sq &&
      (n_3 == mk.nd &&
      (n_4 == mk.op_kd &&
      (s.toList == mk.op_ky.toList &&
      (s_1.toList == mk.op_ot.toList && (n_5 == mk.op_n && (n_6 == mk.op_lo && (n_7 == mk.op_hi && true))))) &&
      (n_8 == mk.ca &&
      (n_9 == mk.mo &&
      (n_10 == mk.aw &&
      (n_11 == mk.an_er && (n_12 == mk.an_va && (n_13 == mk.an_le && (n_14 == mk.an_mo && true))) &&
      true))))))))
      (∃ (b_3 : Nat),
      ∃ (off : Nat),
      some { block := b, off := (0 : Nat) : Addr } = some { block := b_3, off := off : Addr } ∧
      ((0 : Int) ≤ IntKind.i64.wrap ((↑l.length : Int) + (1 : Int)) ∧
      IntKind.i64.wrap ((↑l.length : Int) + (1 : Int)) <
      (↑((IntKind.i64.wrap ((↑l.length : Int) + (2 : Int))).toNat - (0 : Nat)) : Int)) ∧
      ∃ (n_15 : Int),
      ∃ (n_16 : Int),
      ∃ (n_17 : Int),
      ∃ (n_18 : Int),
      ∃ (s : ByteArray),
      ∃ (s_2 : ByteArray),
      ∃ (n_19 : Int),
      ∃ (n_20 : Int),
      ∃ (n_21 : Int),
      ∃ (n_22 : Int),
      ∃ (n_23 : Int),
      ∃ (n_24 : Int),
      ∃ (n_25 : Int),
      ∃ (n_26 : Int),
      ∃ (n_27 : Int),
      ∃ (n_28 : Int),
      CellsAt { π := m.π, sz := n, uf := m.uf : M } b_3
      (off +
      (IntKind.i64.wrap ((↑l.length : Int) + (1 : Int))).toNat * (16 : Nat))
      [Value.int IntKind.i64 n_15, Value.int IntKind.i64 n_16,
      Value.int IntKind.i64 n_17, Value.int IntKind.i64 n_18, Value.string s,
      Value.string s_2, Value.int IntKind.i64 n_19, Value.int IntKind.i64 n_20,
      Value.int IntKind.i64 n_21, Value.int IntKind.i64 n_22,
      Value.int IntKind.i64 n_23, Value.int IntKind.i64 n_24,
      Value.int IntKind.i64 n_25, Value.int IntKind.i64 n_26,
      Value.int IntKind.i64 n_27, Value.int IntKind.i64 n_28] ∧
      Done
      (Value.bool
      (n_15 == mk.cl &&
      (n_16 == mk.sq &&
      (n_17 == mk.nd &&
      (n_18 == mk.op_kd &&
      (s.toList == mk.op_ky.toList &&
      (s_2.toList == mk.op_ot.toList &&
      (n_19 == mk.op_n &&
      (n_20 == mk.op_lo && (n_21 == mk.op_hi && true))))) &&
      (n_22 == mk.ca &&
      (n_23 == mk.mo &&
      (n_24 == mk.aw &&
      (n_25 == mk.an_er &&
      (n_26 == mk.an_va &&
      (n_27 == mk.an_le && (n_28 == mk.an_mo && true))) &&
      true)))))))) =
      Value.bool true))
      (Done (Value.bool false = Value.bool true)))
      (Done (Value.bool false = Value.bool true))))) (by kernel_rfl) ?_
  have e : IntKind.i64.wrap ((l.length : Int) + 2) = ((l.length + 2 : Nat) : Int) := by simp [IntKind.wrap_i64]; omega
  have e1 : IntKind.i64.wrap ((l.length : Int) + 1) = ((l.length + 1 : Nat) : Int) := by simp [IntKind.wrap_i64]; omega
  rw [e, e1]
  simp only [Int.toNat_natCast]
  have hk := h.drop
  rw [cl_len] at hk
  have k1 : CellsAt m b (0 + l.length * 16) (encCl mk) := hk.take
  have k2 : CellsAt m b (0 + (l.length + 1) * 16) (encCl mk) := by
    have := hk.drop (cs := encCl mk)
    rw [show 0 + (l.length + 1) * 16 = 0 + l.length * 16 + (encCl mk).length by rw [cl_k]; omega]
    exact this
  have hq := cl_plain (some ⟨b, 0, none⟩) a2 (l.length + 2) c2 l l (by omega) { m with sz := n } (.at _ _ _ (Nat.lt_of_lt_of_le hb hn) ⟨h.take.out⟩) (h2.sz hn)
  refine ⟨trivial, ifB_intro (fun h3 => by simp at h3) (fun h3 => ifB_intro (fun h4 => by simp at h4) (fun h4 => ⟨⟨trivial, by omega, by omega, by omega, trivial⟩, trivial, _, hq, ?_⟩))⟩
  have et : decide (l = l) = true := by simp
  rw [et]
  refine ifB_true ⟨b, 0, rfl, by constructor <;> simp <;> omega, _, _, _, _, _, _, _, _, _, _, _, _, _, _, _, _, ⟨k1.out⟩, ifB_intro (fun h5 => ⟨b, 0, rfl, by constructor <;> simp <;> omega, _, _, _, _, _, _, _, _, _, _, _, _, _, _, _, _, ⟨k2.out⟩, ⟨by simp⟩⟩) (fun h5 => by simp at h5)⟩

theorem cl_keptr (b : Nat) (l : List Cl) (a2 : Option Addr) (c2 : Nat) (mk : Cl) (hn : l.length ≤ 1048576) (m : M) (h : Row m (some ⟨b, 0, none⟩) (cls l ++ (encCl mk ++ encCl mk))) (h2 : Row m a2 (cls l)) :
    QSpec Try.prog 30 [.slice (some ⟨b, 0, none⟩) l.length (l.length + 2), .slice a2 l.length c2, clv mk] m (.bool true) := by
  obtain ⟨b', o, e, hc⟩ := h.cells (by simp)
  cases e
  exact cl_kept b l a2 c2 mk hn m (h.lt (by simp) rfl) hc h2

end Go.Proofs.Ytbhlhnkjmncloaa
