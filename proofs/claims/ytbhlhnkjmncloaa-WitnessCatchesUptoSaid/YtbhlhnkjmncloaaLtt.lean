/-
  Contracts of functions of this seat: what each hands back, and what it leaves of memory (l_tt). Nothing here is trusted: Lean checks it.
-/
import Derived.Test.YtbhlhnkjmncloaaOpn
import Derived.Test.YtbhlhnkjmncloaaVcOver
set_option linter.unusedVariables false
set_option linter.unusedSimpArgs false
namespace Go.Proofs.Ytbhlhnkjmncloaa
open Go.Vc Go.RowKit Go.ChangeShapes Go.WideShapes Go.ChangeAt
set_option maxRecDepth 100000

structure Tt where
  ky : ByteArray
  sp_lo : Int
  sp_hi : Int
  va : Int

def Tt.wf (x : Tt) : Prop := x.ky.size ≤ 9223372036854775807 ∧ In64 x.sp_lo ∧ In64 x.sp_hi ∧ In64 x.va

abbrev encTt (x : Tt) : List Value := [.string x.ky, I x.sp_lo, I x.sp_hi, I x.va]

abbrev ttv (x : Tt) : Value := .agg #[.string x.ky, I x.sp_lo, I x.sp_hi, I x.va]

abbrev tts (l : List Tt) : List Value := l.flatMap encTt

theorem tt_k (x : Tt) : (encTt x).length = 4 := rfl

theorem tt_len (l : List Tt) : (tts l).length = l.length * 4 := flat_len tt_k l

theorem tt_at {m : M} {b o i : Nat} {l : List Tt} (h : CellsAt m b o (tts l)) (hi : i < l.length) : CellsAt m b (o + i * 4) (encTt l[i]) := CellsAt.elem tt_k l o i hi h

theorem tt_ext {a b : Tt} : a = b ↔ a.ky = b.ky ∧ a.sp_lo = b.sp_lo ∧ a.sp_hi = b.sp_hi ∧ a.va = b.va := by
  cases a; cases b; simp

instance : DecidableEq Tt := fun _ _ => decidable_of_iff' _ tt_ext

theorem tt_one (l : List Tt) : oneCells (tts l) = true := by
  rw [oneCells_iff]; intro v hv
  obtain ⟨w, -, hw⟩ := List.mem_flatMap.1 hv
  exact oneCells_iff.1 (rfl : oneCells (encTt w) = true) v hw

theorem tt_zr (k : Nat) : (zeroRow Try.prog 29 k).length = k * 4 := zrLen (by kernel_rfl) k

theorem tt_cells : Try.prog.cellsOf 29 = 4 := by kernel_rfl

theorem tt_rd {m : M} {N d : Nat} {cs : List Value} (h : Rd Try.prog m N (d + 3) 29 cs) (hN : N ≤ 9223372036854775807) : ∃ x : Tt, cs = encTt x ∧ x.wf := by
  have hc1 := (by kernel_rfl : Try.prog.cellsOf 3 = 1)
  have hc2 := (by kernel_rfl : Try.prog.cellsOf 9 = 1)
  have hc3 := (by kernel_rfl : Try.prog.cellsOf 27 = 2)
  simp only [Rd, Try.underlying29, Try.underlying3, Try.underlying9, Try.underlying27, fieldsD, tt_cells, hc1, hc2, hc3] at h
  obtain ⟨hl, ⟨k1, e1, w1⟩, ⟨-, ⟨k2, e2, w2⟩, ⟨k3, e3, w3⟩, -⟩, ⟨k4, e4, w4⟩, -⟩ := h
  obtain ⟨c1, c2, c3, c4, rfl⟩ : ∃ c1 c2 c3 c4, cs = [c1, c2, c3, c4] := by
    match cs, hl with
    | [c1, c2, c3, c4], _ => exact ⟨_, _, _, _, rfl⟩
  simp at e1 e2 e3 e4
  subst e1 e2 e3 e4
  exact ⟨⟨k1, k2, k3, k4⟩, rfl, Nat.le_trans w1 hN, in64_of w2, in64_of w3, in64_of w4⟩

theorem open_tt {H : Type} {enc : TypeId × Value → H} {W : World} {r : Reach} {b0 : Nat} {v : Value} {d : DataW H} {p : List MemPlace} {N : Nat} {Bd : DataW H → Prop} (B : Bound N Bd) (hN : N ≤ 9223372036854775807) (hv : Value.okWide Try.prog W r b0 29 v) (h : DataW.Trod enc Try.prog W 0 (fun _ => true) true 29 v d p) (hb : Bd d) : ∃ x : Tt, v = ttv x ∧ x.wf := by
  obtain ⟨cs, rfl, hl⟩ := open_agg Try.underlying29 tt_cells hv
  obtain ⟨fuel, hf⟩ := h
  have hr := rd_of_trod B 3 fuel 29 _ _ hf hb
  simp only [Value.cells] at hr
  obtain ⟨x, he, hw⟩ := tt_rd (d := 0) hr hN
  exact ⟨x, by rw [show cs = encTt x from he], hw⟩

theorem open_tts {H : Type} {enc : TypeId × Value → H} {W : World} {r : Reach} {b0 : Nat} {v : Value} {d : DataW H} {p : List MemPlace} {N : Nat} {Bd : DataW H → Prop} (B : Bound N Bd) (hN : N ≤ 9223372036854775807) (hv : Value.okWide Try.prog W r b0 22 v) (h : DataW.Trod enc Try.prog W 0 (fun _ => true) true 22 v d p) (hb : Bd d) :
    ∃ (a : Option Addr) (c : Nat) (z : List Tt), v = .slice a z.length c ∧ z.length ≤ N ∧ (∀ x ∈ z, x.wf) ∧ (a = none → z = []) ∧ Row (M.all W) a (tts z) := by
  obtain ⟨a, len, cap, rfl⟩ := okWide_slice Try.underlying22 hv
  obtain ⟨fuel, hf⟩ := h
  have hr := rd_of_trod B 4 fuel 22 _ _ hf hb
  rw [Rd] at hr
  simp only [Try.underlying22] at hr
  obtain ⟨a', cap', rows, hcs, h1, h2, h3, h4, h5⟩ := hr
  obtain ⟨z, hz, he, hi⟩ := rows_list (α := Tt) (e := encTt) (p := Tt.wf) rows fun r hr => tt_rd (d := 0) (h4 r hr).2 hN
  simp [Value.cells] at hcs
  obtain ⟨rfl, rfl, rfl⟩ := hcs
  rw [he] at h5
  exact ⟨a, cap, z, by rw [hz], by omega, hi, fun e => List.eq_nil_of_length_eq_zero (by have := h3 e; omega), h5⟩

theorem tt_plain (a a2 : Option Addr) (c c2 : Nat) (l l2 : List Tt) (hn1 : l.length ≤ 9223372036854775807) (m : M) (h : Row m a (tts l)) (h2 : Row m a2 (tts l2)) :
    QSpec Try.prog 16 [.slice a l.length c, .slice a2 l2.length c2] m (.bool (decide (l = l2))) := by
  refine QSpec.of_vc Try.func16 (ann := fun n _ => { A := Nat, inv := fun k => k ≤ l.length ∧ l.take k = l2.take k, st := fun k => [(5, .val (I k)), (0, .val (.slice a l.length c)), (1, .val (.slice a2 l2.length c2))], own := fun _ => [], m := fun _ => { m with sz := n }, μ := fun k => (l.length - k) }) fun n hn => ?_
  refine vc_by (X :=
      true = true ∧
      ifB ((↑l.length : Int) != (↑l2.length : Int)) (Done (Value.bool false = Value.bool (decide (l = l2))))
      ((∃ (a_1 : Nat),
      (a_1 ≤ l.length ∧ List.take a_1 l = List.take a_1 l2) ∧
      { π := m.π, sz := n, uf := m.uf : M } = { π := m.π, sz := n, uf := m.uf : M } ∧
      ((SV.val (Value.int IntKind.i64 (0 : Int)) = SV.val (Value.int IntKind.i64 (↑a_1 : Int)) ∧ true = true) ∧
      (SV.val (Value.slice a l.length c) = SV.val (Value.slice a l.length c) ∧ true = true) ∧
      (SV.val (Value.slice a2 l2.length c2) = SV.val (Value.slice a2 l2.length c2) ∧ true = true) ∧ True) ∧
      True) ∧
      ∀ (a_1 : Nat),
      a_1 ≤ l.length ∧ List.take a_1 l = List.take a_1 l2 →
      ifB (decide ((↑a_1 : Int) < (↑l.length : Int)))
      (true = true ∧
      ∃ (b : Nat),
      ∃ (off : Nat),
      a = some { block := b, off := off : Addr } ∧
      ((0 : Int) ≤ (↑a_1 : Int) ∧ (↑a_1 : Int) < (↑l.length : Int)) ∧
      ∃ (s : ByteArray),
      ∃ (n_1 : Int),
      ∃ (n_2 : Int),
      ∃ (n_3 : Int),
      CellsAt { π := m.π, sz := n, uf := m.uf : M } b (off + (↑a_1 : Int).toNat * (4 : Nat))
      [Value.string s, Value.int IntKind.i64 n_1, Value.int IntKind.i64 n_2, Value.int IntKind.i64 n_3] ∧
      ∃ (b : Nat),
      ∃ (off : Nat),
      a2 = some { block := b, off := off : Addr } ∧
      ((0 : Int) ≤ (↑a_1 : Int) ∧ (↑a_1 : Int) < (↑l2.length : Int)) ∧
      ∃ (s_1 : ByteArray),
      ∃ (n_4 : Int),
      ∃ (n_5 : Int),
      ∃ (n_6 : Int),
      CellsAt { π := m.π, sz := n, uf := m.uf : M } b (off + (↑a_1 : Int).toNat * (4 : Nat))
      [Value.string s_1, Value.int IntKind.i64 n_4, Value.int IntKind.i64 n_5, Value.int IntKind.i64 n_6] ∧
      ifB (!(s.toList == s_1.toList && (n_1 == n_4 && (n_2 == n_5 && true) && (n_3 == n_6 && true))))
      (Done (Value.bool false = Value.bool (decide (l = l2))))
      (∃ (a' : Nat),
      ((a' ≤ l.length ∧ List.take a' l = List.take a' l2) ∧
      { π := m.π, sz := n, uf := m.uf : M } = { π := m.π, sz := n, uf := m.uf : M } ∧
      ((SV.val (Value.int IntKind.i64 (IntKind.i64.wrap ((↑a_1 : Int) + (1 : Int)))) =
      SV.val (Value.int IntKind.i64 (↑a' : Int)) ∧
      true = true) ∧
      (SV.val (Value.slice a l.length c) = SV.val (Value.slice a l.length c) ∧ true = true) ∧
      (SV.val (Value.slice a2 l2.length c2) = SV.val (Value.slice a2 l2.length c2) ∧ true = true) ∧ True) ∧
      True) ∧
      l.length - a' < l.length - a_1))
      (Done (Value.bool true = Value.bool (decide (l = l2)))))) (by kernel_rfl) ?_
  have h' := h.sz hn
  have h2' := h2.sz hn
  refine ⟨rfl, ifB_intro (fun hb => ⟨?_⟩) (fun hb => ⟨⟨0, by simp⟩, fun k hk => ifB_intro (fun hb2 => ?_) (fun hb2 => ⟨?_⟩)⟩)⟩
  · have : l ≠ l2 := fun e => by subst e; simp at hb
    simp [this]
  · have hlen : l.length = l2.length := by simp at hb; omega
    have hk2 : k < l.length := by simpa using hb2
    obtain ⟨b, o, rfl, hc⟩ := h'.cells (by rw [tt_len]; omega)
    obtain ⟨b2, o2, rfl, hc2⟩ := h2'.cells (by rw [tt_len]; omega)
    have w1 : IntKind.i64.wrap ((k : Int) + 1) = ((k + 1 : Nat) : Int) := by simp [IntKind.wrap_i64]; omega
    refine ⟨rfl, b, o, rfl, by omega, _, _, _, _, by simpa using tt_at hc hk2, b2, o2, rfl, by omega, _, _, _, _, by simpa using tt_at hc2 (by omega : k < l2.length), ifB_intro (fun h3 => ⟨?_⟩) (fun h3 => ⟨k + 1, ⟨⟨hk2, ?_⟩, by simp [w1]⟩, by omega⟩)⟩
    · have : l ≠ l2 := fun e => by subst e; simp at h3
      simp [this]
    · have h3 : l[k] = l2[k] := by rw [tt_ext]; simpa [bytes_beq, and_assoc] using h3
      rw [List.take_succ_eq_append_getElem hk2, List.take_succ_eq_append_getElem (by omega : k < l2.length), hk.2, h3]
  · have hlen : l.length = l2.length := by simp at hb; omega
    have : k = l.length := by simp at hb2; omega
    have e := hk.2
    rw [this, List.take_length, hlen, List.take_length] at e
    simp [e]

theorem tt_clone (l : List Tt) (a : Option Addr) (c : Nat) (hn : l.length ≤ 4194304) (h0 : a = none → l = []) (m : M) (h : Row m a (tts l)) : Vc.Spec Try.prog 34 [.slice a l.length c] m (fun v m' => ∃ a' c', v = .slice a' l.length c' ∧ NewR m.sz (fun _ => False) m' 4 a' l.length c' (tts l)) := by
  refine Vc.Spec.of_vc Try.func34 (ann := noAnn) ?_
  refine vc_by (X :=
      true = true ∧
      ifB a.isNone
      (Done
      (∃ (a' : Option Addr),
      ∃ (c' : Nat), Value.slice none (0 : Nat) (0 : Nat) = Value.slice a' l.length c' ∧ NewR m.sz (fun (x : Nat) => False) m (4 : Nat) a' l.length c' (tts l)))
      (true = true ∧
      ∀ (b : Nat),
      m.sz ≤ b →
      ∃ (old : List Value),
      ∃ (src : List Value),
      AppPre m.sz (fun (x : Nat) => False) (m.newBlock b []) (4 : Nat) (40 : Nat) (some { block := b, off := (0 : Nat) : Addr }) (0 : Nat) (0 : Nat) a l.length old src ∧
      ∀ (a' : Option Addr) (c' : Nat) (m' : M),
      AppPost Try.prog (29 : Nat) (m.newBlock b []) (4 : Nat) (some { block := b, off := (0 : Nat) : Addr }) (0 : Nat) (0 : Nat) l.length old src a' c' m' →
      Done
      (∃ (a'_1 : Option Addr),
      ∃ (c'_1 : Nat),
      Value.slice a' ((0 : Nat) + l.length) c' = Value.slice a'_1 l.length c'_1 ∧ NewR m.sz (fun (x : Nat) => False) m' (4 : Nat) a'_1 l.length c'_1 (tts l)))) (by kernel_rfl) ?_
  refine ⟨rfl, ifB_intro (fun h1 => ⟨?_⟩) (fun h1 => ⟨rfl, fun b hb => ?_⟩)⟩
  · have : l = [] := h0 (by simpa using h1)
    subst this
    exact ⟨_, _, rfl, .nil _⟩
  · have ho : OwnB m.sz (fun _ => False) (m.newBlock b []) 4 (some ⟨b, 0, none⟩) 0 0 [] := OwnB.fresh hb rfl
    have hr : Row (m.newBlock b []) a (tts l) := h.newBlock hb
    refine ⟨_, _, ho.appPre hr (tt_len l) (tt_one l) (by omega), fun a' c' m' hp => ⟨a', c', by simp, .own ?_⟩⟩
    have := ho.append hp (tt_len l) tt_zr (by simp only [M.newBlock]; omega)
    simpa using this

theorem tt_own (a : Option Addr) (c : Nat) (l : List Tt) (mk : Tt) (hn : l.length ≤ 4194304) (m : M) (h : Row m a (tts l)) :
    Vc.Spec Try.prog 10 [.slice a l.length c, ttv mk] m (Owned m (tts l) (encTt mk ++ encTt mk) l.length (l.length + 2)) := by
  refine Vc.Spec.of_vc Try.func10 (ann := noAnn) ?_
  refine vc_by (X :=
      true = true ∧
      ((0 : Int) ≤ (0 : Int) ∧
      (0 : Int) ≤ IntKind.i64.wrap ((↑l.length : Int) + (2 : Int)) ∧
      (↑(40 : Nat) : Int) * IntKind.i64.wrap ((↑l.length : Int) + (2 : Int)) ≤ (281474976710656 : Int) ∧
      IntKind.i64.wrap ((↑l.length : Int) + (2 : Int)) ≤ (9223372036854775807 : Int)) ∧
      ∀ (b : Nat),
      m.sz ≤ b →
      ∃ (old : List Value),
      ∃ (src : List Value),
      AppPre m.sz (fun (x : Nat) => False)
      (m.newBlock b
      (madeCells #[Value.string { data := #[] : ByteArray }, Value.int IntKind.i64 (0 : Int), Value.int IntKind.i64 (0 : Int), Value.int IntKind.i64 (0 : Int)]
      ((IntKind.i64.wrap ((↑l.length : Int) + (2 : Int))).toNat * (4 : Nat))).toList)
      (4 : Nat) (40 : Nat) (some { block := b, off := (0 : Nat) : Addr }) (0 : Nat) (IntKind.i64.wrap ((↑l.length : Int) + (2 : Int))).toNat a l.length old src ∧
      ∀ (a' : Option Addr) (c' : Nat) (m' : M),
      AppPost Try.prog (29 : Nat)
      (m.newBlock b
      (madeCells #[Value.string { data := #[] : ByteArray }, Value.int IntKind.i64 (0 : Int), Value.int IntKind.i64 (0 : Int), Value.int IntKind.i64 (0 : Int)]
      ((IntKind.i64.wrap ((↑l.length : Int) + (2 : Int))).toNat * (4 : Nat))).toList)
      (4 : Nat) (some { block := b, off := (0 : Nat) : Addr }) (0 : Nat) (IntKind.i64.wrap ((↑l.length : Int) + (2 : Int))).toNat l.length old src a' c' m' →
      true = true ∧
      ∀ (b : Nat),
      m'.sz ≤ b →
      ∃ (old : List Value),
      ∃ (src : List Value),
      AppPre m.sz (fun (x : Nat) => False)
      (m'.newBlock b
      [Value.string mk.ky, Value.int IntKind.i64 mk.sp_lo, Value.int IntKind.i64 mk.sp_hi, Value.int IntKind.i64 mk.va, Value.string mk.ky,
      Value.int IntKind.i64 mk.sp_lo, Value.int IntKind.i64 mk.sp_hi, Value.int IntKind.i64 mk.va])
      (4 : Nat) (40 : Nat) a' ((0 : Nat) + l.length) c' (some { block := b, off := (0 : Nat) : Addr }) (2 : Nat) old src ∧
      ∀ (a'_1 : Option Addr) (c'_1 : Nat) (m'_1 : M),
      AppPost Try.prog (29 : Nat)
      (m'.newBlock b
      [Value.string mk.ky, Value.int IntKind.i64 mk.sp_lo, Value.int IntKind.i64 mk.sp_hi, Value.int IntKind.i64 mk.va, Value.string mk.ky,
      Value.int IntKind.i64 mk.sp_lo, Value.int IntKind.i64 mk.sp_hi, Value.int IntKind.i64 mk.va])
      (4 : Nat) a' ((0 : Nat) + l.length) c' (2 : Nat) old src a'_1 c'_1 m'_1 →
      (true = true ∧ (0 : Int) ≤ (0 : Int) ∧ (0 : Int) ≤ (↑l.length : Int) ∧ (↑l.length : Int) ≤ (↑c'_1 : Int) ∧ True) ∧
      Done
      (Owned m (tts l)
      [Value.string mk.ky, Value.int IntKind.i64 mk.sp_lo, Value.int IntKind.i64 mk.sp_hi, Value.int IntKind.i64 mk.va, Value.string mk.ky,
      Value.int IntKind.i64 mk.sp_lo, Value.int IntKind.i64 mk.sp_hi, Value.int IntKind.i64 mk.va]
      l.length (l.length + (2 : Nat))
      (Value.slice (if (↑c'_1 : Int).toNat = (0 : Nat) then a'_1 else Option.map (fun (x : Addr) => x) a'_1) ((↑l.length : Int).toNat - (0 : Nat))
      ((↑c'_1 : Int).toNat - (0 : Nat)))
      m'_1)) (by kernel_rfl) ?_
  have e : IntKind.i64.wrap ((l.length : Int) + 2) = ((l.length + 2 : Nat) : Int) := by simp [IntKind.wrap_i64]; omega
  rw [e]
  simp only [Int.toNat_natCast]
  refine ⟨trivial, by omega, fun b hb => ?_⟩
  obtain ⟨p1, p2⟩ := owned_calc (P := Try.prog) (e := 29) (size := 4) (bytes := 40) (len := l.length) (m := m) (b := b) (z := (madeCells #[.string .empty, I 0, I 0, I 0] ((l.length + 2) * 4)).toList) (cs := tts l) (marks := encTt mk ++ encTt mk) hb h (tt_len l) (tt_one l) rfl rfl tt_zr (by simp [madeCells]) (by omega)
  refine ⟨[], tts l, p1, fun a' c' m' hp => ⟨trivial, fun b2 hb2 => ?_⟩⟩
  obtain ⟨p3, p4⟩ := p2 a' c' m' hp b2 hb2
  refine ⟨tts l, encTt mk ++ encTt mk, p3, fun a'' c'' m'' hp2 => ?_⟩
  obtain ⟨rfl, rfl, q3, q5, q4⟩ := p4 a'' c'' m'' hp2
  exact ⟨⟨trivial, by omega, by omega, by omega, trivial⟩, ⟨⟨b, by simp, hb, q3, q5, q4⟩⟩⟩

theorem tt_kept (b : Nat) (l : List Tt) (a2 : Option Addr) (c2 : Nat) (mk : Tt) (hn : l.length ≤ 4194304) (m : M) (hb : b < m.sz) (h : CellsAt m b 0 (tts l ++ (encTt mk ++ encTt mk))) (h2 : Row m a2 (tts l)) :
    QSpec Try.prog 17 [.slice (some ⟨b, 0, none⟩) l.length (l.length + 2), .slice a2 l.length c2, ttv mk] m (.bool true) := by
  refine QSpec.of_vc Try.func17 (ann := fun _ => noAnn) fun n hn => ?_
  refine vc_by (X :=
      true = true ∧
      ifB ((↑l.length : Int) != (↑l.length : Int)) (Done (Value.bool false = Value.bool true))
      (ifB (decide ((↑(l.length + (2 : Nat)) : Int) < IntKind.i64.wrap ((↑l.length : Int) + (2 : Int)))) (Done (Value.bool false = Value.bool true))
      ((true = true ∧
      (0 : Int) ≤ (0 : Int) ∧
      (0 : Int) ≤ IntKind.i64.wrap ((↑l.length : Int) + (2 : Int)) ∧ IntKind.i64.wrap ((↑l.length : Int) + (2 : Int)) ≤ (↑(l.length + (2 : Nat)) : Int) ∧ True) ∧
      true = true ∧
      ∃ (b_1 : Bool),
      QSpec Try.prog (16 : Nat) [Value.slice (some { block := b, off := (0 : Nat) : Addr }) l.length (l.length + (2 : Nat)), Value.slice a2 l.length c2]
      { π := m.π, sz := n, uf := m.uf : M } (Value.bool b_1) ∧
      ifB b_1
      (∃ (b_2 : Nat),
      ∃ (off : Nat),
      some { block := b, off := (0 : Nat) : Addr } = some { block := b_2, off := off : Addr } ∧
      ((0 : Int) ≤ (↑l.length : Int) ∧ (↑l.length : Int) < (↑((IntKind.i64.wrap ((↑l.length : Int) + (2 : Int))).toNat - (0 : Nat)) : Int)) ∧
      ∃ (s : ByteArray),
      ∃ (n_1 : Int),
      ∃ (n_2 : Int),
      ∃ (n_3 : Int),
      CellsAt { π := m.π, sz := n, uf := m.uf : M } b_2 (off + (↑l.length : Int).toNat * (4 : Nat))
      [Value.string s, Value.int IntKind.i64 n_1, Value.int IntKind.i64 n_2, Value.int IntKind.i64 n_3] ∧
      ifB (s.toList == mk.ky.toList && (n_1 == mk.sp_lo && (n_2 == mk.sp_hi && true) && (n_3 == mk.va && true)))
      (∃ (b_3 : Nat),
      ∃ (off : Nat),
      some { block := b, off := (0 : Nat) : Addr } = some { block := b_3, off := off : Addr } ∧
      ((0 : Int) ≤ IntKind.i64.wrap ((↑l.length : Int) + (1 : Int)) ∧
      IntKind.i64.wrap ((↑l.length : Int) + (1 : Int)) < (↑((IntKind.i64.wrap ((↑l.length : Int) + (2 : Int))).toNat - (0 : Nat)) : Int)) ∧
      ∃ (s : ByteArray),
      ∃ (n_4 : Int),
      ∃ (n_5 : Int),
      ∃ (n_6 : Int),
      CellsAt { π := m.π, sz := n, uf := m.uf : M } b_3 (off + (IntKind.i64.wrap ((↑l.length : Int) + (1 : Int))).toNat * (4 : Nat))
      [Value.string s, Value.int IntKind.i64 n_4, Value.int IntKind.i64 n_5, Value.int IntKind.i64 n_6] ∧
      Done
      (Value.bool (s.toList == mk.ky.toList && (n_4 == mk.sp_lo && (n_5 == mk.sp_hi && true) && (n_6 == mk.va && true))) =
      Value.bool true))
      (Done (Value.bool false = Value.bool true)))
      (Done (Value.bool false = Value.bool true))))) (by kernel_rfl) ?_
  have e : IntKind.i64.wrap ((l.length : Int) + 2) = ((l.length + 2 : Nat) : Int) := by simp [IntKind.wrap_i64]; omega
  have e1 : IntKind.i64.wrap ((l.length : Int) + 1) = ((l.length + 1 : Nat) : Int) := by simp [IntKind.wrap_i64]; omega
  rw [e, e1]
  simp only [Int.toNat_natCast]
  have hk := h.drop
  rw [tt_len] at hk
  have k1 : CellsAt m b (0 + l.length * 4) (encTt mk) := hk.take
  have k2 : CellsAt m b (0 + (l.length + 1) * 4) (encTt mk) := by
    have := hk.drop (cs := encTt mk)
    rw [show 0 + (l.length + 1) * 4 = 0 + l.length * 4 + (encTt mk).length by rw [tt_k]; omega]
    exact this
  have hq := tt_plain (some ⟨b, 0, none⟩) a2 (l.length + 2) c2 l l (by omega) { m with sz := n } (.at _ _ _ (Nat.lt_of_lt_of_le hb hn) ⟨h.take.out⟩) (h2.sz hn)
  refine ⟨trivial, ifB_intro (fun h3 => by simp at h3) (fun h3 => ifB_intro (fun h4 => by simp at h4) (fun h4 => ⟨⟨trivial, by omega, by omega, by omega, trivial⟩, trivial, _, hq, ?_⟩))⟩
  have et : decide (l = l) = true := by simp
  rw [et]
  refine ifB_true ⟨b, 0, rfl, by constructor <;> simp <;> omega, _, _, _, _, ⟨k1.out⟩, ifB_intro (fun h5 => ⟨b, 0, rfl, by constructor <;> simp <;> omega, _, _, _, _, ⟨k2.out⟩, ⟨by simp⟩⟩) (fun h5 => by simp at h5)⟩

theorem tt_keptr (b : Nat) (l : List Tt) (a2 : Option Addr) (c2 : Nat) (mk : Tt) (hn : l.length ≤ 4194304) (m : M) (h : Row m (some ⟨b, 0, none⟩) (tts l ++ (encTt mk ++ encTt mk))) (h2 : Row m a2 (tts l)) :
    QSpec Try.prog 17 [.slice (some ⟨b, 0, none⟩) l.length (l.length + 2), .slice a2 l.length c2, ttv mk] m (.bool true) := by
  obtain ⟨b', o, e, hc⟩ := h.cells (by simp)
  cases e
  exact tt_kept b l a2 c2 mk hn m (h.lt (by simp) rfl) hc h2

end Go.Proofs.Ytbhlhnkjmncloaa
