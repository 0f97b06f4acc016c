/-
  Contracts of functions of this seat: what each hands back, and what it leaves of memory (deal8). Nothing here is trusted: Lean checks it.
-/
import Derived.Test.YtoilbbfidnhekaaDeal6
set_option linter.unusedVariables false
set_option linter.unusedSimpArgs false
namespace Go.Proofs.Ytoilbbfidnhekaa
open Go.Vc Go.RowKit
set_option maxRecDepth 100000

theorem rfind_q (a : Option Addr) (cp : Nat) (l : List Dl) (c s : Int) (hn : l.length ≤ 9223372036854775807) (m : M) (h : Row m a (dls l)) : QSpec Try.prog 12 [.slice a l.length cp, I c, I s] m (.tuple #[dlv (findD l c s).1, .bool (findD l c s).2]) := by
  refine QSpec.of_vc Try.func12 (ann := fun _ => noAnn) fun n hn' => ?_
  refine vc_by (X :=
      true = true ∧
      ∃ (n_1 : Int),
      QSpec Try.prog (42 : Nat) [Value.slice a l.length cp, Value.int IntKind.i64 c, Value.int IntKind.i64 s] { π := m.π, sz := n, uf := m.uf : M } (Value.int IntKind.i64 n_1) ∧
      ∃ (b : Bool),
      QSpec Try.prog (10 : Nat) [Value.slice a l.length cp] { π := m.π, sz := n, uf := m.uf : M } (Value.bool b) ∧
      ifB (!b)
      (Done
      (Value.tuple
      #[Value.agg
      #[Value.int IntKind.i64 (0 : Int), Value.int IntKind.i64 (0 : Int), Value.string { data := #[] : ByteArray }, Value.string { data := #[] : ByteArray },
      Value.int IntKind.i64 (0 : Int), Value.int IntKind.i64 (0 : Int), Value.int IntKind.i64 (0 : Int), Value.int IntKind.i64 (0 : Int)],
      Value.bool false] =
      Value.tuple
      #[Value.agg
      #[Value.int IntKind.i64 (findD l c s).fst.cl, Value.int IntKind.i64 (findD l c s).fst.sq, Value.string (findD l c s).fst.ky,
      Value.string (findD l c s).fst.ot, Value.int IntKind.i64 (findD l c s).fst.n, Value.int IntKind.i64 (findD l c s).fst.mi,
      Value.int IntKind.i64 (findD l c s).fst.th, Value.int IntKind.i64 (findD l c s).fst.ft],
      Value.bool (findD l c s).snd]))
      (ifB (decide (n_1 < (0 : Int)))
      (Done
      (Value.tuple
      #[Value.agg
      #[Value.int IntKind.i64 (0 : Int), Value.int IntKind.i64 (0 : Int), Value.string { data := #[] : ByteArray }, Value.string { data := #[] : ByteArray },
      Value.int IntKind.i64 (0 : Int), Value.int IntKind.i64 (0 : Int), Value.int IntKind.i64 (0 : Int), Value.int IntKind.i64 (0 : Int)],
      Value.bool false] =
      Value.tuple
      #[Value.agg
      #[Value.int IntKind.i64 (findD l c s).fst.cl, Value.int IntKind.i64 (findD l c s).fst.sq, Value.string (findD l c s).fst.ky,
      Value.string (findD l c s).fst.ot, Value.int IntKind.i64 (findD l c s).fst.n, Value.int IntKind.i64 (findD l c s).fst.mi,
      Value.int IntKind.i64 (findD l c s).fst.th, Value.int IntKind.i64 (findD l c s).fst.ft],
      Value.bool (findD l c s).snd]))
      (∃ (b : Nat),
      ∃ (off : Nat),
      a = some { block := b, off := off : Addr } ∧
      ((0 : Int) ≤ n_1 ∧ n_1 < (↑l.length : Int)) ∧
      ∃ (n_2 : Int),
      ∃ (n_3 : Int),
      ∃ (s_1 : ByteArray),
      ∃ (s_2 : ByteArray),
      ∃ (n_4 : Int),
      ∃ (n_5 : Int),
      ∃ (n_6 : Int),
      ∃ (n_7 : Int),
      CellsAt { π := m.π, sz := n, uf := m.uf : M } b (off + n_1.toNat * (8 : Nat))
      [Value.int IntKind.i64 n_2, Value.int IntKind.i64 n_3, Value.string s_1, Value.string s_2, Value.int IntKind.i64 n_4,
      Value.int IntKind.i64 n_5, Value.int IntKind.i64 n_6, Value.int IntKind.i64 n_7] ∧
      Done
      (Value.tuple
      #[Value.agg
      #[Value.int IntKind.i64 n_2, Value.int IntKind.i64 n_3, Value.string s_1, Value.string s_2, Value.int IntKind.i64 n_4,
      Value.int IntKind.i64 n_5, Value.int IntKind.i64 n_6, Value.int IntKind.i64 n_7],
      Value.bool true] =
      Value.tuple
      #[Value.agg
      #[Value.int IntKind.i64 (findD l c s).fst.cl, Value.int IntKind.i64 (findD l c s).fst.sq, Value.string (findD l c s).fst.ky,
      Value.string (findD l c s).fst.ot, Value.int IntKind.i64 (findD l c s).fst.n, Value.int IntKind.i64 (findD l c s).fst.mi,
      Value.int IntKind.i64 (findD l c s).fst.th, Value.int IntKind.i64 (findD l c s).fst.ft],
      Value.bool (findD l c s).snd])))) (by kernel_rfl) ?_
  have h' := h.sz hn'
  refine ⟨rfl, _, rplace_q a cp l c s hn _ h', _, rright_q a cp l hn _ h', ?_⟩
  cases hb : booksB l
  · exact ifB_true ⟨by simp [findD, hb, d0]; rfl⟩
  refine ifB_false ?_
  rcases place_cases l c s with ⟨e, -⟩ | ⟨k, hk, e, -, -⟩
  · rw [e]
    exact ifB_true ⟨by simp [findD, e, d0]; rfl⟩
  · rw [e]
    refine ifB_intro (fun hb => by simp at hb; omega) (fun _ => ?_)
    obtain ⟨b, o, rfl, hc⟩ := h'.cells (by rw [dl_len]; omega)
    refine ⟨b, o, rfl, by omega, _, _, _, _, _, _, _, _, by simpa using dl_at hc hk, ⟨?_⟩⟩
    simp [findD, hb, e, List.getElem?_eq_getElem hk]

/-- append([]T(nil), l...) -/
theorem copy_new (l : List Dl) (a : Option Addr) (hn : l.length ≤ 1048576) (m : M) (n : Nat) (hm : n ≤ m.sz) (h : Row m a (dls l)) :
    AppPre n (fun _ => False) m 8 80 none 0 0 a l.length [] (dls l) ∧ ∀ a' c' m', AppPost Try.prog 24 m 8 none 0 0 l.length [] (dls l) a' c' m' → NewR n (fun _ => False) m' 8 a' (0 + l.length) c' (dls l) ∧ Agree n m m' ∧ Agree m.sz m m' := by
  have h0 : ∀ B, NewR B (fun _ => False) m 8 none 0 0 [] := fun B => .nil _
  refine ⟨(h0 n).appPre h (dl_len l) (dl_one l) (by omega), fun a' c' m' hp => ⟨?_, (h0 n).appAgree hp (dl_len l) hm, (h0 m.sz).appAgree hp (dl_len l) (Nat.le_refl _)⟩⟩
  have := (h0 n).append hp (dl_len l) dl_zr hm
  simpa using this

theorem ropen_s (a : Option Addr) (cp : Nat) (l : List Dl) (d : Dl) (hn : l.length ≤ 1048576) (m : M) (h : Row m a (dls l)) : Vc.Spec Try.prog 14 [.slice a l.length cp, dlv d] m (LsR m (openD l d)) := by
  refine Vc.Spec.of_vc Try.func14 (ann := noAnn) ?_
  refine vc_by (X :=
      true = true ∧
      ∃ (b : Bool),
      QSpec Try.prog (10 : Nat) [Value.slice a l.length cp] m (Value.bool b) ∧
      ifB (!b) (Done (LsR m (openD l d) (Value.tuple #[Value.slice none (0 : Nat) (0 : Nat), Value.int IntKind.i64 (21 : Int)]) m))
      (∃ (b : Bool),
      QSpec Try.prog (41 : Nat)
      [Value.agg
      #[Value.int IntKind.i64 d.cl, Value.int IntKind.i64 d.sq, Value.string d.ky, Value.string d.ot, Value.int IntKind.i64 d.n, Value.int IntKind.i64 d.mi,
      Value.int IntKind.i64 d.th, Value.int IntKind.i64 d.ft]]
      m (Value.bool b) ∧
      ifB (!b) (Done (LsR m (openD l d) (Value.tuple #[Value.slice none (0 : Nat) (0 : Nat), Value.int IntKind.i64 (1 : Int)]) m))
      (ifB (d.mi != (0 : Int)) (Done (LsR m (openD l d) (Value.tuple #[Value.slice none (0 : Nat) (0 : Nat), Value.int IntKind.i64 (1 : Int)]) m))
      (ifB (d.th != (0 : Int)) (Done (LsR m (openD l d) (Value.tuple #[Value.slice none (0 : Nat) (0 : Nat), Value.int IntKind.i64 (1 : Int)]) m))
      (ifB (d.ft != (0 : Int)) (Done (LsR m (openD l d) (Value.tuple #[Value.slice none (0 : Nat) (0 : Nat), Value.int IntKind.i64 (1 : Int)]) m))
      (∃ (n : Int),
      QSpec Try.prog (42 : Nat) [Value.slice a l.length cp, Value.int IntKind.i64 d.cl, Value.int IntKind.i64 d.sq] m (Value.int IntKind.i64 n) ∧
      ifB (decide (n ≥ (0 : Int))) (Done (LsR m (openD l d) (Value.tuple #[Value.slice none (0 : Nat) (0 : Nat), Value.int IntKind.i64 (171 : Int)]) m))
      (ifB (decide ((↑l.length : Int) ≥ (4 : Int)))
      (Done (LsR m (openD l d) (Value.tuple #[Value.slice none (0 : Nat) (0 : Nat), Value.int IntKind.i64 (3 : Int)]) m))
      (true = true ∧
      (∃ (old : List Value),
      ∃ (src : List Value),
      AppPre m.sz (fun (x : Nat) => False) m (8 : Nat) (80 : Nat) none (0 : Nat) (0 : Nat) a l.length old src ∧
      ∀ (a' : Option Addr) (c' : Nat) (m' : M),
      AppPost Try.prog (24 : Nat) m (8 : Nat) none (0 : Nat) (0 : Nat) l.length old src a' c' m' →
      MLe m m' ∧
      (true = true ∧
      ∀ (b : Nat),
      m'.sz ≤ b →
      MLe m'
      (m'.newBlock b
      [Value.int IntKind.i64 d.cl, Value.int IntKind.i64 d.sq, Value.string d.ky, Value.string d.ot, Value.int IntKind.i64 d.n,
      Value.int IntKind.i64 d.mi, Value.int IntKind.i64 d.th, Value.int IntKind.i64 d.ft]) ∧
      (∃ (old : List Value),
      ∃ (src : List Value),
      AppPre m.sz (fun (x : Nat) => False)
      (m'.newBlock b
      [Value.int IntKind.i64 d.cl, Value.int IntKind.i64 d.sq, Value.string d.ky, Value.string d.ot,
      Value.int IntKind.i64 d.n, Value.int IntKind.i64 d.mi, Value.int IntKind.i64 d.th, Value.int IntKind.i64 d.ft])
      (8 : Nat) (80 : Nat) a' ((0 : Nat) + l.length) c' (some { block := b, off := (0 : Nat) : Addr }) (1 : Nat) old src ∧
      ∀ (a'_1 : Option Addr) (c'_1 : Nat) (m'_1 : M),
      AppPost Try.prog (24 : Nat)
      (m'.newBlock b
      [Value.int IntKind.i64 d.cl, Value.int IntKind.i64 d.sq, Value.string d.ky, Value.string d.ot,
      Value.int IntKind.i64 d.n, Value.int IntKind.i64 d.mi, Value.int IntKind.i64 d.th,
      Value.int IntKind.i64 d.ft])
      (8 : Nat) a' ((0 : Nat) + l.length) c' (1 : Nat) old src a'_1 c'_1 m'_1 →
      Done
      (LsR m (openD l d)
      (Value.tuple #[Value.slice a'_1 ((0 : Nat) + l.length + (1 : Nat)) c'_1, Value.int IntKind.i64 (0 : Int)])
      m'_1)) ∧
      True) ∧
      True) ∧
      (true = true ∧
      ∀ (b : Nat),
      m.sz ≤ b →
      MLe m
      (m.newBlock b
      [Value.int IntKind.i64 d.cl, Value.int IntKind.i64 d.sq, Value.string d.ky, Value.string d.ot, Value.int IntKind.i64 d.n,
      Value.int IntKind.i64 d.mi, Value.int IntKind.i64 d.th, Value.int IntKind.i64 d.ft]) ∧
      (∃ (old : List Value),
      ∃ (src : List Value),
      AppPre m.sz (fun (x : Nat) => False)
      (m.newBlock b
      [Value.int IntKind.i64 d.cl, Value.int IntKind.i64 d.sq, Value.string d.ky, Value.string d.ot, Value.int IntKind.i64 d.n,
      Value.int IntKind.i64 d.mi, Value.int IntKind.i64 d.th, Value.int IntKind.i64 d.ft])
      (8 : Nat) (80 : Nat) none (0 : Nat) (0 : Nat) a l.length old src ∧
      ∀ (a' : Option Addr) (c' : Nat) (m' : M),
      AppPost Try.prog (24 : Nat)
      (m.newBlock b
      [Value.int IntKind.i64 d.cl, Value.int IntKind.i64 d.sq, Value.string d.ky, Value.string d.ot, Value.int IntKind.i64 d.n,
      Value.int IntKind.i64 d.mi, Value.int IntKind.i64 d.th, Value.int IntKind.i64 d.ft])
      (8 : Nat) none (0 : Nat) (0 : Nat) l.length old src a' c' m' →
      MLe
      (m.newBlock b
      [Value.int IntKind.i64 d.cl, Value.int IntKind.i64 d.sq, Value.string d.ky, Value.string d.ot,
      Value.int IntKind.i64 d.n, Value.int IntKind.i64 d.mi, Value.int IntKind.i64 d.th, Value.int IntKind.i64 d.ft])
      m' ∧
      (∃ (old : List Value),
      ∃ (src : List Value),
      AppPre m.sz (fun (x : Nat) => False) m' (8 : Nat) (80 : Nat) a' ((0 : Nat) + l.length) c'
      (some { block := b, off := (0 : Nat) : Addr }) (1 : Nat) old src ∧
      ∀ (a'_1 : Option Addr) (c'_1 : Nat) (m'_1 : M),
      AppPost Try.prog (24 : Nat) m' (8 : Nat) a' ((0 : Nat) + l.length) c' (1 : Nat) old src a'_1 c'_1 m'_1 →
      Done
      (LsR m (openD l d)
      (Value.tuple #[Value.slice a'_1 ((0 : Nat) + l.length + (1 : Nat)) c'_1, Value.int IntKind.i64 (0 : Int)])
      m'_1)) ∧
      True) ∧
      True) ∧
      True)))))))) (by kernel_rfl) ?_
  have hh : l.length ≤ 9223372036854775807 := by omega
  refine ⟨rfl, _, rright_q a cp l hh _ h, ?_⟩
  cases hb : booksB l
  · exact ifB_true (ls_fail (by simp [openD, hb]))
  refine ifB_false ⟨_, rmay_q d _, ifB_intro (fun h1 => ls_fail ?_) (fun h1 => ifB_intro (fun h2 => ls_fail ?_) (fun h2 => ifB_intro (fun h3 => ls_fail ?_) (fun h3 => ifB_intro (fun h5 => ls_fail ?_) (fun h5 => ⟨_, rplace_q a cp l d.cl d.sq hh _ h, ifB_intro (fun h6 => ls_fail ?_) (fun h6 => ifB_intro (fun h7 => ls_fail ?_) (fun h7 => ?_))⟩))))⟩
  · simp at h1; simp [openD, hb, newD, h1]
  · simp at h2; simp [openD, hb, newD, h2]
  · simp at h3; simp [openD, hb, newD, h3]
  · simp at h5; simp [openD, hb, newD, h5]
  all_goals
    have hnw : newD d = true := by simp at h1 h2 h3 h5; simp [newD, h1, h2, h3, h5]
  · simp at h6; simp [openD, hb, hnw, h6]
  · have h6 : ¬ 0 ≤ placeD l d.cl d.sq := by simpa using h6
    have h7 : 4 ≤ l.length := by simp at h7; omega
    simp [openD, hb, hnw, h6, h7]
  have h6 : ¬ 0 ≤ placeD l d.cl d.sq := by simpa using h6
  have h7 : ¬ 4 ≤ l.length := by simp at h7; omega
  have hres : openD l d = (l ++ [d], 0) := by simp [openD, hb, hnw, h6, h7]
  have efl : dls (l ++ [d]) = dls l ++ encDl d := by simp [dls]
  have fin : ∀ (m1 : M) (b : Nat) (a1 : Option Addr) (c1 : Nat), m.sz ≤ m1.sz → CellsAt m1 b 0 (encDl d) → b < m1.sz → NewR m.sz (fun _ => False) m1 8 a1 (0 + l.length) c1 (dls l) →
      ∃ old src, AppPre m.sz (fun _ => False) m1 8 80 a1 (0 + l.length) c1 (some ⟨b, 0, none⟩) 1 old src ∧ ∀ a' c' m', AppPost Try.prog 24 m1 8 a1 (0 + l.length) c1 1 old src a' c' m' → Done (LsR m (openD l d) (.tuple #[.slice a' (0 + l.length + 1) c', I 0]) m') := fun m1 b a1 c1 hm hc hb1 hr => by
    refine ⟨_, _, hr.appPre (.at b 0 _ hb1 hc) rfl rfl (by omega), fun a' c' m' hp => ?_⟩
    have := hr.append hp rfl dl_zr hm
    rw [← efl] at this
    exact ls_ok (n := m.sz) (z := l ++ [d]) hres (by simp) this (Nat.le_refl _)
  obtain ⟨p1, p2⟩ := copy_new l a hn m m.sz (Nat.le_refl _) h
  refine ⟨rfl, ⟨_, _, p1, fun a1 c1 m1 hp => ?_⟩, ⟨rfl, fun b hb' => ⟨MLe.newBlock hb', ?_, trivial⟩⟩, trivial⟩
  · obtain ⟨g1, g2, -⟩ := p2 a1 c1 m1 hp
    exact ⟨MLe.ofAgree (Nat.le_refl _) g2, ⟨rfl, fun b hb' => ⟨MLe.newBlock hb', fin _ b a1 c1 (by have := g2.2.2; simp only [M.newBlock]; omega) cellsAt_new (by simp only [M.newBlock]; omega) (g1.newBlock hb'), trivial⟩⟩, trivial⟩
  · obtain ⟨p1, p2⟩ := copy_new l a hn (m.newBlock b (encDl d)) m.sz (by simp only [M.newBlock]; omega) (h.newBlock hb')
    refine ⟨_, _, p1, fun a1 c1 m1 hp => ?_⟩
    obtain ⟨g1, g2, g3⟩ := p2 a1 c1 m1 hp
    have hs := g3.2.2
    refine ⟨MLe.ofAgree (Nat.le_refl _) g3, fin _ b a1 c1 ?_ ?_ ?_ g1, trivial⟩
    · simp only [M.newBlock] at hs; omega
    · exact (cellsAt_new (m := m) (b := b) (cs := encDl d)).of (g3.1 b (by simp only [M.newBlock]; omega))
    · simp only [M.newBlock] at hs; omega

def turned (d : Dl) (w : Int) (mine : Bool) : Dl :=
  if d.ft ≠ 0 then d else if w = 0 then { d with ft := 2 } else
  if mine = true ∧ d.mi = 0 then { d with mi := w, ft := fateV w d.th } else if mine = false ∧ d.th = 0 then { d with th := w, ft := fateV d.mi w } else { d with ft := fateV d.mi d.th }

def turnD (l : List Dl) (c s w : Int) (mine : Bool) : List Dl × Bool × Int :=
  if foundE l c s ≠ 0 then ([], false, foundE l c s) else (l.set (placeD l c s).toNat (turned (atD l c s) w mine), decide ((atD l c s).ft = 0 ∧ (turned (atD l c s) w mine).ft ≠ 0), 0)

theorem turn_s (a : Option Addr) (cp : Nat) (l : List Dl) (c s w : Int) (mine : Bool) (hn : l.length ≤ 1048576) (m : M) (h : Row m a (dls l)) : Vc.Spec Try.prog 49 [.slice a l.length cp, I c, I s, I w, .bool mine] m (LbR m (turnD l c s w mine)) := by
  refine Vc.Spec.of_vc Try.func49 (ann := noAnn) ?_
  refine vc_by (X :=
      true = true ∧
      ∃ (b : Bool),
      QSpec Try.prog (10 : Nat) [Value.slice a l.length cp] m (Value.bool b) ∧
      ifB (!b) (Done (LbR m (turnD l c s w mine) (Value.tuple #[Value.slice none (0 : Nat) (0 : Nat), Value.bool false, Value.int IntKind.i64 (21 : Int)]) m))
      (∃ (n : Int),
      QSpec Try.prog (42 : Nat) [Value.slice a l.length cp, Value.int IntKind.i64 c, Value.int IntKind.i64 s] m (Value.int IntKind.i64 n) ∧
      ifB (decide (n < (0 : Int)))
      (Done (LbR m (turnD l c s w mine) (Value.tuple #[Value.slice none (0 : Nat) (0 : Nat), Value.bool false, Value.int IntKind.i64 (60 : Int)]) m))
      (∃ (old : List Value),
      ∃ (src : List Value),
      AppPre m.sz (fun (x : Nat) => False) m (8 : Nat) (80 : Nat) none (0 : Nat) (0 : Nat) a l.length old src ∧
      ∀ (a' : Option Addr) (c' : Nat) (m' : M),
      AppPost Try.prog (24 : Nat) m (8 : Nat) none (0 : Nat) (0 : Nat) l.length old src a' c' m' →
      ∃ (b : Nat),
      ∃ (off : Nat),
      a = some { block := b, off := off : Addr } ∧
      ((0 : Int) ≤ n ∧ n < (↑l.length : Int)) ∧
      ∃ (n_1 : Int),
      CellsAt m' b (off + n.toNat * (8 : Nat) + (7 : Nat)) [Value.int IntKind.i64 n_1] ∧
      ifB (n_1 != (0 : Int))
      (Done
      (LbR m (turnD l c s w mine) (Value.tuple #[Value.slice a' ((0 : Nat) + l.length) c', Value.bool false, Value.int IntKind.i64 (0 : Int)])
      m'))
      (∃ (b : Nat),
      ∃ (off : Nat),
      a = some { block := b, off := off : Addr } ∧
      ((0 : Int) ≤ n ∧ n < (↑l.length : Int)) ∧
      ∃ (n_2 : Int),
      ∃ (n_3 : Int),
      ∃ (s_1 : ByteArray),
      ∃ (s_2 : ByteArray),
      ∃ (n_4 : Int),
      ∃ (n_5 : Int),
      ∃ (n_6 : Int),
      ∃ (n_7 : Int),
      CellsAt m' b (off + n.toNat * (8 : Nat))
      [Value.int IntKind.i64 n_2, Value.int IntKind.i64 n_3, Value.string s_1, Value.string s_2,
      Value.int IntKind.i64 n_4, Value.int IntKind.i64 n_5, Value.int IntKind.i64 n_6, Value.int IntKind.i64 n_7] ∧
      ifB (w == (0 : Int))
      (∃ (b : Nat),
      ∃ (off : Nat),
      a' = some { block := b, off := off : Addr } ∧
      ((0 : Int) ≤ n ∧ n < (↑((0 : Nat) + l.length) : Int)) ∧
      Wr m.sz (fun (x : Nat) => False) m' b (off + n.toNat * (8 : Nat))
      #[Value.int IntKind.i64 n_2, Value.int IntKind.i64 n_3, Value.string s_1, Value.string s_2,
      Value.int IntKind.i64 n_4, Value.int IntKind.i64 n_5, Value.int IntKind.i64 n_6,
      Value.int IntKind.i64 (2 : Int)].size ∧
      true = true ∧
      ∃ (b_1 : Nat),
      ∃ (off_1 : Nat),
      a = some { block := b_1, off := off_1 : Addr } ∧
      ((0 : Int) ≤ n ∧ n < (↑l.length : Int)) ∧
      ∃ (n_8 : Int),
      CellsAt
      (m'.setCells b (off + n.toNat * (8 : Nat))
      [Value.int IntKind.i64 n_2, Value.int IntKind.i64 n_3, Value.string s_1,
      Value.string s_2, Value.int IntKind.i64 n_4, Value.int IntKind.i64 n_5,
      Value.int IntKind.i64 n_6, Value.int IntKind.i64 (2 : Int)])
      b_1 (off_1 + n.toNat * (8 : Nat) + (7 : Nat)) [Value.int IntKind.i64 n_8] ∧
      Done
      (LbR m (turnD l c s w mine)
      (Value.tuple
      #[Value.slice a' ((0 : Nat) + l.length) c', Value.bool ((2 : Int) != n_8),
      Value.int IntKind.i64 (0 : Int)])
      (m'.setCells b (off + n.toNat * (8 : Nat))
      [Value.int IntKind.i64 n_2, Value.int IntKind.i64 n_3, Value.string s_1,
      Value.string s_2, Value.int IntKind.i64 n_4, Value.int IntKind.i64 n_5,
      Value.int IntKind.i64 n_6, Value.int IntKind.i64 (2 : Int)])))
      (ifB mine
      (ifB (n_5 == (0 : Int))
      (ifB (!mine)
      (ifB (n_6 == (0 : Int))
      (∃ (n_8 : Int),
      QSpec Try.prog (73 : Nat) [Value.int IntKind.i64 w, Value.int IntKind.i64 w] m'
      (Value.int IntKind.i64 n_8) ∧
      ∃ (b : Nat),
      ∃ (off : Nat),
      a' = some { block := b, off := off : Addr } ∧
      ((0 : Int) ≤ n ∧ n < (↑((0 : Nat) + l.length) : Int)) ∧
      Wr m.sz (fun (x : Nat) => False) m' b (off + n.toNat * (8 : Nat))
      #[Value.int IntKind.i64 n_2, Value.int IntKind.i64 n_3, Value.string s_1,
      Value.string s_2, Value.int IntKind.i64 n_4, Value.int IntKind.i64 w,
      Value.int IntKind.i64 w, Value.int IntKind.i64 n_8].size ∧
      true = true ∧
      ∃ (b_1 : Nat),
      ∃ (off_1 : Nat),
      a = some { block := b_1, off := off_1 : Addr } ∧
      ((0 : Int) ≤ n ∧ n < (↑l.length : Int)) ∧
      ∃ (n_9 : Int),
      CellsAt
      (m'.setCells b (off + n.toNat * (8 : Nat))
      [Value.int IntKind.i64 n_2, Value.int IntKind.i64 n_3, Value.string s_1,
      Value.string s_2, Value.int IntKind.i64 n_4, Value.int IntKind.i64 w,
      Value.int IntKind.i64 w, Value.int IntKind.i64 n_8])
      b_1 (off_1 + n.toNat * (8 : Nat) + (7 : Nat)) [Value.int IntKind.i64 n_9] ∧
      Done
      (LbR m (turnD l c s w mine)
      (Value.tuple
      #[Value.slice a' ((0 : Nat) + l.length) c', Value.bool (n_8 != n_9),
      Value.int IntKind.i64 (0 : Int)])
      (m'.setCells b (off + n.toNat * (8 : Nat))
      [Value.int IntKind.i64 n_2, Value.int IntKind.i64 n_3, Value.string s_1,
      Value.string s_2, Value.int IntKind.i64 n_4, Value.int IntKind.i64 w,
      Value.int IntKind.i64 w, Value.int IntKind.i64 n_8])))
      (∃ (n_8 : Int),
      QSpec Try.prog (73 : Nat) [Value.int IntKind.i64 w, Value.int IntKind.i64 n_6] m'
      (Value.int IntKind.i64 n_8) ∧
      ∃ (b : Nat),
      ∃ (off : Nat),
      a' = some { block := b, off := off : Addr } ∧
      ((0 : Int) ≤ n ∧ n < (↑((0 : Nat) + l.length) : Int)) ∧
      Wr m.sz (fun (x : Nat) => False) m' b (off + n.toNat * (8 : Nat))
      #[Value.int IntKind.i64 n_2, Value.int IntKind.i64 n_3, Value.string s_1,
      Value.string s_2, Value.int IntKind.i64 n_4, Value.int IntKind.i64 w,
      Value.int IntKind.i64 n_6, Value.int IntKind.i64 n_8].size ∧
      true = true ∧
      ∃ (b_1 : Nat),
      ∃ (off_1 : Nat),
      a = some { block := b_1, off := off_1 : Addr } ∧
      ((0 : Int) ≤ n ∧ n < (↑l.length : Int)) ∧
      ∃ (n_9 : Int),
      CellsAt
      (m'.setCells b (off + n.toNat * (8 : Nat))
      [Value.int IntKind.i64 n_2, Value.int IntKind.i64 n_3, Value.string s_1,
      Value.string s_2, Value.int IntKind.i64 n_4, Value.int IntKind.i64 w,
      Value.int IntKind.i64 n_6, Value.int IntKind.i64 n_8])
      b_1 (off_1 + n.toNat * (8 : Nat) + (7 : Nat)) [Value.int IntKind.i64 n_9] ∧
      Done
      (LbR m (turnD l c s w mine)
      (Value.tuple
      #[Value.slice a' ((0 : Nat) + l.length) c', Value.bool (n_8 != n_9),
      Value.int IntKind.i64 (0 : Int)])
      (m'.setCells b (off + n.toNat * (8 : Nat))
      [Value.int IntKind.i64 n_2, Value.int IntKind.i64 n_3, Value.string s_1,
      Value.string s_2, Value.int IntKind.i64 n_4, Value.int IntKind.i64 w,
      Value.int IntKind.i64 n_6, Value.int IntKind.i64 n_8]))))
      (∃ (n_8 : Int),
      QSpec Try.prog (73 : Nat) [Value.int IntKind.i64 w, Value.int IntKind.i64 n_6] m'
      (Value.int IntKind.i64 n_8) ∧
      ∃ (b : Nat),
      ∃ (off : Nat),
      a' = some { block := b, off := off : Addr } ∧
      ((0 : Int) ≤ n ∧ n < (↑((0 : Nat) + l.length) : Int)) ∧
      Wr m.sz (fun (x : Nat) => False) m' b (off + n.toNat * (8 : Nat))
      #[Value.int IntKind.i64 n_2, Value.int IntKind.i64 n_3, Value.string s_1, Value.string s_2,
      Value.int IntKind.i64 n_4, Value.int IntKind.i64 w, Value.int IntKind.i64 n_6,
      Value.int IntKind.i64 n_8].size ∧
      true = true ∧
      ∃ (b_1 : Nat),
      ∃ (off_1 : Nat),
      a = some { block := b_1, off := off_1 : Addr } ∧
      ((0 : Int) ≤ n ∧ n < (↑l.length : Int)) ∧
      ∃ (n_9 : Int),
      CellsAt
      (m'.setCells b (off + n.toNat * (8 : Nat))
      [Value.int IntKind.i64 n_2, Value.int IntKind.i64 n_3, Value.string s_1,
      Value.string s_2, Value.int IntKind.i64 n_4, Value.int IntKind.i64 w,
      Value.int IntKind.i64 n_6, Value.int IntKind.i64 n_8])
      b_1 (off_1 + n.toNat * (8 : Nat) + (7 : Nat)) [Value.int IntKind.i64 n_9] ∧
      Done
      (LbR m (turnD l c s w mine)
      (Value.tuple
      #[Value.slice a' ((0 : Nat) + l.length) c', Value.bool (n_8 != n_9),
      Value.int IntKind.i64 (0 : Int)])
      (m'.setCells b (off + n.toNat * (8 : Nat))
      [Value.int IntKind.i64 n_2, Value.int IntKind.i64 n_3, Value.string s_1,
      Value.string s_2, Value.int IntKind.i64 n_4, Value.int IntKind.i64 w,
      Value.int IntKind.i64 n_6, Value.int IntKind.i64 n_8]))))
      (ifB (!mine)
      (ifB (n_6 == (0 : Int))
      (∃ (n_8 : Int),
      QSpec Try.prog (73 : Nat) [Value.int IntKind.i64 n_5, Value.int IntKind.i64 w] m'
      (Value.int IntKind.i64 n_8) ∧
      ∃ (b : Nat),
      ∃ (off : Nat),
      a' = some { block := b, off := off : Addr } ∧
      ((0 : Int) ≤ n ∧ n < (↑((0 : Nat) + l.length) : Int)) ∧
      Wr m.sz (fun (x : Nat) => False) m' b (off + n.toNat * (8 : Nat))
      #[Value.int IntKind.i64 n_2, Value.int IntKind.i64 n_3, Value.string s_1,
      Value.string s_2, Value.int IntKind.i64 n_4, Value.int IntKind.i64 n_5,
      Value.int IntKind.i64 w, Value.int IntKind.i64 n_8].size ∧
      true = true ∧
      ∃ (b_1 : Nat),
      ∃ (off_1 : Nat),
      a = some { block := b_1, off := off_1 : Addr } ∧
      ((0 : Int) ≤ n ∧ n < (↑l.length : Int)) ∧
      ∃ (n_9 : Int),
      CellsAt
      (m'.setCells b (off + n.toNat * (8 : Nat))
      [Value.int IntKind.i64 n_2, Value.int IntKind.i64 n_3, Value.string s_1,
      Value.string s_2, Value.int IntKind.i64 n_4, Value.int IntKind.i64 n_5,
      Value.int IntKind.i64 w, Value.int IntKind.i64 n_8])
      b_1 (off_1 + n.toNat * (8 : Nat) + (7 : Nat)) [Value.int IntKind.i64 n_9] ∧
      Done
      (LbR m (turnD l c s w mine)
      (Value.tuple
      #[Value.slice a' ((0 : Nat) + l.length) c', Value.bool (n_8 != n_9),
      Value.int IntKind.i64 (0 : Int)])
      (m'.setCells b (off + n.toNat * (8 : Nat))
      [Value.int IntKind.i64 n_2, Value.int IntKind.i64 n_3, Value.string s_1,
      Value.string s_2, Value.int IntKind.i64 n_4,
      Value.int IntKind.i64 n_5, Value.int IntKind.i64 w,
      Value.int IntKind.i64 n_8])))
      (∃ (n_8 : Int),
      QSpec Try.prog (73 : Nat) [Value.int IntKind.i64 n_5, Value.int IntKind.i64 n_6] m'
      (Value.int IntKind.i64 n_8) ∧
      ∃ (b : Nat),
      ∃ (off : Nat),
      a' = some { block := b, off := off : Addr } ∧
      ((0 : Int) ≤ n ∧ n < (↑((0 : Nat) + l.length) : Int)) ∧
      Wr m.sz (fun (x : Nat) => False) m' b (off + n.toNat * (8 : Nat))
      #[Value.int IntKind.i64 n_2, Value.int IntKind.i64 n_3, Value.string s_1,
      Value.string s_2, Value.int IntKind.i64 n_4, Value.int IntKind.i64 n_5,
      Value.int IntKind.i64 n_6, Value.int IntKind.i64 n_8].size ∧
      true = true ∧
      ∃ (b_1 : Nat),
      ∃ (off_1 : Nat),
      a = some { block := b_1, off := off_1 : Addr } ∧
      ((0 : Int) ≤ n ∧ n < (↑l.length : Int)) ∧
      ∃ (n_9 : Int),
      CellsAt
      (m'.setCells b (off + n.toNat * (8 : Nat))
      [Value.int IntKind.i64 n_2, Value.int IntKind.i64 n_3, Value.string s_1,
      Value.string s_2, Value.int IntKind.i64 n_4, Value.int IntKind.i64 n_5,
      Value.int IntKind.i64 n_6, Value.int IntKind.i64 n_8])
      b_1 (off_1 + n.toNat * (8 : Nat) + (7 : Nat)) [Value.int IntKind.i64 n_9] ∧
      Done
      (LbR m (turnD l c s w mine)
      (Value.tuple
      #[Value.slice a' ((0 : Nat) + l.length) c', Value.bool (n_8 != n_9),
      Value.int IntKind.i64 (0 : Int)])
      (m'.setCells b (off + n.toNat * (8 : Nat))
      [Value.int IntKind.i64 n_2, Value.int IntKind.i64 n_3, Value.string s_1,
      Value.string s_2, Value.int IntKind.i64 n_4,
      Value.int IntKind.i64 n_5, Value.int IntKind.i64 n_6,
      Value.int IntKind.i64 n_8]))))
      (∃ (n_8 : Int),
      QSpec Try.prog (73 : Nat) [Value.int IntKind.i64 n_5, Value.int IntKind.i64 n_6] m'
      (Value.int IntKind.i64 n_8) ∧
      ∃ (b : Nat),
      ∃ (off : Nat),
      a' = some { block := b, off := off : Addr } ∧
      ((0 : Int) ≤ n ∧ n < (↑((0 : Nat) + l.length) : Int)) ∧
      Wr m.sz (fun (x : Nat) => False) m' b (off + n.toNat * (8 : Nat))
      #[Value.int IntKind.i64 n_2, Value.int IntKind.i64 n_3, Value.string s_1, Value.string s_2,
      Value.int IntKind.i64 n_4, Value.int IntKind.i64 n_5, Value.int IntKind.i64 n_6,
      Value.int IntKind.i64 n_8].size ∧
      true = true ∧
      ∃ (b_1 : Nat),
      ∃ (off_1 : Nat),
      a = some { block := b_1, off := off_1 : Addr } ∧
      ((0 : Int) ≤ n ∧ n < (↑l.length : Int)) ∧
      ∃ (n_9 : Int),
      CellsAt
      (m'.setCells b (off + n.toNat * (8 : Nat))
      [Value.int IntKind.i64 n_2, Value.int IntKind.i64 n_3, Value.string s_1,
      Value.string s_2, Value.int IntKind.i64 n_4, Value.int IntKind.i64 n_5,
      Value.int IntKind.i64 n_6, Value.int IntKind.i64 n_8])
      b_1 (off_1 + n.toNat * (8 : Nat) + (7 : Nat)) [Value.int IntKind.i64 n_9] ∧
      Done
      (LbR m (turnD l c s w mine)
      (Value.tuple
      #[Value.slice a' ((0 : Nat) + l.length) c', Value.bool (n_8 != n_9),
      Value.int IntKind.i64 (0 : Int)])
      (m'.setCells b (off + n.toNat * (8 : Nat))
      [Value.int IntKind.i64 n_2, Value.int IntKind.i64 n_3, Value.string s_1,
      Value.string s_2, Value.int IntKind.i64 n_4, Value.int IntKind.i64 n_5,
      Value.int IntKind.i64 n_6, Value.int IntKind.i64 n_8])))))
      (ifB (!mine)
      (ifB (n_6 == (0 : Int))
      (∃ (n_8 : Int),
      QSpec Try.prog (73 : Nat) [Value.int IntKind.i64 n_5, Value.int IntKind.i64 w] m'
      (Value.int IntKind.i64 n_8) ∧
      ∃ (b : Nat),
      ∃ (off : Nat),
      a' = some { block := b, off := off : Addr } ∧
      ((0 : Int) ≤ n ∧ n < (↑((0 : Nat) + l.length) : Int)) ∧
      Wr m.sz (fun (x : Nat) => False) m' b (off + n.toNat * (8 : Nat))
      #[Value.int IntKind.i64 n_2, Value.int IntKind.i64 n_3, Value.string s_1, Value.string s_2,
      Value.int IntKind.i64 n_4, Value.int IntKind.i64 n_5, Value.int IntKind.i64 w,
      Value.int IntKind.i64 n_8].size ∧
      true = true ∧
      ∃ (b_1 : Nat),
      ∃ (off_1 : Nat),
      a = some { block := b_1, off := off_1 : Addr } ∧
      ((0 : Int) ≤ n ∧ n < (↑l.length : Int)) ∧
      ∃ (n_9 : Int),
      CellsAt
      (m'.setCells b (off + n.toNat * (8 : Nat))
      [Value.int IntKind.i64 n_2, Value.int IntKind.i64 n_3, Value.string s_1,
      Value.string s_2, Value.int IntKind.i64 n_4, Value.int IntKind.i64 n_5,
      Value.int IntKind.i64 w, Value.int IntKind.i64 n_8])
      b_1 (off_1 + n.toNat * (8 : Nat) + (7 : Nat)) [Value.int IntKind.i64 n_9] ∧
      Done
      (LbR m (turnD l c s w mine)
      (Value.tuple
      #[Value.slice a' ((0 : Nat) + l.length) c', Value.bool (n_8 != n_9),
      Value.int IntKind.i64 (0 : Int)])
      (m'.setCells b (off + n.toNat * (8 : Nat))
      [Value.int IntKind.i64 n_2, Value.int IntKind.i64 n_3, Value.string s_1,
      Value.string s_2, Value.int IntKind.i64 n_4, Value.int IntKind.i64 n_5,
      Value.int IntKind.i64 w, Value.int IntKind.i64 n_8])))
      (∃ (n_8 : Int),
      QSpec Try.prog (73 : Nat) [Value.int IntKind.i64 n_5, Value.int IntKind.i64 n_6] m'
      (Value.int IntKind.i64 n_8) ∧
      ∃ (b : Nat),
      ∃ (off : Nat),
      a' = some { block := b, off := off : Addr } ∧
      ((0 : Int) ≤ n ∧ n < (↑((0 : Nat) + l.length) : Int)) ∧
      Wr m.sz (fun (x : Nat) => False) m' b (off + n.toNat * (8 : Nat))
      #[Value.int IntKind.i64 n_2, Value.int IntKind.i64 n_3, Value.string s_1, Value.string s_2,
      Value.int IntKind.i64 n_4, Value.int IntKind.i64 n_5, Value.int IntKind.i64 n_6,
      Value.int IntKind.i64 n_8].size ∧
      true = true ∧
      ∃ (b_1 : Nat),
      ∃ (off_1 : Nat),
      a = some { block := b_1, off := off_1 : Addr } ∧
      ((0 : Int) ≤ n ∧ n < (↑l.length : Int)) ∧
      ∃ (n_9 : Int),
      CellsAt
      (m'.setCells b (off + n.toNat * (8 : Nat))
      [Value.int IntKind.i64 n_2, Value.int IntKind.i64 n_3, Value.string s_1,
      Value.string s_2, Value.int IntKind.i64 n_4, Value.int IntKind.i64 n_5,
      Value.int IntKind.i64 n_6, Value.int IntKind.i64 n_8])
      b_1 (off_1 + n.toNat * (8 : Nat) + (7 : Nat)) [Value.int IntKind.i64 n_9] ∧
      Done
      (LbR m (turnD l c s w mine)
      (Value.tuple
      #[Value.slice a' ((0 : Nat) + l.length) c', Value.bool (n_8 != n_9),
      Value.int IntKind.i64 (0 : Int)])
      (m'.setCells b (off + n.toNat * (8 : Nat))
      [Value.int IntKind.i64 n_2, Value.int IntKind.i64 n_3, Value.string s_1,
      Value.string s_2, Value.int IntKind.i64 n_4, Value.int IntKind.i64 n_5,
      Value.int IntKind.i64 n_6, Value.int IntKind.i64 n_8]))))
      (∃ (n_8 : Int),
      QSpec Try.prog (73 : Nat) [Value.int IntKind.i64 n_5, Value.int IntKind.i64 n_6] m'
      (Value.int IntKind.i64 n_8) ∧
      ∃ (b : Nat),
      ∃ (off : Nat),
      a' = some { block := b, off := off : Addr } ∧
      ((0 : Int) ≤ n ∧ n < (↑((0 : Nat) + l.length) : Int)) ∧
      Wr m.sz (fun (x : Nat) => False) m' b (off + n.toNat * (8 : Nat))
      #[Value.int IntKind.i64 n_2, Value.int IntKind.i64 n_3, Value.string s_1, Value.string s_2,
      Value.int IntKind.i64 n_4, Value.int IntKind.i64 n_5, Value.int IntKind.i64 n_6,
      Value.int IntKind.i64 n_8].size ∧
      true = true ∧
      ∃ (b_1 : Nat),
      ∃ (off_1 : Nat),
      a = some { block := b_1, off := off_1 : Addr } ∧
      ((0 : Int) ≤ n ∧ n < (↑l.length : Int)) ∧
      ∃ (n_9 : Int),
      CellsAt
      (m'.setCells b (off + n.toNat * (8 : Nat))
      [Value.int IntKind.i64 n_2, Value.int IntKind.i64 n_3, Value.string s_1,
      Value.string s_2, Value.int IntKind.i64 n_4, Value.int IntKind.i64 n_5,
      Value.int IntKind.i64 n_6, Value.int IntKind.i64 n_8])
      b_1 (off_1 + n.toNat * (8 : Nat) + (7 : Nat)) [Value.int IntKind.i64 n_9] ∧
      Done
      (LbR m (turnD l c s w mine)
      (Value.tuple
      #[Value.slice a' ((0 : Nat) + l.length) c', Value.bool (n_8 != n_9),
      Value.int IntKind.i64 (0 : Int)])
      (m'.setCells b (off + n.toNat * (8 : Nat))
      [Value.int IntKind.i64 n_2, Value.int IntKind.i64 n_3, Value.string s_1,
      Value.string s_2, Value.int IntKind.i64 n_4, Value.int IntKind.i64 n_5,
      Value.int IntKind.i64 n_6, Value.int IntKind.i64 n_8]))))))))) (by kernel_rfl) ?_
  have hh : l.length ≤ 9223372036854775807 := by omega
  refine ⟨rfl, _, rright_q a cp l hh _ h, ?_⟩
  cases hb : booksB l
  · exact ifB_true (lb_fail (by simp [turnD, foundE, hb]))
  refine ifB_false ⟨_, rplace_q a cp l c s hh _ h, ifB_intro (fun h1 => lb_fail ?_) (fun h1 => ?_)⟩
  · simp at h1; simp [turnD, foundE, hb, h1]
  have h1 : ¬ placeD l c s < 0 := by simpa using h1
  have he : foundE l c s = 0 := by simp [foundE, hb, h1]
  obtain ⟨-, h4, k, hk, e1, -, -, e3⟩ := found_ok he
  have hf : turnD l c s w mine = (l.set k (turned l[k] w mine), decide (l[k].ft = 0 ∧ (turned l[k] w mine).ft ≠ 0), 0) := by simp [turnD, he, e3, e1]
  rw [e1]
  simp only [Int.toNat_natCast]
  obtain ⟨p1, p2⟩ := copy_new l a hn m m.sz (Nat.le_refl _) h
  refine ⟨_, _, p1, fun a1 c1 m1 hp => ?_⟩
  obtain ⟨g1, g2, -⟩ := p2 a1 c1 m1 hp
  obtain ⟨b, o, rfl, hc⟩ := (h.agree g2).cells (by rw [dl_len]; omega)
  have hbm : b < m.sz := h.lt (by intro e; have := congrArg List.length e; rw [dl_len] at this; simp at this; omega) rfl
  have ho := g1.toOwn (by omega)
  have c7 := CellsAt.field dl_k hc hk (p := [I l[k].cl, I l[k].sq, .string l[k].ky, .string l[k].ot, I l[k].n, I l[k].mi, I l[k].th]) (old := [I l[k].ft]) (q := []) rfl
  refine ⟨b, o, rfl, by omega, l[k].ft, c7, ifB_intro (fun h2 => ?_) (fun h2 => ⟨b, o, rfl, by omega, _, _, _, _, _, _, _, _, by simpa using dl_at hc hk, ?_⟩)⟩
  · have h2 : l[k].ft ≠ 0 := by simpa using h2
    have hs : turned l[k] w mine = l[k] := by simp [turned, h2]
    refine lb_ok (n := m.sz) (z := l.set k (turned l[k] w mine)) (by rw [hf]; simp [h2]) (by simp) ?_ (Nat.le_refl _)
    rw [hs, List.set_getElem_self hk]; exact g1
  have h2 : l[k].ft = 0 := by simpa using h2
  obtain ⟨b1, o1, rfl, hc1⟩ := ho.row.cells (by rw [dl_len]; omega)
  have hb1 : m.sz ≤ b1 := by rcases ho.lo rfl with h | h; exact h; exact h.elim
  have leaf : ∀ d' : Dl, turned l[k] w mine = d' → ∃ b2 off, some (⟨b1, o1, none⟩ : Addr) = some ⟨b2, off, none⟩ ∧ (0 ≤ (k : Int) ∧ (k : Int) < ((0 + l.length : Nat) : Int)) ∧ Wr m.sz (fun _ => False) m1 b2 (off + k * 8) 8 ∧ True ∧
      ∃ b3 off3, some (⟨b, o, none⟩ : Addr) = some ⟨b3, off3, none⟩ ∧ (0 ≤ (k : Int) ∧ (k : Int) < (l.length : Int)) ∧ ∃ n9, CellsAt (m1.setCells b2 (off + k * 8) (encDl d')) b3 (off3 + k * 8 + 7) [I n9] ∧
        Done (LbR m (turnD l c s w mine) (.tuple #[.slice (some ⟨b1, o1, none⟩) (0 + l.length) c1, .bool (d'.ft != n9), I 0]) (m1.setCells b2 (off + k * 8) (encDl d'))) := fun d' hd => by
    obtain ⟨q1, q2⟩ := Own.setAt dl_k ho hk d'
    refine ⟨b1, o1, rfl, by omega, q1, trivial, b, o, rfl, by omega, l[k].ft, ?_, lb_ok (n := m.sz) (z := l.set k d') ?_ (by simp) (.own q2) (Nat.le_refl _)⟩
    · exact CellsAt.of c7 (by funext o'; simp only [M.setCells]; rw [if_neg (by omega)])
    · rw [hf, hd]; simp [h2, bne, Bool.beq_eq_decide_eq]
  refine ifB_intro (fun hw => leaf { l[k] with ft := 2 } (by simp at hw; simp [turned, h2, hw])) (fun hw => ?_)
  have hw : w ≠ 0 := by simpa using hw
  cases mine
  · refine ifB_false (ifB_true (ifB_intro (fun h3 => ⟨_, rfate_q _ _ _, leaf { l[k] with th := w, ft := fateV l[k].mi w } ?_⟩) (fun h3 => ⟨_, rfate_q _ _ _, leaf { l[k] with ft := fateV l[k].mi l[k].th } ?_⟩)))
    · simp at h3; simp [turned, h2, hw, h3]
    · simp at h3; simp [turned, h2, hw, h3]
  · refine ifB_true (ifB_intro (fun h3 => ifB_false ⟨_, rfate_q _ _ _, leaf { l[k] with mi := w, ft := fateV w l[k].th } ?_⟩) (fun h3 => ifB_false ⟨_, rfate_q _ _ _, leaf { l[k] with ft := fateV l[k].mi l[k].th } ?_⟩))
    · simp at h3; simp [turned, h2, hw, h3]
    · simp at h3; simp [turned, h2, hw, h3]

theorem rsay_s (a : Option Addr) (cp : Nat) (l : List Dl) (c s : Int) (mine is : Bool) (hn : l.length ≤ 1048576) (m : M) (h : Row m a (dls l)) : Vc.Spec Try.prog 19 [.slice a l.length cp, I c, I s, .bool mine, .bool is] m (LbR m (turnD l c s (wordD is) mine)) := by
  refine Vc.Spec.of_vc Try.func19 (ann := noAnn) ?_
  refine vc_by (X :=
      true = true ∧
      ifB is
      (∃ (S' : Nat → Prop),
      (∀ (b : Nat), S' b → m.uf b ∧ (m.sz ≤ b ∨ False)) ∧
      ∀ (n : Nat),
      m.sz ≤ n →
      SpecW Try.prog (49 : Nat) [Value.slice a l.length cp, Value.int IntKind.i64 c, Value.int IntKind.i64 s, Value.int IntKind.i64 (1 : Int), Value.bool mine]
      { π := m.π, sz := n, uf := m.uf : M } S' fun (v : Value) (m' : M) =>
      ∃ (a : Option Addr),
      ∃ (n : Nat),
      ∃ (c_1 : Nat),
      ∃ (b : Bool),
      ∃ (n_1 : Int),
      v = Value.tuple #[Value.slice a n c_1, Value.bool b, Value.int IntKind.i64 n_1] ∧
      Done (LbR m (turnD l c s (wordD is) mine) (Value.tuple #[Value.slice a n c_1, Value.bool b, Value.int IntKind.i64 n_1]) m'))
      (∃ (S' : Nat → Prop),
      (∀ (b : Nat), S' b → m.uf b ∧ (m.sz ≤ b ∨ False)) ∧
      ∀ (n : Nat),
      m.sz ≤ n →
      SpecW Try.prog (49 : Nat) [Value.slice a l.length cp, Value.int IntKind.i64 c, Value.int IntKind.i64 s, Value.int IntKind.i64 (2 : Int), Value.bool mine]
      { π := m.π, sz := n, uf := m.uf : M } S' fun (v : Value) (m' : M) =>
      ∃ (a : Option Addr),
      ∃ (n : Nat),
      ∃ (c_1 : Nat),
      ∃ (b : Bool),
      ∃ (n_1 : Int),
      v = Value.tuple #[Value.slice a n c_1, Value.bool b, Value.int IntKind.i64 n_1] ∧
      Done (LbR m (turnD l c s (wordD is) mine) (Value.tuple #[Value.slice a n c_1, Value.bool b, Value.int IntKind.i64 n_1]) m'))) (by kernel_rfl) ?_
  cases is
  · exact ⟨rfl, ifB_false ⟨_, noS, fun N hN => (turn_s a cp l c s 2 mine hn _ (h.sz hN)).monoW fun v m1 _ ⟨a1, c1, e, r⟩ => ⟨_, _, _, _, _, e, ⟨⟨a1, c1, rfl, r.lower hN⟩⟩⟩⟩⟩
  · exact ⟨rfl, ifB_true ⟨_, noS, fun N hN => (turn_s a cp l c s 1 mine hn _ (h.sz hN)).monoW fun v m1 _ ⟨a1, c1, e, r⟩ => ⟨_, _, _, _, _, e, ⟨⟨a1, c1, rfl, r.lower hN⟩⟩⟩⟩⟩

theorem rgive_s (a : Option Addr) (cp : Nat) (l : List Dl) (c s : Int) (hn : l.length ≤ 1048576) (m : M) (h : Row m a (dls l)) : Vc.Spec Try.prog 21 [.slice a l.length cp, I c, I s] m (LbR m (turnD l c s 0 false)) := by
  refine Vc.Spec.of_vc Try.func21 (ann := noAnn) ?_
  refine vc_by (X :=
      true = true ∧
      ∃ (S' : Nat → Prop),
      (∀ (b : Nat), S' b → m.uf b ∧ (m.sz ≤ b ∨ False)) ∧
      ∀ (n : Nat),
      m.sz ≤ n →
      SpecW Try.prog (49 : Nat) [Value.slice a l.length cp, Value.int IntKind.i64 c, Value.int IntKind.i64 s, Value.int IntKind.i64 (0 : Int), Value.bool false]
      { π := m.π, sz := n, uf := m.uf : M } S' fun (v : Value) (m' : M) =>
      ∃ (a : Option Addr),
      ∃ (n : Nat),
      ∃ (c_1 : Nat),
      ∃ (b : Bool),
      ∃ (n_1 : Int),
      v = Value.tuple #[Value.slice a n c_1, Value.bool b, Value.int IntKind.i64 n_1] ∧
      Done (LbR m (turnD l c s (0 : Int) false) (Value.tuple #[Value.slice a n c_1, Value.bool b, Value.int IntKind.i64 n_1]) m')) (by kernel_rfl) ?_
  exact ⟨rfl, _, noS, fun N hN => (turn_s a cp l c s 0 false hn _ (h.sz hN)).monoW fun v m1 _ ⟨a1, c1, e, r⟩ => ⟨_, _, _, _, _, e, ⟨⟨a1, c1, rfl, r.lower hN⟩⟩⟩⟩

theorem turned_give (d : Dl) : turned d 0 false = givenD d := by
  by_cases h : d.ft = 0 <;> simp [turned, givenD, h]

theorem turned_say {d : Dl} (h : mayB d = true) (mine is : Bool) : turned d (wordD is) mine = saidD d mine is := by
  have hw : wordD is ≠ 0 := by cases is <;> simp [wordD]
  by_cases h0 : d.ft = 0
  rotate_left
  · simp [turned, saidD, h0]
  have hf : fateV d.mi d.th = 0 := by
    simp only [mayB, Bool.and_eq_true, Bool.or_eq_true, decide_eq_true_eq, h0] at h
    rcases h.2 with h | h
    · exact h.symm
    · exact h.1
  cases mine
  · by_cases h1 : d.th = 0
    · simp [turned, saidD, h0, h1, hw]
    · simp [turned, saidD, h0, h1, hw]; rw [hf, ← h0]
  · by_cases h1 : d.mi = 0
    · simp [turned, saidD, h0, h1, hw]
    · simp [turned, saidD, h0, h1, hw]; rw [hf, ← h0]

theorem turn_give (l : List Dl) (c s : Int) : turnD l c s 0 false = giveD l c s := by
  unfold turnD giveD
  split
  · rfl
  · rw [turned_give]
    by_cases h : (atD l c s).ft = 0 <;> simp [givenD, h]

theorem turn_say (l : List Dl) (c s : Int) (mine is : Bool) : turnD l c s (wordD is) mine = sayD l c s mine is := by
  unfold turnD sayD
  split
  · rfl
  · rename_i he
    obtain ⟨hb, -, k, hk, -, -, -, e3⟩ := found_ok (by simpa using he)
    rw [turned_say (by rw [e3]; exact ((books_iff l).1 hb).2.1 _ (List.getElem_mem hk))]

theorem rforget_s (a : Option Addr) (cp : Nat) (l : List Dl) (c s : Int) (hn : l.length ≤ 1048576) (hcp : l.length ≤ cp) (m : M) (h : Row m a (dls l)) : Vc.Spec Try.prog 23 [.slice a l.length cp, I c, I s] m (LsR m (forgetD l c s)) := by
  refine Vc.Spec.of_vc Try.func23 (ann := noAnn) ?_
  refine vc_by (X :=
      true = true ∧
      ∃ (b : Bool),
      QSpec Try.prog (10 : Nat) [Value.slice a l.length cp] m (Value.bool b) ∧
      ifB (!b) (Done (LsR m (forgetD l c s) (Value.tuple #[Value.slice none (0 : Nat) (0 : Nat), Value.int IntKind.i64 (21 : Int)]) m))
      (∃ (n : Int),
      QSpec Try.prog (42 : Nat) [Value.slice a l.length cp, Value.int IntKind.i64 c, Value.int IntKind.i64 s] m (Value.int IntKind.i64 n) ∧
      ifB (decide (n < (0 : Int))) (Done (LsR m (forgetD l c s) (Value.tuple #[Value.slice none (0 : Nat) (0 : Nat), Value.int IntKind.i64 (60 : Int)]) m))
      (∃ (b : Nat),
      ∃ (off : Nat),
      a = some { block := b, off := off : Addr } ∧
      ((0 : Int) ≤ n ∧ n < (↑l.length : Int)) ∧
      ∃ (n_1 : Int),
      CellsAt m b (off + n.toNat * (8 : Nat) + (7 : Nat)) [Value.int IntKind.i64 n_1] ∧
      ifB (n_1 == (0 : Int)) (Done (LsR m (forgetD l c s) (Value.tuple #[Value.slice none (0 : Nat) (0 : Nat), Value.int IntKind.i64 (60 : Int)]) m))
      (true = true ∧
      (true = true ∧ (0 : Int) ≤ (0 : Int) ∧ (0 : Int) ≤ n ∧ n ≤ (↑cp : Int) ∧ True) ∧
      (true = true ∧ (0 : Int) ≤ IntKind.i64.wrap (n + (1 : Int)) ∧ IntKind.i64.wrap (n + (1 : Int)) ≤ (↑l.length : Int) ∧ True ∧ True) ∧
      (∃ (old : List Value),
      ∃ (src : List Value),
      AppPre m.sz (fun (x : Nat) => False) m (8 : Nat) (80 : Nat) none (0 : Nat) (0 : Nat)
      (if (↑cp : Int).toNat = (0 : Nat) then a else Option.map (fun (x : Addr) => x) a) (n.toNat - (0 : Nat)) old src ∧
      ∀ (a' : Option Addr) (c' : Nat) (m' : M),
      AppPost Try.prog (24 : Nat) m (8 : Nat) none (0 : Nat) (0 : Nat) (n.toNat - (0 : Nat)) old src a' c' m' →
      MLe m m' ∧
      (∃ (old : List Value),
      ∃ (src : List Value),
      AppPre m.sz (fun (x : Nat) => False) m' (8 : Nat) (80 : Nat) a' ((0 : Nat) + (n.toNat - (0 : Nat))) c'
      (if (↑cp : Int).toNat = (IntKind.i64.wrap (n + (1 : Int))).toNat then a
      else Option.map (fun (x : Addr) => x.add ((IntKind.i64.wrap (n + (1 : Int))).toNat * Try.prog.types[(24 : Nat)].size)) a)
      ((↑l.length : Int).toNat - (IntKind.i64.wrap (n + (1 : Int))).toNat) old src ∧
      ∀ (a'_1 : Option Addr) (c'_1 : Nat) (m'_1 : M),
      AppPost Try.prog (24 : Nat) m' (8 : Nat) a' ((0 : Nat) + (n.toNat - (0 : Nat))) c'
      ((↑l.length : Int).toNat - (IntKind.i64.wrap (n + (1 : Int))).toNat) old src a'_1 c'_1 m'_1 →
      Done
      (LsR m (forgetD l c s)
      (Value.tuple
      #[Value.slice a'_1
      ((0 : Nat) + (n.toNat - (0 : Nat)) + ((↑l.length : Int).toNat - (IntKind.i64.wrap (n + (1 : Int))).toNat))
      c'_1,
      Value.int IntKind.i64 (0 : Int)])
      m'_1)) ∧
      True) ∧
      True)))) (by kernel_rfl) ?_
  have hh : l.length ≤ 9223372036854775807 := by omega
  refine ⟨rfl, _, rright_q a cp l hh _ h, ?_⟩
  cases hb : booksB l
  · exact ifB_true (ls_fail (by simp [forgetD, foundE, hb]))
  refine ifB_false ⟨_, rplace_q a cp l c s hh _ h, ifB_intro (fun h1 => ls_fail ?_) (fun h1 => ?_)⟩
  · simp at h1; simp [forgetD, foundE, hb, h1]
  have h1 : ¬ placeD l c s < 0 := by simpa using h1
  have he : foundE l c s = 0 := by simp [foundE, hb, h1]
  obtain ⟨-, h4, k, hk, e1, -, -, e3⟩ := found_ok he
  have hf : forgetD l c s = if l[k].ft = 0 then ([], 60) else (l.take k ++ l.drop (k + 1), 0) := by simp [forgetD, he, e3, e1]
  rw [e1]
  simp only [Int.toNat_natCast]
  obtain ⟨b, o, rfl, hc⟩ := h.cells (by rw [dl_len]; omega)
  have c7 := CellsAt.field dl_k hc hk (p := [I l[k].cl, I l[k].sq, .string l[k].ky, .string l[k].ot, I l[k].n, I l[k].mi, I l[k].th]) (old := [I l[k].ft]) (q := []) rfl
  refine ⟨b, o, rfl, by omega, l[k].ft, c7, ifB_intro (fun h2 => ls_fail ?_) (fun h2 => ?_)⟩
  · rw [hf]; simp at h2; simp [h2]
  have h2 : l[k].ft ≠ 0 := by simpa using h2
  have w1 : IntKind.i64.wrap ((k : Int) + 1) = ((k + 1 : Nat) : Int) := by simp [IntKind.wrap_i64]; omega
  rw [w1]
  simp only [Int.toNat_natCast, Nat.sub_zero]
  have ra1 : Row m (if cp = 0 then some (⟨b, o, none⟩ : Addr) else Option.map (fun x : Addr => x) (some ⟨b, o, none⟩)) (dls (l.take k)) := by
    have e : dls l = dls (l.take k) ++ dls (l.drop k) := by rw [← List.flatMap_append, List.take_append_drop]
    have ra := h
    rw [e] at ra
    have := ra.take
    split <;> exact this
  have lt : (l.take k).length = k := by simp; omega
  have ld : (l.drop (k + 1)).length = l.length - (k + 1) := by simp
  have lt1 : (l.take (k + 1)).length = k + 1 := by simp; omega
  have n0 : NewR m.sz (fun _ => False) m 8 none 0 0 [] := .nil _
  have e2 : dls l = dls (l.take (k + 1)) ++ dls (l.drop (k + 1)) := by rw [← List.flatMap_append, List.take_append_drop]
  refine ⟨trivial, ⟨trivial, by omega, by omega, by omega, trivial⟩, ⟨trivial, by omega, by omega, trivial, trivial⟩, ⟨_, _, n0.appPre ra1 (by rw [dl_len, lt]) (dl_one _) (by omega), fun a1 c1 m1 hp => ?_⟩, trivial⟩
  have g1 := n0.append hp (by rw [dl_len, lt]) dl_zr (Nat.le_refl _)
  have g2 := n0.appAgree hp (by rw [dl_len, lt]) (Nat.le_refl _)
  have ra2 := h.agree g2
  rw [e2] at ra2
  refine ⟨MLe.ofAgree (Nat.le_refl _) g2, ⟨_, _, g1.appPre (Row.sub ra2 ?_ ?_) (by rw [dl_len, ld]) (dl_one _) (by omega), fun a2 c2 m2 hp2 => ?_⟩, trivial⟩
  · rw [dl_len, lt1]; kernel_rfl
  · intro e
    rw [List.drop_eq_nil_of_le (by omega)]; rfl
  have g3 := g1.append hp2 (by rw [dl_len, ld]) dl_zr g2.2.2
  have e4 : [] ++ dls (l.take k) ++ dls (l.drop (k + 1)) = dls (l.take k ++ l.drop (k + 1)) := by simp [dls]
  rw [e4] at g3
  exact ls_ok (n := m.sz) (z := l.take k ++ l.drop (k + 1)) (by rw [hf, if_neg h2]) (by simp; omega) g3 (Nat.le_refl _)

end Go.Proofs.Ytoilbbfidnhekaa
