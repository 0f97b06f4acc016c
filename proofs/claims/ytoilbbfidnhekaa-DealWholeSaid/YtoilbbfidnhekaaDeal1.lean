/-
  Contracts of functions of this seat: what each hands back, and what it leaves of memory (deal1). Nothing here is trusted: Lean checks it.
-/
import Derived.Test.YtoilbbfidnhekaaIdxdl
import Derived.Test.YtoilbbfidnhekaaDeldl
set_option linter.unusedVariables false
set_option linter.unusedSimpArgs false
namespace Go.Proofs.Ytoilbbfidnhekaa
open Go.Vc Go.RowKit
set_option maxRecDepth 100000

def whoseB (c s : Int) : Bool := decide (1 ≤ c) && decide (c ≤ 8) && decide (1 ≤ s) && decide (s ≤ 4611686018427387904)

def fateV (a b : Int) : Int := if a = 2 ∨ b = 2 then 2 else if a = 1 ∧ b = 1 then 1 else 0

def keyB (k : ByteArray) : Bool := decide (1 ≤ k.size) && decide (k.size ≤ 16)

def mayB (d : Dl) : Bool := whoseB d.cl d.sq && keyB d.ky && keyB d.ot && !decide (d.ky = d.ot) && decide (1 ≤ d.n) && decide (0 ≤ d.mi) && decide (d.mi ≤ 2) && decide (0 ≤ d.th) && decide (d.th ≤ 2) &&
  (decide (d.ft = fateV d.mi d.th) || (decide (fateV d.mi d.th = 0) && decide (d.ft = 2)))

def isD (c s : Int) (d : Dl) : Bool := decide (d.cl = c) && decide (d.sq = s)

def placeD (l : List Dl) (c s : Int) : Int := idxF (isD c s) l

def okAt (l : List Dl) (j : Nat) : Bool := match l[j]? with | some d => mayB d && decide (placeD l d.cl d.sq = j) | none => true

def okTo (l : List Dl) (k : Nat) : Bool := (List.range k).all (okAt l)

def booksB (l : List Dl) : Bool := decide (l.length ≤ 4) && okTo l l.length

theorem okTo_succ (l : List Dl) (k : Nat) : okTo l (k + 1) = (okTo l k && okAt l k) := by
  simp [okTo, List.range_succ]

theorem okTo_le {l : List Dl} {k n : Nat} (h : okTo l n = true) (hk : k ≤ n) : okTo l k = true := by
  simp only [okTo, List.all_eq_true, List.mem_range] at h ⊢
  intro x hx; exact h x (by omega)

theorem whose_q (c s : Int) (m : M) : QSpec Try.prog 53 [I c, I s] m (.bool (whoseB c s)) := by
  refine QSpec.of_vc Try.func53 (ann := fun _ => noAnn) fun n hn => ?_
  refine vc_by (X :=
      true = true ∧
      ifB (decide (c ≥ (1 : Int)))
      (ifB (decide (c ≤ (8 : Int)))
      (ifB (decide (s ≥ (1 : Int))) (Done (Value.bool (decide (s ≤ (4611686018427387904 : Int))) = Value.bool (whoseB c s))) (Done (Value.bool false = Value.bool (whoseB c s))))
      (Done (Value.bool false = Value.bool (whoseB c s))))
      (Done (Value.bool false = Value.bool (whoseB c s)))) (by kernel_rfl) ?_
  refine ⟨rfl, ?_⟩
  repeat' (refine ifB_intro (fun h => ?_) (fun h => ?_))
  all_goals (refine ⟨?_⟩; simp at *; simp [whoseB]; omega)

theorem fate_q (a b : Int) (m : M) : QSpec Try.prog 48 [I a, I b] m (I (fateV a b)) := by
  refine QSpec.of_vc Try.func48 (ann := fun _ => noAnn) fun n hn => ?_
  refine vc_by (X :=
      true = true ∧
      ifB (a == (2 : Int)) (Done (Value.int IntKind.i64 (2 : Int) = Value.int IntKind.i64 (fateV a b)))
      (ifB (b == (2 : Int)) (Done (Value.int IntKind.i64 (2 : Int) = Value.int IntKind.i64 (fateV a b)))
      (ifB (a == (1 : Int))
      (ifB (b == (1 : Int)) (Done (Value.int IntKind.i64 (1 : Int) = Value.int IntKind.i64 (fateV a b)))
      (Done (Value.int IntKind.i64 (0 : Int) = Value.int IntKind.i64 (fateV a b))))
      (Done (Value.int IntKind.i64 (0 : Int) = Value.int IntKind.i64 (fateV a b)))))) (by kernel_rfl) ?_
  refine ⟨rfl, ?_⟩
  repeat' (refine ifB_intro (fun h => ?_) (fun h => ?_))
  all_goals (refine ⟨?_⟩; simp at *; simp [fateV, *])

theorem may_q (d : Dl) (m : M) : QSpec Try.prog 44 [dlv d] m (.bool (mayB d)) := by
  refine QSpec.of_vc Try.func44 (ann := fun _ => noAnn) fun n hn => ?_
  refine vc_by (X :=
      true = true ∧
      ∃ (b : Bool),
      QSpec Try.prog (53 : Nat) [Value.int IntKind.i64 d.cl, Value.int IntKind.i64 d.sq] { π := m.π, sz := n, uf := m.uf : M } (Value.bool b) ∧
      ifB (!b) (Done (Value.bool false = Value.bool (mayB d)))
      (ifB (decide (d.n < (1 : Int))) (Done (Value.bool false = Value.bool (mayB d)))
      (ifB (d.ky.toList == d.ot.toList) (Done (Value.bool false = Value.bool (mayB d)))
      (ifB (decide (d.mi < (0 : Int))) (Done (Value.bool false = Value.bool (mayB d)))
      (ifB (decide (d.mi > (2 : Int))) (Done (Value.bool false = Value.bool (mayB d)))
      (ifB (decide (d.th < (0 : Int))) (Done (Value.bool false = Value.bool (mayB d)))
      (ifB (decide (d.th > (2 : Int))) (Done (Value.bool false = Value.bool (mayB d)))
      (ifB (decide ((↑d.ky.size : Int) < (1 : Int))) (Done (Value.bool false = Value.bool (mayB d)))
      (ifB (decide ((↑d.ky.size : Int) > (16 : Int))) (Done (Value.bool false = Value.bool (mayB d)))
      (ifB (decide ((↑d.ot.size : Int) < (1 : Int))) (Done (Value.bool false = Value.bool (mayB d)))
      (ifB (decide ((↑d.ot.size : Int) > (16 : Int))) (Done (Value.bool false = Value.bool (mayB d)))
      (∃ (n_1 : Int),
      QSpec Try.prog (48 : Nat) [Value.int IntKind.i64 d.mi, Value.int IntKind.i64 d.th] { π := m.π, sz := n, uf := m.uf : M } (Value.int IntKind.i64 n_1) ∧
      ifB (d.ft == n_1) (Done (Value.bool true = Value.bool (mayB d)))
      (ifB (n_1 == (0 : Int)) (Done (Value.bool (d.ft == (2 : Int)) = Value.bool (mayB d))) (Done (Value.bool false = Value.bool (mayB d)))))))))))))))) (by kernel_rfl) ?_
  refine ⟨rfl, _, whose_q _ _ _, ?_⟩
  rw [bytes_beq]
  refine ifB_intro (fun h1 => ⟨?_⟩) (fun h1 => ifB_intro (fun h2 => ⟨?_⟩) (fun h2 => ifB_intro (fun h3 => ⟨?_⟩) (fun h3 => ifB_intro (fun h4 => ⟨?_⟩) (fun h4 => ifB_intro (fun h5 => ⟨?_⟩) (fun h5 => ifB_intro (fun h6 => ⟨?_⟩) (fun h6 => ifB_intro (fun h7 => ⟨?_⟩) (fun h7 => ifB_intro (fun h8 => ⟨?_⟩) (fun h8 => ifB_intro (fun h9 => ⟨?_⟩) (fun h9 => ifB_intro (fun h10 => ⟨?_⟩) (fun h10 => ifB_intro (fun h11 => ⟨?_⟩) (fun h11 => ⟨_, fate_q _ _ _, ifB_intro (fun h12 => ⟨?_⟩) (fun h12 => ifB_intro (fun h13 => ⟨?_⟩) (fun h13 => ⟨?_⟩))⟩)))))))))))
  · simp at h1; simp [mayB, h1]
  · simp at h2; simp [mayB]; omega
  · simp at h3; simp [mayB, h3]
  · simp at h4; simp [mayB]; omega
  · simp at h5; simp [mayB]; omega
  · simp at h6; simp [mayB]; omega
  · simp at h7; simp [mayB]; omega
  · simp at h8; simp [mayB, keyB]; omega
  · simp at h9; simp [mayB, keyB]; omega
  · simp at h10; simp [mayB, keyB]; omega
  · simp at h11; simp [mayB, keyB]; omega
  all_goals
    have k1 : keyB d.ky = true := by simp at h8 h9; simp [keyB]; omega
    have k2 : keyB d.ot = true := by simp at h10 h11; simp [keyB]; omega
    have h1 : whoseB d.cl d.sq = true := by simpa using h1
    have h2 : 1 ≤ d.n := by simp at h2; omega
    have h3 : ¬ d.ky = d.ot := by simpa using h3
    have h4 : 0 ≤ d.mi := by simp at h4; omega
    have h5 : d.mi ≤ 2 := by simp at h5; omega
    have h6 : 0 ≤ d.th := by simp at h6; omega
    have h7 : d.th ≤ 2 := by simp at h7; omega
  · have h12 : d.ft = fateV d.mi d.th := by simpa using h12
    simp [mayB, k1, k2, h1, h2, h3, h4, h5, h6, h7, h12]
  · have h12 : ¬ d.ft = fateV d.mi d.th := by simpa using h12
    have h13 : fateV d.mi d.th = 0 := by simpa using h13
    rw [h13] at h12
    simp [mayB, k1, k2, h1, h2, h3, h4, h5, h6, h7, h12, h13]
    rfl
  · have h12 : ¬ d.ft = fateV d.mi d.th := by simpa using h12
    have h13 : ¬ fateV d.mi d.th = 0 := by simpa using h13
    simp [mayB, h12, h13]

theorem pl_q (d : Dl) (b1 b2 : Nat) (c s : Int) (m : M) (h1 : CellsAt m b1 0 [I c]) (h2 : CellsAt m b2 0 [I s]) : QSpec Try.prog 75 [dlv d, .pointer (some ⟨b1, 0, none⟩), .pointer (some ⟨b2, 0, none⟩)] m (.bool (isD c s d)) := by
  refine QSpec.of_vc Try.func75 (ann := fun _ => noAnn) fun n hn => ?_
  refine vc_by (X :=
      true = true ∧
      ∃ (n_1 : Int),
      CellsAt { π := m.π, sz := n, uf := m.uf : M } b1 (0 : Nat) [Value.int IntKind.i64 n_1] ∧
      ifB (d.cl == n_1)
      (∃ (n_2 : Int), CellsAt { π := m.π, sz := n, uf := m.uf : M } b2 (0 : Nat) [Value.int IntKind.i64 n_2] ∧ Done (Value.bool (d.sq == n_2) = Value.bool (isD c s d)))
      (Done (Value.bool false = Value.bool (isD c s d)))) (by kernel_rfl) ?_
  refine ⟨rfl, c, ⟨h1.out⟩, ifB_intro (fun h => ⟨s, ⟨h2.out⟩, ⟨?_⟩⟩) (fun h => ⟨?_⟩)⟩
  · simp at h; simp [isD, h, Bool.beq_eq_decide_eq]
  · simp at h; simp [isD, h]

theorem place_q (a : Option Addr) (cp : Nat) (l : List Dl) (c s : Int) (hn : l.length ≤ 9223372036854775807) (m : M) (h : Row m a (dls l)) : QSpec Try.prog 43 [.slice a l.length cp, I c, I s] m (I (placeD l c s)) := by
  refine QSpec.of_vc Try.func43 (ann := fun _ => noAnn) fun n hn' => ?_
  refine vc_by (X :=
      true = true ∧
      ∀ (b : Nat),
      Fresh n { π := m.π, sz := n, uf := m.uf : M } b →
      ∀ (b_1 : Nat),
      Fresh n ({ π := m.π, sz := n, uf := m.uf : M }.newBlock b [Value.int IntKind.i64 c]) b_1 →
      ∃ (n_1 : Int),
      QSpec Try.prog (74 : Nat)
      [Value.slice a l.length cp,
      Value.func (Fn.func (75 : Nat)) #[]
      #[Value.pointer (some { block := b, off := (0 : Nat) : Addr }), Value.pointer (some { block := b_1, off := (0 : Nat) : Addr })]]
      (({ π := m.π, sz := n, uf := m.uf : M }.newBlock b [Value.int IntKind.i64 c]).newBlock b_1 [Value.int IntKind.i64 s]) (Value.int IntKind.i64 n_1) ∧
      Done (Value.int IntKind.i64 n_1 = Value.int IntKind.i64 (placeD l c s))) (by kernel_rfl) ?_
  refine ⟨rfl, fun b1 hf1 b2 hf2 => ?_⟩
  have hne := fresh_ne hf2
  have c2 : CellsAt ((({ m with sz := n } : M).newBlock b1 [I c]).newBlock b2 [I s]) b2 0 [I s] := cellsAt_new
  have c1 : CellsAt ((({ m with sz := n } : M).newBlock b1 [I c]).newBlock b2 [I s]) b1 0 [I c] := cellsAt_new.of (newBlock_other hne)
  exact ⟨_, dl_idx a cp l b1 b2 (isD c s) hn _ (h.fresh2 hn' hf1 hf2) fun x _ n' _ => pl_q x b1 b2 c s _ ⟨c1.out⟩ ⟨c2.out⟩, ⟨rfl⟩⟩

theorem check_q (a : Option Addr) (cp : Nat) (l : List Dl) (hn : l.length ≤ 9223372036854775807) (m : M) (h : Row m a (dls l)) : QSpec Try.prog 16 [.slice a l.length cp] m (I (if booksB l then 0 else 21)) := by
  refine QSpec.of_vc Try.func16 (ann := fun n _ => { A := Nat, inv := fun k => k ≤ l.length ∧ okTo l k = true ∧ l.length ≤ 4, st := fun k => [(10, .val (I k)), (9, .val (I l.length)), (8, .val (.slice a l.length cp)), (0, .val (.slice a l.length cp))], own := fun _ => [], m := fun _ => { m with sz := n }, μ := fun k => l.length - k }) fun n hn' => ?_
  refine vc_by (X :=
      true = true ∧
      ifB (decide ((↑l.length : Int) > (4 : Int))) (Done (Value.int IntKind.i64 (21 : Int) = Value.int IntKind.i64 (if booksB l = true then (0 : Int) else (21 : Int))))
      ((∃ (a_1 : Nat),
      (a_1 ≤ l.length ∧ okTo l a_1 = true ∧ l.length ≤ (4 : Nat)) ∧
      { π := m.π, sz := n, uf := m.uf : M } = { π := m.π, sz := n, uf := m.uf : M } ∧
      ((SV.val (Value.int IntKind.i64 (0 : Int)) = SV.val (Value.int IntKind.i64 (↑a_1 : Int)) ∧ true = true) ∧
      (SV.val (Value.int IntKind.i64 (↑l.length : Int)) = SV.val (Value.int IntKind.i64 (↑l.length : Int)) ∧ true = true) ∧
      (SV.val (Value.slice a l.length cp) = SV.val (Value.slice a l.length cp) ∧ true = true) ∧
      (SV.val (Value.slice a l.length cp) = SV.val (Value.slice a l.length cp) ∧ true = true) ∧ True) ∧
      True) ∧
      ∀ (a_1 : Nat),
      a_1 ≤ l.length ∧ okTo l a_1 = true ∧ l.length ≤ (4 : Nat) →
      ifB (decide ((↑a_1 : Int) < (↑l.length : Int)))
      (∃ (b : Nat),
      ∃ (off : Nat),
      a = some { block := b, off := off : Addr } ∧
      ((0 : Int) ≤ (↑a_1 : Int) ∧ (↑a_1 : Int) < (↑l.length : Int)) ∧
      ∃ (n_1 : Int),
      ∃ (n_2 : Int),
      ∃ (s : ByteArray),
      ∃ (s_1 : ByteArray),
      ∃ (n_3 : Int),
      ∃ (n_4 : Int),
      ∃ (n_5 : Int),
      ∃ (n_6 : Int),
      CellsAt { π := m.π, sz := n, uf := m.uf : M } b (off + (↑a_1 : Int).toNat * (8 : Nat))
      [Value.int IntKind.i64 n_1, Value.int IntKind.i64 n_2, Value.string s, Value.string s_1, Value.int IntKind.i64 n_3,
      Value.int IntKind.i64 n_4, Value.int IntKind.i64 n_5, Value.int IntKind.i64 n_6] ∧
      ∃ (b : Bool),
      QSpec Try.prog (44 : Nat)
      [Value.agg
      #[Value.int IntKind.i64 n_1, Value.int IntKind.i64 n_2, Value.string s, Value.string s_1, Value.int IntKind.i64 n_3,
      Value.int IntKind.i64 n_4, Value.int IntKind.i64 n_5, Value.int IntKind.i64 n_6]]
      { π := m.π, sz := n, uf := m.uf : M } (Value.bool b) ∧
      ifB (!b) (Done (Value.int IntKind.i64 (21 : Int) = Value.int IntKind.i64 (if booksB l = true then (0 : Int) else (21 : Int))))
      (∃ (n_7 : Int),
      QSpec Try.prog (43 : Nat) [Value.slice a l.length cp, Value.int IntKind.i64 n_1, Value.int IntKind.i64 n_2]
      { π := m.π, sz := n, uf := m.uf : M } (Value.int IntKind.i64 n_7) ∧
      ifB (n_7 != (↑a_1 : Int))
      (Done (Value.int IntKind.i64 (21 : Int) = Value.int IntKind.i64 (if booksB l = true then (0 : Int) else (21 : Int))))
      (∃ (a' : Nat),
      ((a' ≤ l.length ∧ okTo l a' = true ∧ l.length ≤ (4 : Nat)) ∧
      { π := m.π, sz := n, uf := m.uf : M } = { π := m.π, sz := n, uf := m.uf : M } ∧
      ((SV.val (Value.int IntKind.i64 (IntKind.i64.wrap ((↑a_1 : Int) + (1 : Int)))) =
      SV.val (Value.int IntKind.i64 (↑a' : Int)) ∧
      true = true) ∧
      (SV.val (Value.int IntKind.i64 (↑l.length : Int)) = SV.val (Value.int IntKind.i64 (↑l.length : Int)) ∧ true = true) ∧
      (SV.val (Value.slice a l.length cp) = SV.val (Value.slice a l.length cp) ∧ true = true) ∧
      (SV.val (Value.slice a l.length cp) = SV.val (Value.slice a l.length cp) ∧ true = true) ∧ True) ∧
      True) ∧
      l.length - a' < l.length - a_1)))
      (Done (Value.int IntKind.i64 (0 : Int) = Value.int IntKind.i64 (if booksB l = true then (0 : Int) else (21 : Int)))))) (by kernel_rfl) ?_
  have h' := h.sz hn'
  refine ⟨rfl, ifB_intro (fun h1 => ⟨?_⟩) (fun h1 => ⟨⟨0, by simp at h1; simp [okTo]; omega⟩, fun k ⟨hk, hq, h4⟩ => ifB_intro (fun hb => ?_) (fun hb => ⟨?_⟩)⟩)⟩
  · have : ¬ l.length ≤ 4 := by simp at h1; omega
    simp [booksB, this]
  · have hk2 : k < l.length := by simpa using hb
    obtain ⟨b, o, rfl, hc⟩ := h'.cells (by rw [dl_len]; omega)
    have w1 : IntKind.i64.wrap ((k : Int) + 1) = ((k + 1 : Nat) : Int) := by simp [IntKind.wrap_i64]; omega
    have hok : okAt l k = (mayB l[k] && decide (placeD l l[k].cl l[k].sq = k)) := by simp [okAt, List.getElem?_eq_getElem hk2]
    have bad : okAt l k = false → Done (I 21 = I (if booksB l = true then 0 else 21)) := fun hh => by
      have : booksB l = false := by
        cases hbk : booksB l with
        | false => rfl
        | true =>
          simp only [booksB, Bool.and_eq_true] at hbk
          have := okTo_le hbk.2 (by omega : k + 1 ≤ l.length)
          rw [okTo_succ, hh] at this
          simp at this
      exact ⟨by simp [this]⟩
    refine ⟨b, o, rfl, by omega, _, _, _, _, _, _, _, _, by simpa using dl_at hc hk2, _, may_q l[k] _, ifB_intro (fun h2 => bad ?_) (fun h2 => ⟨_, place_q _ cp l l[k].cl l[k].sq hn _ h', ifB_intro (fun h3 => bad ?_) (fun h3 => ⟨k + 1, ⟨⟨hk2, ?_, h4⟩, by simp [w1]⟩, by omega⟩)⟩)⟩
    · rw [hok]; simp at h2; simp [h2]
    · rw [hok]; simp at h3; simp [h3]
    · rw [okTo_succ, hq, hok]; simp at h2 h3; simp [h2, h3]
  · have : k = l.length := by simp at hb; omega
    subst this
    simp [booksB, hq, h4]

end Go.Proofs.Ytoilbbfidnhekaa
