/-
  Contracts of functions of this seat: what each hands back, and what it leaves of memory (deal11). Nothing here is trusted: Lean checks it.
-/
import Derived.Test.YtoilbbfidnhekaaInsen
set_option linter.unusedVariables false
set_option linter.unusedSimpArgs false
namespace Go.Proofs.Ytoilbbfidnhekaa
open Go.Vc Go.RowKit
set_option maxRecDepth 100000

/-- the client's end; 0 -/
def ofE : List En → Int → Int
  | [], _ => 0
  | x :: xs, c => if x.cl = c then x.sq else ofE xs c

theorem ofE_drop {c : Int} : ∀ {l : List En} {k : Nat}, k ≤ l.length → (∀ x ∈ l.take k, x.cl ≠ c) → ofE l c = ofE (l.drop k) c
  | l, 0, _, _ => by simp
  | [], k + 1, h, _ => by simp at h
  | x :: xs, k + 1, h, hl => by
    have hx := hl x (by simp)
    have ih := ofE_drop (l := xs) (k := k) (by simpa using h) fun y hy => hl y (by simp [hy])
    simp only [ofE, List.drop_succ_cons, if_neg hx, ih]

theorem rends_q (a : Option Addr) (cp : Nat) (l : List En) (hn : l.length ≤ 9223372036854775807) (m : M) (h : Row m a (ens l)) : QSpec Try.prog 26 [.slice a l.length cp] m (.bool (endsB 0 l)) := by
  refine QSpec.of_vc Try.func26 (ann := fun n _ => { A := Nat × Int, inv := fun y => y.1 ≤ l.length ∧ endsB 0 l = endsB y.2 (l.drop y.1) ∧ 0 ≤ y.2, st := fun y => [(4, .val (I y.1)), (0, .val (.slice a l.length cp)), (3, .val (I y.2))], own := fun _ => [], m := fun _ => { m with sz := n }, μ := fun y => l.length - y.1 }) fun n hn' => ?_
  refine vc_by (X :=
      true = true ∧
      (∃ (a_1 : Nat × Int),
      (a_1.fst ≤ l.length ∧ endsB (0 : Int) l = endsB a_1.snd (List.drop a_1.fst l) ∧ (0 : Int) ≤ a_1.snd) ∧
      { π := m.π, sz := n, uf := m.uf : M } = { π := m.π, sz := n, uf := m.uf : M } ∧
      ((SV.val (Value.int IntKind.i64 (0 : Int)) = SV.val (Value.int IntKind.i64 (↑a_1.fst : Int)) ∧ true = true) ∧
      (SV.val (Value.slice a l.length cp) = SV.val (Value.slice a l.length cp) ∧ true = true) ∧
      (SV.val (Value.int IntKind.i64 (0 : Int)) = SV.val (Value.int IntKind.i64 a_1.snd) ∧ true = true) ∧ True) ∧
      True) ∧
      ∀ (a_1 : Nat × Int),
      a_1.fst ≤ l.length ∧ endsB (0 : Int) l = endsB a_1.snd (List.drop a_1.fst l) ∧ (0 : Int) ≤ a_1.snd →
      ifB (decide ((↑a_1.fst : Int) < (↑l.length : Int)))
      (∃ (b : Nat),
      ∃ (off : Nat),
      a = some { block := b, off := off : Addr } ∧
      ((0 : Int) ≤ (↑a_1.fst : Int) ∧ (↑a_1.fst : Int) < (↑l.length : Int)) ∧
      ∃ (n_1 : Int),
      CellsAt { π := m.π, sz := n, uf := m.uf : M } b (off + (↑a_1.fst : Int).toNat * (2 : Nat) + (0 : Nat)) [Value.int IntKind.i64 n_1] ∧
      ifB (decide (n_1 ≤ a_1.snd)) (Done (Value.bool false = Value.bool (endsB (0 : Int) l)))
      (∃ (b : Nat),
      ∃ (off : Nat),
      a = some { block := b, off := off : Addr } ∧
      ((0 : Int) ≤ (↑a_1.fst : Int) ∧ (↑a_1.fst : Int) < (↑l.length : Int)) ∧
      ∃ (n_2 : Int),
      CellsAt { π := m.π, sz := n, uf := m.uf : M } b (off + (↑a_1.fst : Int).toNat * (2 : Nat) + (0 : Nat)) [Value.int IntKind.i64 n_2] ∧
      ifB (decide (n_2 > (8 : Int))) (Done (Value.bool false = Value.bool (endsB (0 : Int) l)))
      (∃ (b : Nat),
      ∃ (off : Nat),
      a = some { block := b, off := off : Addr } ∧
      ((0 : Int) ≤ (↑a_1.fst : Int) ∧ (↑a_1.fst : Int) < (↑l.length : Int)) ∧
      ∃ (n_3 : Int),
      CellsAt { π := m.π, sz := n, uf := m.uf : M } b (off + (↑a_1.fst : Int).toNat * (2 : Nat) + (1 : Nat)) [Value.int IntKind.i64 n_3] ∧
      ∃ (b : Bool),
      QSpec Try.prog (52 : Nat) [Value.int IntKind.i64 n_3] { π := m.π, sz := n, uf := m.uf : M } (Value.bool b) ∧
      ifB (!b) (Done (Value.bool false = Value.bool (endsB (0 : Int) l)))
      (∃ (b : Nat),
      ∃ (off : Nat),
      a = some { block := b, off := off : Addr } ∧
      ((0 : Int) ≤ (↑a_1.fst : Int) ∧ (↑a_1.fst : Int) < (↑l.length : Int)) ∧
      ∃ (n_4 : Int),
      CellsAt { π := m.π, sz := n, uf := m.uf : M } b (off + (↑a_1.fst : Int).toNat * (2 : Nat) + (0 : Nat))
      [Value.int IntKind.i64 n_4] ∧
      ∃ (a' : Nat × Int),
      ((a'.fst ≤ l.length ∧ endsB (0 : Int) l = endsB a'.snd (List.drop a'.fst l) ∧ (0 : Int) ≤ a'.snd) ∧
      { π := m.π, sz := n, uf := m.uf : M } = { π := m.π, sz := n, uf := m.uf : M } ∧
      ((SV.val (Value.int IntKind.i64 (IntKind.i64.wrap ((↑a_1.fst : Int) + (1 : Int)))) =
      SV.val (Value.int IntKind.i64 (↑a'.fst : Int)) ∧
      true = true) ∧
      (SV.val (Value.slice a l.length cp) = SV.val (Value.slice a l.length cp) ∧ true = true) ∧
      (SV.val (Value.int IntKind.i64 n_4) = SV.val (Value.int IntKind.i64 a'.snd) ∧ true = true) ∧
      True) ∧
      True) ∧
      l.length - a'.fst < l.length - a_1.fst))))
      (Done (Value.bool true = Value.bool (endsB (0 : Int) l)))) (by kernel_rfl) ?_
  have h' := h.sz hn'
  refine ⟨rfl, ⟨⟨0, 0⟩, by simp⟩, fun y ⟨hk, hq, hz⟩ => ifB_intro (fun hb => ?_) (fun hb => ⟨?_⟩)⟩
  · have hk2 : y.1 < l.length := by simpa using hb
    obtain ⟨b, o, rfl, hc⟩ := h'.cells (by rw [en_len]; omega)
    have w1 : IntKind.i64.wrap ((y.1 : Int) + 1) = ((y.1 + 1 : Nat) : Int) := by simp [IntKind.wrap_i64]; omega
    rw [List.drop_eq_getElem_cons hk2, endsB] at hq
    have c0 := CellsAt.field en_k hc hk2 (p := []) (old := [I l[y.1].cl]) (q := [I l[y.1].sq]) rfl
    have c1 := CellsAt.field en_k hc hk2 (p := [I l[y.1].cl]) (old := [I l[y.1].sq]) (q := []) rfl
    refine ⟨b, o, rfl, by omega, _, by simpa using c0, ifB_intro (fun h1 => ⟨?_⟩) (fun h1 => ⟨b, o, rfl, by omega, _, by simpa using c0, ifB_intro (fun h2 => ⟨?_⟩) (fun h2 => ⟨b, o, rfl, by omega, _, by simpa using c1, _, rseq_q _ _, ifB_intro (fun h3 => ⟨?_⟩) (fun h3 => ⟨b, o, rfl, by omega, _, by simpa using c0, ⟨y.1 + 1, l[y.1].cl⟩, ⟨⟨hk2, ?_, ?_⟩, by simp [w1]⟩, by simp only; omega⟩)⟩)⟩)⟩
    · rw [hq]; have h1 : ¬ y.2 < l[y.1].cl := by simp at h1; omega
      simp [h1]
    all_goals have h1 : y.2 < l[y.1].cl := by simp at h1; omega
    · rw [hq]; have h2 : ¬ l[y.1].cl ≤ 8 := by simp at h2; omega
      simp [whoseB, h2]
    all_goals have h2 : l[y.1].cl ≤ 8 := by simp at h2; omega
    · rw [hq]; have h3 : ¬ (1 ≤ l[y.1].sq ∧ l[y.1].sq ≤ 4611686018427387904) := by simp at h3; omega
      have : whoseB l[y.1].cl l[y.1].sq = false := by simp [whoseB]; omega
      simp [this]
    · rw [hq]; have h3 : 1 ≤ l[y.1].sq ∧ l[y.1].sq ≤ 4611686018427387904 := by simp at h3; omega
      have : whoseB l[y.1].cl l[y.1].sq = true := by simp [whoseB]; omega
      simp [this, h1]
    · simp only; omega
  · have : y.1 = l.length := by simp at hb; omega
    rw [this] at hq
    simp [hq, endsB]

theorem rof_q (a : Option Addr) (cp : Nat) (l : List En) (c : Int) (hn : l.length ≤ 9223372036854775807) (m : M) (h : Row m a (ens l)) : QSpec Try.prog 58 [.slice a l.length cp, I c] m (I (ofE l c)) := by
  refine QSpec.of_vc Try.func58 (ann := fun n _ => { A := Nat, inv := fun k => k ≤ l.length ∧ ∀ x ∈ l.take k, x.cl ≠ c, st := fun k => [(5, .val (I k)), (0, .val (.slice a l.length cp)), (1, .val (I c))], own := fun _ => [], m := fun _ => { m with sz := n }, μ := fun k => l.length - k }) fun n hn' => ?_
  refine vc_by (X :=
      true = true ∧
      (∃ (a_1 : Nat),
      (a_1 ≤ l.length ∧ ∀ (x : En), x ∈ List.take a_1 l → x.cl ≠ c) ∧
      { π := m.π, sz := n, uf := m.uf : M } = { π := m.π, sz := n, uf := m.uf : M } ∧
      ((SV.val (Value.int IntKind.i64 (0 : Int)) = SV.val (Value.int IntKind.i64 (↑a_1 : Int)) ∧ true = true) ∧
      (SV.val (Value.slice a l.length cp) = SV.val (Value.slice a l.length cp) ∧ true = true) ∧
      (SV.val (Value.int IntKind.i64 c) = SV.val (Value.int IntKind.i64 c) ∧ true = true) ∧ True) ∧
      True) ∧
      ∀ (a_1 : Nat),
      (a_1 ≤ l.length ∧ ∀ (x : En), x ∈ List.take a_1 l → x.cl ≠ c) →
      ifB (decide ((↑a_1 : Int) < (↑l.length : Int)))
      (∃ (b : Nat),
      ∃ (off : Nat),
      a = some { block := b, off := off : Addr } ∧
      ((0 : Int) ≤ (↑a_1 : Int) ∧ (↑a_1 : Int) < (↑l.length : Int)) ∧
      ∃ (n_1 : Int),
      CellsAt { π := m.π, sz := n, uf := m.uf : M } b (off + (↑a_1 : Int).toNat * (2 : Nat) + (0 : Nat)) [Value.int IntKind.i64 n_1] ∧
      ifB (n_1 == c)
      (∃ (b : Nat),
      ∃ (off : Nat),
      a = some { block := b, off := off : Addr } ∧
      ((0 : Int) ≤ (↑a_1 : Int) ∧ (↑a_1 : Int) < (↑l.length : Int)) ∧
      ∃ (n_2 : Int),
      CellsAt { π := m.π, sz := n, uf := m.uf : M } b (off + (↑a_1 : Int).toNat * (2 : Nat) + (1 : Nat)) [Value.int IntKind.i64 n_2] ∧
      Done (Value.int IntKind.i64 n_2 = Value.int IntKind.i64 (ofE l c)))
      (∃ (a' : Nat),
      ((a' ≤ l.length ∧ ∀ (x : En), x ∈ List.take a' l → x.cl ≠ c) ∧
      { π := m.π, sz := n, uf := m.uf : M } = { π := m.π, sz := n, uf := m.uf : M } ∧
      ((SV.val (Value.int IntKind.i64 (IntKind.i64.wrap ((↑a_1 : Int) + (1 : Int)))) = SV.val (Value.int IntKind.i64 (↑a' : Int)) ∧ true = true) ∧
      (SV.val (Value.slice a l.length cp) = SV.val (Value.slice a l.length cp) ∧ true = true) ∧
      (SV.val (Value.int IntKind.i64 c) = SV.val (Value.int IntKind.i64 c) ∧ true = true) ∧ True) ∧
      True) ∧
      l.length - a' < l.length - a_1))
      (Done (Value.int IntKind.i64 (0 : Int) = Value.int IntKind.i64 (ofE l c)))) (by kernel_rfl) ?_
  have h' := h.sz hn'
  refine ⟨rfl, ⟨0, by simp⟩, fun k ⟨hk, hq⟩ => ifB_intro (fun hb => ?_) (fun hb => ⟨?_⟩)⟩
  · have hk2 : k < l.length := by simpa using hb
    obtain ⟨b, o, rfl, hc⟩ := h'.cells (by rw [en_len]; omega)
    have w1 : IntKind.i64.wrap ((k : Int) + 1) = ((k + 1 : Nat) : Int) := by simp [IntKind.wrap_i64]; omega
    have c0 := CellsAt.field en_k hc hk2 (p := []) (old := [I l[k].cl]) (q := [I l[k].sq]) rfl
    have c1 := CellsAt.field en_k hc hk2 (p := [I l[k].cl]) (old := [I l[k].sq]) (q := []) rfl
    have hd := ofE_drop hk hq
    rw [List.drop_eq_getElem_cons hk2, ofE] at hd
    refine ⟨b, o, rfl, by omega, _, by simpa using c0, ifB_intro (fun h1 => ⟨b, o, rfl, by omega, _, by simpa using c1, ⟨?_⟩⟩) (fun h1 => ⟨k + 1, ⟨⟨hk2, fun x hx => ?_⟩, by simp [w1]⟩, by omega⟩)⟩
    · have h1 : l[k].cl = c := by simpa using h1
      rw [if_pos h1] at hd
      rw [hd]
    · rw [List.take_succ_eq_append_getElem hk2, List.mem_append] at hx
      rcases hx with hx | hx
      · exact hq x hx
      · have hx : x = l[k] := by simpa using hx
        subst hx
        simpa using h1
  · have : k = l.length := by simp at hb; omega
    subst this
    have hd := ofE_drop hk hq
    simp [ofE] at hd
    rw [hd]

theorem rpast_q (a : Option Addr) (cp : Nat) (l : List En) (c s : Int) (hn : l.length ≤ 9223372036854775807) (m : M) (h : Row m a (ens l)) : QSpec Try.prog 34 [.slice a l.length cp, I c, I s] m (.bool (endsB 0 l && decide (0 < ofE l c) && decide (s ≤ ofE l c))) := by
  refine QSpec.of_vc Try.func34 (ann := fun _ => noAnn) fun n hn' => ?_
  refine vc_by (X :=
      true = true ∧
      ∃ (n_1 : Int),
      QSpec Try.prog (58 : Nat) [Value.slice a l.length cp, Value.int IntKind.i64 c] { π := m.π, sz := n, uf := m.uf : M } (Value.int IntKind.i64 n_1) ∧
      ∃ (b : Bool),
      QSpec Try.prog (26 : Nat) [Value.slice a l.length cp] { π := m.π, sz := n, uf := m.uf : M } (Value.bool b) ∧
      ifB b
      (ifB (decide (n_1 > (0 : Int))) (Done (Value.bool (decide (n_1 ≥ s)) = Value.bool (endsB (0 : Int) l && decide ((0 : Int) < ofE l c) && decide (s ≤ ofE l c))))
      (Done (Value.bool false = Value.bool (endsB (0 : Int) l && decide ((0 : Int) < ofE l c) && decide (s ≤ ofE l c)))))
      (Done (Value.bool false = Value.bool (endsB (0 : Int) l && decide ((0 : Int) < ofE l c) && decide (s ≤ ofE l c))))) (by kernel_rfl) ?_
  have h' := h.sz hn'
  refine ⟨rfl, _, rof_q a cp l c hn _ h', _, rends_q a cp l hn _ h', ifB_intro (fun h1 => ifB_intro (fun h2 => ⟨?_⟩) (fun h2 => ⟨?_⟩)) (fun h1 => ⟨?_⟩)⟩
  · simp at h2; simp [h1, h2]
  · simp at h2; simp [h1]; omega
  · simp [h1]

theorem ends_mem : ∀ {l : List En} {last : Int}, endsB last l = true → ∀ x ∈ l, last < x.cl ∧ whoseB x.cl x.sq = true
  | [], _, _, x, hx => by simp at hx
  | y :: ys, last, h, x, hx => by
    simp only [endsB, Bool.and_eq_true, decide_eq_true_eq] at h
    rcases List.mem_cons.1 hx with rfl | hx
    · exact h.1
    · have := ends_mem h.2 x hx
      exact ⟨by omega, this.2⟩

theorem past_law : ∀ (l : List En) (c s last : Int), endsB last l = true → (match l[endP l c]? with | some x => decide (x.cl = c) && decide (s ≤ x.sq) | none => false) = (decide (0 < ofE l c) && decide (s ≤ ofE l c))
  | [], _, _, _, _ => by simp [ofE]
  | x :: xs, c, s, last, h => by
    simp only [endsB, Bool.and_eq_true, decide_eq_true_eq] at h
    have hw : 1 ≤ x.sq := by have := h.1.2; simp [whoseB] at this; omega
    by_cases h1 : c ≤ x.cl
    · by_cases h2 : x.cl = c
      · have : 0 < x.sq := by omega
        simp [endP, h1, ofE, h2, this]
      · have h3 : ofE xs c = 0 := by
          have : ∀ y ∈ xs, y.cl ≠ c := fun y hy => by have := (ends_mem h.2 y hy).1; omega
          have := ofE_drop (l := xs) (k := xs.length) (Nat.le_refl _) (c := c) (by simpa using this)
          simpa [ofE] using this
        simp [endP, h1, ofE, h2, h3]
    · have h2 : x.cl ≠ c := by omega
      have := past_law xs c s x.cl h.2
      simp only [endP, if_neg h1, ofE, if_neg h2, List.getElem?_cons_succ]
      exact this

theorem past_eq (l : List En) (c s : Int) : pastB l c s = (endsB 0 l && decide (0 < ofE l c) && decide (s ≤ ofE l c)) := by
  cases h : endsB 0 l
  · unfold pastB; split <;> simp [h]
  · have := past_law l c s 0 h
    rw [Bool.true_and, ← this]
    unfold pastB; split <;> rename_i hx <;> simp [h, hx]

end Go.Proofs.Ytoilbbfidnhekaa
