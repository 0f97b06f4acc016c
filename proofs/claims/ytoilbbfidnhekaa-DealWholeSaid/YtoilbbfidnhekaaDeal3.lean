/-
  Contracts of functions of this seat: what each hands back, and what it leaves of memory (deal3). Nothing here is trusted: Lean checks it.
-/
import Derived.Test.YtoilbbfidnhekaaDeal2
set_option linter.unusedVariables false
set_option linter.unusedSimpArgs false
namespace Go.Proofs.Ytoilbbfidnhekaa
open Go.Vc Go.RowKit
set_option maxRecDepth 100000

theorem rclient_q (n' : Int) (m : M) : QSpec Try.prog 57 [I n'] m (.bool (decide (1 ≤ n') && decide (n' ≤ 8))) := by
  refine QSpec.of_vc Try.func57 (ann := fun _ => noAnn) fun n hn => ?_
  refine vc_by (X :=
      true = true ∧
      ifB (decide (n' ≥ (1 : Int))) (Done (Value.bool (decide (n' ≤ (8 : Int))) = Value.bool (decide ((1 : Int) ≤ n') && decide (n' ≤ (8 : Int)))))
      (Done (Value.bool false = Value.bool (decide ((1 : Int) ≤ n') && decide (n' ≤ (8 : Int)))))) (by kernel_rfl) ?_
  refine ⟨rfl, ifB_intro (fun h => ⟨?_⟩) (fun h => ⟨?_⟩)⟩
  · have h : 1 ≤ n' := by simpa using h
    simp [h]
  · simp at h
    have h : ¬ 1 ≤ n' := by omega
    simp [h]

theorem rseq_q (n' : Int) (m : M) : QSpec Try.prog 52 [I n'] m (.bool (decide (1 ≤ n') && decide (n' ≤ 4611686018427387904))) := by
  refine QSpec.of_vc Try.func52 (ann := fun _ => noAnn) fun n hn => ?_
  refine vc_by (X :=
      true = true ∧
      ifB (decide (n' ≥ (1 : Int))) (Done (Value.bool (decide (n' ≤ (4611686018427387904 : Int))) = Value.bool (decide ((1 : Int) ≤ n') && decide (n' ≤ (4611686018427387904 : Int)))))
      (Done (Value.bool false = Value.bool (decide ((1 : Int) ≤ n') && decide (n' ≤ (4611686018427387904 : Int)))))) (by kernel_rfl) ?_
  refine ⟨rfl, ifB_intro (fun h => ⟨?_⟩) (fun h => ⟨?_⟩)⟩
  · have h : 1 ≤ n' := by simpa using h
    simp [h]
  · simp at h
    have h : ¬ 1 ≤ n' := by omega
    simp [h]

theorem rkey_q (k : ByteArray) (m : M) : QSpec Try.prog 59 [.string k] m (.bool (keyB k)) := by
  refine QSpec.of_vc Try.func59 (ann := fun _ => noAnn) fun n hn => ?_
  refine vc_by (X :=
      true = true ∧
      ifB (decide ((↑k.size : Int) ≥ (1 : Int))) (Done (Value.bool (decide ((↑k.size : Int) ≤ (16 : Int))) = Value.bool (keyB k))) (Done (Value.bool false = Value.bool (keyB k)))) (by kernel_rfl) ?_
  refine ⟨rfl, ifB_intro (fun h => ⟨?_⟩) (fun h => ⟨?_⟩)⟩
  · have h1 : 1 ≤ k.size := by simp at h; omega
    simp [keyB, h1]; omega
  · simp at h; simp [keyB]; omega

theorem rfate_q (a b : Int) (m : M) : QSpec Try.prog 73 [I a, I b] m (I (fateV a b)) := by
  refine QSpec.of_vc Try.func73 (ann := fun _ => noAnn) fun n hn => ?_
  refine vc_by (X :=
      true = true ∧
      ifB (a == (1 : Int))
      (ifB (b == (1 : Int)) (Done (Value.int IntKind.i64 (1 : Int) = Value.int IntKind.i64 (fateV a b)))
      (ifB (a == (2 : Int)) (Done (Value.int IntKind.i64 (2 : Int) = Value.int IntKind.i64 (fateV a b)))
      (ifB (b == (2 : Int)) (Done (Value.int IntKind.i64 (2 : Int) = Value.int IntKind.i64 (fateV a b)))
      (Done (Value.int IntKind.i64 (0 : Int) = Value.int IntKind.i64 (fateV a b))))))
      (ifB (a == (2 : Int)) (Done (Value.int IntKind.i64 (2 : Int) = Value.int IntKind.i64 (fateV a b)))
      (ifB (b == (2 : Int)) (Done (Value.int IntKind.i64 (2 : Int) = Value.int IntKind.i64 (fateV a b)))
      (Done (Value.int IntKind.i64 (0 : Int) = Value.int IntKind.i64 (fateV a b)))))) (by kernel_rfl) ?_
  refine ⟨rfl, ?_⟩
  repeat' (refine ifB_intro (fun h => ?_) (fun h => ?_))
  all_goals (refine ⟨?_⟩; simp only [beq_iff_eq, Bool.not_eq_true, beq_eq_false_iff_ne, ne_eq] at *; simp [fateV, *])
  all_goals omega

theorem rmay_q (d : Dl) (m : M) : QSpec Try.prog 41 [dlv d] m (.bool (mayB d)) := by
  refine QSpec.of_vc Try.func41 (ann := fun _ => noAnn) fun n hn => ?_
  refine vc_by (X :=
      true = true ∧
      ∃ (b : Bool),
      QSpec Try.prog (57 : Nat) [Value.int IntKind.i64 d.cl] { π := m.π, sz := n, uf := m.uf : M } (Value.bool b) ∧
      ifB (!b) (Done (Value.bool false = Value.bool (mayB d)))
      (∃ (b : Bool),
      QSpec Try.prog (52 : Nat) [Value.int IntKind.i64 d.sq] { π := m.π, sz := n, uf := m.uf : M } (Value.bool b) ∧
      ifB (!b) (Done (Value.bool false = Value.bool (mayB d)))
      (∃ (b : Bool),
      QSpec Try.prog (59 : Nat) [Value.string d.ky] { π := m.π, sz := n, uf := m.uf : M } (Value.bool b) ∧
      ifB (!b) (Done (Value.bool false = Value.bool (mayB d)))
      (∃ (b : Bool),
      QSpec Try.prog (59 : Nat) [Value.string d.ot] { π := m.π, sz := n, uf := m.uf : M } (Value.bool b) ∧
      ifB (!b) (Done (Value.bool false = Value.bool (mayB d)))
      (ifB (d.ky.toList == d.ot.toList) (Done (Value.bool false = Value.bool (mayB d)))
      (ifB (decide (d.n < (1 : Int))) (Done (Value.bool false = Value.bool (mayB d)))
      (ifB (decide (d.mi < (0 : Int))) (Done (Value.bool false = Value.bool (mayB d)))
      (ifB (decide (d.mi > (2 : Int))) (Done (Value.bool false = Value.bool (mayB d)))
      (ifB (decide (d.th < (0 : Int))) (Done (Value.bool false = Value.bool (mayB d)))
      (ifB (decide (d.th > (2 : Int))) (Done (Value.bool false = Value.bool (mayB d)))
      (∃ (n_1 : Int),
      QSpec Try.prog (73 : Nat) [Value.int IntKind.i64 d.mi, Value.int IntKind.i64 d.th] { π := m.π, sz := n, uf := m.uf : M }
      (Value.int IntKind.i64 n_1) ∧
      ifB (d.ft == n_1) (Done (Value.bool true = Value.bool (mayB d)))
      (ifB (n_1 == (0 : Int)) (Done (Value.bool (d.ft == (2 : Int)) = Value.bool (mayB d)))
      (Done (Value.bool false = Value.bool (mayB d))))))))))))))) (by kernel_rfl) ?_
  refine ⟨rfl, _, rclient_q _ _, ifB_intro (fun h1 => ⟨?_⟩) (fun h1 => ⟨_, rseq_q _ _, ifB_intro (fun h2 => ⟨?_⟩) (fun h2 => ⟨_, rkey_q _ _, ifB_intro (fun h3 => ⟨?_⟩) (fun h3 => ⟨_, rkey_q _ _, ifB_intro (fun h4 => ⟨?_⟩) (fun h4 => ?_)⟩)⟩)⟩)⟩
  · simp at h1; simp [mayB, whoseB]; omega
  · simp at h2; simp [mayB, whoseB]; omega
  · simp at h3; simp [mayB, h3]
  · simp at h4; simp [mayB, h4]
  have k1 : whoseB d.cl d.sq = true := by simp at h1 h2; simp [whoseB]; omega
  have k2 : keyB d.ky = true := by simpa using h3
  have k3 : keyB d.ot = true := by simpa using h4
  rw [bytes_beq]
  refine ifB_intro (fun h5 => ⟨?_⟩) (fun h5 => ifB_intro (fun h6 => ⟨?_⟩) (fun h6 => ifB_intro (fun h7 => ⟨?_⟩) (fun h7 => ifB_intro (fun h8 => ⟨?_⟩) (fun h8 => ifB_intro (fun h9 => ⟨?_⟩) (fun h9 => ifB_intro (fun h10 => ⟨?_⟩) (fun h10 => ⟨_, rfate_q _ _ _, ifB_intro (fun h12 => ⟨?_⟩) (fun h12 => ifB_intro (fun h13 => ⟨?_⟩) (fun h13 => ⟨?_⟩))⟩))))))
  · simp at h5; simp [mayB, h5]
  · simp at h6; simp [mayB]; omega
  · simp at h7; simp [mayB]; omega
  · simp at h8; simp [mayB]; omega
  · simp at h9; simp [mayB]; omega
  · simp at h10; simp [mayB]; omega
  all_goals
    have h5 : ¬ d.ky = d.ot := by simpa using h5
    have h6 : 1 ≤ d.n := by simp at h6; omega
    have h7 : 0 ≤ d.mi := by simp at h7; omega
    have h8 : d.mi ≤ 2 := by simp at h8; omega
    have h9 : 0 ≤ d.th := by simp at h9; omega
    have h10 : d.th ≤ 2 := by simp at h10; omega
  · have h12 : d.ft = fateV d.mi d.th := by simpa using h12
    simp [mayB, k1, k2, k3, h5, h6, h7, h8, h9, h10, h12]
  · have h12 : ¬ d.ft = fateV d.mi d.th := by simpa using h12
    have h13 : fateV d.mi d.th = 0 := by simpa using h13
    rw [h13] at h12
    simp [mayB, k1, k2, k3, h5, h6, h7, h8, h9, h10, h12, h13]
    rfl
  · have h12 : ¬ d.ft = fateV d.mi d.th := by simpa using h12
    have h13 : ¬ fateV d.mi d.th = 0 := by simpa using h13
    simp [mayB, h12, h13]

theorem rplace_q (a : Option Addr) (cp : Nat) (l : List Dl) (c s : Int) (hn : l.length ≤ 9223372036854775807) (m : M) (h : Row m a (dls l)) : QSpec Try.prog 42 [.slice a l.length cp, I c, I s] m (I (placeD l c s)) := by
  refine QSpec.of_vc Try.func42 (ann := fun n _ => { A := Nat, inv := fun k => k ≤ l.length ∧ ∀ h ∈ l.take k, isD c s h = false, st := fun k => [(7, .val (I k)), (0, .val (.slice a l.length cp)), (1, .val (I c)), (2, .val (I s))], own := fun _ => [], m := fun _ => { m with sz := n }, μ := fun k => l.length - k }) fun n hn' => ?_
  refine vc_by (X :=
      true = true ∧
      (∃ (a_1 : Nat),
      (a_1 ≤ l.length ∧ ∀ (h : Dl), h ∈ List.take a_1 l → isD c s h = false) ∧
      { π := m.π, sz := n, uf := m.uf : M } = { π := m.π, sz := n, uf := m.uf : M } ∧
      ((SV.val (Value.int IntKind.i64 (0 : Int)) = SV.val (Value.int IntKind.i64 (↑a_1 : Int)) ∧ true = true) ∧
      (SV.val (Value.slice a l.length cp) = SV.val (Value.slice a l.length cp) ∧ true = true) ∧
      (SV.val (Value.int IntKind.i64 c) = SV.val (Value.int IntKind.i64 c) ∧ true = true) ∧
      (SV.val (Value.int IntKind.i64 s) = SV.val (Value.int IntKind.i64 s) ∧ true = true) ∧ True) ∧
      True) ∧
      ∀ (a_1 : Nat),
      (a_1 ≤ l.length ∧ ∀ (h : Dl), h ∈ List.take a_1 l → isD c s h = false) →
      ifB (decide ((↑a_1 : Int) < (↑l.length : Int)))
      (∃ (b : Nat),
      ∃ (off : Nat),
      a = some { block := b, off := off : Addr } ∧
      ((0 : Int) ≤ (↑a_1 : Int) ∧ (↑a_1 : Int) < (↑l.length : Int)) ∧
      ∃ (n_1 : Int),
      CellsAt { π := m.π, sz := n, uf := m.uf : M } b (off + (↑a_1 : Int).toNat * (8 : Nat) + (0 : Nat)) [Value.int IntKind.i64 n_1] ∧
      ifB (n_1 == c)
      (∃ (b : Nat),
      ∃ (off : Nat),
      a = some { block := b, off := off : Addr } ∧
      ((0 : Int) ≤ (↑a_1 : Int) ∧ (↑a_1 : Int) < (↑l.length : Int)) ∧
      ∃ (n_2 : Int),
      CellsAt { π := m.π, sz := n, uf := m.uf : M } b (off + (↑a_1 : Int).toNat * (8 : Nat) + (1 : Nat)) [Value.int IntKind.i64 n_2] ∧
      ifB (n_2 == s) (Done (Value.int IntKind.i64 (↑a_1 : Int) = Value.int IntKind.i64 (placeD l c s)))
      (∃ (a' : Nat),
      ((a' ≤ l.length ∧ ∀ (h : Dl), h ∈ List.take a' l → isD c s h = false) ∧
      { π := m.π, sz := n, uf := m.uf : M } = { π := m.π, sz := n, uf := m.uf : M } ∧
      ((SV.val (Value.int IntKind.i64 (IntKind.i64.wrap ((↑a_1 : Int) + (1 : Int)))) = SV.val (Value.int IntKind.i64 (↑a' : Int)) ∧
      true = true) ∧
      (SV.val (Value.slice a l.length cp) = SV.val (Value.slice a l.length cp) ∧ true = true) ∧
      (SV.val (Value.int IntKind.i64 c) = SV.val (Value.int IntKind.i64 c) ∧ true = true) ∧
      (SV.val (Value.int IntKind.i64 s) = SV.val (Value.int IntKind.i64 s) ∧ true = true) ∧ True) ∧
      True) ∧
      l.length - a' < l.length - a_1))
      (∃ (a' : Nat),
      ((a' ≤ l.length ∧ ∀ (h : Dl), h ∈ List.take a' l → isD c s h = false) ∧
      { π := m.π, sz := n, uf := m.uf : M } = { π := m.π, sz := n, uf := m.uf : M } ∧
      ((SV.val (Value.int IntKind.i64 (IntKind.i64.wrap ((↑a_1 : Int) + (1 : Int)))) = SV.val (Value.int IntKind.i64 (↑a' : Int)) ∧ true = true) ∧
      (SV.val (Value.slice a l.length cp) = SV.val (Value.slice a l.length cp) ∧ true = true) ∧
      (SV.val (Value.int IntKind.i64 c) = SV.val (Value.int IntKind.i64 c) ∧ true = true) ∧
      (SV.val (Value.int IntKind.i64 s) = SV.val (Value.int IntKind.i64 s) ∧ true = true) ∧ True) ∧
      True) ∧
      l.length - a' < l.length - a_1))
      (Done (Value.int IntKind.i64 (-1 : Int) = Value.int IntKind.i64 (placeD l c s)))) (by kernel_rfl) ?_
  have h' := h.sz hn'
  refine ⟨rfl, ⟨0, by simp⟩, fun k ⟨hk, hq⟩ => ifB_intro (fun hb => ?_) (fun hb => ⟨?_⟩)⟩
  · have hk2 : k < l.length := by simpa using hb
    obtain ⟨b, o, rfl, hc⟩ := h'.cells (by rw [dl_len]; omega)
    have w1 : IntKind.i64.wrap ((k : Int) + 1) = ((k + 1 : Nat) : Int) := by simp [IntKind.wrap_i64]; omega
    have c0 := CellsAt.field dl_k hc hk2 (p := []) (old := [I l[k].cl]) (q := [I l[k].sq, .string l[k].ky, .string l[k].ot, I l[k].n, I l[k].mi, I l[k].th, I l[k].ft]) rfl
    have c1 := CellsAt.field dl_k hc hk2 (p := [I l[k].cl]) (old := [I l[k].sq]) (q := [.string l[k].ky, .string l[k].ot, I l[k].n, I l[k].mi, I l[k].th, I l[k].ft]) rfl
    have nx : isD c s l[k] = false → (∃ a' : Nat, (a' ≤ l.length ∧ ∀ h ∈ l.take a', isD c s h = false) ∧ a' = k + 1) := fun hf => ⟨k + 1, ⟨hk2, fun h hm => by
      rw [List.take_succ_eq_append_getElem hk2, List.mem_append] at hm
      rcases hm with hm | hm
      · exact hq h hm
      · have hm : h = l[k] := by simpa using hm
        subst hm; exact hf⟩, rfl⟩
    refine ⟨b, o, rfl, by omega, _, by simpa using c0, ifB_intro (fun h1 => ⟨b, o, rfl, by omega, _, by simpa using c1, ifB_intro (fun h2 => ⟨?_⟩) (fun h2 => ?_)⟩) (fun h1 => ?_)⟩
    · have hf : isD c s l[k] = true := by simp at h1 h2; simp [isD, h1, h2]
      rw [placeD, idxF_found hk2 hq hf]
    · obtain ⟨a', h3, rfl⟩ := nx (by simp at h1 h2; simp [isD, h2])
      exact ⟨k + 1, ⟨h3, by simp [w1]⟩, by omega⟩
    · obtain ⟨a', h3, rfl⟩ := nx (by simp at h1; simp [isD, h1])
      exact ⟨k + 1, ⟨h3, by simp [w1]⟩, by omega⟩
  · have : k = l.length := by simp at hb; omega
    subst this
    rw [placeD, idxF_none fun h hm => hq h (by simpa using hm)]

theorem rright_q (a : Option Addr) (cp : Nat) (l : List Dl) (hn : l.length ≤ 9223372036854775807) (m : M) (h : Row m a (dls l)) : QSpec Try.prog 10 [.slice a l.length cp] m (.bool (booksB l)) := by
  refine QSpec.of_vc Try.func10 (ann := fun n _ => { A := Nat, inv := fun k => k ≤ l.length ∧ okTo l k = true, st := fun k => [(3, .val (I k)), (0, .val (.slice a l.length cp))], own := fun _ => [], m := fun _ => { m with sz := n }, μ := fun k => l.length - k }) fun n hn' => ?_
  refine vc_by (X :=
      true = true ∧
      (∃ (a_1 : Nat),
      (a_1 ≤ l.length ∧ okTo l a_1 = true) ∧
      { π := m.π, sz := n, uf := m.uf : M } = { π := m.π, sz := n, uf := m.uf : M } ∧
      ((SV.val (Value.int IntKind.i64 (0 : Int)) = SV.val (Value.int IntKind.i64 (↑a_1 : Int)) ∧ true = true) ∧
      (SV.val (Value.slice a l.length cp) = SV.val (Value.slice a l.length cp) ∧ true = true) ∧ True) ∧
      True) ∧
      ∀ (a_1 : Nat),
      a_1 ≤ l.length ∧ okTo l a_1 = true →
      ifB (decide ((↑a_1 : Int) < (↑l.length : Int)))
      (true = true ∧
      ∃ (b : Nat),
      ∃ (off : Nat),
      a = some { block := b, off := off : Addr } ∧
      ((0 : Int) ≤ (↑a_1 : Int) ∧ (↑a_1 : Int) < (↑l.length : Int)) ∧
      ∃ (n_1 : Int),
      ∃ (n_2 : Int),
      ∃ (s : ByteArray),
      ∃ (s_1 : ByteArray),
      ∃ (n_3 : Int),
      ∃ (n_4 : Int),
      ∃ (n_5 : Int),
      ∃ (n_6 : Int),
      CellsAt { π := m.π, sz := n, uf := m.uf : M } b (off + (↑a_1 : Int).toNat * (8 : Nat))
      [Value.int IntKind.i64 n_1, Value.int IntKind.i64 n_2, Value.string s, Value.string s_1, Value.int IntKind.i64 n_3,
      Value.int IntKind.i64 n_4, Value.int IntKind.i64 n_5, Value.int IntKind.i64 n_6] ∧
      ∃ (b : Bool),
      QSpec Try.prog (41 : Nat)
      [Value.agg
      #[Value.int IntKind.i64 n_1, Value.int IntKind.i64 n_2, Value.string s, Value.string s_1, Value.int IntKind.i64 n_3,
      Value.int IntKind.i64 n_4, Value.int IntKind.i64 n_5, Value.int IntKind.i64 n_6]]
      { π := m.π, sz := n, uf := m.uf : M } (Value.bool b) ∧
      ifB (!b) (Done (Value.bool false = Value.bool (booksB l)))
      (∃ (b : Nat),
      ∃ (off : Nat),
      a = some { block := b, off := off : Addr } ∧
      ((0 : Int) ≤ (↑a_1 : Int) ∧ (↑a_1 : Int) < (↑l.length : Int)) ∧
      ∃ (n_7 : Int),
      CellsAt { π := m.π, sz := n, uf := m.uf : M } b (off + (↑a_1 : Int).toNat * (8 : Nat) + (0 : Nat))
      [Value.int IntKind.i64 n_7] ∧
      ∃ (b : Nat),
      ∃ (off : Nat),
      a = some { block := b, off := off : Addr } ∧
      ((0 : Int) ≤ (↑a_1 : Int) ∧ (↑a_1 : Int) < (↑l.length : Int)) ∧
      ∃ (n_8 : Int),
      CellsAt { π := m.π, sz := n, uf := m.uf : M } b (off + (↑a_1 : Int).toNat * (8 : Nat) + (1 : Nat))
      [Value.int IntKind.i64 n_8] ∧
      ∃ (n_9 : Int),
      QSpec Try.prog (42 : Nat) [Value.slice a l.length cp, Value.int IntKind.i64 n_7, Value.int IntKind.i64 n_8]
      { π := m.π, sz := n, uf := m.uf : M } (Value.int IntKind.i64 n_9) ∧
      ifB (n_9 != (↑a_1 : Int)) (Done (Value.bool false = Value.bool (booksB l)))
      (∃ (a' : Nat),
      ((a' ≤ l.length ∧ okTo l a' = true) ∧
      { π := m.π, sz := n, uf := m.uf : M } = { π := m.π, sz := n, uf := m.uf : M } ∧
      ((SV.val (Value.int IntKind.i64 (IntKind.i64.wrap ((↑a_1 : Int) + (1 : Int)))) =
      SV.val (Value.int IntKind.i64 (↑a' : Int)) ∧
      true = true) ∧
      (SV.val (Value.slice a l.length cp) = SV.val (Value.slice a l.length cp) ∧ true = true) ∧
      True) ∧
      True) ∧
      l.length - a' < l.length - a_1)))
      (Done (Value.bool (decide ((↑l.length : Int) ≤ (4 : Int))) = Value.bool (booksB l)))) (by kernel_rfl) ?_
  have h' := h.sz hn'
  refine ⟨rfl, ⟨0, by simp [okTo]⟩, fun k ⟨hk, hq⟩ => ifB_intro (fun hb => ?_) (fun hb => ⟨?_⟩)⟩
  · have hk2 : k < l.length := by simpa using hb
    obtain ⟨b, o, rfl, hc⟩ := h'.cells (by rw [dl_len]; omega)
    have w1 : IntKind.i64.wrap ((k : Int) + 1) = ((k + 1 : Nat) : Int) := by simp [IntKind.wrap_i64]; omega
    have hok : okAt l k = (mayB l[k] && decide (placeD l l[k].cl l[k].sq = k)) := by simp [okAt, List.getElem?_eq_getElem hk2]
    have c0 := CellsAt.field dl_k hc hk2 (p := []) (old := [I l[k].cl]) (q := [I l[k].sq, .string l[k].ky, .string l[k].ot, I l[k].n, I l[k].mi, I l[k].th, I l[k].ft]) rfl
    have c1 := CellsAt.field dl_k hc hk2 (p := [I l[k].cl]) (old := [I l[k].sq]) (q := [.string l[k].ky, .string l[k].ot, I l[k].n, I l[k].mi, I l[k].th, I l[k].ft]) rfl
    have bad : okAt l k = false → Done (Value.bool false = Value.bool (booksB l)) := fun hh => by
      have : booksB l = false := by
        cases hbk : booksB l with
        | false => rfl
        | true =>
          simp only [booksB, Bool.and_eq_true] at hbk
          have := okTo_le hbk.2 (by omega : k + 1 ≤ l.length)
          rw [okTo_succ, hh] at this
          simp at this
      exact ⟨by simp [this]⟩
    refine ⟨rfl, b, o, rfl, by omega, _, _, _, _, _, _, _, _, by simpa using dl_at hc hk2, _, rmay_q l[k] _, ifB_intro (fun h2 => bad ?_) (fun h2 => ⟨b, o, rfl, by omega, _, by simpa using c0, b, o, rfl, by omega, _, by simpa using c1, _, rplace_q _ cp l l[k].cl l[k].sq hn _ h', ifB_intro (fun h3 => bad ?_) (fun h3 => ⟨k + 1, ⟨⟨hk2, ?_⟩, by simp [w1]⟩, by omega⟩)⟩)⟩
    · rw [hok]; simp at h2; simp [h2]
    · rw [hok]; simp at h3; simp [h3]
    · rw [okTo_succ, hq, hok]; simp at h2 h3; simp [h2, h3]
  · have : k = l.length := by simp at hb; omega
    subst this
    simp [booksB, hq]; omega

end Go.Proofs.Ytoilbbfidnhekaa
