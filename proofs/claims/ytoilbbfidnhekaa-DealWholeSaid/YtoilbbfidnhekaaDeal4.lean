/-
  Contracts of functions of this seat: what each hands back, and what it leaves of memory (deal4). Nothing here is trusted: Lean checks it.
-/
import Derived.Test.YtoilbbfidnhekaaDeal3
import Derived.Test.YtoilbbfidnhekaaLen
set_option linter.unusedVariables false
set_option linter.unusedSimpArgs false
namespace Go.Proofs.Ytoilbbfidnhekaa
open Go.Vc Go.RowKit
set_option maxRecDepth 100000

def endsB : Int → List En → Bool
  | _, [] => true
  | last, x :: xs => decide (last < x.cl) && whoseB x.cl x.sq && endsB x.cl xs

/-- where a client's end stands, or would stand -/
def endP : List En → Int → Nat
  | [], _ => 0
  | x :: xs, c => if c ≤ x.cl then 0 else endP xs c + 1

def endIs (l : List En) (c : Int) : Bool := match l[endP l c]? with | some x => decide (x.cl = c) | none => false

theorem endP_le (c : Int) : ∀ l : List En, endP l c ≤ l.length
  | [] => Nat.le_refl _
  | x :: xs => by have := endP_le c xs; simp only [endP, List.length_cons]; split <;> omega

theorem endP_drop {c : Int} : ∀ {l : List En} {k : Nat}, k ≤ l.length → (∀ x ∈ l.take k, x.cl < c) → endP l c = k + endP (l.drop k) c
  | l, 0, _, _ => by simp
  | [], k + 1, h, _ => by simp at h
  | x :: xs, k + 1, h, hl => by
    have hx := hl x (by simp)
    have ih := endP_drop (l := xs) (k := k) (by simpa using h) fun y hy => hl y (by simp [hy])
    simp only [endP, List.drop_succ_cons, if_neg (show ¬ c ≤ x.cl by omega), ih]; omega

theorem checkends_q (a : Option Addr) (cp : Nat) (l : List En) (hn : l.length ≤ 9223372036854775807) (m : M) (h : Row m a (ens l)) : QSpec Try.prog 31 [.slice a l.length cp] m (I (if endsB 0 l then 0 else 21)) := by
  refine QSpec.of_vc Try.func31 (ann := fun n _ => { A := Nat × Int, inv := fun y => y.1 ≤ l.length ∧ endsB 0 l = endsB y.2 (l.drop y.1), st := fun y => [(8, .val (I y.1)), (7, .val (I l.length)), (6, .val (.slice a l.length cp)), (3, .val (I y.2))], own := fun _ => [], m := fun _ => { m with sz := n }, μ := fun y => l.length - y.1 }) fun n hn' => ?_
  refine vc_by (X :=
      true = true ∧
      (∃ (a_1 : Nat × Int),
      (a_1.fst ≤ l.length ∧ endsB (0 : Int) l = endsB a_1.snd (List.drop a_1.fst l)) ∧
      { π := m.π, sz := n, uf := m.uf : M } = { π := m.π, sz := n, uf := m.uf : M } ∧
      ((SV.val (Value.int IntKind.i64 (0 : Int)) = SV.val (Value.int IntKind.i64 (↑a_1.fst : Int)) ∧ true = true) ∧
      (SV.val (Value.int IntKind.i64 (↑l.length : Int)) = SV.val (Value.int IntKind.i64 (↑l.length : Int)) ∧ true = true) ∧
      (SV.val (Value.slice a l.length cp) = SV.val (Value.slice a l.length cp) ∧ true = true) ∧
      (SV.val (Value.int IntKind.i64 (0 : Int)) = SV.val (Value.int IntKind.i64 a_1.snd) ∧ true = true) ∧ True) ∧
      True) ∧
      ∀ (a_1 : Nat × Int),
      a_1.fst ≤ l.length ∧ endsB (0 : Int) l = endsB a_1.snd (List.drop a_1.fst l) →
      ifB (decide ((↑a_1.fst : Int) < (↑l.length : Int)))
      (∃ (b : Nat),
      ∃ (off : Nat),
      a = some { block := b, off := off : Addr } ∧
      ((0 : Int) ≤ (↑a_1.fst : Int) ∧ (↑a_1.fst : Int) < (↑l.length : Int)) ∧
      ∃ (n_1 : Int),
      ∃ (n_2 : Int),
      CellsAt { π := m.π, sz := n, uf := m.uf : M } b (off + (↑a_1.fst : Int).toNat * (2 : Nat)) [Value.int IntKind.i64 n_1, Value.int IntKind.i64 n_2] ∧
      ifB (decide (n_1 ≤ a_1.snd)) (Done (Value.int IntKind.i64 (21 : Int) = Value.int IntKind.i64 (if endsB (0 : Int) l = true then (0 : Int) else (21 : Int))))
      (∃ (b : Bool),
      QSpec Try.prog (53 : Nat) [Value.int IntKind.i64 n_1, Value.int IntKind.i64 n_2] { π := m.π, sz := n, uf := m.uf : M } (Value.bool b) ∧
      ifB (!b) (Done (Value.int IntKind.i64 (21 : Int) = Value.int IntKind.i64 (if endsB (0 : Int) l = true then (0 : Int) else (21 : Int))))
      (∃ (a' : Nat × Int),
      ((a'.fst ≤ l.length ∧ endsB (0 : Int) l = endsB a'.snd (List.drop a'.fst l)) ∧
      { π := m.π, sz := n, uf := m.uf : M } = { π := m.π, sz := n, uf := m.uf : M } ∧
      ((SV.val (Value.int IntKind.i64 (IntKind.i64.wrap ((↑a_1.fst : Int) + (1 : Int)))) = SV.val (Value.int IntKind.i64 (↑a'.fst : Int)) ∧
      true = true) ∧
      (SV.val (Value.int IntKind.i64 (↑l.length : Int)) = SV.val (Value.int IntKind.i64 (↑l.length : Int)) ∧ true = true) ∧
      (SV.val (Value.slice a l.length cp) = SV.val (Value.slice a l.length cp) ∧ true = true) ∧
      (SV.val (Value.int IntKind.i64 n_1) = SV.val (Value.int IntKind.i64 a'.snd) ∧ true = true) ∧ True) ∧
      True) ∧
      l.length - a'.fst < l.length - a_1.fst)))
      (Done (Value.int IntKind.i64 (0 : Int) = Value.int IntKind.i64 (if endsB (0 : Int) l = true then (0 : Int) else (21 : Int))))) (by kernel_rfl) ?_
  have h' := h.sz hn'
  refine ⟨rfl, ⟨⟨0, 0⟩, by simp⟩, fun y ⟨hk, hq⟩ => ifB_intro (fun hb => ?_) (fun hb => ⟨?_⟩)⟩
  · have hk2 : y.1 < l.length := by simpa using hb
    obtain ⟨b, o, rfl, hc⟩ := h'.cells (by rw [en_len]; omega)
    have w1 : IntKind.i64.wrap ((y.1 : Int) + 1) = ((y.1 + 1 : Nat) : Int) := by simp [IntKind.wrap_i64]; omega
    rw [List.drop_eq_getElem_cons hk2, endsB] at hq
    refine ⟨b, o, rfl, by omega, _, _, by simpa using en_at hc hk2, ifB_intro (fun h1 => ⟨?_⟩) (fun h1 => ⟨_, whose_q _ _ _, ifB_intro (fun h2 => ⟨?_⟩) (fun h2 => ⟨⟨y.1 + 1, l[y.1].cl⟩, ⟨⟨hk2, ?_⟩, by simp [w1]⟩, by simp only; omega⟩)⟩)⟩
    · rw [hq]; have h1 : ¬ y.2 < l[y.1].cl := by simp at h1; omega
      simp [h1]
    · rw [hq]; simp at h2; simp [h2]
    · rw [hq]; have h1 : y.2 < l[y.1].cl := by simp at h1; omega
      simp at h2; simp [h1, h2]
  · have : y.1 = l.length := by simp at hb; omega
    rw [this] at hq
    simp [hq, endsB]

theorem end_q (a : Option Addr) (cp : Nat) (l : List En) (c : Int) (hn : l.length ≤ 9223372036854775807) (m : M) (h : Row m a (ens l)) : QSpec Try.prog 55 [.slice a l.length cp, I c] m (.tuple #[I (endP l c), .bool (endIs l c)]) := by
  refine QSpec.of_vc Try.func55 (ann := fun n _ => { A := Nat, inv := fun k => k ≤ l.length ∧ ∀ x ∈ l.take k, x.cl < c, st := fun k => [(10, .val (I k)), (9, .val (I l.length)), (8, .val (.slice a l.length cp)), (1, .val (I c)), (0, .val (.slice a l.length cp))], own := fun _ => [], m := fun _ => { m with sz := n }, μ := fun k => l.length - k }) fun n hn' => ?_
  refine vc_by (X :=
      true = true ∧
      (∃ (a_1 : Nat),
      (a_1 ≤ l.length ∧ ∀ (x : En), x ∈ List.take a_1 l → x.cl < c) ∧
      { π := m.π, sz := n, uf := m.uf : M } = { π := m.π, sz := n, uf := m.uf : M } ∧
      ((SV.val (Value.int IntKind.i64 (0 : Int)) = SV.val (Value.int IntKind.i64 (↑a_1 : Int)) ∧ true = true) ∧
      (SV.val (Value.int IntKind.i64 (↑l.length : Int)) = SV.val (Value.int IntKind.i64 (↑l.length : Int)) ∧ true = true) ∧
      (SV.val (Value.slice a l.length cp) = SV.val (Value.slice a l.length cp) ∧ true = true) ∧
      (SV.val (Value.int IntKind.i64 c) = SV.val (Value.int IntKind.i64 c) ∧ true = true) ∧
      (SV.val (Value.slice a l.length cp) = SV.val (Value.slice a l.length cp) ∧ true = true) ∧ True) ∧
      True) ∧
      ∀ (a_1 : Nat),
      (a_1 ≤ l.length ∧ ∀ (x : En), x ∈ List.take a_1 l → x.cl < c) →
      ifB (decide ((↑a_1 : Int) < (↑l.length : Int)))
      (∃ (b : Nat),
      ∃ (off : Nat),
      a = some { block := b, off := off : Addr } ∧
      ((0 : Int) ≤ (↑a_1 : Int) ∧ (↑a_1 : Int) < (↑l.length : Int)) ∧
      ∃ (n_1 : Int),
      ∃ (n_2 : Int),
      CellsAt { π := m.π, sz := n, uf := m.uf : M } b (off + (↑a_1 : Int).toNat * (2 : Nat)) [Value.int IntKind.i64 n_1, Value.int IntKind.i64 n_2] ∧
      ifB (decide (n_1 ≥ c))
      (true = true ∧
      Done
      (Value.tuple #[Value.int IntKind.i64 (↑a_1 : Int), Value.bool (n_1 == c)] =
      Value.tuple #[Value.int IntKind.i64 (↑(endP l c) : Int), Value.bool (endIs l c)]))
      (∃ (a' : Nat),
      ((a' ≤ l.length ∧ ∀ (x : En), x ∈ List.take a' l → x.cl < c) ∧
      { π := m.π, sz := n, uf := m.uf : M } = { π := m.π, sz := n, uf := m.uf : M } ∧
      ((SV.val (Value.int IntKind.i64 (IntKind.i64.wrap ((↑a_1 : Int) + (1 : Int)))) = SV.val (Value.int IntKind.i64 (↑a' : Int)) ∧ true = true) ∧
      (SV.val (Value.int IntKind.i64 (↑l.length : Int)) = SV.val (Value.int IntKind.i64 (↑l.length : Int)) ∧ true = true) ∧
      (SV.val (Value.slice a l.length cp) = SV.val (Value.slice a l.length cp) ∧ true = true) ∧
      (SV.val (Value.int IntKind.i64 c) = SV.val (Value.int IntKind.i64 c) ∧ true = true) ∧
      (SV.val (Value.slice a l.length cp) = SV.val (Value.slice a l.length cp) ∧ true = true) ∧ True) ∧
      True) ∧
      l.length - a' < l.length - a_1))
      (Done (Value.tuple #[Value.int IntKind.i64 (↑l.length : Int), Value.bool false] = Value.tuple #[Value.int IntKind.i64 (↑(endP l c) : Int), Value.bool (endIs l c)]))) (by kernel_rfl) ?_
  have h' := h.sz hn'
  refine ⟨rfl, ⟨0, by simp⟩, fun k ⟨hk, hq⟩ => ifB_intro (fun hb => ?_) (fun hb => ⟨?_⟩)⟩
  · have hk2 : k < l.length := by simpa using hb
    obtain ⟨b, o, rfl, hc⟩ := h'.cells (by rw [en_len]; omega)
    have w1 : IntKind.i64.wrap ((k : Int) + 1) = ((k + 1 : Nat) : Int) := by simp [IntKind.wrap_i64]; omega
    have hd := endP_drop hk hq
    rw [List.drop_eq_getElem_cons hk2, endP] at hd
    refine ⟨b, o, rfl, by omega, _, _, by simpa using en_at hc hk2, ifB_intro (fun h1 => ?_) (fun h1 => ⟨k + 1, ⟨⟨hk2, fun x hx => ?_⟩, by simp [w1]⟩, by omega⟩)⟩
    · have h1 : c ≤ l[k].cl := by simpa using h1
      rw [if_pos h1] at hd
      refine ⟨rfl, ⟨?_⟩⟩
      simp [endIs, hd, List.getElem?_eq_getElem hk2, Bool.beq_eq_decide_eq]
    · rw [List.take_succ_eq_append_getElem hk2, List.mem_append] at hx
      rcases hx with hx | hx
      · exact hq x hx
      · have hx : x = l[k] := by simpa using hx
        subst hx
        have h1 : ¬ c ≤ l[k].cl := by simpa using h1
        omega
  · have : k = l.length := by simp at hb; omega
    subst this
    have hd := endP_drop hk hq
    simp [endP] at hd
    simp [endIs, hd]

def pastB (l : List En) (c s : Int) : Bool := match l[endP l c]? with | some x => decide (x.cl = c) && decide (s ≤ x.sq) && endsB 0 l | none => false

theorem past_q (a : Option Addr) (cp : Nat) (l : List En) (c s : Int) (hn : l.length ≤ 9223372036854775807) (m : M) (h : Row m a (ens l)) : QSpec Try.prog 33 [.slice a l.length cp, I c, I s] m (.bool (pastB l c s)) := by
  refine QSpec.of_vc Try.func33 (ann := fun _ => noAnn) fun n hn' => ?_
  refine vc_by (X :=
      true = true ∧
      ∃ (n_1 : Int),
      ∃ (b : Bool),
      QSpec Try.prog (55 : Nat) [Value.slice a l.length cp, Value.int IntKind.i64 c] { π := m.π, sz := n, uf := m.uf : M }
      (Value.tuple #[Value.int IntKind.i64 n_1, Value.bool b]) ∧
      ifB b
      (∃ (b : Nat),
      ∃ (off : Nat),
      a = some { block := b, off := off : Addr } ∧
      ((0 : Int) ≤ n_1 ∧ n_1 < (↑l.length : Int)) ∧
      ∃ (n_2 : Int),
      CellsAt { π := m.π, sz := n, uf := m.uf : M } b (off + n_1.toNat * (2 : Nat) + (1 : Nat)) [Value.int IntKind.i64 n_2] ∧
      ifB (decide (n_2 ≥ s))
      (∃ (n_3 : Int),
      QSpec Try.prog (31 : Nat) [Value.slice a l.length cp] { π := m.π, sz := n, uf := m.uf : M } (Value.int IntKind.i64 n_3) ∧
      Done (Value.bool (n_3 == (0 : Int)) = Value.bool (pastB l c s)))
      (Done (Value.bool false = Value.bool (pastB l c s))))
      (Done (Value.bool false = Value.bool (pastB l c s)))) (by kernel_rfl) ?_
  have h' := h.sz hn'
  refine ⟨rfl, _, _, end_q a cp l c hn _ h', ?_⟩
  by_cases hk : endP l c < l.length
  · obtain ⟨b, o, rfl, hc⟩ := h'.cells (by rw [en_len]; omega)
    have c1 := CellsAt.field en_k hc hk (p := [I l[endP l c].cl]) (old := [I l[endP l c].sq]) (q := []) rfl
    have e : endIs l c = decide (l[endP l c].cl = c) := by simp [endIs, List.getElem?_eq_getElem hk]
    have e2 : pastB l c s = (decide (l[endP l c].cl = c) && decide (s ≤ l[endP l c].sq) && endsB 0 l) := by simp [pastB, List.getElem?_eq_getElem hk]
    rw [e, e2]
    refine ifB_intro (fun h1 => ⟨b, o, rfl, by omega, _, by simpa using c1, ifB_intro (fun h2 => ⟨_, checkends_q _ cp l hn _ h', ⟨?_⟩⟩) (fun h2 => ⟨?_⟩)⟩) (fun h1 => ⟨?_⟩)
    · simp at h1 h2; simp [h1, h2]; cases endsB 0 l <;> rfl
    · simp at h2; simp; omega
    · simp at h1; simp [h1]
  · have e : endIs l c = false := by simp [endIs, List.getElem?_eq_none (by omega : l.length ≤ endP l c)]
    have e2 : pastB l c s = false := by simp [pastB, List.getElem?_eq_none (by omega : l.length ≤ endP l c)]
    rw [e, e2]
    exact ifB_false ⟨rfl⟩

def dAw : Dl := ⟨1, 1, ⟨#[97]⟩, ⟨#[98]⟩, 1, 0, 0, 0⟩

theorem awake_open : openD [] dAw = ([dAw], 0) := by
  have h : ¬ (⟨#[97]⟩ : ByteArray) = ⟨#[98]⟩ := by decide
  simp [openD, booksB, okTo, newD, mayB, whoseB, keyB, fateV, dAw, placeD, idxF, h, ByteArray.size]

theorem awake_q (m : M) : QSpec Try.prog 15 [] m (.bool true) := by
  refine QSpec.of_vc Try.func15 (ann := fun _ => noAnn) fun n hn => ?_
  refine vc_by (X :=
      true = true ∧
      ∃ (S' : Nat → Prop),
      (∀ (b : Nat), S' b → m.uf b ∧ (n ≤ b ∨ False)) ∧
      ∀ (n_1 : Nat),
      n ≤ n_1 →
      SpecW Try.prog (13 : Nat)
      [Value.slice none (0 : Nat) (0 : Nat),
      Value.agg
      #[Value.int IntKind.i64 (1 : Int), Value.int IntKind.i64 (1 : Int), Value.string { data := #[(97 : UInt8)] : ByteArray },
      Value.string { data := #[(98 : UInt8)] : ByteArray }, Value.int IntKind.i64 (1 : Int), Value.int IntKind.i64 (0 : Int), Value.int IntKind.i64 (0 : Int),
      Value.int IntKind.i64 (0 : Int)]]
      { π := m.π, sz := n_1, uf := m.uf : M } S' fun (v : Value) (m' : M) =>
      ∃ (a : Option Addr),
      ∃ (n : Nat),
      ∃ (c : Nat),
      ∃ (n_2 : Int),
      v = Value.tuple #[Value.slice a n c, Value.int IntKind.i64 n_2] ∧
      ifB (n_2 == (0 : Int))
      (ifB ((↑n : Int) == (1 : Int))
      (true = true ∧
      ∀ (b : Nat),
      m'.sz ≤ b →
      ∃ (b_1 : Bool),
      QSpec Try.prog (33 : Nat)
      [Value.slice (some { block := b, off := (0 : Nat) : Addr }) (1 : Nat) (1 : Nat), Value.int IntKind.i64 (1 : Int),
      Value.int IntKind.i64 (2 : Int)]
      (m'.newBlock b [Value.int IntKind.i64 (1 : Int), Value.int IntKind.i64 (2 : Int)]) (Value.bool b_1) ∧
      Done (Value.bool b_1 = Value.bool true))
      (Done (Value.bool false = Value.bool true)))
      (Done (Value.bool false = Value.bool true))) (by kernel_rfl) ?_
  refine ⟨rfl, _, noS, fun N hN => (dopen_s none 0 [] dAw (by simp) (fun _ => rfl) _ (.nil _)).monoW fun v m1 hag ⟨a1, c1, hv, hr⟩ => ⟨a1, _, c1, _, hv, ?_⟩⟩
  rw [awake_open]
  refine ifB_true (ifB_true ⟨rfl, fun b hb => ⟨_, past_q (some ⟨b, 0, none⟩) 1 [⟨1, 2⟩] 1 2 (by simp) _ (.at _ _ _ (by simp only [M.newBlock]; omega) cellsAt_new), ⟨?_⟩⟩⟩)
  rfl

def mk71 : Dl := ⟨71, 0, .empty, .empty, 0, 0, 0, 0⟩

theorem own_s (a : Option Addr) (c : Nat) (l : List Dl) (hn : l.length ≤ 1048576) (m : M) (h : Row m a (dls l)) :
    Vc.Spec Try.prog 9 [.slice a l.length c] m (Owned m (dls l) (encDl mk71 ++ encDl mk71) l.length (l.length + 2)) := by
  refine Vc.Spec.of_vc Try.func9 (ann := noAnn) ?_
  refine vc_by (X :=
      true = true ∧
      ∃ (S' : Nat → Prop),
      (∀ (b : Nat), S' b → m.uf b ∧ (m.sz ≤ b ∨ False)) ∧
      ∀ (n : Nat),
      m.sz ≤ n →
      SpecW Try.prog (40 : Nat)
      [Value.slice a l.length c,
      Value.agg
      #[Value.int IntKind.i64 (71 : Int), Value.int IntKind.i64 (0 : Int), Value.string { data := #[] : ByteArray }, Value.string { data := #[] : ByteArray },
      Value.int IntKind.i64 (0 : Int), Value.int IntKind.i64 (0 : Int), Value.int IntKind.i64 (0 : Int), Value.int IntKind.i64 (0 : Int)]]
      { π := m.π, sz := n, uf := m.uf : M } S' fun (v : Value) (m' : M) =>
      ∃ (a : Option Addr),
      ∃ (n : Nat),
      ∃ (c : Nat),
      v = Value.slice a n c ∧
      Done
      (Owned m (dls l)
      [Value.int IntKind.i64 (71 : Int), Value.int IntKind.i64 (0 : Int), Value.string ByteArray.empty, Value.string ByteArray.empty,
      Value.int IntKind.i64 (0 : Int), Value.int IntKind.i64 (0 : Int), Value.int IntKind.i64 (0 : Int), Value.int IntKind.i64 (0 : Int),
      Value.int IntKind.i64 (71 : Int), Value.int IntKind.i64 (0 : Int), Value.string ByteArray.empty, Value.string ByteArray.empty,
      Value.int IntKind.i64 (0 : Int), Value.int IntKind.i64 (0 : Int), Value.int IntKind.i64 (0 : Int), Value.int IntKind.i64 (0 : Int)]
      l.length (l.length + (2 : Nat)) (Value.slice a n c) m')) (by kernel_rfl) ?_
  exact ⟨rfl, _, noS, fun N hN => (dl_own a c l mk71 hn _ (h.sz hN)).monoW fun v m1 hag ⟨b, e, hb, h1, h2, h3⟩ => ⟨_, _, _, e, ⟨⟨b, rfl, Nat.le_trans hN hb, h1, h2, h3⟩⟩⟩⟩

theorem kept_q (b : Nat) (l : List Dl) (a2 : Option Addr) (c2 : Nat) (hn : l.length ≤ 1048576) (m : M) (hb : b < m.sz) (h : CellsAt m b 0 (dls l ++ (encDl mk71 ++ encDl mk71))) (h2 : Row m a2 (dls l)) :
    QSpec Try.prog 24 [.slice (some ⟨b, 0, none⟩) l.length (l.length + 2), .slice a2 l.length c2] m (.bool true) := by
  refine QSpec.of_vc Try.func24 (ann := fun _ => noAnn) fun n hn' => ?_
  refine vc_by (X :=
      true = true ∧
      ∃ (b_1 : Bool),
      QSpec Try.prog (51 : Nat)
      [Value.slice (some { block := b, off := (0 : Nat) : Addr }) l.length (l.length + (2 : Nat)), Value.slice a2 l.length c2,
      Value.agg
      #[Value.int IntKind.i64 (71 : Int), Value.int IntKind.i64 (0 : Int), Value.string { data := #[] : ByteArray }, Value.string { data := #[] : ByteArray },
      Value.int IntKind.i64 (0 : Int), Value.int IntKind.i64 (0 : Int), Value.int IntKind.i64 (0 : Int), Value.int IntKind.i64 (0 : Int)]]
      { π := m.π, sz := n, uf := m.uf : M } (Value.bool b_1) ∧
      Done (Value.bool b_1 = Value.bool true)) (by kernel_rfl) ?_
  exact ⟨rfl, _, dl_kept b l a2 c2 mk71 hn _ (Nat.lt_of_lt_of_le hb hn') ⟨h.out⟩ (h2.sz hn'), ⟨rfl⟩⟩

end Go.Proofs.Ytoilbbfidnhekaa
