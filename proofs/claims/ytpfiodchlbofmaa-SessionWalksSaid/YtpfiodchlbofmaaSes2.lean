/-
  Contracts of functions of this seat: what each hands back, and what it leaves of memory (ses2). Nothing here is trusted: Lean checks it.
-/
import Derived.Test.YtpfiodchlbofmaaInsmk
set_option linter.unusedVariables false
set_option linter.unusedSimpArgs false
namespace Go.Proofs.Ytpfiodchlbofmaa
open Go.Vc Go.RowKit
set_option maxRecDepth 100000

theorem mk_none {B : List Mk} {a : Option Addr} {m : M} (h : Row m a (mks B)) (e : a = none) : B = [] := by
  cases B with
  | nil => rfl
  | cons x xs =>
    obtain ⟨b, o, e2, -⟩ := h.cells (by rw [mk_len]; simp)
    rw [e] at e2; simp at e2

theorem scheck_q (a : Option Addr) (cp : Nat) (l : List Mk) (hn : l.length ≤ 9223372036854775807) (m : M) (h : Row m a (mks l)) : QSpec Try.prog 25 [.slice a l.length cp] m (I (if tabB 0 l then 0 else 21)) := by
  refine QSpec.of_vc Try.func25 (ann := fun n _ => { A := Nat × Int, inv := fun y => y.1 ≤ l.length ∧ tabB 0 l = tabB y.2 (l.drop y.1) ∧ 0 ≤ y.2, st := fun y => [(8, .val (I y.1)), (7, .val (I l.length)), (6, .val (.slice a l.length cp)), (3, .val (I y.2))], own := fun _ => [], m := fun _ => { m with sz := n }, μ := fun y => l.length - y.1 }) fun n hn' => ?_
  refine vc_by (X :=
      true = true ∧
      (∃ (a_1 : Nat × Int),
      (a_1.fst ≤ l.length ∧ tabB (0 : Int) l = tabB a_1.snd (List.drop a_1.fst l) ∧ (0 : Int) ≤ a_1.snd) ∧
      { π := m.π, sz := n, uf := m.uf : M } = { π := m.π, sz := n, uf := m.uf : M } ∧
      ((SV.val (Value.int IntKind.i64 (0 : Int)) = SV.val (Value.int IntKind.i64 (↑a_1.fst : Int)) ∧ true = true) ∧
      (SV.val (Value.int IntKind.i64 (↑l.length : Int)) = SV.val (Value.int IntKind.i64 (↑l.length : Int)) ∧ true = true) ∧
      (SV.val (Value.slice a l.length cp) = SV.val (Value.slice a l.length cp) ∧ true = true) ∧
      (SV.val (Value.int IntKind.i64 (0 : Int)) = SV.val (Value.int IntKind.i64 a_1.snd) ∧ true = true) ∧ True) ∧
      True) ∧
      ∀ (a_1 : Nat × Int),
      a_1.fst ≤ l.length ∧ tabB (0 : Int) l = tabB a_1.snd (List.drop a_1.fst l) ∧ (0 : Int) ≤ a_1.snd →
      ifB (decide ((↑a_1.fst : Int) < (↑l.length : Int)))
      (∃ (b : Nat),
      ∃ (off : Nat),
      a = some { block := b, off := off : Addr } ∧
      ((0 : Int) ≤ (↑a_1.fst : Int) ∧ (↑a_1.fst : Int) < (↑l.length : Int)) ∧
      ∃ (n_1 : Int),
      ∃ (n_2 : Int),
      ∃ (b_1 : Bool),
      ∃ (n_3 : Int),
      ∃ (n_4 : Int),
      ∃ (n_5 : Int),
      ∃ (n_6 : Int),
      CellsAt { π := m.π, sz := n, uf := m.uf : M } b (off + (↑a_1.fst : Int).toNat * (7 : Nat))
      [Value.int IntKind.i64 n_1, Value.int IntKind.i64 n_2, Value.bool b_1, Value.int IntKind.i64 n_3, Value.int IntKind.i64 n_4,
      Value.int IntKind.i64 n_5, Value.int IntKind.i64 n_6] ∧
      ifB (decide (n_1 ≤ a_1.snd))
      (Done (Value.int IntKind.i64 (21 : Int) = Value.int IntKind.i64 (if tabB (0 : Int) l = true then (0 : Int) else (21 : Int))))
      (ifB (decide (n_1 > (8 : Int)))
      (Done (Value.int IntKind.i64 (21 : Int) = Value.int IntKind.i64 (if tabB (0 : Int) l = true then (0 : Int) else (21 : Int))))
      (ifB (decide (n_2 < (0 : Int)))
      (Done (Value.int IntKind.i64 (21 : Int) = Value.int IntKind.i64 (if tabB (0 : Int) l = true then (0 : Int) else (21 : Int))))
      (ifB (decide (n_2 > (4611686018427387904 : Int)))
      (Done (Value.int IntKind.i64 (21 : Int) = Value.int IntKind.i64 (if tabB (0 : Int) l = true then (0 : Int) else (21 : Int))))
      (ifB b_1
      (ifB (n_2 == (0 : Int))
      (Done (Value.int IntKind.i64 (21 : Int) = Value.int IntKind.i64 (if tabB (0 : Int) l = true then (0 : Int) else (21 : Int))))
      (ifB (!(n_3 == (0 : Int) && (n_4 == (0 : Int) && (n_5 == (0 : Int) && (n_6 == (0 : Int) && true)))))
      (Done (Value.int IntKind.i64 (21 : Int) = Value.int IntKind.i64 (if tabB (0 : Int) l = true then (0 : Int) else (21 : Int))))
      (∃ (a' : Nat × Int),
      ((a'.fst ≤ l.length ∧ tabB (0 : Int) l = tabB a'.snd (List.drop a'.fst l) ∧ (0 : Int) ≤ a'.snd) ∧
      { π := m.π, sz := n, uf := m.uf : M } = { π := m.π, sz := n, uf := m.uf : M } ∧
      ((SV.val (Value.int IntKind.i64 (IntKind.i64.wrap ((↑a_1.fst : Int) + (1 : Int)))) =
      SV.val (Value.int IntKind.i64 (↑a'.fst : Int)) ∧
      true = true) ∧
      (SV.val (Value.int IntKind.i64 (↑l.length : Int)) = SV.val (Value.int IntKind.i64 (↑l.length : Int)) ∧ true = true) ∧
      (SV.val (Value.slice a l.length cp) = SV.val (Value.slice a l.length cp) ∧ true = true) ∧
      (SV.val (Value.int IntKind.i64 n_1) = SV.val (Value.int IntKind.i64 a'.snd) ∧ true = true) ∧ True) ∧
      True) ∧
      l.length - a'.fst < l.length - a_1.fst)))
      (∃ (a' : Nat × Int),
      ((a'.fst ≤ l.length ∧ tabB (0 : Int) l = tabB a'.snd (List.drop a'.fst l) ∧ (0 : Int) ≤ a'.snd) ∧
      { π := m.π, sz := n, uf := m.uf : M } = { π := m.π, sz := n, uf := m.uf : M } ∧
      ((SV.val (Value.int IntKind.i64 (IntKind.i64.wrap ((↑a_1.fst : Int) + (1 : Int)))) =
      SV.val (Value.int IntKind.i64 (↑a'.fst : Int)) ∧
      true = true) ∧
      (SV.val (Value.int IntKind.i64 (↑l.length : Int)) = SV.val (Value.int IntKind.i64 (↑l.length : Int)) ∧ true = true) ∧
      (SV.val (Value.slice a l.length cp) = SV.val (Value.slice a l.length cp) ∧ true = true) ∧
      (SV.val (Value.int IntKind.i64 n_1) = SV.val (Value.int IntKind.i64 a'.snd) ∧ true = true) ∧ True) ∧
      True) ∧
      l.length - a'.fst < l.length - a_1.fst))))))
      (Done (Value.int IntKind.i64 (0 : Int) = Value.int IntKind.i64 (if tabB (0 : Int) l = true then (0 : Int) else (21 : Int))))) (by kernel_rfl) ?_
  have h' := h.sz hn'
  refine ⟨rfl, ⟨⟨0, 0⟩, by simp⟩, fun y ⟨hk, hq, hz⟩ => ifB_intro (fun hb => ?_) (fun hb => ⟨?_⟩)⟩
  · have hk2 : y.1 < l.length := by simpa using hb
    obtain ⟨b, o, rfl, hc⟩ := h'.cells (by rw [mk_len]; omega)
    have w1 : IntKind.i64.wrap ((y.1 : Int) + 1) = ((y.1 + 1 : Nat) : Int) := by simp [IntKind.wrap_i64]; omega
    rw [List.drop_eq_getElem_cons hk2, tabB] at hq
    have bad : (decide (y.2 < l[y.1].cl) && mkB l[y.1]) = false → Done (I 21 = I (if tabB 0 l = true then 0 else 21)) := fun e => by
      rw [e, Bool.false_and] at hq
      exact ⟨by simp [hq]⟩
    have nx : ∀ (_ : (decide (y.2 < l[y.1].cl) && mkB l[y.1]) = true), (y.1 + 1 ≤ l.length ∧ tabB 0 l = tabB l[y.1].cl (l.drop (y.1 + 1)) ∧ 0 ≤ l[y.1].cl) := fun e => by
      rw [e, Bool.true_and] at hq
      simp only [Bool.and_eq_true, decide_eq_true_eq] at e
      exact ⟨hk2, hq, by omega⟩
    refine ⟨b, o, rfl, by omega, _, _, _, _, _, _, _, by simpa using mk_at hc hk2, ifB_intro (fun h1 => bad ?_) (fun h1 => ifB_intro (fun h2 => bad ?_) (fun h2 => ifB_intro (fun h3 => bad ?_) (fun h3 => ifB_intro (fun h4 => bad ?_) (fun h4 => ifB_intro (fun h5 => ifB_intro (fun h6 => bad ?_) (fun h6 => ifB_intro (fun h7 => bad ?_) (fun h7 => ⟨⟨y.1 + 1, l[y.1].cl⟩, ⟨nx ?_, rfl, by simp [w1]⟩, by simp only; omega⟩))) (fun h5 => ⟨⟨y.1 + 1, l[y.1].cl⟩, ⟨nx ?_, rfl, by simp [w1]⟩, by simp only; omega⟩)))))⟩
    · simp at h1; simp; intro h; omega
    · simp at h2; simp [mkB]; omega
    · simp at h3; simp [mkB]; omega
    · simp at h4; simp [mkB]; omega
    · simp at h6; simp [mkB, h5]; omega
    · have e : ans0B l[y.1] = false := by
        simp only [Bool.not_eq_true', Bool.beq_eq_decide_eq, Bool.and_true] at h7
        simpa [ans0B, Bool.and_assoc] using h7
      simp [mkB, h5, e]
    · simp at h1 h2 h3 h4 h6
      have e : ans0B l[y.1] = true := by
        simp at h7
        simp [ans0B, h7]
      simp [mkB, h5, e]; omega
    · simp at h1 h2 h3 h4; simp [mkB, h5]; omega
  · have : y.1 = l.length := by simp at hb; omega
    rw [this] at hq
    simp [hq, tabB]

theorem cmp_q (x : Mk) (c : Int) (m : M) : QSpec Try.prog 38 [.agg (encMk x).toArray, I c] m (I (if x.cl < c then -1 else if c < x.cl then 1 else 0)) := by
  refine QSpec.of_vc Try.func38 (ann := fun _ => noAnn) fun N hN => ?_
  refine vc_by (X :=
      true = true ∧
      ifB (decide (x.cl < c)) (Done (Value.int IntKind.i64 (-1 : Int) = Value.int IntKind.i64 (if x.cl < c then (-1 : Int) else if c < x.cl then (1 : Int) else (0 : Int))))
      (ifB (decide (x.cl > c)) (Done (Value.int IntKind.i64 (1 : Int) = Value.int IntKind.i64 (if x.cl < c then (-1 : Int) else if c < x.cl then (1 : Int) else (0 : Int))))
      (Done (Value.int IntKind.i64 (0 : Int) = Value.int IntKind.i64 (if x.cl < c then (-1 : Int) else if c < x.cl then (1 : Int) else (0 : Int)))))) (by kernel_rfl) ?_
  refine ⟨rfl, ifB_intro (fun h => ⟨?_⟩) (fun h => ifB_intro (fun h2 => ⟨?_⟩) (fun h2 => ⟨?_⟩))⟩
  · simp at h; simp [h]
  · simp at h h2; simp [h2, show ¬ x.cl < c by omega]
  · simp at h h2; simp [show ¬ x.cl < c by omega, show ¬ c < x.cl by omega]

theorem place_q (a : Option Addr) (cp : Nat) (l : List Mk) (c : Int) (ht : tabB 0 l = true) (m : M) (h : Row m a (mks l)) : QSpec Try.prog 30 [.slice a l.length cp, I c] m (.tuple #[I (mkP l c), .bool (ofM l c).isSome]) := by
  have h8 := tab8 ht
  have e : ((l[mkP l c]?).any fun x => decide ((if x.cl < c then (-1 : Int) else if c < x.cl then 1 else 0) = 0)) = (ofM l c).isSome := by
    rw [mkP_of (c := c) ht]
    cases l[mkP l c]? with
    | none => rfl
    | some x =>
      simp only [Option.any_some]
      by_cases e1 : x.cl = c
      · simp [e1]
      · by_cases e2 : x.cl < c
        · simp [e1, e2]
        · simp [e1, e2, show c < x.cl by omega]
  rw [← e]
  refine QSpec.of_vc Try.func30 (ann := fun _ => noAnn) fun n hn' => ?_
  refine vc_by (X :=
      true = true ∧
      ∃ (n_1 : Int),
      ∃ (b : Bool),
      QSpec Try.prog (37 : Nat) [Value.slice a l.length cp, Value.int IntKind.i64 c, Value.func (Fn.func (38 : Nat)) #[] #[]] { π := m.π, sz := n, uf := m.uf : M }
      (Value.tuple #[Value.int IntKind.i64 n_1, Value.bool b]) ∧
      Done
      (Value.tuple #[Value.int IntKind.i64 n_1, Value.bool b] =
      Value.tuple
      #[Value.int IntKind.i64 (↑(mkP l c) : Int),
      Value.bool (Option.any (fun (x : Mk) => decide ((if x.cl < c then (-1 : Int) else if c < x.cl then (1 : Int) else (0 : Int)) = (0 : Int))) l[mkP l c]?)])) (by kernel_rfl) ?_
  refine ⟨rfl, _, _, mk_bsearch a cp l c (fun x => if x.cl < c then -1 else if c < x.cl then 1 else 0) (mkP l c) (by omega) _ (h.sz hn') (fun x _ m' => cmp_q x c m') (mkP_le c l) (fun k hk hp => ?_) (fun k hk hp => ?_), ⟨rfl⟩⟩
  · have := mkP_lt ht k hk hp; simp [this]
  · have := mkP_ge ht k hk hp
    show (0 : Int) ≤ if l[k].cl < c then -1 else if c < l[k].cl then 1 else 0
    rw [if_neg (by omega)]; split <;> omega

def m0 : Mk := ⟨0, 0, false, 0, 0, 0, 0⟩

def findO (l : List Mk) (c : Int) : Option Mk := if tabB 0 l then ofM l c else none

theorem find_q (a : Option Addr) (cp : Nat) (l : List Mk) (c : Int) (hn : l.length ≤ 9223372036854775807) (m : M) (h : Row m a (mks l)) : QSpec Try.prog 17 [.slice a l.length cp, I c] m (.tuple #[mkv ((findO l c).getD m0), .bool (findO l c).isSome]) := by
  refine QSpec.of_vc Try.func17 (ann := fun _ => noAnn) fun n hn' => ?_
  refine vc_by (X :=
      true = true ∧
      ∃ (n_1 : Int),
      QSpec Try.prog (25 : Nat) [Value.slice a l.length cp] { π := m.π, sz := n, uf := m.uf : M } (Value.int IntKind.i64 n_1) ∧
      ifB (n_1 != (0 : Int))
      (Done
      (Value.tuple
      #[Value.agg
      #[Value.int IntKind.i64 (0 : Int), Value.int IntKind.i64 (0 : Int), Value.bool false, Value.int IntKind.i64 (0 : Int), Value.int IntKind.i64 (0 : Int),
      Value.int IntKind.i64 (0 : Int), Value.int IntKind.i64 (0 : Int)],
      Value.bool false] =
      Value.tuple
      #[Value.agg
      #[Value.int IntKind.i64 ((findO l c).getD m0).cl, Value.int IntKind.i64 ((findO l c).getD m0).sq, Value.bool ((findO l c).getD m0).op,
      Value.int IntKind.i64 ((findO l c).getD m0).an_er, Value.int IntKind.i64 ((findO l c).getD m0).an_va, Value.int IntKind.i64 ((findO l c).getD m0).an_le,
      Value.int IntKind.i64 ((findO l c).getD m0).an_mo],
      Value.bool (findO l c).isSome]))
      (∃ (n_2 : Int),
      ∃ (b : Bool),
      QSpec Try.prog (30 : Nat) [Value.slice a l.length cp, Value.int IntKind.i64 c] { π := m.π, sz := n, uf := m.uf : M }
      (Value.tuple #[Value.int IntKind.i64 n_2, Value.bool b]) ∧
      ifB (!b)
      (Done
      (Value.tuple
      #[Value.agg
      #[Value.int IntKind.i64 (0 : Int), Value.int IntKind.i64 (0 : Int), Value.bool false, Value.int IntKind.i64 (0 : Int), Value.int IntKind.i64 (0 : Int),
      Value.int IntKind.i64 (0 : Int), Value.int IntKind.i64 (0 : Int)],
      Value.bool false] =
      Value.tuple
      #[Value.agg
      #[Value.int IntKind.i64 ((findO l c).getD m0).cl, Value.int IntKind.i64 ((findO l c).getD m0).sq, Value.bool ((findO l c).getD m0).op,
      Value.int IntKind.i64 ((findO l c).getD m0).an_er, Value.int IntKind.i64 ((findO l c).getD m0).an_va, Value.int IntKind.i64 ((findO l c).getD m0).an_le,
      Value.int IntKind.i64 ((findO l c).getD m0).an_mo],
      Value.bool (findO l c).isSome]))
      (∃ (b : Nat),
      ∃ (off : Nat),
      a = some { block := b, off := off : Addr } ∧
      ((0 : Int) ≤ n_2 ∧ n_2 < (↑l.length : Int)) ∧
      ∃ (n_3 : Int),
      ∃ (n_4 : Int),
      ∃ (b_1 : Bool),
      ∃ (n_5 : Int),
      ∃ (n_6 : Int),
      ∃ (n_7 : Int),
      ∃ (n_8 : Int),
      CellsAt { π := m.π, sz := n, uf := m.uf : M } b (off + n_2.toNat * (7 : Nat))
      [Value.int IntKind.i64 n_3, Value.int IntKind.i64 n_4, Value.bool b_1, Value.int IntKind.i64 n_5, Value.int IntKind.i64 n_6,
      Value.int IntKind.i64 n_7, Value.int IntKind.i64 n_8] ∧
      Done
      (Value.tuple
      #[Value.agg
      #[Value.int IntKind.i64 n_3, Value.int IntKind.i64 n_4, Value.bool b_1, Value.int IntKind.i64 n_5, Value.int IntKind.i64 n_6,
      Value.int IntKind.i64 n_7, Value.int IntKind.i64 n_8],
      Value.bool true] =
      Value.tuple
      #[Value.agg
      #[Value.int IntKind.i64 ((findO l c).getD m0).cl, Value.int IntKind.i64 ((findO l c).getD m0).sq,
      Value.bool ((findO l c).getD m0).op, Value.int IntKind.i64 ((findO l c).getD m0).an_er,
      Value.int IntKind.i64 ((findO l c).getD m0).an_va, Value.int IntKind.i64 ((findO l c).getD m0).an_le,
      Value.int IntKind.i64 ((findO l c).getD m0).an_mo],
      Value.bool (findO l c).isSome])))) (by kernel_rfl) ?_
  have h' := h.sz hn'
  refine ⟨rfl, _, scheck_q a cp l hn _ h', ?_⟩
  cases ht : tabB 0 l
  · exact ifB_true ⟨by simp [findO, ht, m0]⟩
  refine ifB_false ⟨_, _, place_q a cp l c ht _ h', ?_⟩
  have e := mkP_of (c := c) ht
  cases ho : ofM l c with
  | none => exact ifB_true ⟨by simp [findO, ht, ho, m0]⟩
  | some x =>
    rw [ho] at e
    have hp : ∃ hk : mkP l c < l.length, l[mkP l c] = x := by
      cases hg : l[mkP l c]? with
      | none => rw [hg] at e; simp at e
      | some z =>
        rw [hg] at e
        obtain ⟨hk, hx⟩ := List.getElem?_eq_some_iff.1 hg
        refine ⟨hk, ?_⟩
        rw [hx]
        simp only at e
        split at e
        · exact (Option.some.inj e).symm
        · simp at e
    obtain ⟨hk, hx⟩ := hp
    obtain ⟨b, o, rfl, hc⟩ := h'.cells (by rw [mk_len]; omega)
    have hcc := mk_at hc hk
    rw [hx] at hcc
    refine ifB_false ⟨b, o, rfl, by omega, _, _, _, _, _, _, _, by simpa using hcc, ⟨?_⟩⟩
    simp [findO, ht, ho]

/-- a list that can be read -/
structure SlR (y : List Mk) (v : Value) (m' : M) : Prop where
  out : ∃ a' c', v = .slice a' y.length c' ∧ Row m' a' (mks y)

theorem with_s (a : Option Addr) (cp : Nat) (l : List Mk) (x : Mk) (ht : tabB 0 l = true) (m : M) (h : Row m a (mks l)) : Vc.Spec Try.prog 28 [.slice a l.length cp, mkv x] m (SlR (insM l x)) := by
  refine Vc.Spec.of_vc Try.func28 (ann := noAnn) ?_
  refine vc_by (X :=
      true = true ∧
      ∃ (S' : Nat → Prop),
      (∀ (b : Nat), S' b → m.uf b ∧ (m.sz ≤ b ∨ False)) ∧
      ∀ (n : Nat),
      m.sz ≤ n →
      SpecW Try.prog (27 : Nat) [Value.slice a l.length cp] { π := m.π, sz := n, uf := m.uf : M } S' fun (v : Value) (m' : M) =>
      ∃ (a : Option Addr),
      ∃ (n : Nat),
      ∃ (c : Nat),
      v = Value.slice a n c ∧
      ∃ (n_1 : Int),
      ∃ (b : Bool),
      QSpec Try.prog (30 : Nat) [Value.slice a n c, Value.int IntKind.i64 x.cl] m' (Value.tuple #[Value.int IntKind.i64 n_1, Value.bool b]) ∧
      ifB b
      (∃ (b : Nat),
      ∃ (off : Nat),
      a = some { block := b, off := off : Addr } ∧
      ((0 : Int) ≤ n_1 ∧ n_1 < (↑n : Int)) ∧
      Wr m.sz (fun (x : Nat) => False) m' b (off + n_1.toNat * (7 : Nat))
      #[Value.int IntKind.i64 x.cl, Value.int IntKind.i64 x.sq, Value.bool x.op, Value.int IntKind.i64 x.an_er, Value.int IntKind.i64 x.an_va,
      Value.int IntKind.i64 x.an_le, Value.int IntKind.i64 x.an_mo].size ∧
      Done
      (SlR (insM l x) (Value.slice a n c)
      (m'.setCells b (off + n_1.toNat * (7 : Nat))
      [Value.int IntKind.i64 x.cl, Value.int IntKind.i64 x.sq, Value.bool x.op, Value.int IntKind.i64 x.an_er, Value.int IntKind.i64 x.an_va,
      Value.int IntKind.i64 x.an_le, Value.int IntKind.i64 x.an_mo])))
      (true = true ∧
      ∀ (b : Nat),
      m'.sz ≤ b →
      ∃ (S' : Nat → Prop),
      (∀ (b_1 : Nat),
      S' b_1 →
      (m'.newBlock b
      [Value.int IntKind.i64 x.cl, Value.int IntKind.i64 x.sq, Value.bool x.op, Value.int IntKind.i64 x.an_er,
      Value.int IntKind.i64 x.an_va, Value.int IntKind.i64 x.an_le, Value.int IntKind.i64 x.an_mo]).uf
      b_1 ∧
      (m.sz ≤ b_1 ∨ False)) ∧
      ∀ (n_2 : Nat),
      max m'.sz (b + (1 : Nat)) ≤ n_2 →
      SpecW Try.prog (36 : Nat)
      [Value.slice a n c, Value.int IntKind.i64 n_1, Value.slice (some { block := b, off := (0 : Nat) : Addr }) (1 : Nat) (1 : Nat)]
      { π := (m'.newBlock b [Value.int IntKind.i64 x.cl, Value.int IntKind.i64 x.sq, Value.bool x.op, Value.int IntKind.i64 x.an_er, Value.int IntKind.i64 x.an_va, Value.int IntKind.i64 x.an_le, Value.int IntKind.i64 x.an_mo]).π, sz := n_2, uf := (m'.newBlock b [Value.int IntKind.i64 x.cl, Value.int IntKind.i64 x.sq, Value.bool x.op, Value.int IntKind.i64 x.an_er, Value.int IntKind.i64 x.an_va, Value.int IntKind.i64 x.an_le, Value.int IntKind.i64 x.an_mo]).uf : M }
      S' fun (v : Value) (m' : M) =>
      ∃ (a : Option Addr), ∃ (n : Nat), ∃ (c : Nat), v = Value.slice a n c ∧ Done (SlR (insM l x) (Value.slice a n c) m'))) (by kernel_rfl) ?_
  have h8 := tab8 ht
  have hple := mkP_le x.cl l
  refine ⟨rfl, _, noS, fun N hN => (mk_clone l a cp (by omega) (mk_none h) _ (h.sz hN)).monoW fun v m' hag ⟨a', c', hv, hr'⟩ => ⟨a', _, c', hv, _, _, place_q a' c' l x.cl ht _ hr'.row, ?_⟩⟩
  cases ho : ofM l x.cl with
  | none =>
    have e := ins_put (m := x) ht ho
    refine ifB_false ⟨rfl, fun b hb => ?_⟩
    have hrN := hr'.newBlock (ds := encMk x) hb
    have hs := mk_insert a' c' l (mkP l x.cl) b 0 1 x (fun b' => ∃ o, a' = some ⟨b', o, none⟩ ∧ (m'.newBlock b (encMk x)).uf b' ∧ m.sz ≤ b') (by omega) hple
    refine ⟨fun b' => ∃ o, a' = some ⟨b', o, none⟩ ∧ (m'.newBlock b (encMk x)).uf b' ∧ m.sz ≤ b', fun b' ⟨o, e, hu, hlo⟩ => ⟨hu, .inl hlo⟩, fun n hn => ?_⟩
    refine (hs { m'.newBlock b (encMk x) with sz := n } ((hrN.sz hn).re fun b' o e hu hlo => .inr ⟨o, e, hu, by rcases hlo with h | h; simp only at h; omega; exact h.elim⟩)
      (fun hne b' o e => ?_) (by simp only; omega) (.inl rfl) ⟨(cellsAt_new (m := m') (b := b) (cs := encMk x)).out⟩).mono fun v3 m3 hag3 ⟨a3, c3, hv3, hr3⟩ => ⟨a3, _, c3, hv3, ⟨⟨a3, c3, ?_, ?_⟩⟩⟩
    · have := (hr'.toOwn (fun e => hne (List.eq_nil_of_length_eq_zero e))).lt e
      omega
    · rw [e]; simp; omega
    · rw [e]; exact hr3.row
  | some z =>
    have e := ins_set (m := x) ht (by rw [ho]; rfl)
    have hk : mkP l x.cl < l.length := by
      have e2 := mkP_of (c := x.cl) ht
      rw [ho] at e2
      rcases Nat.lt_or_ge (mkP l x.cl) l.length with hk | hk
      · exact hk
      · rw [List.getElem?_eq_none hk] at e2; simp at e2
    have hown := (hr'.toOwn (by omega)).lower hN
    obtain ⟨b, o, rfl, hc⟩ := hown.row.cells (by rw [mk_len]; omega)
    obtain ⟨g1, g2⟩ := Own.setAt mk_k hown hk x
    refine ifB_true ⟨b, o, rfl, by omega, g1, ⟨⟨some ⟨b, o, none⟩, c', ?_, ?_⟩⟩⟩
    · rw [e]; simp
    · rw [e]; exact g2.row

end Go.Proofs.Ytpfiodchlbofmaa
