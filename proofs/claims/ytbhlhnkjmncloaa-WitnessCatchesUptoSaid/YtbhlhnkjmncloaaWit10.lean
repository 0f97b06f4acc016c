/-
  Contracts of functions of this seat: what each hands back, and what it leaves of memory (wit10). Nothing here is trusted: Lean checks it.
-/
import Derived.Test.YtbhlhnkjmncloaaWit9
import Derived.Test.YtbhlhnkjmncloaaWit7
set_option linter.unusedVariables false
set_option linter.unusedSimpArgs false
namespace Go.Proofs.Ytbhlhnkjmncloaa
open Go.Vc Go.RowKit
set_option maxRecDepth 100000

def cl0 : Cl := ⟨0, 0, 0, 0, .empty, .empty, 0, 0, 0, 0, 0, 0, 0, 0, 0, 0⟩
def clA (l : List Cl) (i : Nat) : Cl := (l[i]?).getD cl0
theorem clA_at {l : List Cl} {i : Nat} (h : i < l.length) : clA l i = l[i] := by simp [clA, List.getElem?_eq_getElem h]
theorem moA_cl (l : List Cl) (i : Nat) : moA l i = (clA l i).mo := by
  unfold moA clA
  cases l[i]? <;> rfl

def opC (c : Cl) : Oq := ⟨c.op_kd, c.op_ky, c.op_ot, c.op_n, c.op_lo, c.op_hi⟩
def anC (c : Cl) : An := ⟨c.an_er, c.an_va, c.an_le, c.an_mo⟩

theorem opC_wf {c : Cl} (h : c.wf) : (opC c).wf := ⟨h.2.2.2.1, h.2.2.2.2.1, h.2.2.2.2.2.1, h.2.2.2.2.2.2.1, h.2.2.2.2.2.2.2.1, h.2.2.2.2.2.2.2.2.1⟩

/-- the calls that have a moment, by rising moments -/
def ordC (l : List Cl) : List Cl := (ordL l).map (clA l)

theorem ordC_len (l : List Cl) : (ordC l).length = (ordL l).length := by simp [ordC]

/-- an error with which an operation had no effect -/
def noEff (e : Int) : Bool := decide (e = 190) || decide (e = 3) || decide (e = 171) || decide (e = 170)

def sqB (c : Cl) (e : List Cl) : Bool := e.any fun x => decide (x.cl = c.cl) && decide (c.sq ≤ x.sq)
def opnB (c : Cl) (e : List Cl) : Bool := e.any fun x => decide (x.cl = c.cl) && (decide (x.aw = 0) || decide (c.ca ≤ x.aw))
def badB (c : Cl) : Bool := !(decide (1 ≤ c.cl) && decide (c.cl ≤ 8)) || decide (c.ca < 1) || (!decide (c.aw = 0) && decide (c.aw < c.ca))
def oldB (c : Cl) : Bool := decide (0 < c.mo) && (decide (c.mo < c.ca) || (!decide (c.aw = 0) && decide (c.aw < c.mo)))
def nonB (c : Cl) : Bool := !decide (c.aw = 0) && (decide (0 < c.mo) == noEff c.an_er)

/-- what is wrong with a call behind earlier ones, whatever counters do -/
def wrgE (c : Cl) (e : List Cl) : Int := if badB c || sqB c e then 21 else if oldB c then 80 else if opnB c e then 230 else if nonB c then 60 else 0

theorem without_q (e : Int) (m : M) : QSpec Try.prog 60 [I e] m (.bool (noEff e)) := by
  refine QSpec.of_vc Try.func60 (ann := fun _ => noAnn) fun n hn => ?_
  refine vc_by (X :=
      true = true ∧
      ifB (e == (190 : Int)) (Done (Value.bool true = Value.bool (noEff e)))
      (ifB (e == (3 : Int)) (Done (Value.bool true = Value.bool (noEff e)))
      (ifB (e == (171 : Int)) (Done (Value.bool true = Value.bool (noEff e)))
      (ifB (e == (170 : Int)) (Done (Value.bool true = Value.bool (noEff e))) (Done (Value.bool false = Value.bool (noEff e))))))) (by kernel_rfl) ?_
  refine ⟨rfl, ?_⟩
  simp only [ifB_iff, done_iff, Value.bool.injEq]
  unfold noEff
  by_cases h1 : e = 190 <;> by_cases h2 : e = 3 <;> by_cases h3 : e = 171 <;> by_cases h4 : e = 170 <;> simp [*]

theorem nothing_q (e : Int) (m : M) : QSpec Try.prog 62 [I e] m (.bool (noEff e)) := by
  refine QSpec.of_vc Try.func62 (ann := fun _ => noAnn) fun n hn => ?_
  refine vc_by (X :=
      true = true ∧
      ifB (e == (190 : Int)) (Done (Value.bool true = Value.bool (noEff e)))
      (ifB (e == (3 : Int)) (Done (Value.bool true = Value.bool (noEff e)))
      (ifB (e == (171 : Int)) (Done (Value.bool true = Value.bool (noEff e))) (Done (Value.bool (e == (170 : Int)) = Value.bool (noEff e)))))) (by kernel_rfl) ?_
  refine ⟨rfl, ?_⟩
  simp only [ifB_iff, done_iff, Value.bool.injEq]
  unfold noEff
  by_cases h1 : e = 190 <;> by_cases h2 : e = 3 <;> by_cases h3 : e = 171 <;> by_cases h4 : e = 170 <;> simp [*]

theorem rclient_q (x : Int) (m : M) : QSpec Try.prog 61 [I x] m (.bool (decide (1 ≤ x) && decide (x ≤ 8))) := by
  refine QSpec.of_vc Try.func61 (ann := fun _ => noAnn) fun n hn => ?_
  refine vc_by (X :=
      true = true ∧
      ifB (decide (x ≥ (1 : Int))) (Done (Value.bool (decide (x ≤ (8 : Int))) = Value.bool (decide ((1 : Int) ≤ x) && decide (x ≤ (8 : Int)))))
      (Done (Value.bool false = Value.bool (decide ((1 : Int) ≤ x) && decide (x ≤ (8 : Int)))))) (by kernel_rfl) ?_
  refine ⟨rfl, ifB_intro (fun h => ⟨?_⟩) (fun h => ⟨?_⟩)⟩
  · simp at h; have : 1 ≤ x := by omega
    simp [this]
  · simp at h; have : ¬ 1 ≤ x := by omega
    simp [this]

/-- is a call that has a moment told what its operation plainly does? -/
def rigB (c : Cl) (a : An) : Bool := decide (c.aw = 0) || (decide (c.an_er = a.er) && (!decide (a.er = 0) || (if c.op_kd = 4 then decide (c.an_va = a.va) else if c.op_kd = 3 then decide (c.an_le ≤ a.le) && decide (a.mo ≤ c.an_mo) else true)))

theorem rightly_q (c : Cl) (a : An) (m : M) : QSpec Try.prog 48 [clv c, anv a] m (.bool (rigB c a)) := by
  refine QSpec.of_vc Try.func48 (ann := fun _ => noAnn) fun n hn => ?_
  refine vc_by (X :=
      true = true ∧
      ifB (c.aw == (0 : Int)) (Done (Value.bool true = Value.bool (rigB c a)))
      (ifB (c.an_er != a.er) (Done (Value.bool false = Value.bool (rigB c a)))
      (ifB (a.er != (0 : Int)) (Done (Value.bool true = Value.bool (rigB c a)))
      (ifB (c.op_kd == (4 : Int)) (Done (Value.bool (c.an_va == a.va) = Value.bool (rigB c a)))
      (ifB (c.op_kd == (3 : Int))
      (ifB (decide (c.an_le ≤ a.le)) (Done (Value.bool (decide (c.an_mo ≥ a.mo)) = Value.bool (rigB c a))) (Done (Value.bool false = Value.bool (rigB c a))))
      (Done (Value.bool true = Value.bool (rigB c a)))))))) (by kernel_rfl) ?_
  refine ⟨rfl, ?_⟩
  simp only [ifB_iff, done_iff, Value.bool.injEq]
  unfold rigB
  by_cases h1 : c.aw = 0
  · simp [h1]
  by_cases h2 : c.an_er = a.er
  · by_cases h3 : a.er = 0
    · by_cases h4 : c.op_kd = 4
      · simp [h1, h2, h3, h4, beq_eq_dec]
      · by_cases h5 : c.op_kd = 3
        · by_cases h6 : c.an_le ≤ a.le <;> simp [h1, h2, h3, h5, h6, show ¬ a.le < c.an_le ↔ c.an_le ≤ a.le by omega]
        · simp [h1, h2, h3, h4, h5]
    · simp [h1, h2, h3]
  · simp [h1, h2]

theorem rrightly_q (c : Cl) (a : An) (m : M) : QSpec Try.prog 50 [clv c, anv a] m (.bool (rigB c a)) := by
  refine QSpec.of_vc Try.func50 (ann := fun _ => noAnn) fun n hn => ?_
  refine vc_by (X :=
      true = true ∧
      ifB (c.aw == (0 : Int)) (Done (Value.bool true = Value.bool (rigB c a)))
      (ifB (c.an_er != a.er) (Done (Value.bool false = Value.bool (rigB c a)))
      (ifB (a.er != (0 : Int)) (Done (Value.bool true = Value.bool (rigB c a)))
      (ifB (c.op_kd == (4 : Int)) (Done (Value.bool (c.an_va == a.va) = Value.bool (rigB c a)))
      (ifB (c.op_kd == (3 : Int))
      (ifB (decide (c.an_le ≤ a.le)) (Done (Value.bool (decide (a.mo ≤ c.an_mo)) = Value.bool (rigB c a))) (Done (Value.bool false = Value.bool (rigB c a))))
      (Done (Value.bool true = Value.bool (rigB c a)))))))) (by kernel_rfl) ?_
  refine ⟨rfl, ?_⟩
  simp only [ifB_iff, done_iff, Value.bool.injEq]
  unfold rigB
  by_cases h1 : c.aw = 0
  · simp [h1]
  by_cases h2 : c.an_er = a.er
  · by_cases h3 : a.er = 0
    · by_cases h4 : c.op_kd = 4
      · simp [h1, h2, h3, h4, beq_eq_dec]
      · by_cases h5 : c.op_kd = 3
        · by_cases h6 : c.an_le ≤ a.le <;> simp [h1, h2, h3, h5, h6, show ¬ a.le < c.an_le ↔ c.an_le ≤ a.le by omega]
        · simp [h1, h2, h3, h4, h5]
    · simp [h1, h2, h3]
  · simp [h1, h2]

/-- what is left of the test, if it is no matter of form -/
theorem wrg_tail {c : Cl} {e : List Cl} (h1 : badB c = false) (h2 : sqB c e = false) : wrgE c e = if oldB c then 80 else if opnB c e then 230 else if nonB c then 60 else 0 := by simp [wrgE, h1, h2]

theorem bad_form {c : Cl} {e : List Cl} (h : badB c = true ∨ sqB c e = true) : wrgE c e = 21 := by
  have : (badB c || sqB c e) = true := by rcases h with h | h <;> simp [h]
  simp [wrgE, this]

theorem any_take {α : Type} (p : α → Bool) (l : List α) (k : Nat) (hk : k < l.length) : (l.take (k + 1)).any p = ((l.take k).any p || p l[k]) := by
  rw [List.take_succ_eq_append_getElem hk, List.any_append]; simp

theorem any_sub {α : Type} (p : α → Bool) (l : List α) (k : Nat) (h : (l.take k).any p = true) : l.any p = true := by
  rw [List.any_eq_true] at h ⊢
  obtain ⟨x, h1, h2⟩ := h
  exact ⟨x, List.mem_of_mem_take h1, h2⟩

theorem bad_no {c : Cl} (h1 : ¬ c.cl < 1) (h2 : ¬ c.cl > 8) (h3 : ¬ c.ca < 1) (h4 : ¬ (c.aw ≠ 0 ∧ c.aw < c.ca)) : badB c = false := by
  have a1 : 1 ≤ c.cl := by omega
  have a2 : c.cl ≤ 8 := by omega
  by_cases h : c.aw = 0
  · simp [badB, a1, a2, h]; omega
  · have : ¬ c.aw < c.ca := fun h5 => h4 ⟨h, h5⟩
    simp [badB, a1, a2, this]; omega

theorem wrong_q (c : Cl) (a : Option Addr) (cp : Nat) (e : List Cl) (hn : e.length ≤ 9223372036854775807) (m : M) (h : Row m a (cls e)) : QSpec Try.prog 47 [clv c, .slice a e.length cp] m (I (wrgE c e)) := by
  refine QSpec.of_vc Try.func47 (ann := fun n r => match r with
    | 5 => { A := Nat, inv := fun k => k ≤ e.length ∧ badB c = false ∧ sqB c (e.take k) = false, st := fun k => [(36, .val (I k)), (35, .val (I e.length)), (34, .val (.slice a e.length cp)), (2, .own 0 0), (5, .val (.bool (opnB c (e.take k))))], own := fun _ => [(0, ⟨51, encCl c⟩)], m := fun _ => { m with sz := n }, μ := fun k => e.length - k }
    | 3 => { A := Nat, inv := fun _ => badB c = false, st := fun k => [(1, .val (.slice a e.length cp)), (2, .own 0 0)], own := fun _ => [(0, ⟨51, encCl c⟩)], m := fun _ => { m with sz := n }, μ := fun k => 0, cut := true }
    | _ => noAnn 0) fun n hn => ?_
  refine vc_by (X :=
      true = true ∧
      ifB (decide (c.cl < (1 : Int))) (Done (Value.int IntKind.i64 (21 : Int) = Value.int IntKind.i64 (wrgE c e)))
      (ifB (decide (c.cl > (8 : Int))) (Done (Value.int IntKind.i64 (21 : Int) = Value.int IntKind.i64 (wrgE c e)))
      (ifB (decide (c.ca < (1 : Int))) (Done (Value.int IntKind.i64 (21 : Int) = Value.int IntKind.i64 (wrgE c e)))
      (ifB (c.aw != (0 : Int))
      (ifB (decide (c.aw < c.ca)) (Done (Value.int IntKind.i64 (21 : Int) = Value.int IntKind.i64 (wrgE c e)))
      (∃ (x : Nat),
      badB c = false ∧
      { π := m.π, sz := n, uf := m.uf : M } = { π := m.π, sz := n, uf := m.uf : M } ∧
      ((SV.val (Value.slice a e.length cp) = SV.val (Value.slice a e.length cp) ∧ true = true) ∧
      (SV.own ((0 : Nat) + (0 : Nat)) (0 : Nat) = SV.own (0 : Nat) (0 : Nat) ∧ true = true) ∧ True) ∧
      (some
      { ty := (51 : Nat), cs := [Value.int IntKind.i64 c.cl, Value.int IntKind.i64 c.sq, Value.int IntKind.i64 c.nd, Value.int IntKind.i64 c.op_kd, Value.string c.op_ky, Value.string c.op_ot, Value.int IntKind.i64 c.op_n, Value.int IntKind.i64 c.op_lo, Value.int IntKind.i64 c.op_hi, Value.int IntKind.i64 c.ca, Value.int IntKind.i64 c.mo, Value.int IntKind.i64 c.aw, Value.int IntKind.i64 c.an_er, Value.int IntKind.i64 c.an_va, Value.int IntKind.i64 c.an_le, Value.int IntKind.i64 c.an_mo] : Bx } =
      some
      { ty := (51 : TypeId), cs := [Value.int IntKind.i64 c.cl, Value.int IntKind.i64 c.sq, Value.int IntKind.i64 c.nd, Value.int IntKind.i64 c.op_kd, Value.string c.op_ky, Value.string c.op_ot, Value.int IntKind.i64 c.op_n, Value.int IntKind.i64 c.op_lo, Value.int IntKind.i64 c.op_hi, Value.int IntKind.i64 c.ca, Value.int IntKind.i64 c.mo, Value.int IntKind.i64 c.aw, Value.int IntKind.i64 c.an_er, Value.int IntKind.i64 c.an_va, Value.int IntKind.i64 c.an_le, Value.int IntKind.i64 c.an_mo] : Bx } ∧
      true = true) ∧
      True))
      (∃ (x : Nat),
      badB c = false ∧
      { π := m.π, sz := n, uf := m.uf : M } = { π := m.π, sz := n, uf := m.uf : M } ∧
      ((SV.val (Value.slice a e.length cp) = SV.val (Value.slice a e.length cp) ∧ true = true) ∧
      (SV.own ((0 : Nat) + (0 : Nat)) (0 : Nat) = SV.own (0 : Nat) (0 : Nat) ∧ true = true) ∧ True) ∧
      (some
      { ty := (51 : Nat), cs := [Value.int IntKind.i64 c.cl, Value.int IntKind.i64 c.sq, Value.int IntKind.i64 c.nd, Value.int IntKind.i64 c.op_kd, Value.string c.op_ky, Value.string c.op_ot, Value.int IntKind.i64 c.op_n, Value.int IntKind.i64 c.op_lo, Value.int IntKind.i64 c.op_hi, Value.int IntKind.i64 c.ca, Value.int IntKind.i64 c.mo, Value.int IntKind.i64 c.aw, Value.int IntKind.i64 c.an_er, Value.int IntKind.i64 c.an_va, Value.int IntKind.i64 c.an_le, Value.int IntKind.i64 c.an_mo] : Bx } =
      some
      { ty := (51 : TypeId), cs := [Value.int IntKind.i64 c.cl, Value.int IntKind.i64 c.sq, Value.int IntKind.i64 c.nd, Value.int IntKind.i64 c.op_kd, Value.string c.op_ky, Value.string c.op_ot, Value.int IntKind.i64 c.op_n, Value.int IntKind.i64 c.op_lo, Value.int IntKind.i64 c.op_hi, Value.int IntKind.i64 c.ca, Value.int IntKind.i64 c.mo, Value.int IntKind.i64 c.aw, Value.int IntKind.i64 c.an_er, Value.int IntKind.i64 c.an_va, Value.int IntKind.i64 c.an_le, Value.int IntKind.i64 c.an_mo] : Bx } ∧
      true = true) ∧
      True)))) ∧
      ∀ (x : Nat),
      badB c = false →
      (∃ (a_2 : Nat),
      (a_2 ≤ e.length ∧ badB c = false ∧ sqB c (List.take a_2 e) = false) ∧
      { π := m.π, sz := n, uf := m.uf : M } = { π := m.π, sz := n, uf := m.uf : M } ∧
      ((SV.val (Value.int IntKind.i64 (0 : Int)) = SV.val (Value.int IntKind.i64 (↑a_2 : Int)) ∧ true = true) ∧
      (SV.val (Value.int IntKind.i64 (↑e.length : Int)) = SV.val (Value.int IntKind.i64 (↑e.length : Int)) ∧ true = true) ∧
      (SV.val (Value.slice a e.length cp) = SV.val (Value.slice a e.length cp) ∧ true = true) ∧
      (SV.own (0 : Nat) (0 : Nat) = SV.own (0 : Nat) (0 : Nat) ∧ true = true) ∧
      (SV.val (Value.bool false) = SV.val (Value.bool (opnB c (List.take a_2 e))) ∧ true = true) ∧ True) ∧
      (some
      { ty := (51 : TypeId), cs := [Value.int IntKind.i64 c.cl, Value.int IntKind.i64 c.sq, Value.int IntKind.i64 c.nd, Value.int IntKind.i64 c.op_kd, Value.string c.op_ky, Value.string c.op_ot, Value.int IntKind.i64 c.op_n, Value.int IntKind.i64 c.op_lo, Value.int IntKind.i64 c.op_hi, Value.int IntKind.i64 c.ca, Value.int IntKind.i64 c.mo, Value.int IntKind.i64 c.aw, Value.int IntKind.i64 c.an_er, Value.int IntKind.i64 c.an_va, Value.int IntKind.i64 c.an_le, Value.int IntKind.i64 c.an_mo] : Bx } =
      some
      { ty := (51 : TypeId), cs := [Value.int IntKind.i64 c.cl, Value.int IntKind.i64 c.sq, Value.int IntKind.i64 c.nd, Value.int IntKind.i64 c.op_kd, Value.string c.op_ky, Value.string c.op_ot, Value.int IntKind.i64 c.op_n, Value.int IntKind.i64 c.op_lo, Value.int IntKind.i64 c.op_hi, Value.int IntKind.i64 c.ca, Value.int IntKind.i64 c.mo, Value.int IntKind.i64 c.aw, Value.int IntKind.i64 c.an_er, Value.int IntKind.i64 c.an_va, Value.int IntKind.i64 c.an_le, Value.int IntKind.i64 c.an_mo] : Bx } ∧
      true = true) ∧
      True) ∧
      ∀ (a_2 : Nat),
      a_2 ≤ e.length ∧ badB c = false ∧ sqB c (List.take a_2 e) = false →
      ifB (decide ((↑a_2 : Int) < (↑e.length : Int)))
      (∃ (b : Nat),
      ∃ (off : Nat),
      a = some { block := b, off := off : Addr } ∧
      ((0 : Int) ≤ (↑a_2 : Int) ∧ (↑a_2 : Int) < (↑e.length : Int)) ∧
      ∃ (n_1 : Int),
      ∃ (n_2 : Int),
      ∃ (n_3 : Int),
      ∃ (n_4 : Int),
      ∃ (s : ByteArray),
      ∃ (s_1 : ByteArray),
      ∃ (n_5 : Int),
      ∃ (n_6 : Int),
      ∃ (n_7 : Int),
      ∃ (n_8 : Int),
      ∃ (n_9 : Int),
      ∃ (n_10 : Int),
      ∃ (n_11 : Int),
      ∃ (n_12 : Int),
      ∃ (n_13 : Int),
      ∃ (n_14 : Int),
      CellsAt { π := m.π, sz := n, uf := m.uf : M } b (off + (↑a_2 : Int).toNat * (16 : Nat))
      [Value.int IntKind.i64 n_1, Value.int IntKind.i64 n_2, Value.int IntKind.i64 n_3, Value.int IntKind.i64 n_4,
      Value.string s, Value.string s_1, Value.int IntKind.i64 n_5, Value.int IntKind.i64 n_6, Value.int IntKind.i64 n_7,
      Value.int IntKind.i64 n_8, Value.int IntKind.i64 n_9, Value.int IntKind.i64 n_10, Value.int IntKind.i64 n_11,
      Value.int IntKind.i64 n_12, Value.int IntKind.i64 n_13, Value.int IntKind.i64 n_14] ∧
      ifB (n_1 != c.cl)
      (∃ (a' : Nat),
      ((a' ≤ e.length ∧ badB c = false ∧ sqB c (List.take a' e) = false) ∧
      { π := m.π, sz := n, uf := m.uf : M } = { π := m.π, sz := n, uf := m.uf : M } ∧
      ((SV.val (Value.int IntKind.i64 (IntKind.i64.wrap ((↑a_2 : Int) + (1 : Int)))) =
      SV.val (Value.int IntKind.i64 (↑a' : Int)) ∧
      true = true) ∧
      (SV.val (Value.int IntKind.i64 (↑e.length : Int)) = SV.val (Value.int IntKind.i64 (↑e.length : Int)) ∧
      true = true) ∧
      (SV.val (Value.slice a e.length cp) = SV.val (Value.slice a e.length cp) ∧ true = true) ∧
      (SV.own (0 : Nat) (0 : Nat) = SV.own (0 : Nat) (0 : Nat) ∧ true = true) ∧
      (SV.val (Value.bool (opnB c (List.take a_2 e))) = SV.val (Value.bool (opnB c (List.take a' e))) ∧
      true = true) ∧
      True) ∧
      (some
      { ty := (51 : TypeId), cs := [Value.int IntKind.i64 c.cl, Value.int IntKind.i64 c.sq, Value.int IntKind.i64 c.nd, Value.int IntKind.i64 c.op_kd, Value.string c.op_ky, Value.string c.op_ot, Value.int IntKind.i64 c.op_n, Value.int IntKind.i64 c.op_lo, Value.int IntKind.i64 c.op_hi, Value.int IntKind.i64 c.ca, Value.int IntKind.i64 c.mo, Value.int IntKind.i64 c.aw, Value.int IntKind.i64 c.an_er, Value.int IntKind.i64 c.an_va, Value.int IntKind.i64 c.an_le, Value.int IntKind.i64 c.an_mo] : Bx } =
      some
      { ty := (51 : TypeId), cs := [Value.int IntKind.i64 c.cl, Value.int IntKind.i64 c.sq, Value.int IntKind.i64 c.nd, Value.int IntKind.i64 c.op_kd, Value.string c.op_ky, Value.string c.op_ot, Value.int IntKind.i64 c.op_n, Value.int IntKind.i64 c.op_lo, Value.int IntKind.i64 c.op_hi, Value.int IntKind.i64 c.ca, Value.int IntKind.i64 c.mo, Value.int IntKind.i64 c.aw, Value.int IntKind.i64 c.an_er, Value.int IntKind.i64 c.an_va, Value.int IntKind.i64 c.an_le, Value.int IntKind.i64 c.an_mo] : Bx } ∧
      true = true) ∧
      True) ∧
      e.length - a' < e.length - a_2)
      (ifB (decide (c.sq ≤ n_2)) (Done (Value.int IntKind.i64 (21 : Int) = Value.int IntKind.i64 (wrgE c e)))
      (ifB (opnB c (List.take a_2 e))
      (∃ (a' : Nat),
      ((a' ≤ e.length ∧ badB c = false ∧ sqB c (List.take a' e) = false) ∧
      { π := m.π, sz := n, uf := m.uf : M } = { π := m.π, sz := n, uf := m.uf : M } ∧
      ((SV.val (Value.int IntKind.i64 (IntKind.i64.wrap ((↑a_2 : Int) + (1 : Int)))) =
      SV.val (Value.int IntKind.i64 (↑a' : Int)) ∧
      true = true) ∧
      (SV.val (Value.int IntKind.i64 (↑e.length : Int)) = SV.val (Value.int IntKind.i64 (↑e.length : Int)) ∧
      true = true) ∧
      (SV.val (Value.slice a e.length cp) = SV.val (Value.slice a e.length cp) ∧ true = true) ∧
      (SV.own (0 : Nat) (0 : Nat) = SV.own (0 : Nat) (0 : Nat) ∧ true = true) ∧
      (SV.val (Value.bool true) = SV.val (Value.bool (opnB c (List.take a' e))) ∧ true = true) ∧ True) ∧
      (some
      { ty := (51 : TypeId), cs := [Value.int IntKind.i64 c.cl, Value.int IntKind.i64 c.sq, Value.int IntKind.i64 c.nd, Value.int IntKind.i64 c.op_kd, Value.string c.op_ky, Value.string c.op_ot, Value.int IntKind.i64 c.op_n, Value.int IntKind.i64 c.op_lo, Value.int IntKind.i64 c.op_hi, Value.int IntKind.i64 c.ca, Value.int IntKind.i64 c.mo, Value.int IntKind.i64 c.aw, Value.int IntKind.i64 c.an_er, Value.int IntKind.i64 c.an_va, Value.int IntKind.i64 c.an_le, Value.int IntKind.i64 c.an_mo] : Bx } =
      some
      { ty := (51 : TypeId), cs := [Value.int IntKind.i64 c.cl, Value.int IntKind.i64 c.sq, Value.int IntKind.i64 c.nd, Value.int IntKind.i64 c.op_kd, Value.string c.op_ky, Value.string c.op_ot, Value.int IntKind.i64 c.op_n, Value.int IntKind.i64 c.op_lo, Value.int IntKind.i64 c.op_hi, Value.int IntKind.i64 c.ca, Value.int IntKind.i64 c.mo, Value.int IntKind.i64 c.aw, Value.int IntKind.i64 c.an_er, Value.int IntKind.i64 c.an_va, Value.int IntKind.i64 c.an_le, Value.int IntKind.i64 c.an_mo] : Bx } ∧
      true = true) ∧
      True) ∧
      e.length - a' < e.length - a_2)
      (ifB (n_10 == (0 : Int))
      (∃ (a' : Nat),
      ((a' ≤ e.length ∧ badB c = false ∧ sqB c (List.take a' e) = false) ∧
      { π := m.π, sz := n, uf := m.uf : M } = { π := m.π, sz := n, uf := m.uf : M } ∧
      ((SV.val (Value.int IntKind.i64 (IntKind.i64.wrap ((↑a_2 : Int) + (1 : Int)))) =
      SV.val (Value.int IntKind.i64 (↑a' : Int)) ∧
      true = true) ∧
      (SV.val (Value.int IntKind.i64 (↑e.length : Int)) = SV.val (Value.int IntKind.i64 (↑e.length : Int)) ∧
      true = true) ∧
      (SV.val (Value.slice a e.length cp) = SV.val (Value.slice a e.length cp) ∧ true = true) ∧
      (SV.own (0 : Nat) (0 : Nat) = SV.own (0 : Nat) (0 : Nat) ∧ true = true) ∧
      (SV.val (Value.bool true) = SV.val (Value.bool (opnB c (List.take a' e))) ∧ true = true) ∧
      True) ∧
      (some
      { ty := (51 : TypeId), cs := [Value.int IntKind.i64 c.cl, Value.int IntKind.i64 c.sq, Value.int IntKind.i64 c.nd, Value.int IntKind.i64 c.op_kd, Value.string c.op_ky, Value.string c.op_ot, Value.int IntKind.i64 c.op_n, Value.int IntKind.i64 c.op_lo, Value.int IntKind.i64 c.op_hi, Value.int IntKind.i64 c.ca, Value.int IntKind.i64 c.mo, Value.int IntKind.i64 c.aw, Value.int IntKind.i64 c.an_er, Value.int IntKind.i64 c.an_va, Value.int IntKind.i64 c.an_le, Value.int IntKind.i64 c.an_mo] : Bx } =
      some
      { ty := (51 : TypeId), cs := [Value.int IntKind.i64 c.cl, Value.int IntKind.i64 c.sq, Value.int IntKind.i64 c.nd, Value.int IntKind.i64 c.op_kd, Value.string c.op_ky, Value.string c.op_ot, Value.int IntKind.i64 c.op_n, Value.int IntKind.i64 c.op_lo, Value.int IntKind.i64 c.op_hi, Value.int IntKind.i64 c.ca, Value.int IntKind.i64 c.mo, Value.int IntKind.i64 c.aw, Value.int IntKind.i64 c.an_er, Value.int IntKind.i64 c.an_va, Value.int IntKind.i64 c.an_le, Value.int IntKind.i64 c.an_mo] : Bx } ∧
      true = true) ∧
      True) ∧
      e.length - a' < e.length - a_2)
      (∃ (a' : Nat),
      ((a' ≤ e.length ∧ badB c = false ∧ sqB c (List.take a' e) = false) ∧
      { π := m.π, sz := n, uf := m.uf : M } = { π := m.π, sz := n, uf := m.uf : M } ∧
      ((SV.val (Value.int IntKind.i64 (IntKind.i64.wrap ((↑a_2 : Int) + (1 : Int)))) =
      SV.val (Value.int IntKind.i64 (↑a' : Int)) ∧
      true = true) ∧
      (SV.val (Value.int IntKind.i64 (↑e.length : Int)) = SV.val (Value.int IntKind.i64 (↑e.length : Int)) ∧
      true = true) ∧
      (SV.val (Value.slice a e.length cp) = SV.val (Value.slice a e.length cp) ∧ true = true) ∧
      (SV.own (0 : Nat) (0 : Nat) = SV.own (0 : Nat) (0 : Nat) ∧ true = true) ∧
      (SV.val (Value.bool (decide (c.ca ≤ n_10))) = SV.val (Value.bool (opnB c (List.take a' e))) ∧
      true = true) ∧
      True) ∧
      (some
      { ty := (51 : TypeId), cs := [Value.int IntKind.i64 c.cl, Value.int IntKind.i64 c.sq, Value.int IntKind.i64 c.nd, Value.int IntKind.i64 c.op_kd, Value.string c.op_ky, Value.string c.op_ot, Value.int IntKind.i64 c.op_n, Value.int IntKind.i64 c.op_lo, Value.int IntKind.i64 c.op_hi, Value.int IntKind.i64 c.ca, Value.int IntKind.i64 c.mo, Value.int IntKind.i64 c.aw, Value.int IntKind.i64 c.an_er, Value.int IntKind.i64 c.an_va, Value.int IntKind.i64 c.an_le, Value.int IntKind.i64 c.an_mo] : Bx } =
      some
      { ty := (51 : TypeId), cs := [Value.int IntKind.i64 c.cl, Value.int IntKind.i64 c.sq, Value.int IntKind.i64 c.nd, Value.int IntKind.i64 c.op_kd, Value.string c.op_ky, Value.string c.op_ot, Value.int IntKind.i64 c.op_n, Value.int IntKind.i64 c.op_lo, Value.int IntKind.i64 c.op_hi, Value.int IntKind.i64 c.ca, Value.int IntKind.i64 c.mo, Value.int IntKind.i64 c.aw, Value.int IntKind.i64 c.an_er, Value.int IntKind.i64 c.an_va, Value.int IntKind.i64 c.an_le, Value.int IntKind.i64 c.an_mo] : Bx } ∧
      true = true) ∧
      True) ∧
      e.length - a' < e.length - a_2)))))
      (ifB (decide (c.mo > (0 : Int)))
      (ifB (decide (c.mo < c.ca)) (Done (Value.int IntKind.i64 (80 : Int) = Value.int IntKind.i64 (wrgE c e)))
      (ifB (c.aw != (0 : Int))
      (ifB (decide (c.mo > c.aw)) (Done (Value.int IntKind.i64 (80 : Int) = Value.int IntKind.i64 (wrgE c e)))
      (ifB (opnB c (List.take a_2 e)) (Done (Value.int IntKind.i64 (230 : Int) = Value.int IntKind.i64 (wrgE c e)))
      (ifB (c.aw != (0 : Int))
      (∃ (b : Bool),
      QSpec Try.prog (60 : Nat) [Value.int IntKind.i64 c.an_er] { π := m.π, sz := n, uf := m.uf : M } (Value.bool b) ∧
      ifB (decide (c.mo > (0 : Int)) == b) (Done (Value.int IntKind.i64 (60 : Int) = Value.int IntKind.i64 (wrgE c e)))
      (Done (Value.int IntKind.i64 (0 : Int) = Value.int IntKind.i64 (wrgE c e))))
      (Done (Value.int IntKind.i64 (0 : Int) = Value.int IntKind.i64 (wrgE c e))))))
      (ifB (opnB c (List.take a_2 e)) (Done (Value.int IntKind.i64 (230 : Int) = Value.int IntKind.i64 (wrgE c e)))
      (ifB (c.aw != (0 : Int))
      (∃ (b : Bool),
      QSpec Try.prog (60 : Nat) [Value.int IntKind.i64 c.an_er] { π := m.π, sz := n, uf := m.uf : M } (Value.bool b) ∧
      ifB (decide (c.mo > (0 : Int)) == b) (Done (Value.int IntKind.i64 (60 : Int) = Value.int IntKind.i64 (wrgE c e)))
      (Done (Value.int IntKind.i64 (0 : Int) = Value.int IntKind.i64 (wrgE c e))))
      (Done (Value.int IntKind.i64 (0 : Int) = Value.int IntKind.i64 (wrgE c e)))))))
      (ifB (opnB c (List.take a_2 e)) (Done (Value.int IntKind.i64 (230 : Int) = Value.int IntKind.i64 (wrgE c e)))
      (ifB (c.aw != (0 : Int))
      (∃ (b : Bool),
      QSpec Try.prog (60 : Nat) [Value.int IntKind.i64 c.an_er] { π := m.π, sz := n, uf := m.uf : M } (Value.bool b) ∧
      ifB (decide (c.mo > (0 : Int)) == b) (Done (Value.int IntKind.i64 (60 : Int) = Value.int IntKind.i64 (wrgE c e)))
      (Done (Value.int IntKind.i64 (0 : Int) = Value.int IntKind.i64 (wrgE c e))))
      (Done (Value.int IntKind.i64 (0 : Int) = Value.int IntKind.i64 (wrgE c e))))))) (by kernel_rfl) ?_
  have h' := h.sz hn
  refine ⟨rfl, ⟨ifB_intro (fun h1 => ⟨?_⟩) (fun h1 => ifB_intro (fun h2 => ⟨?_⟩) (fun h2 => ifB_intro (fun h3 => ⟨?_⟩) (fun h3 => ifB_intro (fun h4 => ifB_intro (fun h5 => ⟨?_⟩) (fun h5 => ⟨0, ?_, rfl, by simp⟩)) (fun h4 => ⟨0, ?_, rfl, by simp⟩)))), fun _ hbad => ⟨⟨0, ⟨Nat.zero_le _, hbad, by simp [sqB]⟩, rfl, by simp [opnB]⟩, fun k ⟨hk, _, hs⟩ => ifB_intro (fun hb => ?_) (fun hb => ?_)⟩⟩⟩
  · simp at h1; rw [bad_form (.inl (by simp [badB]; omega))]
  · simp at h1 h2; rw [bad_form (.inl (by simp [badB]; omega))]
  · simp at h3; rw [bad_form (.inl (by simp [badB]; omega))]
  · simp at h4 h5; rw [bad_form (.inl (by simp [badB, h4, h5]))]
  · simp at h1 h2 h3 h4 h5; exact bad_no (by omega) (by omega) (by omega) (by omega)
  · simp at h1 h2 h3 h4; exact bad_no (by omega) (by omega) (by omega) (by omega)
  · have hk2 : k < e.length := by simpa using hb
    obtain ⟨b, o, rfl, hc⟩ := h'.cells (by rw [cl_len]; omega)
    have w1 : IntKind.i64.wrap ((k : Int) + 1) = ((k + 1 : Nat) : Int) := by simp [IntKind.wrap_i64]; omega
    have e1 : sqB c (e.take (k + 1)) = _ := any_take _ e k hk2
    have e2 : opnB c (e.take (k + 1)) = _ := any_take _ e k hk2
    have f1 : sqB c (e.take k) = (e.take k).any (fun x => decide (x.cl = c.cl) && decide (c.sq ≤ x.sq)) := rfl
    have f2 : opnB c (e.take k) = (e.take k).any (fun x => decide (x.cl = c.cl) && (decide (x.aw = 0) || decide (c.ca ≤ x.aw))) := rfl
    rw [← f1, hs] at e1
    rw [← f2] at e2
    refine ⟨b, o, rfl, by omega, _, _, _, _, _, _, _, _, _, _, _, _, _, _, _, _, by simpa using cl_at hc hk2, ifB_intro (fun h1 => ⟨k + 1, ⟨⟨hk2, hbad, ?_⟩, rfl, (by simp at h1; simp [w1, e2, h1])⟩, by omega⟩) (fun h1 => ifB_intro (fun h2 => ⟨?_⟩) (fun h2 => ifB_intro (fun h3 => ⟨k + 1, ⟨⟨hk2, hbad, ?_⟩, rfl, by simp [w1, e2, h3]⟩, by omega⟩) (fun h3 => ifB_intro (fun h4 => ⟨k + 1, ⟨⟨hk2, hbad, ?_⟩, rfl, ?_⟩, by omega⟩) (fun h4 => ⟨k + 1, ⟨⟨hk2, hbad, ?_⟩, rfl, ?_⟩, by omega⟩))))⟩
    · rw [e1]; simp at h1; simp [h1]
    · simp at h1 h2
      rw [bad_form (.inr (any_sub _ e (k + 1) (by rw [any_take _ e k hk2]; simp [h1, h2])))]
    all_goals simp at h1 h2
    · rw [e1]; simp; omega
    · rw [e1]; simp; omega
    · simp at h4; simp [w1, e2, h3, h1, h4]
    · rw [e1]; simp; omega
    · simp at h4; simp [w1, e2, h3, h1, h4]
  · have hk2 : k = e.length := by simp at hb; omega
    rw [hk2, List.take_length] at hs ⊢
    rw [wrg_tail hbad hs]
    have X : oldB c = false → ifB (opnB c e) (Done (Value.int .i64 230 = I (if oldB c then 80 else if opnB c e then 230 else if nonB c then 60 else 0))) (ifB (c.aw != 0) (∃ b, QSpec Try.prog 60 [I c.an_er] { m with sz := n } (.bool b) ∧ ifB (decide (c.mo > 0) == b) (Done (I 60 = I (if oldB c then 80 else if opnB c e then 230 else if nonB c then 60 else 0))) (Done (I 0 = I (if oldB c then 80 else if opnB c e then 230 else if nonB c then 60 else 0)))) (Done (I 0 = I (if oldB c then 80 else if opnB c e then 230 else if nonB c then 60 else 0)))) := fun ho => by
      rw [ho]
      refine ifB_intro (fun h1 => ⟨by simp [h1]⟩) (fun h1 => ifB_intro (fun h2 => ⟨_, without_q _ _, ifB_intro (fun h3 => ⟨?_⟩) (fun h3 => ⟨?_⟩)⟩) (fun h2 => ⟨?_⟩))
      · simp at h2
        have : nonB c = true := by simp only [nonB, h2, decide_false, Bool.not_false, Bool.true_and]; exact h3
        simp [h1, this]
      · simp at h2
        have : nonB c = false := by simp only [nonB, h2, decide_false, Bool.not_false, Bool.true_and]; exact h3
        simp [h1, this]
      · simp at h2
        have : nonB c = false := by simp [nonB, h2]
        simp [h1, this]
    refine ifB_intro (fun h1 => ifB_intro (fun h2 => ⟨?_⟩) (fun h2 => ifB_intro (fun h3 => ifB_intro (fun h4 => ⟨?_⟩) (fun h4 => X ?_)) (fun h3 => X ?_))) (fun h1 => X ?_)
    · simp at h1 h2; simp [oldB, h1, h2]
    · simp at h1 h2 h3 h4; simp [oldB, h1, h3, h4]
    · simp at h1 h2 h3 h4; simp [oldB, h3]; omega
    · simp at h1 h2 h3; simp [oldB, h3]; omega
    · simp at h1; simp [oldB]; omega

theorem form_q (a : Option Addr) (cp : Nat) (l : List Cl) (i : Nat) (hi : i < l.length) (hn : l.length ≤ 9223372036854775807) (m : M) (h : Row m a (cls l)) : QSpec Try.prog 49 [.slice a l.length cp, I i] m (I (wrgE (clA l i) (l.take i))) := by
  refine QSpec.of_vc Try.func49 (ann := fun n r => match r with
    | 4 => { A := Nat, inv := fun k => k ≤ i, st := fun k => [(7, .val (I k)), (1, .val (I i)), (0, .val (.slice a l.length cp)), (5, .own 5 0), (6, .val (I (if sqB (clA l i) (l.take k) then 21 else 0)))], own := fun _ => [(5, ⟨51, encCl (clA l i)⟩)], m := fun _ => { m with sz := n }, μ := fun k => i - k }
    | 10 => { A := Nat, inv := fun k => badB (clA l i) = false ∧ sqB (clA l i) (l.take i) = false, st := fun k => [(1, .val (I i)), (0, .val (.slice a l.length cp)), (5, .own 5 0)], own := fun _ => [(5, ⟨51, encCl (clA l i)⟩)], m := fun _ => { m with sz := n }, μ := fun k => 0, cut := true }
    | 12 => { A := Nat, inv := fun k => oldB (clA l i) = false, st := fun k => [(1, .val (I i)), (0, .val (.slice a l.length cp)), (5, .own 5 0)], own := fun _ => [(5, ⟨51, encCl (clA l i)⟩)], m := fun _ => { m with sz := n }, μ := fun k => 0, cut := true }
    | 13 => { A := Nat, inv := fun k => k ≤ i ∧ opnB (clA l i) (l.take k) = false, st := fun k => [(8, .val (I k)), (1, .val (I i)), (0, .val (.slice a l.length cp)), (5, .own 5 0)], own := fun _ => [(5, ⟨51, encCl (clA l i)⟩)], m := fun _ => { m with sz := n }, μ := fun k => i - k }
    | _ => noAnn 0) fun n hn => ?_
  refine vc_by (X :=
      true = true ∧
      ∃ (b : Nat),
      ∃ (off : Nat),
      a = some { block := b, off := off : Addr } ∧
      ((0 : Int) ≤ (↑i : Int) ∧ (↑i : Int) < (↑l.length : Int)) ∧
      ∃ (n_1 : Int),
      ∃ (n_2 : Int),
      ∃ (n_3 : Int),
      ∃ (n_4 : Int),
      ∃ (s : ByteArray),
      ∃ (s_1 : ByteArray),
      ∃ (n_5 : Int),
      ∃ (n_6 : Int),
      ∃ (n_7 : Int),
      ∃ (n_8 : Int),
      ∃ (n_9 : Int),
      ∃ (n_10 : Int),
      ∃ (n_11 : Int),
      ∃ (n_12 : Int),
      ∃ (n_13 : Int),
      ∃ (n_14 : Int),
      CellsAt { π := m.π, sz := n, uf := m.uf : M } b (off + (↑i : Int).toNat * (16 : Nat))
      [Value.int IntKind.i64 n_1, Value.int IntKind.i64 n_2, Value.int IntKind.i64 n_3, Value.int IntKind.i64 n_4, Value.string s,
      Value.string s_1, Value.int IntKind.i64 n_5, Value.int IntKind.i64 n_6, Value.int IntKind.i64 n_7, Value.int IntKind.i64 n_8,
      Value.int IntKind.i64 n_9, Value.int IntKind.i64 n_10, Value.int IntKind.i64 n_11, Value.int IntKind.i64 n_12,
      Value.int IntKind.i64 n_13, Value.int IntKind.i64 n_14] ∧
      (∃ (a_1 : Nat),
      a_1 ≤ i ∧
      { π := m.π, sz := n, uf := m.uf : M } = { π := m.π, sz := n, uf := m.uf : M } ∧
      ((SV.val (Value.int IntKind.i64 (0 : Int)) = SV.val (Value.int IntKind.i64 (↑a_1 : Int)) ∧ true = true) ∧
      (SV.val (Value.int IntKind.i64 (↑i : Int)) = SV.val (Value.int IntKind.i64 (↑i : Int)) ∧ true = true) ∧
      (SV.val (Value.slice a l.length cp) = SV.val (Value.slice a l.length cp) ∧ true = true) ∧
      (SV.own ((0 : Nat) + (1 : Nat) + (4 : Nat)) (0 : Nat) = SV.own (5 : Nat) (0 : Nat) ∧ true = true) ∧
      (SV.val (Value.int IntKind.i64 (0 : Int)) =
      SV.val (Value.int IntKind.i64 (if sqB (clA l i) (List.take a_1 l) = true then (21 : Int) else (0 : Int))) ∧
      true = true) ∧
      True) ∧
      (some
      { ty := (51 : Nat), cs := [Value.int IntKind.i64 n_1, Value.int IntKind.i64 n_2, Value.int IntKind.i64 n_3, Value.int IntKind.i64 n_4, Value.string s, Value.string s_1, Value.int IntKind.i64 n_5, Value.int IntKind.i64 n_6, Value.int IntKind.i64 n_7, Value.int IntKind.i64 n_8, Value.int IntKind.i64 n_9, Value.int IntKind.i64 n_10, Value.int IntKind.i64 n_11, Value.int IntKind.i64 n_12, Value.int IntKind.i64 n_13, Value.int IntKind.i64 n_14] : Bx } =
      some
      { ty := (51 : TypeId), cs := [Value.int IntKind.i64 (clA l i).cl, Value.int IntKind.i64 (clA l i).sq, Value.int IntKind.i64 (clA l i).nd, Value.int IntKind.i64 (clA l i).op_kd, Value.string (clA l i).op_ky, Value.string (clA l i).op_ot, Value.int IntKind.i64 (clA l i).op_n, Value.int IntKind.i64 (clA l i).op_lo, Value.int IntKind.i64 (clA l i).op_hi, Value.int IntKind.i64 (clA l i).ca, Value.int IntKind.i64 (clA l i).mo, Value.int IntKind.i64 (clA l i).aw, Value.int IntKind.i64 (clA l i).an_er, Value.int IntKind.i64 (clA l i).an_va, Value.int IntKind.i64 (clA l i).an_le, Value.int IntKind.i64 (clA l i).an_mo] : Bx } ∧
      true = true) ∧
      True) ∧
      ∀ (a_1 : Nat),
      a_1 ≤ i →
      ifB (decide ((↑a_1 : Int) < (↑i : Int)))
      (true = true ∧
      ∃ (b : Nat),
      ∃ (off : Nat),
      a = some { block := b, off := off : Addr } ∧
      ((0 : Int) ≤ (↑a_1 : Int) ∧ (↑a_1 : Int) < (↑l.length : Int)) ∧
      ∃ (n_15 : Int),
      CellsAt { π := m.π, sz := n, uf := m.uf : M } b (off + (↑a_1 : Int).toNat * (16 : Nat) + (0 : Nat))
      [Value.int IntKind.i64 n_15] ∧
      ifB (n_15 == (clA l i).cl)
      (∃ (b : Nat),
      ∃ (off : Nat),
      a = some { block := b, off := off : Addr } ∧
      ((0 : Int) ≤ (↑a_1 : Int) ∧ (↑a_1 : Int) < (↑l.length : Int)) ∧
      ∃ (n_16 : Int),
      CellsAt { π := m.π, sz := n, uf := m.uf : M } b (off + (↑a_1 : Int).toNat * (16 : Nat) + (1 : Nat))
      [Value.int IntKind.i64 n_16] ∧
      ifB (decide ((clA l i).sq ≤ n_16))
      (∃ (a' : Nat),
      (a' ≤ i ∧
      { π := m.π, sz := n, uf := m.uf : M } = { π := m.π, sz := n, uf := m.uf : M } ∧
      ((SV.val (Value.int IntKind.i64 (IntKind.i64.wrap ((↑a_1 : Int) + (1 : Int)))) =
      SV.val (Value.int IntKind.i64 (↑a' : Int)) ∧
      true = true) ∧
      (SV.val (Value.int IntKind.i64 (↑i : Int)) =
      SV.val (Value.int IntKind.i64 (↑i : Int)) ∧
      true = true) ∧
      (SV.val (Value.slice a l.length cp) = SV.val (Value.slice a l.length cp) ∧
      true = true) ∧
      (SV.own (5 : Nat) (0 : Nat) = SV.own (5 : Nat) (0 : Nat) ∧ true = true) ∧
      (SV.val (Value.int IntKind.i64 (21 : Int)) =
      SV.val
      (Value.int IntKind.i64
      (if sqB (clA l i) (List.take a' l) = true then (21 : Int)
      else (0 : Int))) ∧
      true = true) ∧
      True) ∧
      (some
      { ty := (51 : TypeId), cs := [Value.int IntKind.i64 (clA l i).cl, Value.int IntKind.i64 (clA l i).sq, Value.int IntKind.i64 (clA l i).nd, Value.int IntKind.i64 (clA l i).op_kd, Value.string (clA l i).op_ky, Value.string (clA l i).op_ot, Value.int IntKind.i64 (clA l i).op_n, Value.int IntKind.i64 (clA l i).op_lo, Value.int IntKind.i64 (clA l i).op_hi, Value.int IntKind.i64 (clA l i).ca, Value.int IntKind.i64 (clA l i).mo, Value.int IntKind.i64 (clA l i).aw, Value.int IntKind.i64 (clA l i).an_er, Value.int IntKind.i64 (clA l i).an_va, Value.int IntKind.i64 (clA l i).an_le, Value.int IntKind.i64 (clA l i).an_mo] : Bx } =
      some
      { ty := (51 : TypeId), cs := [Value.int IntKind.i64 (clA l i).cl, Value.int IntKind.i64 (clA l i).sq, Value.int IntKind.i64 (clA l i).nd, Value.int IntKind.i64 (clA l i).op_kd, Value.string (clA l i).op_ky, Value.string (clA l i).op_ot, Value.int IntKind.i64 (clA l i).op_n, Value.int IntKind.i64 (clA l i).op_lo, Value.int IntKind.i64 (clA l i).op_hi, Value.int IntKind.i64 (clA l i).ca, Value.int IntKind.i64 (clA l i).mo, Value.int IntKind.i64 (clA l i).aw, Value.int IntKind.i64 (clA l i).an_er, Value.int IntKind.i64 (clA l i).an_va, Value.int IntKind.i64 (clA l i).an_le, Value.int IntKind.i64 (clA l i).an_mo] : Bx } ∧
      true = true) ∧
      True) ∧
      i - a' < i - a_1)
      (∃ (a' : Nat),
      (a' ≤ i ∧
      { π := m.π, sz := n, uf := m.uf : M } = { π := m.π, sz := n, uf := m.uf : M } ∧
      ((SV.val (Value.int IntKind.i64 (IntKind.i64.wrap ((↑a_1 : Int) + (1 : Int)))) =
      SV.val (Value.int IntKind.i64 (↑a' : Int)) ∧
      true = true) ∧
      (SV.val (Value.int IntKind.i64 (↑i : Int)) =
      SV.val (Value.int IntKind.i64 (↑i : Int)) ∧
      true = true) ∧
      (SV.val (Value.slice a l.length cp) = SV.val (Value.slice a l.length cp) ∧
      true = true) ∧
      (SV.own (5 : Nat) (0 : Nat) = SV.own (5 : Nat) (0 : Nat) ∧ true = true) ∧
      (SV.val
      (Value.int IntKind.i64
      (if sqB (clA l i) (List.take a_1 l) = true then (21 : Int)
      else (0 : Int))) =
      SV.val
      (Value.int IntKind.i64
      (if sqB (clA l i) (List.take a' l) = true then (21 : Int)
      else (0 : Int))) ∧
      true = true) ∧
      True) ∧
      (some
      { ty := (51 : TypeId), cs := [Value.int IntKind.i64 (clA l i).cl, Value.int IntKind.i64 (clA l i).sq, Value.int IntKind.i64 (clA l i).nd, Value.int IntKind.i64 (clA l i).op_kd, Value.string (clA l i).op_ky, Value.string (clA l i).op_ot, Value.int IntKind.i64 (clA l i).op_n, Value.int IntKind.i64 (clA l i).op_lo, Value.int IntKind.i64 (clA l i).op_hi, Value.int IntKind.i64 (clA l i).ca, Value.int IntKind.i64 (clA l i).mo, Value.int IntKind.i64 (clA l i).aw, Value.int IntKind.i64 (clA l i).an_er, Value.int IntKind.i64 (clA l i).an_va, Value.int IntKind.i64 (clA l i).an_le, Value.int IntKind.i64 (clA l i).an_mo] : Bx } =
      some
      { ty := (51 : TypeId), cs := [Value.int IntKind.i64 (clA l i).cl, Value.int IntKind.i64 (clA l i).sq, Value.int IntKind.i64 (clA l i).nd, Value.int IntKind.i64 (clA l i).op_kd, Value.string (clA l i).op_ky, Value.string (clA l i).op_ot, Value.int IntKind.i64 (clA l i).op_n, Value.int IntKind.i64 (clA l i).op_lo, Value.int IntKind.i64 (clA l i).op_hi, Value.int IntKind.i64 (clA l i).ca, Value.int IntKind.i64 (clA l i).mo, Value.int IntKind.i64 (clA l i).aw, Value.int IntKind.i64 (clA l i).an_er, Value.int IntKind.i64 (clA l i).an_va, Value.int IntKind.i64 (clA l i).an_le, Value.int IntKind.i64 (clA l i).an_mo] : Bx } ∧
      true = true) ∧
      True) ∧
      i - a' < i - a_1))
      (∃ (a' : Nat),
      (a' ≤ i ∧
      { π := m.π, sz := n, uf := m.uf : M } = { π := m.π, sz := n, uf := m.uf : M } ∧
      ((SV.val (Value.int IntKind.i64 (IntKind.i64.wrap ((↑a_1 : Int) + (1 : Int)))) =
      SV.val (Value.int IntKind.i64 (↑a' : Int)) ∧
      true = true) ∧
      (SV.val (Value.int IntKind.i64 (↑i : Int)) = SV.val (Value.int IntKind.i64 (↑i : Int)) ∧
      true = true) ∧
      (SV.val (Value.slice a l.length cp) = SV.val (Value.slice a l.length cp) ∧ true = true) ∧
      (SV.own (5 : Nat) (0 : Nat) = SV.own (5 : Nat) (0 : Nat) ∧ true = true) ∧
      (SV.val
      (Value.int IntKind.i64
      (if sqB (clA l i) (List.take a_1 l) = true then (21 : Int) else (0 : Int))) =
      SV.val
      (Value.int IntKind.i64
      (if sqB (clA l i) (List.take a' l) = true then (21 : Int) else (0 : Int))) ∧
      true = true) ∧
      True) ∧
      (some
      { ty := (51 : TypeId), cs := [Value.int IntKind.i64 (clA l i).cl, Value.int IntKind.i64 (clA l i).sq, Value.int IntKind.i64 (clA l i).nd, Value.int IntKind.i64 (clA l i).op_kd, Value.string (clA l i).op_ky, Value.string (clA l i).op_ot, Value.int IntKind.i64 (clA l i).op_n, Value.int IntKind.i64 (clA l i).op_lo, Value.int IntKind.i64 (clA l i).op_hi, Value.int IntKind.i64 (clA l i).ca, Value.int IntKind.i64 (clA l i).mo, Value.int IntKind.i64 (clA l i).aw, Value.int IntKind.i64 (clA l i).an_er, Value.int IntKind.i64 (clA l i).an_va, Value.int IntKind.i64 (clA l i).an_le, Value.int IntKind.i64 (clA l i).an_mo] : Bx } =
      some
      { ty := (51 : TypeId), cs := [Value.int IntKind.i64 (clA l i).cl, Value.int IntKind.i64 (clA l i).sq, Value.int IntKind.i64 (clA l i).nd, Value.int IntKind.i64 (clA l i).op_kd, Value.string (clA l i).op_ky, Value.string (clA l i).op_ot, Value.int IntKind.i64 (clA l i).op_n, Value.int IntKind.i64 (clA l i).op_lo, Value.int IntKind.i64 (clA l i).op_hi, Value.int IntKind.i64 (clA l i).ca, Value.int IntKind.i64 (clA l i).mo, Value.int IntKind.i64 (clA l i).aw, Value.int IntKind.i64 (clA l i).an_er, Value.int IntKind.i64 (clA l i).an_va, Value.int IntKind.i64 (clA l i).an_le, Value.int IntKind.i64 (clA l i).an_mo] : Bx } ∧
      true = true) ∧
      True) ∧
      i - a' < i - a_1))
      (ifB ((if sqB (clA l i) (List.take a_1 l) = true then (21 : Int) else (0 : Int)) != (0 : Int))
      (Done (Value.int IntKind.i64 (21 : Int) = Value.int IntKind.i64 (wrgE (clA l i) (List.take i l))))
      (∃ (b : Bool),
      QSpec Try.prog (61 : Nat) [Value.int IntKind.i64 (clA l i).cl] { π := m.π, sz := n, uf := m.uf : M } (Value.bool b) ∧
      ifB (!b) (Done (Value.int IntKind.i64 (21 : Int) = Value.int IntKind.i64 (wrgE (clA l i) (List.take i l))))
      (ifB (decide ((clA l i).ca < (1 : Int)))
      (Done (Value.int IntKind.i64 (21 : Int) = Value.int IntKind.i64 (wrgE (clA l i) (List.take i l))))
      (ifB ((clA l i).aw != (0 : Int))
      (ifB (decide ((clA l i).aw < (clA l i).ca))
      (Done (Value.int IntKind.i64 (21 : Int) = Value.int IntKind.i64 (wrgE (clA l i) (List.take i l))))
      (∃ (x : Nat),
      (badB (clA l i) = false ∧ sqB (clA l i) (List.take i l) = false) ∧
      { π := m.π, sz := n, uf := m.uf : M } = { π := m.π, sz := n, uf := m.uf : M } ∧
      ((SV.val (Value.int IntKind.i64 (↑i : Int)) = SV.val (Value.int IntKind.i64 (↑i : Int)) ∧ true = true) ∧
      (SV.val (Value.slice a l.length cp) = SV.val (Value.slice a l.length cp) ∧ true = true) ∧
      (SV.own (5 : Nat) (0 : Nat) = SV.own (5 : Nat) (0 : Nat) ∧ true = true) ∧ True) ∧
      (some
      { ty := (51 : TypeId), cs := [Value.int IntKind.i64 (clA l i).cl, Value.int IntKind.i64 (clA l i).sq, Value.int IntKind.i64 (clA l i).nd, Value.int IntKind.i64 (clA l i).op_kd, Value.string (clA l i).op_ky, Value.string (clA l i).op_ot, Value.int IntKind.i64 (clA l i).op_n, Value.int IntKind.i64 (clA l i).op_lo, Value.int IntKind.i64 (clA l i).op_hi, Value.int IntKind.i64 (clA l i).ca, Value.int IntKind.i64 (clA l i).mo, Value.int IntKind.i64 (clA l i).aw, Value.int IntKind.i64 (clA l i).an_er, Value.int IntKind.i64 (clA l i).an_va, Value.int IntKind.i64 (clA l i).an_le, Value.int IntKind.i64 (clA l i).an_mo] : Bx } =
      some
      { ty := (51 : TypeId), cs := [Value.int IntKind.i64 (clA l i).cl, Value.int IntKind.i64 (clA l i).sq, Value.int IntKind.i64 (clA l i).nd, Value.int IntKind.i64 (clA l i).op_kd, Value.string (clA l i).op_ky, Value.string (clA l i).op_ot, Value.int IntKind.i64 (clA l i).op_n, Value.int IntKind.i64 (clA l i).op_lo, Value.int IntKind.i64 (clA l i).op_hi, Value.int IntKind.i64 (clA l i).ca, Value.int IntKind.i64 (clA l i).mo, Value.int IntKind.i64 (clA l i).aw, Value.int IntKind.i64 (clA l i).an_er, Value.int IntKind.i64 (clA l i).an_va, Value.int IntKind.i64 (clA l i).an_le, Value.int IntKind.i64 (clA l i).an_mo] : Bx } ∧
      true = true) ∧
      True))
      (∃ (x : Nat),
      (badB (clA l i) = false ∧ sqB (clA l i) (List.take i l) = false) ∧
      { π := m.π, sz := n, uf := m.uf : M } = { π := m.π, sz := n, uf := m.uf : M } ∧
      ((SV.val (Value.int IntKind.i64 (↑i : Int)) = SV.val (Value.int IntKind.i64 (↑i : Int)) ∧ true = true) ∧
      (SV.val (Value.slice a l.length cp) = SV.val (Value.slice a l.length cp) ∧ true = true) ∧
      (SV.own (5 : Nat) (0 : Nat) = SV.own (5 : Nat) (0 : Nat) ∧ true = true) ∧ True) ∧
      (some
      { ty := (51 : TypeId), cs := [Value.int IntKind.i64 (clA l i).cl, Value.int IntKind.i64 (clA l i).sq, Value.int IntKind.i64 (clA l i).nd, Value.int IntKind.i64 (clA l i).op_kd, Value.string (clA l i).op_ky, Value.string (clA l i).op_ot, Value.int IntKind.i64 (clA l i).op_n, Value.int IntKind.i64 (clA l i).op_lo, Value.int IntKind.i64 (clA l i).op_hi, Value.int IntKind.i64 (clA l i).ca, Value.int IntKind.i64 (clA l i).mo, Value.int IntKind.i64 (clA l i).aw, Value.int IntKind.i64 (clA l i).an_er, Value.int IntKind.i64 (clA l i).an_va, Value.int IntKind.i64 (clA l i).an_le, Value.int IntKind.i64 (clA l i).an_mo] : Bx } =
      some
      { ty := (51 : TypeId), cs := [Value.int IntKind.i64 (clA l i).cl, Value.int IntKind.i64 (clA l i).sq, Value.int IntKind.i64 (clA l i).nd, Value.int IntKind.i64 (clA l i).op_kd, Value.string (clA l i).op_ky, Value.string (clA l i).op_ot, Value.int IntKind.i64 (clA l i).op_n, Value.int IntKind.i64 (clA l i).op_lo, Value.int IntKind.i64 (clA l i).op_hi, Value.int IntKind.i64 (clA l i).ca, Value.int IntKind.i64 (clA l i).mo, Value.int IntKind.i64 (clA l i).aw, Value.int IntKind.i64 (clA l i).an_er, Value.int IntKind.i64 (clA l i).an_va, Value.int IntKind.i64 (clA l i).an_le, Value.int IntKind.i64 (clA l i).an_mo] : Bx } ∧
      true = true) ∧
      True)))) ∧
      ∀ (x : Nat),
      badB (clA l i) = false ∧ sqB (clA l i) (List.take i l) = false →
      ifB (decide ((clA l i).mo > (0 : Int)))
      (ifB (decide ((clA l i).mo < (clA l i).ca))
      (Done (Value.int IntKind.i64 (80 : Int) = Value.int IntKind.i64 (wrgE (clA l i) (List.take i l))))
      (ifB ((clA l i).aw != (0 : Int))
      (ifB (decide ((clA l i).mo > (clA l i).aw))
      (Done (Value.int IntKind.i64 (80 : Int) = Value.int IntKind.i64 (wrgE (clA l i) (List.take i l))))
      (∃ (x : Nat),
      oldB (clA l i) = false ∧
      { π := m.π, sz := n, uf := m.uf : M } = { π := m.π, sz := n, uf := m.uf : M } ∧
      ((SV.val (Value.int IntKind.i64 (↑i : Int)) = SV.val (Value.int IntKind.i64 (↑i : Int)) ∧ true = true) ∧
      (SV.val (Value.slice a l.length cp) = SV.val (Value.slice a l.length cp) ∧ true = true) ∧
      (SV.own (5 : Nat) (0 : Nat) = SV.own (5 : Nat) (0 : Nat) ∧ true = true) ∧ True) ∧
      (some
      { ty := (51 : TypeId), cs := [Value.int IntKind.i64 (clA l i).cl, Value.int IntKind.i64 (clA l i).sq, Value.int IntKind.i64 (clA l i).nd, Value.int IntKind.i64 (clA l i).op_kd, Value.string (clA l i).op_ky, Value.string (clA l i).op_ot, Value.int IntKind.i64 (clA l i).op_n, Value.int IntKind.i64 (clA l i).op_lo, Value.int IntKind.i64 (clA l i).op_hi, Value.int IntKind.i64 (clA l i).ca, Value.int IntKind.i64 (clA l i).mo, Value.int IntKind.i64 (clA l i).aw, Value.int IntKind.i64 (clA l i).an_er, Value.int IntKind.i64 (clA l i).an_va, Value.int IntKind.i64 (clA l i).an_le, Value.int IntKind.i64 (clA l i).an_mo] : Bx } =
      some
      { ty := (51 : TypeId), cs := [Value.int IntKind.i64 (clA l i).cl, Value.int IntKind.i64 (clA l i).sq, Value.int IntKind.i64 (clA l i).nd, Value.int IntKind.i64 (clA l i).op_kd, Value.string (clA l i).op_ky, Value.string (clA l i).op_ot, Value.int IntKind.i64 (clA l i).op_n, Value.int IntKind.i64 (clA l i).op_lo, Value.int IntKind.i64 (clA l i).op_hi, Value.int IntKind.i64 (clA l i).ca, Value.int IntKind.i64 (clA l i).mo, Value.int IntKind.i64 (clA l i).aw, Value.int IntKind.i64 (clA l i).an_er, Value.int IntKind.i64 (clA l i).an_va, Value.int IntKind.i64 (clA l i).an_le, Value.int IntKind.i64 (clA l i).an_mo] : Bx } ∧
      true = true) ∧
      True))
      (∃ (x : Nat),
      oldB (clA l i) = false ∧
      { π := m.π, sz := n, uf := m.uf : M } = { π := m.π, sz := n, uf := m.uf : M } ∧
      ((SV.val (Value.int IntKind.i64 (↑i : Int)) = SV.val (Value.int IntKind.i64 (↑i : Int)) ∧ true = true) ∧
      (SV.val (Value.slice a l.length cp) = SV.val (Value.slice a l.length cp) ∧ true = true) ∧
      (SV.own (5 : Nat) (0 : Nat) = SV.own (5 : Nat) (0 : Nat) ∧ true = true) ∧ True) ∧
      (some
      { ty := (51 : TypeId), cs := [Value.int IntKind.i64 (clA l i).cl, Value.int IntKind.i64 (clA l i).sq, Value.int IntKind.i64 (clA l i).nd, Value.int IntKind.i64 (clA l i).op_kd, Value.string (clA l i).op_ky, Value.string (clA l i).op_ot, Value.int IntKind.i64 (clA l i).op_n, Value.int IntKind.i64 (clA l i).op_lo, Value.int IntKind.i64 (clA l i).op_hi, Value.int IntKind.i64 (clA l i).ca, Value.int IntKind.i64 (clA l i).mo, Value.int IntKind.i64 (clA l i).aw, Value.int IntKind.i64 (clA l i).an_er, Value.int IntKind.i64 (clA l i).an_va, Value.int IntKind.i64 (clA l i).an_le, Value.int IntKind.i64 (clA l i).an_mo] : Bx } =
      some
      { ty := (51 : TypeId), cs := [Value.int IntKind.i64 (clA l i).cl, Value.int IntKind.i64 (clA l i).sq, Value.int IntKind.i64 (clA l i).nd, Value.int IntKind.i64 (clA l i).op_kd, Value.string (clA l i).op_ky, Value.string (clA l i).op_ot, Value.int IntKind.i64 (clA l i).op_n, Value.int IntKind.i64 (clA l i).op_lo, Value.int IntKind.i64 (clA l i).op_hi, Value.int IntKind.i64 (clA l i).ca, Value.int IntKind.i64 (clA l i).mo, Value.int IntKind.i64 (clA l i).aw, Value.int IntKind.i64 (clA l i).an_er, Value.int IntKind.i64 (clA l i).an_va, Value.int IntKind.i64 (clA l i).an_le, Value.int IntKind.i64 (clA l i).an_mo] : Bx } ∧
      true = true) ∧
      True)))
      (∃ (x : Nat),
      oldB (clA l i) = false ∧
      { π := m.π, sz := n, uf := m.uf : M } = { π := m.π, sz := n, uf := m.uf : M } ∧
      ((SV.val (Value.int IntKind.i64 (↑i : Int)) = SV.val (Value.int IntKind.i64 (↑i : Int)) ∧ true = true) ∧
      (SV.val (Value.slice a l.length cp) = SV.val (Value.slice a l.length cp) ∧ true = true) ∧
      (SV.own (5 : Nat) (0 : Nat) = SV.own (5 : Nat) (0 : Nat) ∧ true = true) ∧ True) ∧
      (some
      { ty := (51 : TypeId), cs := [Value.int IntKind.i64 (clA l i).cl, Value.int IntKind.i64 (clA l i).sq, Value.int IntKind.i64 (clA l i).nd, Value.int IntKind.i64 (clA l i).op_kd, Value.string (clA l i).op_ky, Value.string (clA l i).op_ot, Value.int IntKind.i64 (clA l i).op_n, Value.int IntKind.i64 (clA l i).op_lo, Value.int IntKind.i64 (clA l i).op_hi, Value.int IntKind.i64 (clA l i).ca, Value.int IntKind.i64 (clA l i).mo, Value.int IntKind.i64 (clA l i).aw, Value.int IntKind.i64 (clA l i).an_er, Value.int IntKind.i64 (clA l i).an_va, Value.int IntKind.i64 (clA l i).an_le, Value.int IntKind.i64 (clA l i).an_mo] : Bx } =
      some
      { ty := (51 : TypeId), cs := [Value.int IntKind.i64 (clA l i).cl, Value.int IntKind.i64 (clA l i).sq, Value.int IntKind.i64 (clA l i).nd, Value.int IntKind.i64 (clA l i).op_kd, Value.string (clA l i).op_ky, Value.string (clA l i).op_ot, Value.int IntKind.i64 (clA l i).op_n, Value.int IntKind.i64 (clA l i).op_lo, Value.int IntKind.i64 (clA l i).op_hi, Value.int IntKind.i64 (clA l i).ca, Value.int IntKind.i64 (clA l i).mo, Value.int IntKind.i64 (clA l i).aw, Value.int IntKind.i64 (clA l i).an_er, Value.int IntKind.i64 (clA l i).an_va, Value.int IntKind.i64 (clA l i).an_le, Value.int IntKind.i64 (clA l i).an_mo] : Bx } ∧
      true = true) ∧
      True) ∧
      ∀ (x : Nat),
      oldB (clA l i) = false →
      (∃ (a_5 : Nat),
      (a_5 ≤ i ∧ opnB (clA l i) (List.take a_5 l) = false) ∧
      { π := m.π, sz := n, uf := m.uf : M } = { π := m.π, sz := n, uf := m.uf : M } ∧
      ((SV.val (Value.int IntKind.i64 (0 : Int)) = SV.val (Value.int IntKind.i64 (↑a_5 : Int)) ∧ true = true) ∧
      (SV.val (Value.int IntKind.i64 (↑i : Int)) = SV.val (Value.int IntKind.i64 (↑i : Int)) ∧ true = true) ∧
      (SV.val (Value.slice a l.length cp) = SV.val (Value.slice a l.length cp) ∧ true = true) ∧
      (SV.own (5 : Nat) (0 : Nat) = SV.own (5 : Nat) (0 : Nat) ∧ true = true) ∧ True) ∧
      (some
      { ty := (51 : TypeId), cs := [Value.int IntKind.i64 (clA l i).cl, Value.int IntKind.i64 (clA l i).sq, Value.int IntKind.i64 (clA l i).nd, Value.int IntKind.i64 (clA l i).op_kd, Value.string (clA l i).op_ky, Value.string (clA l i).op_ot, Value.int IntKind.i64 (clA l i).op_n, Value.int IntKind.i64 (clA l i).op_lo, Value.int IntKind.i64 (clA l i).op_hi, Value.int IntKind.i64 (clA l i).ca, Value.int IntKind.i64 (clA l i).mo, Value.int IntKind.i64 (clA l i).aw, Value.int IntKind.i64 (clA l i).an_er, Value.int IntKind.i64 (clA l i).an_va, Value.int IntKind.i64 (clA l i).an_le, Value.int IntKind.i64 (clA l i).an_mo] : Bx } =
      some
      { ty := (51 : TypeId), cs := [Value.int IntKind.i64 (clA l i).cl, Value.int IntKind.i64 (clA l i).sq, Value.int IntKind.i64 (clA l i).nd, Value.int IntKind.i64 (clA l i).op_kd, Value.string (clA l i).op_ky, Value.string (clA l i).op_ot, Value.int IntKind.i64 (clA l i).op_n, Value.int IntKind.i64 (clA l i).op_lo, Value.int IntKind.i64 (clA l i).op_hi, Value.int IntKind.i64 (clA l i).ca, Value.int IntKind.i64 (clA l i).mo, Value.int IntKind.i64 (clA l i).aw, Value.int IntKind.i64 (clA l i).an_er, Value.int IntKind.i64 (clA l i).an_va, Value.int IntKind.i64 (clA l i).an_le, Value.int IntKind.i64 (clA l i).an_mo] : Bx } ∧
      true = true) ∧
      True) ∧
      ∀ (a_5 : Nat),
      a_5 ≤ i ∧ opnB (clA l i) (List.take a_5 l) = false →
      ifB (decide ((↑a_5 : Int) < (↑i : Int)))
      (true = true ∧
      ∃ (b : Nat),
      ∃ (off : Nat),
      a = some { block := b, off := off : Addr } ∧
      ((0 : Int) ≤ (↑a_5 : Int) ∧ (↑a_5 : Int) < (↑l.length : Int)) ∧
      ∃ (n_15 : Int),
      CellsAt { π := m.π, sz := n, uf := m.uf : M } b
      (off + (↑a_5 : Int).toNat * (16 : Nat) + (0 : Nat)) [Value.int IntKind.i64 n_15] ∧
      ifB (n_15 == (clA l i).cl)
      (∃ (b : Nat),
      ∃ (off : Nat),
      a = some { block := b, off := off : Addr } ∧
      ((0 : Int) ≤ (↑a_5 : Int) ∧ (↑a_5 : Int) < (↑l.length : Int)) ∧
      ∃ (n_16 : Int),
      CellsAt { π := m.π, sz := n, uf := m.uf : M } b
      (off + (↑a_5 : Int).toNat * (16 : Nat) + (11 : Nat))
      [Value.int IntKind.i64 n_16] ∧
      ifB (n_16 == (0 : Int))
      (Done
      (Value.int IntKind.i64 (230 : Int) =
      Value.int IntKind.i64 (wrgE (clA l i) (List.take i l))))
      (∃ (b : Nat),
      ∃ (off : Nat),
      a = some { block := b, off := off : Addr } ∧
      ((0 : Int) ≤ (↑a_5 : Int) ∧ (↑a_5 : Int) < (↑l.length : Int)) ∧
      ∃ (n_17 : Int),
      CellsAt { π := m.π, sz := n, uf := m.uf : M } b
      (off + (↑a_5 : Int).toNat * (16 : Nat) + (11 : Nat))
      [Value.int IntKind.i64 n_17] ∧
      ifB (decide ((clA l i).ca ≤ n_17))
      (Done
      (Value.int IntKind.i64 (230 : Int) =
      Value.int IntKind.i64 (wrgE (clA l i) (List.take i l))))
      (∃ (a' : Nat),
      ((a' ≤ i ∧ opnB (clA l i) (List.take a' l) = false) ∧
      { π := m.π, sz := n, uf := m.uf : M } =
      { π := m.π, sz := n, uf := m.uf : M } ∧
      ((SV.val
      (Value.int IntKind.i64
      (IntKind.i64.wrap
      ((↑a_5 : Int) + (1 : Int)))) =
      SV.val (Value.int IntKind.i64 (↑a' : Int)) ∧
      true = true) ∧
      (SV.val (Value.int IntKind.i64 (↑i : Int)) =
      SV.val (Value.int IntKind.i64 (↑i : Int)) ∧
      true = true) ∧
      (SV.val (Value.slice a l.length cp) =
      SV.val (Value.slice a l.length cp) ∧
      true = true) ∧
      (SV.own (5 : Nat) (0 : Nat) =
      SV.own (5 : Nat) (0 : Nat) ∧
      true = true) ∧
      True) ∧
      (some
      { ty := (51 : TypeId), cs := [Value.int IntKind.i64 (clA l i).cl, Value.int IntKind.i64 (clA l i).sq, Value.int IntKind.i64 (clA l i).nd, Value.int IntKind.i64 (clA l i).op_kd, Value.string (clA l i).op_ky, Value.string (clA l i).op_ot, Value.int IntKind.i64 (clA l i).op_n, Value.int IntKind.i64 (clA l i).op_lo, Value.int IntKind.i64 (clA l i).op_hi, Value.int IntKind.i64 (clA l i).ca, Value.int IntKind.i64 (clA l i).mo, Value.int IntKind.i64 (clA l i).aw, Value.int IntKind.i64 (clA l i).an_er, Value.int IntKind.i64 (clA l i).an_va, Value.int IntKind.i64 (clA l i).an_le, Value.int IntKind.i64 (clA l i).an_mo] : Bx } =
      some
      { ty := (51 : TypeId), cs := [Value.int IntKind.i64 (clA l i).cl, Value.int IntKind.i64 (clA l i).sq, Value.int IntKind.i64 (clA l i).nd, Value.int IntKind.i64 (clA l i).op_kd, Value.string (clA l i).op_ky, Value.string (clA l i).op_ot, Value.int IntKind.i64 (clA l i).op_n, Value.int IntKind.i64 (clA l i).op_lo, Value.int IntKind.i64 (clA l i).op_hi, Value.int IntKind.i64 (clA l i).ca, Value.int IntKind.i64 (clA l i).mo, Value.int IntKind.i64 (clA l i).aw, Value.int IntKind.i64 (clA l i).an_er, Value.int IntKind.i64 (clA l i).an_va, Value.int IntKind.i64 (clA l i).an_le, Value.int IntKind.i64 (clA l i).an_mo] : Bx } ∧
      true = true) ∧
      True) ∧
      i - a' < i - a_5)))
      (∃ (a' : Nat),
      ((a' ≤ i ∧ opnB (clA l i) (List.take a' l) = false) ∧
      { π := m.π, sz := n, uf := m.uf : M } = { π := m.π, sz := n, uf := m.uf : M } ∧
      ((SV.val (Value.int IntKind.i64 (IntKind.i64.wrap ((↑a_5 : Int) + (1 : Int)))) =
      SV.val (Value.int IntKind.i64 (↑a' : Int)) ∧
      true = true) ∧
      (SV.val (Value.int IntKind.i64 (↑i : Int)) =
      SV.val (Value.int IntKind.i64 (↑i : Int)) ∧
      true = true) ∧
      (SV.val (Value.slice a l.length cp) = SV.val (Value.slice a l.length cp) ∧
      true = true) ∧
      (SV.own (5 : Nat) (0 : Nat) = SV.own (5 : Nat) (0 : Nat) ∧ true = true) ∧
      True) ∧
      (some
      { ty := (51 : TypeId), cs := [Value.int IntKind.i64 (clA l i).cl, Value.int IntKind.i64 (clA l i).sq, Value.int IntKind.i64 (clA l i).nd, Value.int IntKind.i64 (clA l i).op_kd, Value.string (clA l i).op_ky, Value.string (clA l i).op_ot, Value.int IntKind.i64 (clA l i).op_n, Value.int IntKind.i64 (clA l i).op_lo, Value.int IntKind.i64 (clA l i).op_hi, Value.int IntKind.i64 (clA l i).ca, Value.int IntKind.i64 (clA l i).mo, Value.int IntKind.i64 (clA l i).aw, Value.int IntKind.i64 (clA l i).an_er, Value.int IntKind.i64 (clA l i).an_va, Value.int IntKind.i64 (clA l i).an_le, Value.int IntKind.i64 (clA l i).an_mo] : Bx } =
      some
      { ty := (51 : TypeId), cs := [Value.int IntKind.i64 (clA l i).cl, Value.int IntKind.i64 (clA l i).sq, Value.int IntKind.i64 (clA l i).nd, Value.int IntKind.i64 (clA l i).op_kd, Value.string (clA l i).op_ky, Value.string (clA l i).op_ot, Value.int IntKind.i64 (clA l i).op_n, Value.int IntKind.i64 (clA l i).op_lo, Value.int IntKind.i64 (clA l i).op_hi, Value.int IntKind.i64 (clA l i).ca, Value.int IntKind.i64 (clA l i).mo, Value.int IntKind.i64 (clA l i).aw, Value.int IntKind.i64 (clA l i).an_er, Value.int IntKind.i64 (clA l i).an_va, Value.int IntKind.i64 (clA l i).an_le, Value.int IntKind.i64 (clA l i).an_mo] : Bx } ∧
      true = true) ∧
      True) ∧
      i - a' < i - a_5))
      (ifB ((clA l i).aw == (0 : Int))
      (Done (Value.int IntKind.i64 (0 : Int) = Value.int IntKind.i64 (wrgE (clA l i) (List.take i l))))
      (true = true ∧
      ∃ (b : Bool),
      QSpec Try.prog (62 : Nat) [Value.int IntKind.i64 (clA l i).an_er]
      { π := m.π, sz := n, uf := m.uf : M } (Value.bool b) ∧
      ifB (!b == decide ((clA l i).mo ≤ (0 : Int)))
      (Done (Value.int IntKind.i64 (60 : Int) = Value.int IntKind.i64 (wrgE (clA l i) (List.take i l))))
      (Done
      (Value.int IntKind.i64 (0 : Int) = Value.int IntKind.i64 (wrgE (clA l i) (List.take i l)))))))) (by kernel_rfl) ?_
  have h' := h.sz hn
  obtain ⟨b, o, rfl, hc⟩ := h'.cells (by rw [cl_len]; omega)
  have ec := clA_at hi
  have f1 : ∀ k (hk : k < l.length), CellsAt { m with sz := n } b (o + k * 16 + 0) [I l[k].cl] := fun k hk => CellsAt.field cl_k hc hk (p := []) (old := [I l[k].cl]) (q := [I l[k].sq, I l[k].nd, I l[k].op_kd, .string l[k].op_ky, .string l[k].op_ot, I l[k].op_n, I l[k].op_lo, I l[k].op_hi, I l[k].ca, I l[k].mo, I l[k].aw, I l[k].an_er, I l[k].an_va, I l[k].an_le, I l[k].an_mo]) rfl
  have f2 : ∀ k (hk : k < l.length), CellsAt { m with sz := n } b (o + k * 16 + 1) [I l[k].sq] := fun k hk => CellsAt.field cl_k hc hk (p := [I l[k].cl]) (old := [I l[k].sq]) (q := [I l[k].nd, I l[k].op_kd, .string l[k].op_ky, .string l[k].op_ot, I l[k].op_n, I l[k].op_lo, I l[k].op_hi, I l[k].ca, I l[k].mo, I l[k].aw, I l[k].an_er, I l[k].an_va, I l[k].an_le, I l[k].an_mo]) rfl
  have f3 : ∀ k (hk : k < l.length), CellsAt { m with sz := n } b (o + k * 16 + 11) [I l[k].aw] := fun k hk => CellsAt.field cl_k hc hk (p := [I l[k].cl, I l[k].sq, I l[k].nd, I l[k].op_kd, .string l[k].op_ky, .string l[k].op_ot, I l[k].op_n, I l[k].op_lo, I l[k].op_hi, I l[k].ca, I l[k].mo]) (old := [I l[k].aw]) (q := [I l[k].an_er, I l[k].an_va, I l[k].an_le, I l[k].an_mo]) rfl
  generalize hcc : clA l i = c at *
  have hce : encCl l[i] = encCl c := by rw [ec]
  have w1 : ∀ k, k < l.length → IntKind.i64.wrap ((k : Int) + 1) = ((k + 1 : Nat) : Int) := fun k hk => by simp [IntKind.wrap_i64]; omega
  have gl : ∀ k, k < i → (l.take i).any (fun x => decide (x.cl = c.cl) && decide (c.sq ≤ x.sq)) = sqB c (l.take i) := fun k hk => rfl
  have tt : ∀ k (p : Cl → Bool), k ≤ i → (l.take k).any p = true → (l.take i).any p = true := fun k p hk h => by
    rw [show l.take k = (l.take i).take k by rw [List.take_take, Nat.min_eq_left hk]] at h
    exact any_sub p _ k h
  refine ⟨rfl, b, o, rfl, by omega, _, _, _, _, _, _, _, _, _, _, _, _, _, _, _, _, by simpa [← ec] using cl_at hc hi, ⟨0, Nat.zero_le _, rfl, by simp [sqB], by simp⟩, fun k hk => ifB_intro (fun hb => ?_) (fun hb => ⟨ifB_intro (fun h1 => ⟨?_⟩) (fun h1 => ⟨_, rclient_q _ _, ifB_intro (fun h2 => ⟨?_⟩) (fun h2 => ifB_intro (fun h3 => ⟨?_⟩) (fun h3 => ifB_intro (fun h4 => ifB_intro (fun h5 => ⟨?_⟩) (fun h5 => ⟨0, ⟨?_, ?_⟩, rfl, by simp⟩)) (fun h4 => ⟨0, ⟨?_, ?_⟩, rfl, by simp⟩)))⟩), fun _ ⟨hbad, hsq⟩ => ⟨ifB_intro (fun h1 => ifB_intro (fun h2 => ⟨?_⟩) (fun h2 => ifB_intro (fun h3 => ifB_intro (fun h4 => ⟨?_⟩) (fun h4 => ⟨0, ?_, rfl, by simp⟩)) (fun h3 => ⟨0, ?_, rfl, by simp⟩))) (fun h1 => ⟨0, ?_, rfl, by simp⟩), fun _ hold => ⟨⟨0, ⟨Nat.zero_le _, by simp [opnB]⟩, rfl, by simp⟩, fun k ⟨hk, hop⟩ => ifB_intro (fun hb => ?_) (fun hb => ?_)⟩⟩⟩)⟩
  · have hk2 : k < i := by simpa using hb
    have hk3 : k < l.length := by omega
    have e1 : sqB c (l.take (k + 1)) = (sqB c (l.take k) || (decide (l[k].cl = c.cl) && decide (c.sq ≤ l[k].sq))) := any_take _ l k hk3
    refine ⟨rfl, b, o, rfl, by omega, _, by simpa using f1 k hk3, ifB_intro (fun h1 => ⟨b, o, rfl, by omega, _, by simpa using f2 k hk3, ifB_intro (fun h2 => ⟨k + 1, ⟨hk2, rfl, ?_⟩, by omega⟩) (fun h2 => ⟨k + 1, ⟨hk2, rfl, ?_⟩, by omega⟩)⟩) (fun h1 => ⟨k + 1, ⟨hk2, rfl, ?_⟩, by omega⟩)⟩
    · simp at h1 h2; simp [w1 k hk3, e1, h1, h2]
    · simp at h1 h2; simp [w1 k hk3, e1, show ¬ c.sq ≤ l[k].sq by omega]
    · simp at h1; simp [w1 k hk3, e1, h1]
  all_goals try (have hki : k = i := by simp at hb; omega)
  all_goals try subst hki
  · rw [bad_form (.inr (by by_cases h : sqB c (l.take k) = true; exact h; simp [h] at h1))]
  · rw [bad_form (.inl (by simp at h2; simp [badB]; omega))]
  · simp at h3; rw [bad_form (.inl (by simp [badB]; omega))]
  · simp at h4 h5; rw [bad_form (.inl (by simp [badB, h4, h5]))]
  · simp at h2 h3 h4 h5; exact bad_no (by omega) (by omega) (by omega) (by omega)
  · by_cases h : sqB c (l.take k) = true
    · simp [h] at h1
    · simpa using h
  · simp at h2 h3 h4; exact bad_no (by omega) (by omega) (by omega) (by omega)
  · by_cases h : sqB c (l.take k) = true
    · simp [h] at h1
    · simpa using h
  · rw [wrg_tail hbad hsq]; simp at h1 h2; simp [oldB, h1, h2]
  · rw [wrg_tail hbad hsq]; simp at h1 h2 h3 h4; simp [oldB, h1, h3, h4]
  · simp at h1 h2 h3 h4; simp [oldB, h3]; omega
  · simp at h1 h2 h3; simp [oldB, h3]; omega
  · simp at h1; simp [oldB]; omega
  · have hk2 : k < i := by simpa using hb
    have hk3 : k < l.length := by omega
    have e1 : opnB c (l.take (k + 1)) = (opnB c (l.take k) || (decide (l[k].cl = c.cl) && (decide (l[k].aw = 0) || decide (c.ca ≤ l[k].aw)))) := any_take _ l k hk3
    rw [hop] at e1
    have fin : (decide (l[k].cl = c.cl) && (decide (l[k].aw = 0) || decide (c.ca ≤ l[k].aw))) = true → wrgE c (l.take i) = 230 := fun h => by
      have : opnB c (l.take i) = true := tt (k + 1) _ hk2 (by
        have := e1; rw [h] at this; simpa [opnB] using this)
      rw [wrg_tail hbad hsq, hold, this]; rfl
    refine ⟨rfl, b, o, rfl, by omega, _, by simpa using f1 k hk3, ifB_intro (fun h1 => ⟨b, o, rfl, by omega, _, by simpa using f3 k hk3, ifB_intro (fun h2 => ⟨?_⟩) (fun h2 => ⟨b, o, rfl, by omega, _, by simpa using f3 k hk3, ifB_intro (fun h3 => ⟨?_⟩) (fun h3 => ⟨k + 1, ⟨⟨hk2, ?_⟩, rfl, by simp [w1 k hk3]⟩, by omega⟩)⟩)⟩) (fun h1 => ⟨k + 1, ⟨⟨hk2, ?_⟩, rfl, by simp [w1 k hk3]⟩, by omega⟩)⟩
    · simp at h1 h2; rw [fin (by simp [h1, h2])]
    · simp at h1 h2 h3; rw [fin (by simp [h1, h3])]
    · simp at h1 h2 h3; rw [e1]; simp [h2]; omega
    · simp at h1; rw [e1]; simp [h1]
  · rw [wrg_tail hbad hsq, hold, hop]
    refine ifB_intro (fun h1 => ⟨?_⟩) (fun h1 => ⟨rfl, _, nothing_q _ _, ifB_intro (fun h2 => ⟨?_⟩) (fun h2 => ⟨?_⟩)⟩)
    · simp at h1; simp [nonB, h1]
    · simp at h1 h2
      have : nonB c = true := by
        by_cases h3 : 0 < c.mo <;> cases h4 : noEff c.an_er <;> simp [h4] at h2 <;> simp [nonB, h1, h3, h4] <;> omega
      simp [this]
    · simp at h1 h2
      have : nonB c = false := by
        by_cases h3 : 0 < c.mo <;> cases h4 : noEff c.an_er <;> simp [h4] at h2 <;> simp [nonB, h1, h3, h4] <;> omega
      simp [this]

end Go.Proofs.Ytbhlhnkjmncloaa
