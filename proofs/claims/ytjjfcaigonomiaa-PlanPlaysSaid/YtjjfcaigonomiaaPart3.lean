/-
  Contracts of functions of this seat: what each hands back, and what it leaves of memory (pln3, pln4, pln5, pln6, pln7). Nothing here is trusted: Lean checks it.
-/
import Derived.Test.YtjjfcaigonomiaaPart2
set_option linter.unusedVariables false
set_option linter.unusedSimpArgs false
namespace Go.Proofs.Ytjjfcaigonomiaa
open Go.Vc Go.RowKit
set_option maxRecDepth 100000

/-- a chart in a block of its own -/
structure PtC (b : Nat) (x : Ct) (a : Ca) (m : M) : Prop where
  cells : CellsAt m b 0 (encCt x a)
  full : ∀ j, 12 ≤ j → m.π b j = none
  uf : m.uf b
  lt : b < m.sz
  r : CtR m x a

section
variable {b : Nat} {x x' : Ct} {a a' : Ca} {m m' : M}

theorem PtC.at (h : PtC b x a m) (j : Nat) : m.π b j = (encCt x a)[j]? := by
  by_cases hj : j < 12
  · have := h.cells.out j hj
    rwa [Nat.zero_add] at this
  · rw [h.full j (by omega), List.getElem?_eq_none (by simp; omega)]

theorem PtC.apPl (h : PtC b x a m) {ap : Option Addr} {l : List Pl} (hr : Row m ap (pls l)) (hne : l ≠ []) : ∀ b' o', ap = some ⟨b', o', none⟩ → b' ≠ b := by
  rintro b' o' rfl rfl
  obtain ⟨y, ys, rfl⟩ := List.exists_cons_of_ne_nil hne
  obtain ⟨b2, o2, e, hc⟩ := hr.cells (by rw [pl_len]; simp)
  cases e
  have h0 := hc.out 0 (by rw [pl_len]; simp)
  have h1 := hc.out 1 (by rw [pl_len]; simp; omega)
  have h2 := hc.out 2 (by rw [pl_len]; simp; omega)
  rw [h.at] at h0 h1 h2
  have e0 : (pls (y :: ys))[0]? = some (I y.gr) := rfl
  have e1 : (pls (y :: ys))[1]? = some (.string y.fr) := rfl
  have e2 : (pls (y :: ys))[2]? = some (I y.ep) := rfl
  rw [e0] at h0
  rw [e1] at h1
  rw [e2] at h2
  have hlt : o' + 2 < 12 := by
    rcases Nat.lt_or_ge (o' + 2) 12 with h | h
    · exact h
    · rw [List.getElem?_eq_none (by simpa using h)] at h2; cases h2
  rcases o' with _ | _ | _ | _ | _ | _ | _ | _ | _ | _ | o' <;> simp at h0 h1 h2 <;> omega

theorem PtC.apMk (h : PtC b x a m) {ap : Option Addr} {l : List Mk} (hr : Row m ap (mks l)) (hne : l ≠ []) : ∀ b' o', ap = some ⟨b', o', none⟩ → b' ≠ b := by
  rintro b' o' rfl rfl
  obtain ⟨y, ys, rfl⟩ := List.exists_cons_of_ne_nil hne
  obtain ⟨b2, o2, e, hc⟩ := hr.cells (by rw [mk_len]; simp)
  cases e
  have h2 := hc.out 2 (by rw [mk_len]; simp; omega)
  rw [h.at] at h2
  have e2 : (mks (y :: ys))[2]? = some (.bool y.op) := rfl
  rw [e2] at h2
  have hlt : o' + 2 < 12 := by
    rcases Nat.lt_or_ge (o' + 2) 12 with h | h
    · exact h
    · rw [List.getElem?_eq_none (by simpa using h)] at h2; cases h2
  rcases o' with _ | _ | _ | _ | _ | _ | _ | _ | _ | _ | o' <;> simp at h2 <;> omega

theorem PtC.sz (h : PtC b x a m) {n : Nat} (hn : m.sz ≤ n) : PtC b x a { m with sz := n } := ⟨⟨h.cells.out⟩, h.full, h.uf, Nat.lt_of_lt_of_le h.lt hn, h.r.sz hn⟩

theorem PtC.step (h : PtC b x a m) {N : Nat} (hN : m.sz ≤ N) (hag : Agree N { m with sz := N } m') : PtC b x a m' := by
  have hb := Nat.lt_of_lt_of_le h.lt hN
  have e := hag.1 b hb
  exact ⟨h.cells.of e, fun j hj => by rw [e]; exact h.full j hj, (hag.2.1 b hb).2 h.uf, Nat.lt_of_lt_of_le hb hag.2.2, (h.r.sz hN).agree hag⟩

theorem PtC.newBlock (h : PtC b x a m) {b2 : Nat} {ds : List Value} (hb : m.sz ≤ b2) : PtC b x a (m.newBlock b2 ds) := by
  have e : (m.newBlock b2 ds).π b = m.π b := newBlock_other (by have := h.lt; omega)
  exact ⟨h.cells.of e, fun j hj => by rw [e]; exact h.full j hj, .inr h.uf, by have := h.lt; simp only [M.newBlock]; omega, h.r.of fun _ _ r => r.newBlock hb⟩

theorem PtC.rowPl (h : PtC b x a m) {ap : Option Addr} {l : List Pl} (hr : Row m ap (pls l)) {j : Nat} {ds : List Value} : Row (m.setCells b j ds) ap (pls l) := by
  by_cases e : l = []
  · subst e; exact .nil _
  · exact hr.of (Nat.le_refl _) fun b' o' e2 _ => setCells_other (h.apPl hr e b' o' e2)

theorem PtC.rowMk (h : PtC b x a m) {ap : Option Addr} {l : List Mk} (hr : Row m ap (mks l)) {j : Nat} {ds : List Value} : Row (m.setCells b j ds) ap (mks l) := by
  by_cases e : l = []
  · subst e; exact .nil _
  · exact hr.of (Nat.le_refl _) fun b' o' e2 _ => setCells_other (h.apMk hr e b' o' e2)

/-- some cells of the chart are written -/
theorem PtC.set (h : PtC b x a m) {p old new q : List Value} {j : Nat} (e1 : encCt x a = p ++ (old ++ q)) (e2 : encCt x' a' = p ++ (new ++ q)) (hl : new.length = old.length) (hp : p.length = j) (rp : Row m a'.ap (pls x'.ps)) (rm : Row m a'.am (mks x'.ms)) {B : Nat} {S : Nat → Prop} (hS : B ≤ b ∨ S b) :
    Wr B S m b j new.length ∧ PtC b x' a' (m.setCells b j new) := by
  have hc := h.cells
  rw [e1] at hc
  have h12 : j + new.length ≤ 12 := by
    have := congrArg List.length e2
    simp at this; omega
  refine ⟨⟨hS, h.uf, fun i hi => ?_⟩, ⟨?_, fun i hi => ?_, h.uf, h.lt, h.rowPl rp, h.rowMk rm⟩⟩
  · have := hc.drop.take.out i (by omega)
    rw [hp, Nat.zero_add] at this
    exact ⟨old[i]'(by omega), by rw [this, List.getElem?_eq_getElem]⟩
  · have := CellsAt.set hc hl
    rw [hp, Nat.zero_add, ← e2] at this
    exact this
  · simp only [M.setCells]
    rw [if_neg (by omega)]
    exact h.full i hi

theorem PtC.new {b2 : Nat} (hb : m.sz ≤ b2) (r : CtR m x a) : PtC b2 x a (m.newBlock b2 (encCt x a)) :=
  ⟨cellsAt_new, fun j hj => by simp only [M.newBlock]; rw [show Nat.beq b2 b2 = true by simp]; exact List.getElem?_eq_none (by simpa using hj), .inl rfl, by simp only [M.newBlock]; omega, r.of fun _ _ r => r.newBlock hb⟩

theorem PtC.newF {b2 n : Nat} (hn : m.sz ≤ n) (hb : Fresh n m b2) (r : CtR m x a) : PtC b2 x a (m.newBlock b2 (encCt x a)) :=
  ⟨cellsAt_new, fun j hj => by simp only [M.newBlock]; rw [show Nat.beq b2 b2 = true by simp]; exact List.getElem?_eq_none (by simpa using hj), .inl rfl, by simp only [M.newBlock]; omega, r.fresh hn hb⟩
end

/-- an operation is answered -/
def doneE (x : Ct) (cl sq er : Int) : Ct × List Ef := ({ x with ms := if (endM x.ms cl sq ⟨er, 0, 0, 0⟩).2 = 0 then (endM x.ms cl sq ⟨er, 0, 0, 0⟩).1 else x.ms }, [⟨1, cl, sq, er, 0, 0, 0⟩])

/-- a chart behind a pointer, and a list of effects -/
structure PtR (b : Nat) (y : Ct × List Ef) (v : Value) (m' : M) : Prop where
  out : ∃ a' av cv, PtC b y.1 a' m' ∧ v = .slice av y.2.length cv ∧ Row m' av (efs y.2)

theorem done_s (x : Ct) (a : Ca) (b : Nat) (cl sq er : Int) (hm : x.ms.length ≤ 9223372036854775807) (m : M) (h : PtC b x a m) :
    SpecW Try.prog 33 [.pointer (some ⟨b, 0, none⟩), I cl, I sq, I er] m (fun z => z = b) (PtR b (doneE x cl sq er)) := by
  refine SpecW.of_vc Try.func33 (ann := fun _ => noAnn 0) ?_
  refine vc_by (X :=
      true = true ∧
      true = true ∧
      ∃ (a : Option Addr),
      ∃ (n : Nat),
      ∃ (c : Nat),
      CellsAt m b (11 : Nat) [Value.slice a n c] ∧
      (∃ (S' : Nat → Prop),
      (∀ (b_1 : Nat), S' b_1 → m.uf b_1 ∧ (m.sz ≤ b_1 ∨ b_1 = b)) ∧
      ∀ (n_1 : Nat),
      m.sz ≤ n_1 →
      SpecW Try.prog (61 : Nat)
      [Value.slice a n c, Value.int IntKind.i64 cl, Value.int IntKind.i64 sq,
      Value.agg #[Value.int IntKind.i64 er, Value.int IntKind.i64 (0 : Int), Value.int IntKind.i64 (0 : Int), Value.int IntKind.i64 (0 : Int)]]
      { π := m.π, sz := n_1, uf := m.uf : M } S' fun (v : Value) (m' : M) =>
      ∃ (a : Option Addr),
      ∃ (n : Nat),
      ∃ (c : Nat),
      ∃ (n_2 : Int),
      v = Value.tuple #[Value.slice a n c, Value.int IntKind.i64 n_2] ∧
      ifB (n_2 == (0 : Int))
      (Wr m.sz (fun (z : Nat) => z = b) m' b (11 : Nat) #[Value.slice a n c].size ∧
      true = true ∧
      ∀ (b_1 : Nat),
      m'.sz ≤ b_1 →
      Done
      (PtR b (doneE x cl sq er) (Value.slice (some { block := b_1, off := (0 : Nat) : Addr }) (1 : Nat) (1 : Nat))
      ((m'.setCells b (11 : Nat) [Value.slice a n c]).newBlock b_1
      [Value.int IntKind.i64 (1 : Int), Value.int IntKind.i64 cl, Value.int IntKind.i64 sq, Value.int IntKind.i64 er,
      Value.int IntKind.i64 (0 : Int), Value.int IntKind.i64 (0 : Int), Value.int IntKind.i64 (0 : Int)])))
      (true = true ∧
      ∀ (b_1 : Nat),
      m'.sz ≤ b_1 →
      Done
      (PtR b (doneE x cl sq er) (Value.slice (some { block := b_1, off := (0 : Nat) : Addr }) (1 : Nat) (1 : Nat))
      (m'.newBlock b_1
      [Value.int IntKind.i64 (1 : Int), Value.int IntKind.i64 cl, Value.int IntKind.i64 sq, Value.int IntKind.i64 er,
      Value.int IntKind.i64 (0 : Int), Value.int IntKind.i64 (0 : Int), Value.int IntKind.i64 (0 : Int)])))) ∧
      True) (by kernel_rfl) ?_
  refine ⟨rfl, rfl, _, _, _, ct_cell h.cells 11 _ rfl rfl, ⟨_, noS, fun N hN => (send_s a.am a.cm x.ms cl sq ⟨er, 0, 0, 0⟩ hm _ (h.r.ms.sz hN)).monoW fun v m' hag ⟨⟨am, cm, hv, hr⟩⟩ => ⟨_, _, _, _, hv, ?_⟩⟩, trivial⟩
  have h1 := h.step hN hag
  refine ifB_intro (fun h0 => ?_) (fun h0 => ⟨rfl, fun b1 hb1 => ⟨⟨a, some ⟨b1, 0, none⟩, 1, ?_, rfl, ?_⟩⟩⟩)
  · have h0 : (endM x.ms cl sq ⟨er, 0, 0, 0⟩).2 = 0 := by simpa using h0
    obtain ⟨w1, h2⟩ := h1.set (x' := (doneE x cl sq er).1) (a' := { a with am := am, cm := cm }) (p := (encCt x a).take 11) (old := [.slice a.am x.ms.length a.cm]) (new := [.slice am (endM x.ms cl sq ⟨er, 0, 0, 0⟩).1.length cm]) (q := []) (j := 11) rfl (by simp [doneE, h0]) rfl rfl h1.r.ps (by simp only [doneE, h0, if_true]; exact hr) (B := m.sz) (S := fun z => z = b) (.inr rfl)
    refine ⟨w1, rfl, fun b1 hb1 => ⟨⟨_, some ⟨b1, 0, none⟩, 1, h2.newBlock (by simpa [M.setCells] using hb1), rfl, .at _ _ _ (by simp only [M.newBlock]; omega) cellsAt_new⟩⟩⟩
  · have h0 : (endM x.ms cl sq ⟨er, 0, 0, 0⟩).2 ≠ 0 := by simpa using h0
    have e : (doneE x cl sq er).1 = x := by simp [doneE, h0]
    rw [e]; exact h1.newBlock hb1
  · exact .at _ _ _ (by simp only [M.newBlock]; omega) cellsAt_new

theorem rdone_s (x : Ct) (a : Ca) (b : Nat) (cl sq er : Int) (hm : x.ms.length ≤ 9223372036854775807) (m : M) (h : PtC b x a m) :
    SpecW Try.prog 36 [.pointer (some ⟨b, 0, none⟩), I cl, I sq, I er] m (fun z => z = b) (PtR b (doneE x cl sq er)) := by
  refine SpecW.of_vc Try.func36 (ann := fun _ => noAnn 0) ?_
  refine vc_by (X :=
      true = true ∧
      true = true ∧
      ∃ (a : Option Addr),
      ∃ (n : Nat),
      ∃ (c : Nat),
      CellsAt m b (11 : Nat) [Value.slice a n c] ∧
      (∃ (S' : Nat → Prop),
      (∀ (b_1 : Nat), S' b_1 → m.uf b_1 ∧ (m.sz ≤ b_1 ∨ b_1 = b)) ∧
      ∀ (n_1 : Nat),
      m.sz ≤ n_1 →
      SpecW Try.prog (70 : Nat)
      [Value.slice a n c, Value.int IntKind.i64 cl, Value.int IntKind.i64 sq,
      Value.agg #[Value.int IntKind.i64 er, Value.int IntKind.i64 (0 : Int), Value.int IntKind.i64 (0 : Int), Value.int IntKind.i64 (0 : Int)]]
      { π := m.π, sz := n_1, uf := m.uf : M } S' fun (v : Value) (m' : M) =>
      ∃ (a : Option Addr),
      ∃ (n : Nat),
      ∃ (c : Nat),
      ∃ (n_2 : Int),
      v = Value.tuple #[Value.slice a n c, Value.int IntKind.i64 n_2] ∧
      ifB (n_2 == (0 : Int))
      (Wr m.sz (fun (z : Nat) => z = b) m' b (11 : Nat) #[Value.slice a n c].size ∧
      true = true ∧
      ∀ (b_1 : Nat),
      m'.sz ≤ b_1 →
      Done
      (PtR b (doneE x cl sq er) (Value.slice (some { block := b_1, off := (0 : Nat) : Addr }) (1 : Nat) (1 : Nat))
      ((m'.setCells b (11 : Nat) [Value.slice a n c]).newBlock b_1
      [Value.int IntKind.i64 (1 : Int), Value.int IntKind.i64 cl, Value.int IntKind.i64 sq, Value.int IntKind.i64 er,
      Value.int IntKind.i64 (0 : Int), Value.int IntKind.i64 (0 : Int), Value.int IntKind.i64 (0 : Int)])))
      (true = true ∧
      ∀ (b_1 : Nat),
      m'.sz ≤ b_1 →
      Done
      (PtR b (doneE x cl sq er) (Value.slice (some { block := b_1, off := (0 : Nat) : Addr }) (1 : Nat) (1 : Nat))
      (m'.newBlock b_1
      [Value.int IntKind.i64 (1 : Int), Value.int IntKind.i64 cl, Value.int IntKind.i64 sq, Value.int IntKind.i64 er,
      Value.int IntKind.i64 (0 : Int), Value.int IntKind.i64 (0 : Int), Value.int IntKind.i64 (0 : Int)])))) ∧
      True) (by kernel_rfl) ?_
  refine ⟨rfl, rfl, _, _, _, ct_cell h.cells 11 _ rfl rfl, ⟨_, noS, fun N hN => (rend_s a.am a.cm x.ms cl sq ⟨er, 0, 0, 0⟩ hm _ (h.r.ms.sz hN)).monoW fun v m' hag ⟨⟨am, cm, hv, hr⟩⟩ => ⟨_, _, _, _, hv, ?_⟩⟩, trivial⟩
  have h1 := h.step hN hag
  refine ifB_intro (fun h0 => ?_) (fun h0 => ⟨rfl, fun b1 hb1 => ⟨⟨a, some ⟨b1, 0, none⟩, 1, ?_, rfl, ?_⟩⟩⟩)
  · have h0 : (endM x.ms cl sq ⟨er, 0, 0, 0⟩).2 = 0 := by simpa using h0
    obtain ⟨w1, h2⟩ := h1.set (x' := (doneE x cl sq er).1) (a' := { a with am := am, cm := cm }) (p := (encCt x a).take 11) (old := [.slice a.am x.ms.length a.cm]) (new := [.slice am (endM x.ms cl sq ⟨er, 0, 0, 0⟩).1.length cm]) (q := []) (j := 11) rfl (by simp [doneE, h0]) rfl rfl h1.r.ps (by simp only [doneE, h0, if_true]; exact hr) (B := m.sz) (S := fun z => z = b) (.inr rfl)
    refine ⟨w1, rfl, fun b1 hb1 => ⟨⟨_, some ⟨b1, 0, none⟩, 1, h2.newBlock (by simpa [M.setCells] using hb1), rfl, .at _ _ _ (by simp only [M.newBlock]; omega) cellsAt_new⟩⟩⟩
  · have h0 : (endM x.ms cl sq ⟨er, 0, 0, 0⟩).2 ≠ 0 := by simpa using h0
    have e : (doneE x cl sq er).1 = x := by simp [doneE, h0]
    rw [e]; exact h1.newBlock hb1
  · exact .at _ _ _ (by simp only [M.newBlock]; omega) cellsAt_new

end Go.Proofs.Ytjjfcaigonomiaa
set_option linter.unusedVariables false
set_option linter.unusedSimpArgs false
namespace Go.Proofs.Ytjjfcaigonomiaa
open Go.Vc Go.RowKit
set_option maxRecDepth 100000

/-- a right chart -/
structure RiC (x : Ct) : Prop where
  ix0 : 0 ≤ x.ix
  ix1 : x.ix ≤ 4611686018427387904
  la0 : 0 ≤ x.la
  la1 : x.la ≤ 4611686018427387904
  nx0 : 2 ≤ x.nx
  nx1 : x.nx ≤ 8
  ps : rightB x.ps = true
  ms : tabB 0 x.ms = true
  gr : ∀ p ∈ x.ps, p.gr < x.nx
  pn : noPl x = true ∨ goB x = true

theorem ric_iff {x : Ct} : rightC x = true ↔ RiC x := by
  unfold rightC
  constructor
  · intro h
    simp only [Bool.and_eq_true, Bool.or_eq_true, decide_eq_true_eq, List.all_eq_true] at h
    obtain ⟨h1, h2, h3, h4, h5, h6, h7, h8, h9, h10⟩ := h
    exact ⟨h1, h2, h3, h4, h5, h6, h7, h8, h9, h10⟩
  · rintro ⟨h1, h2, h3, h4, h5, h6, h7, h8, h9, h10⟩
    simp only [Bool.and_eq_true, Bool.or_eq_true, decide_eq_true_eq, List.all_eq_true]
    exact ⟨h1, h2, h3, h4, h5, h6, h7, h8, h9, h10⟩

/-- a plan that goes on -/
structure GoC (x : Ct) : Prop where
  nu : x.nu = x.la
  n0 : x.nu ≠ 0
  arg : argB x.cl x.sq = true
  ep : epochL x.ps < 4611686018427387904
  sm : splB x = true ∨ mrgB x = true

theorem goc_iff {x : Ct} : goB x = true ↔ GoC x := by
  unfold goB
  constructor
  · intro h
    simp only [Bool.and_eq_true, Bool.or_eq_true, decide_eq_true_eq, Bool.not_eq_true', decide_eq_false_iff_not] at h
    obtain ⟨h1, h2, h3, h4, h5⟩ := h
    exact ⟨h1, h2, h3, h4, h5⟩
  · rintro ⟨h1, h2, h3, h4, h5⟩
    simp only [Bool.and_eq_true, Bool.or_eq_true, decide_eq_true_eq, Bool.not_eq_true', decide_eq_false_iff_not]
    exact ⟨h1, h2, h3, h4, h5⟩

theorem RiC.go {x : Ct} (h : RiC x) (hn : x.nu ≠ 0) : GoC x := by
  rcases h.pn with h1 | h1
  · exfalso
    unfold noPl at h1
    simp only [Bool.and_eq_true, decide_eq_true_eq] at h1
    exact hn h1.1
  · exact goc_iff.1 h1

structure SplF (x : Ct) : Prop where
  no : ¬ ofI x.ps x.to < x.ps.length
  to : x.to = x.nx - 1
  len : x.ps.length < 7
  k1 : 1 ≤ x.lo.size
  k2 : x.lo.size ≤ 16
  fr : x.fr = (plAt x.ps (fnd x.ps x.lo)).gr
  ne : x.lo ≠ (plAt x.ps (fnd x.ps x.lo)).fr
  hi : x.hi = endP x.ps (fnd x.ps x.lo)

theorem spl_iff {x : Ct} : splB x = true ↔ SplF x := by
  unfold splB hasG
  constructor
  · intro h
    simp only [Bool.and_eq_true, decide_eq_true_eq, Bool.not_eq_true', decide_eq_false_iff_not] at h
    obtain ⟨h1, h2, h3, h4, h5, h6, h7, h8⟩ := h
    exact ⟨h1, h2, h3, h4, h5, h6, h7, h8⟩
  · rintro ⟨h1, h2, h3, h4, h5, h6, h7, h8⟩
    simp only [Bool.and_eq_true, decide_eq_true_eq, Bool.not_eq_true', decide_eq_false_iff_not]
    exact ⟨h1, h2, h3, h4, h5, h6, h7, h8⟩

structure MrgF (x : Ct) : Prop where
  yes : ofI x.ps x.to < x.ps.length
  nxt : ofI x.ps x.to + 1 < x.ps.length
  fr : x.fr = (plAt x.ps (ofI x.ps x.to + 1)).gr
  lo : x.lo = (plAt x.ps (ofI x.ps x.to + 1)).fr
  hi : x.hi = endP x.ps (ofI x.ps x.to + 1)

theorem mrg_iff {x : Ct} : mrgB x = true ↔ MrgF x := by
  unfold mrgB hasG
  constructor
  · intro h
    simp only [Bool.and_eq_true, decide_eq_true_eq] at h
    obtain ⟨h1, h2, h3, h4, h5⟩ := h
    exact ⟨h1, h2, h3, h4, h5⟩
  · rintro ⟨h1, h2, h3, h4, h5⟩
    simp only [Bool.and_eq_true, decide_eq_true_eq]
    exact ⟨h1, h2, h3, h4, h5⟩

theorem split_eq {l : List Pl} {k : ByteArray} {g : Int} (hr : rightB l = true) (hk1 : 1 ≤ k.size) (hk2 : k.size ≤ 16) (hg1 : 1 ≤ g) (hg2 : g < 8) (hno : ¬ ofI l g < l.length) (hne : k ≠ (plAt l (fnd l k)).fr) (he : epochL l < 4611686018427387904) : splitL l k g = (insS l k g (fnd l k) (epochL l + 1), 0) := by
  have hf := findL_len k (right_pos hr)
  unfold splitL
  rw [if_neg (by simp [hr]), if_neg (by simp [hk1, hk2, grpB, hg1, hg2]), if_neg, if_neg (by omega)]
  · rfl
  · intro e
    simp only [Bool.or_eq_true, decide_eq_true_eq] at e
    rcases e with e | e
    · exact hno e
    · exact hne e.symm

theorem SplF.eq {x : Ct} (h : SplF x) (hr : RiC x) (he : epochL x.ps < 4611686018427387904) : splitL x.ps x.lo x.to = (insS x.ps x.lo x.to (fnd x.ps x.lo) (epochL x.ps + 1), 0) :=
  split_eq hr.ps h.k1 h.k2 (by have := h.to; have := hr.nx0; omega) (by have := h.to; have := hr.nx1; omega) h.no h.ne he

theorem merge_eq {l : List Pl} {i : Nat} (hr : rightB l = true) (hi : i + 1 < l.length) (he : epochL l < 4611686018427387904) : mergeL l (i : Int) = (delS l i (epochL l + 1), 0) := by
  unfold mergeL
  rw [if_neg (by simp [hr]), if_neg (by simp; omega)]
  simp

/-- the places as the plan that goes on says -/
def shiftL (x : Ct) : List Pl := if hasG x.ps x.to then delS x.ps (ofI x.ps x.to) (epochL x.ps + 1) else insS x.ps x.lo x.to (fnd x.ps x.lo) (epochL x.ps + 1)

theorem GoC.spl {x : Ct} (h : GoC x) (hn : hasG x.ps x.to = false) : SplF x := by
  rcases h.sm with h | h
  · exact spl_iff.1 h
  · have := (mrg_iff.1 h).yes
    simp [hasG] at hn; omega

theorem GoC.mrg {x : Ct} (h : GoC x) (hn : hasG x.ps x.to = true) : MrgF x := by
  rcases h.sm with h | h
  · have := (spl_iff.1 h).no
    simp [hasG] at hn; omega
  · exact mrg_iff.1 h

structure BoR (b : Nat) (x : Ct) (r : Bool) (v : Value) (m' : M) : Prop where
  out : ∃ a', PtC b x a' m' ∧ v = .bool r

theorem shift_s (x : Ct) (a : Ca) (b : Nat) (hr : RiC x) (hn0 : x.nu ≠ 0) (m : M) (h : PtC b x a m) :
    SpecW Try.prog 32 [.pointer (some ⟨b, 0, none⟩)] m (fun z => z = b) (BoR b { x with ps := shiftL x } true) := by
  refine SpecW.of_vc Try.func32 (ann := fun _ => noAnn 0) ?_
  refine vc_by (X :=
      true = true ∧
      ∃ (n : Int),
      ∃ (n_1 : Int),
      ∃ (n_2 : Int),
      ∃ (s : ByteArray),
      ∃ (s_1 : ByteArray),
      ∃ (n_3 : Int),
      ∃ (n_4 : Int),
      CellsAt m b (4 : Nat)
      [Value.int IntKind.i64 n, Value.int IntKind.i64 n_1, Value.int IntKind.i64 n_2, Value.string s, Value.string s_1, Value.int IntKind.i64 n_3,
      Value.int IntKind.i64 n_4] ∧
      true = true ∧
      ∃ (a : Option Addr),
      ∃ (n : Nat),
      ∃ (c : Nat),
      CellsAt m b (1 : Nat) [Value.slice a n c] ∧
      (∃ (S' : Nat → Prop),
      (∀ (b_1 : Nat), S' b_1 → m.uf b_1 ∧ (m.sz ≤ b_1 ∨ b_1 = b)) ∧
      ∀ (n_5 : Nat),
      m.sz ≤ n_5 →
      SpecW Try.prog (28 : Nat) [Value.slice a n c, Value.string s, Value.int IntKind.i64 n_2] { π := m.π, sz := n_5, uf := m.uf : M } S'
      fun (v : Value) (m' : M) =>
      ∃ (a : Option Addr),
      ∃ (n : Nat),
      ∃ (c : Nat),
      ∃ (n_6 : Int),
      v = Value.tuple #[Value.slice a n c, Value.int IntKind.i64 n_6] ∧
      true = true ∧
      ∃ (a_2 : Option Addr),
      ∃ (n_7 : Nat),
      ∃ (c_1 : Nat),
      CellsAt m' b (1 : Nat) [Value.slice a_2 n_7 c_1] ∧
      ∃ (n_8 : Int),
      ∃ (b_1 : Bool),
      QSpec Try.prog (18 : Nat) [Value.slice a_2 n_7 c_1, Value.int IntKind.i64 n_2] m'
      (Value.tuple #[Value.int IntKind.i64 n_8, Value.bool b_1]) ∧
      ifB b_1
      (∃ (a : Option Addr),
      ∃ (n : Nat),
      ∃ (c : Nat),
      CellsAt m' b (1 : Nat) [Value.slice a n c] ∧
      ∃ (S' : Nat → Prop),
      (∀ (b_2 : Nat), S' b_2 → m'.uf b_2 ∧ (m.sz ≤ b_2 ∨ b_2 = b)) ∧
      ∀ (n_9 : Nat),
      m'.sz ≤ n_9 →
      SpecW Try.prog (27 : Nat) [Value.slice a n c, Value.int IntKind.i64 n_8]
      { π := m'.π, sz := n_9, uf := m'.uf : M } S' fun (v : Value) (m' : M) =>
      ∃ (a : Option Addr),
      ∃ (n : Nat),
      ∃ (c : Nat),
      ∃ (n_10 : Int),
      v = Value.tuple #[Value.slice a n c, Value.int IntKind.i64 n_10] ∧
      ifB (n_10 != (0 : Int))
      (Done
      (BoR b
      { ix := x.ix, ps := shiftL x, nx := x.nx, la := x.la, nu := x.nu, fr := x.fr, to := x.to, lo := x.lo, hi := x.hi, cl := x.cl, sq := x.sq, ms := x.ms : Ct }
      true (Value.bool false) m'))
      (Wr m.sz (fun (z : Nat) => z = b) m' b (1 : Nat) #[Value.slice a n c].size ∧
      Done
      (BoR b
      { ix := x.ix, ps := shiftL x, nx := x.nx, la := x.la, nu := x.nu, fr := x.fr, to := x.to, lo := x.lo, hi := x.hi, cl := x.cl, sq := x.sq, ms := x.ms : Ct }
      true (Value.bool true) (m'.setCells b (1 : Nat) [Value.slice a n c]))))
      (ifB (n_6 != (0 : Int))
      (Done
      (BoR b
      { ix := x.ix, ps := shiftL x, nx := x.nx, la := x.la, nu := x.nu, fr := x.fr, to := x.to, lo := x.lo, hi := x.hi, cl := x.cl, sq := x.sq, ms := x.ms : Ct }
      true (Value.bool false) m'))
      (Wr m.sz (fun (z : Nat) => z = b) m' b (1 : Nat) #[Value.slice a n c].size ∧
      Done
      (BoR b
      { ix := x.ix, ps := shiftL x, nx := x.nx, la := x.la, nu := x.nu, fr := x.fr, to := x.to, lo := x.lo, hi := x.hi, cl := x.cl, sq := x.sq, ms := x.ms : Ct }
      true (Value.bool true) (m'.setCells b (1 : Nat) [Value.slice a n c]))))) ∧
      True) (by kernel_rfl) ?_
  have hg := hr.go hn0
  have hlen := right_len hr.ps
  refine ⟨rfl, _, _, _, _, _, _, _, ct_plan h.cells, rfl, _, _, _, ct_cell h.cells 1 _ rfl rfl, ⟨_, noS, fun N hN => (rg_split x.ps a.ap a.cp x.lo x.to (by omega) _ (h.r.ps.sz hN)).monoW fun v m' hag ⟨ap, cp, hv, hrow⟩ => ⟨_, _, _, _, hv, ?_⟩⟩, trivial⟩
  have h1 := h.step hN hag
  have ho := rg_of x.ps a.ap a.cp x.to (by omega) _ h1.r.ps
  rw [ofV_eq] at ho
  refine ⟨rfl, _, _, _, ct_cell h1.cells 1 _ rfl rfl, _, _, ho, ?_⟩
  cases hgg : hasG x.ps x.to with
  | true =>
    have F := hg.mrg hgg
    have hd : decide (ofI x.ps x.to < x.ps.length) = true := hgg
    rw [hd, if_pos F.yes]
    refine ifB_true ⟨_, _, _, ct_cell h1.cells 1 _ rfl rfl, _, noS, fun N2 hN2 => ?_⟩
    have Fy := F.yes
    have Q := rg_merge x.ps a.ap a.cp (ofI x.ps x.to : Nat) (by unfold In64; omega) (by omega) _ (h1.r.ps.sz hN2)
    rw [merge_eq hr.ps F.nxt hg.ep] at Q
    refine Q.monoW fun v2 m2 hag2 ⟨ap2, cp2, hv2, hrow2⟩ => ⟨_, _, _, _, hv2, ifB_false' rfl ?_⟩
    have h2 := h1.step hN2 hag2
    have hsh : shiftL x = delS x.ps (ofI x.ps x.to) (epochL x.ps + 1) := by simp [shiftL, hgg]
    obtain ⟨w1, h3⟩ := h2.set (x' := { x with ps := shiftL x }) (a' := { a with ap := ap2, cp := cp2 }) (p := (encCt x a).take 1) (old := [.slice a.ap x.ps.length a.cp]) (new := [.slice ap2 (delS x.ps (ofI x.ps x.to) (epochL x.ps + 1)).length cp2]) (q := (encCt x a).drop 2) (j := 1) rfl (by simp [hsh]) rfl rfl (by simp only [hsh]; exact hrow2) h2.r.ms (B := m.sz) (S := fun z => z = b) (.inr rfl)
    exact ⟨w1, ⟨⟨_, h3, rfl⟩⟩⟩
  | false =>
    have F := hg.spl hgg
    have hd : decide (ofI x.ps x.to < x.ps.length) = false := hgg
    rw [hd]
    rw [F.eq hr hg.ep] at hrow ⊢
    have hsh : shiftL x = insS x.ps x.lo x.to (fnd x.ps x.lo) (epochL x.ps + 1) := by simp [shiftL, hgg]
    obtain ⟨w1, h3⟩ := h1.set (x' := { x with ps := shiftL x }) (a' := { a with ap := ap, cp := cp }) (p := (encCt x a).take 1) (old := [.slice a.ap x.ps.length a.cp]) (new := [.slice ap (insS x.ps x.lo x.to (fnd x.ps x.lo) (epochL x.ps + 1)).length cp]) (q := (encCt x a).drop 2) (j := 1) rfl (by simp [hsh]) rfl rfl (by simp only [hsh]; exact hrow) h1.r.ms (B := m.sz) (S := fun z => z = b) (.inr rfl)
    exact ifB_false (ifB_false' rfl ⟨w1, ⟨⟨_, h3, rfl⟩⟩⟩)

/-- no plan -/
def clrP (x : Ct) : Ct := { x with nu := 0, fr := 0, to := 0, lo := .empty, hi := .empty, cl := 0, sq := 0 }

def shfE (x : Ct) : Ct × List Ef := doneE (clrP { x with ps := shiftL x }) x.cl x.sq 0

theorem rshift_s (x : Ct) (a : Ca) (b : Nat) (hr : RiC x) (hn0 : x.nu ≠ 0) (hm : x.ms.length ≤ 9223372036854775807) (m : M) (h : PtC b x a m) :
    SpecW Try.prog 35 [.pointer (some ⟨b, 0, none⟩)] m (fun z => z = b) (PtR b (shfE x)) := by
  refine SpecW.of_vc Try.func35 (ann := fun _ => noAnn 0) ?_
  refine vc_by (X :=
      true = true ∧
      ∃ (n : Int),
      ∃ (n_1 : Int),
      ∃ (n_2 : Int),
      ∃ (s : ByteArray),
      ∃ (s_1 : ByteArray),
      ∃ (n_3 : Int),
      ∃ (n_4 : Int),
      CellsAt m b (4 : Nat)
      [Value.int IntKind.i64 n, Value.int IntKind.i64 n_1, Value.int IntKind.i64 n_2, Value.string s, Value.string s_1, Value.int IntKind.i64 n_3,
      Value.int IntKind.i64 n_4] ∧
      true = true ∧
      ∃ (a : Option Addr),
      ∃ (n : Nat),
      ∃ (c : Nat),
      CellsAt m b (1 : Nat) [Value.slice a n c] ∧
      ∃ (n_5 : Int),
      ∃ (b_1 : Bool),
      QSpec Try.prog (67 : Nat) [Value.slice a n c, Value.int IntKind.i64 n_2] m (Value.tuple #[Value.int IntKind.i64 n_5, Value.bool b_1]) ∧
      ifB b_1
      (∃ (a : Option Addr),
      ∃ (n : Nat),
      ∃ (c : Nat),
      CellsAt m b (1 : Nat) [Value.slice a n c] ∧
      ∃ (S' : Nat → Prop),
      (∀ (b_2 : Nat), S' b_2 → m.uf b_2 ∧ (m.sz ≤ b_2 ∨ b_2 = b)) ∧
      ∀ (n_6 : Nat),
      m.sz ≤ n_6 →
      SpecW Try.prog (68 : Nat) [Value.slice a n c, Value.int IntKind.i64 n_5] { π := m.π, sz := n_6, uf := m.uf : M } S'
      fun (v : Value) (m' : M) =>
      ∃ (a : Option Addr),
      ∃ (n : Nat),
      ∃ (c : Nat),
      ∃ (n_7 : Int),
      v = Value.tuple #[Value.slice a n c, Value.int IntKind.i64 n_7] ∧
      Wr m.sz (fun (z : Nat) => z = b) m' b (1 : Nat) #[Value.slice a n c].size ∧
      Wr m.sz (fun (z : Nat) => z = b) (m'.setCells b (1 : Nat) [Value.slice a n c]) b (4 : Nat) (7 : Nat) ∧
      ∃ (S' : Nat → Prop),
      (∀ (b_2 : Nat),
      S' b_2 →
      ((m'.setCells b (1 : Nat) [Value.slice a n c]).setCells b (4 : Nat)
      [Value.int IntKind.i64 (0 : Int), Value.int IntKind.i64 (0 : Int),
      Value.int IntKind.i64 (0 : Int), Value.string { data := #[] : ByteArray },
      Value.string { data := #[] : ByteArray }, Value.int IntKind.i64 (0 : Int),
      Value.int IntKind.i64 (0 : Int)]).uf
      b_2 ∧
      (m.sz ≤ b_2 ∨ b_2 = b)) ∧
      ∀ (n_8 : Nat),
      m'.sz ≤ n_8 →
      SpecW Try.prog (36 : Nat)
      [Value.pointer (some { block := b, off := (0 : Nat) : Addr }), Value.int IntKind.i64 n_3,
      Value.int IntKind.i64 n_4, Value.int IntKind.i64 (0 : Int)]
      { π := ((m'.setCells b (1 : Nat) [Value.slice a n c]).setCells b (4 : Nat) [Value.int IntKind.i64 (0 : Int), Value.int IntKind.i64 (0 : Int), Value.int IntKind.i64 (0 : Int), Value.string { data := #[] : ByteArray }, Value.string { data := #[] : ByteArray }, Value.int IntKind.i64 (0 : Int), Value.int IntKind.i64 (0 : Int)]).π, sz := n_8, uf := ((m'.setCells b (1 : Nat) [Value.slice a n c]).setCells b (4 : Nat) [Value.int IntKind.i64 (0 : Int), Value.int IntKind.i64 (0 : Int), Value.int IntKind.i64 (0 : Int), Value.string { data := #[] : ByteArray }, Value.string { data := #[] : ByteArray }, Value.int IntKind.i64 (0 : Int), Value.int IntKind.i64 (0 : Int)]).uf : M }
      S' fun (v : Value) (m' : M) =>
      ∃ (a : Option Addr),
      ∃ (n : Nat), ∃ (c : Nat), v = Value.slice a n c ∧ Done (PtR b (shfE x) (Value.slice a n c) m'))
      (true = true ∧
      ∃ (a : Option Addr),
      ∃ (n : Nat),
      ∃ (c : Nat),
      CellsAt m b (1 : Nat) [Value.slice a n c] ∧
      (∃ (S' : Nat → Prop),
      (∀ (b_2 : Nat), S' b_2 → m.uf b_2 ∧ (m.sz ≤ b_2 ∨ b_2 = b)) ∧
      ∀ (n_6 : Nat),
      m.sz ≤ n_6 →
      SpecW Try.prog (69 : Nat) [Value.slice a n c, Value.string s, Value.int IntKind.i64 n_2]
      { π := m.π, sz := n_6, uf := m.uf : M } S' fun (v : Value) (m' : M) =>
      ∃ (a : Option Addr),
      ∃ (n : Nat),
      ∃ (c : Nat),
      ∃ (n_7 : Int),
      v = Value.tuple #[Value.slice a n c, Value.int IntKind.i64 n_7] ∧
      (Wr m.sz (fun (z : Nat) => z = b) m' b (1 : Nat) #[Value.slice a n c].size ∧
      Wr m.sz (fun (z : Nat) => z = b) (m'.setCells b (1 : Nat) [Value.slice a n c]) b (4 : Nat) (7 : Nat) ∧
      ∃ (S' : Nat → Prop),
      (∀ (b_2 : Nat),
      S' b_2 →
      ((m'.setCells b (1 : Nat) [Value.slice a n c]).setCells b (4 : Nat)
      [Value.int IntKind.i64 (0 : Int), Value.int IntKind.i64 (0 : Int),
      Value.int IntKind.i64 (0 : Int), Value.string { data := #[] : ByteArray },
      Value.string { data := #[] : ByteArray }, Value.int IntKind.i64 (0 : Int),
      Value.int IntKind.i64 (0 : Int)]).uf
      b_2 ∧
      (m.sz ≤ b_2 ∨ b_2 = b)) ∧
      ∀ (n_8 : Nat),
      m'.sz ≤ n_8 →
      SpecW Try.prog (36 : Nat)
      [Value.pointer (some { block := b, off := (0 : Nat) : Addr }), Value.int IntKind.i64 n_3,
      Value.int IntKind.i64 n_4, Value.int IntKind.i64 (0 : Int)]
      { π := ((m'.setCells b (1 : Nat) [Value.slice a n c]).setCells b (4 : Nat) [Value.int IntKind.i64 (0 : Int), Value.int IntKind.i64 (0 : Int), Value.int IntKind.i64 (0 : Int), Value.string { data := #[] : ByteArray }, Value.string { data := #[] : ByteArray }, Value.int IntKind.i64 (0 : Int), Value.int IntKind.i64 (0 : Int)]).π, sz := n_8, uf := ((m'.setCells b (1 : Nat) [Value.slice a n c]).setCells b (4 : Nat) [Value.int IntKind.i64 (0 : Int), Value.int IntKind.i64 (0 : Int), Value.int IntKind.i64 (0 : Int), Value.string { data := #[] : ByteArray }, Value.string { data := #[] : ByteArray }, Value.int IntKind.i64 (0 : Int), Value.int IntKind.i64 (0 : Int)]).uf : M }
      S' fun (v : Value) (m' : M) =>
      ∃ (a : Option Addr),
      ∃ (n : Nat),
      ∃ (c : Nat), v = Value.slice a n c ∧ Done (PtR b (shfE x) (Value.slice a n c) m')) ∧
      True) ∧
      True)) (by kernel_rfl) ?_
  have hg := hr.go hn0
  have hlen := right_len hr.ps
  have ho := rf_of x.ps a.ap a.cp x.to (by omega) _ h.r.ps
  rw [ofV_eq] at ho
  have key : ∀ (m' : M) (L : List Pl) (ap : Option Addr) (cp : Nat), PtC b x a m' → m.sz ≤ m'.sz → L = shiftL x → Row m' ap (pls L) → Wr m.sz (fun z => z = b) m' b 1 #[Value.slice ap L.length cp].size ∧ Wr m.sz (fun z => z = b) (m'.setCells b 1 [.slice ap L.length cp]) b 4 7 ∧ ∃ a2, PtC b (clrP { x with ps := shiftL x }) a2 ((m'.setCells b 1 [.slice ap L.length cp]).setCells b 4 [I 0, I 0, I 0, .string .empty, .string .empty, I 0, I 0]) := fun m' L ap cp h2 hs hL hrow => by
    subst hL
    obtain ⟨w1, h3⟩ := h2.set (x' := { x with ps := shiftL x }) (a' := { a with ap := ap, cp := cp }) (p := (encCt x a).take 1) (old := [.slice a.ap x.ps.length a.cp]) (new := [.slice ap (shiftL x).length cp]) (q := (encCt x a).drop 2) (j := 1) rfl rfl rfl rfl hrow h2.r.ms (B := m.sz) (S := fun z => z = b) (.inr rfl)
    obtain ⟨w2, h4⟩ := h3.set (x' := clrP { x with ps := shiftL x }) (a' := { a with ap := ap, cp := cp }) (p := [I x.ix, .slice ap (shiftL x).length cp, I x.nx, I x.la]) (old := [I x.nu, I x.fr, I x.to, .string x.lo, .string x.hi, I x.cl, I x.sq]) (new := [I 0, I 0, I 0, .string .empty, .string .empty, I 0, I 0]) (q := [.slice a.am x.ms.length a.cm]) (j := 4) rfl rfl rfl rfl h3.r.ps h3.r.ms (B := m.sz) (S := fun z => z = b) (.inr rfl)
    exact ⟨w1, w2, _, h4⟩
  have fin : ∀ (m2 : M) a2, PtC b (clrP { x with ps := shiftL x }) a2 m2 → ∃ S' : Nat → Prop, (∀ z, S' z → m2.uf z ∧ (m.sz ≤ z ∨ z = b)) ∧ ∀ N, m2.sz ≤ N → SpecW Try.prog 36 [.pointer (some ⟨b, 0, none⟩), I x.cl, I x.sq, I 0] { m2 with sz := N } S' fun v m' => ∃ a n c, v = .slice a n c ∧ Done (PtR b (shfE x) (.slice a n c) m') := fun m2 a2 h4 => by
    refine ⟨fun z => z = b, fun z e => by subst e; exact ⟨h4.uf, .inr rfl⟩, fun N hN => (rdone_s (clrP { x with ps := shiftL x }) a2 b x.cl x.sq 0 hm _ (h4.sz hN)).mono fun v m' hag ⟨⟨a', av, cv, g1, g2, g3⟩⟩ => ⟨_, _, _, g2, ⟨⟨a', av, cv, g1, rfl, g3⟩⟩⟩⟩
  refine ⟨rfl, _, _, _, _, _, _, _, ct_plan h.cells, rfl, _, _, _, ct_cell h.cells 1 _ rfl rfl, _, _, ho, ?_⟩
  cases hgg : hasG x.ps x.to with
  | true =>
    have F := hg.mrg hgg
    have hd : decide (ofI x.ps x.to < x.ps.length) = true := hgg
    rw [hd, if_pos F.yes]
    have Fy := F.yes
    refine ifB_true ⟨_, _, _, ct_cell h.cells 1 _ rfl rfl, _, noS, fun N2 hN2 => ?_⟩
    have Q := rf_merge x.ps a.ap a.cp (ofI x.ps x.to : Nat) (by unfold In64; omega) (by omega) _ (h.r.ps.sz hN2)
    rw [merge_eq hr.ps F.nxt hg.ep] at Q
    refine Q.monoW fun v2 m2 hag2 ⟨ap2, cp2, hv2, hrow2⟩ => ⟨_, _, _, _, hv2, ?_⟩
    have h2 := h.step hN2 hag2
    obtain ⟨w1, w2, a2, h4⟩ := key m2 _ ap2 cp2 h2 (by have := hag2.2.2; simp only at this; omega) (by simp [shiftL, hgg]) hrow2
    exact ⟨w1, w2, fin _ a2 h4⟩
  | false =>
    have F := hg.spl hgg
    have hd : decide (ofI x.ps x.to < x.ps.length) = false := hgg
    rw [hd]
    refine ifB_false ⟨rfl, _, _, _, ct_cell h.cells 1 _ rfl rfl, ⟨_, noS, fun N2 hN2 => ?_⟩, trivial⟩
    have Q := rf_split x.ps a.ap a.cp x.lo x.to (by omega) _ (h.r.ps.sz hN2)
    rw [F.eq hr hg.ep] at Q
    refine Q.monoW fun v2 m2 hag2 ⟨ap2, cp2, hv2, hrow2⟩ => ⟨_, _, _, _, hv2, ?_⟩
    have h2 := h.step hN2 hag2
    obtain ⟨w1, w2, a2, h4⟩ := key m2 _ ap2 cp2 h2 (by have := hag2.2.2; simp only at this; omega) (by simp [shiftL, hgg]) hrow2
    exact ⟨⟨w1, w2, fin _ a2 h4⟩, trivial⟩

end Go.Proofs.Ytjjfcaigonomiaa
set_option linter.unusedVariables false
set_option linter.unusedSimpArgs false
namespace Go.Proofs.Ytjjfcaigonomiaa
open Go.Vc Go.RowKit
set_option maxRecDepth 100000

/-- a command, but for its image -/
structure Cd where
  kd : Int
  cl : Int
  sq : Int
  ep : Int
  nd : Int
  hm : Int
  ky : ByteArray
  le : Int
  rn : Int
  ne : Int
  ys : Bool
  op_kd : Int
  op_ky : ByteArray
  op_ot : ByteArray
  op_n : Int
  op_lo : Int
  op_hi : Int
  pl_nu : Int
  pl_fr : Int
  pl_to : Int
  pl_lo : ByteArray
  pl_hi : ByteArray
  pl_cl : Int
  pl_sq : Int

def Cd.wf (x : Cd) : Prop := In64 x.kd ∧ In64 x.cl ∧ In64 x.sq ∧ In64 x.ep ∧ In64 x.nd ∧ In64 x.hm ∧ x.ky.size ≤ 9223372036854775807 ∧ In64 x.le ∧ In64 x.rn ∧ In64 x.ne ∧ In64 x.op_kd ∧ x.op_ky.size ≤ 9223372036854775807 ∧ x.op_ot.size ≤ 9223372036854775807 ∧ In64 x.op_n ∧ In64 x.op_lo ∧ In64 x.op_hi ∧ In64 x.pl_nu ∧ In64 x.pl_fr ∧ In64 x.pl_to ∧ x.pl_lo.size ≤ 9223372036854775807 ∧ x.pl_hi.size ≤ 9223372036854775807 ∧ In64 x.pl_cl ∧ In64 x.pl_sq

abbrev encCd (x : Cd) (a : Option Addr) (n c : Nat) : List Value := [I x.kd, I x.cl, I x.sq, I x.ep, I x.nd, I x.hm, .string x.ky, I x.le, I x.rn, I x.ne, .bool x.ys, I x.op_kd, .string x.op_ky, .string x.op_ot, I x.op_n, I x.op_lo, I x.op_hi, I x.pl_nu, I x.pl_fr, I x.pl_to, .string x.pl_lo, .string x.pl_hi, I x.pl_cl, I x.pl_sq, .slice a n c]

abbrev cdv (x : Cd) (a : Option Addr) (n c : Nat) : Value := .agg #[I x.kd, I x.cl, I x.sq, I x.ep, I x.nd, I x.hm, .string x.ky, I x.le, I x.rn, I x.ne, .bool x.ys, I x.op_kd, .string x.op_ky, .string x.op_ot, I x.op_n, I x.op_lo, I x.op_hi, I x.pl_nu, I x.pl_fr, I x.pl_to, .string x.pl_lo, .string x.pl_hi, I x.pl_cl, I x.pl_sq, .slice a n c]

/-- why a split or a merge can't go on -/
def refE (x : Ct) (kd : Int) (ky : ByteArray) : Int :=
  if x.nu ≠ 0 then 190
  else if kd = 7 ∧ (plAt x.ps (fnd x.ps ky)).fr = ky then 171
  else if kd = 7 ∧ (x.nx ≥ 8 ∨ x.ps.length ≥ 7) then 3
  else if kd ≠ 7 ∧ fnd x.ps ky + 1 ≥ x.ps.length then 170
  else if epochL x.ps ≥ 4611686018427387904 ∨ x.la ≥ 4611686018427387904 then 170
  else 0

theorem refused_q (x : Ct) (a : Ca) (kd : Int) (ky ot : ByteArray) (n lo hi : Int) (hr : rightB x.ps = true) (m : M) (h : CtR m x a) : QSpec Try.prog 59 [ctv x a, .agg #[I kd, .string ky, .string ot, I n, I lo, I hi]] m (I (refE x kd ky)) := by
  refine QSpec.of_vc Try.func59 (ann := fun _ => noAnn) fun n' hn => ?_
  refine vc_by (X :=
      true = true ∧
      ∃ (n : Int),
      QSpec Try.prog (20 : Nat) [Value.slice a.ap x.ps.length a.cp, Value.string ky] { π := m.π, sz := n', uf := m.uf : M } (Value.int IntKind.i64 n) ∧
      ifB (x.nu != (0 : Int)) (Done (Value.int IntKind.i64 (190 : Int) = Value.int IntKind.i64 (refE x kd ky)))
      (true = true ∧
      ifB (kd == (7 : Int))
      (∃ (b : Nat),
      ∃ (off : Nat),
      a.ap = some { block := b, off := off : Addr } ∧
      ((0 : Int) ≤ n ∧ n < (↑x.ps.length : Int)) ∧
      ∃ (s : ByteArray),
      CellsAt { π := m.π, sz := n', uf := m.uf : M } b (off + n.toNat * (3 : Nat) + (1 : Nat)) [Value.string s] ∧
      ifB (s.toList == ky.toList) (Done (Value.int IntKind.i64 (171 : Int) = Value.int IntKind.i64 (refE x kd ky)))
      (ifB (kd == (7 : Int))
      (ifB (decide (x.nx ≥ (8 : Int))) (Done (Value.int IntKind.i64 (3 : Int) = Value.int IntKind.i64 (refE x kd ky)))
      (ifB (decide ((↑x.ps.length : Int) ≥ (7 : Int))) (Done (Value.int IntKind.i64 (3 : Int) = Value.int IntKind.i64 (refE x kd ky)))
      (ifB (!kd == (7 : Int))
      (ifB (decide (IntKind.i64.wrap (n + (1 : Int)) ≥ (↑x.ps.length : Int)))
      (Done (Value.int IntKind.i64 (170 : Int) = Value.int IntKind.i64 (refE x kd ky)))
      (∃ (n : Int),
      QSpec Try.prog (17 : Nat) [Value.slice a.ap x.ps.length a.cp] { π := m.π, sz := n', uf := m.uf : M } (Value.int IntKind.i64 n) ∧
      ifB (decide (n ≥ (4611686018427387904 : Int))) (Done (Value.int IntKind.i64 (170 : Int) = Value.int IntKind.i64 (refE x kd ky)))
      (ifB (decide (x.la ≥ (4611686018427387904 : Int))) (Done (Value.int IntKind.i64 (170 : Int) = Value.int IntKind.i64 (refE x kd ky)))
      (Done (Value.int IntKind.i64 (0 : Int) = Value.int IntKind.i64 (refE x kd ky))))))
      (∃ (n : Int),
      QSpec Try.prog (17 : Nat) [Value.slice a.ap x.ps.length a.cp] { π := m.π, sz := n', uf := m.uf : M } (Value.int IntKind.i64 n) ∧
      ifB (decide (n ≥ (4611686018427387904 : Int))) (Done (Value.int IntKind.i64 (170 : Int) = Value.int IntKind.i64 (refE x kd ky)))
      (ifB (decide (x.la ≥ (4611686018427387904 : Int))) (Done (Value.int IntKind.i64 (170 : Int) = Value.int IntKind.i64 (refE x kd ky)))
      (Done (Value.int IntKind.i64 (0 : Int) = Value.int IntKind.i64 (refE x kd ky))))))))
      (ifB (!kd == (7 : Int))
      (ifB (decide (IntKind.i64.wrap (n + (1 : Int)) ≥ (↑x.ps.length : Int)))
      (Done (Value.int IntKind.i64 (170 : Int) = Value.int IntKind.i64 (refE x kd ky)))
      (∃ (n : Int),
      QSpec Try.prog (17 : Nat) [Value.slice a.ap x.ps.length a.cp] { π := m.π, sz := n', uf := m.uf : M } (Value.int IntKind.i64 n) ∧
      ifB (decide (n ≥ (4611686018427387904 : Int))) (Done (Value.int IntKind.i64 (170 : Int) = Value.int IntKind.i64 (refE x kd ky)))
      (ifB (decide (x.la ≥ (4611686018427387904 : Int))) (Done (Value.int IntKind.i64 (170 : Int) = Value.int IntKind.i64 (refE x kd ky)))
      (Done (Value.int IntKind.i64 (0 : Int) = Value.int IntKind.i64 (refE x kd ky))))))
      (∃ (n : Int),
      QSpec Try.prog (17 : Nat) [Value.slice a.ap x.ps.length a.cp] { π := m.π, sz := n', uf := m.uf : M } (Value.int IntKind.i64 n) ∧
      ifB (decide (n ≥ (4611686018427387904 : Int))) (Done (Value.int IntKind.i64 (170 : Int) = Value.int IntKind.i64 (refE x kd ky)))
      (ifB (decide (x.la ≥ (4611686018427387904 : Int))) (Done (Value.int IntKind.i64 (170 : Int) = Value.int IntKind.i64 (refE x kd ky)))
      (Done (Value.int IntKind.i64 (0 : Int) = Value.int IntKind.i64 (refE x kd ky))))))))
      (ifB (kd == (7 : Int))
      (ifB (decide (x.nx ≥ (8 : Int))) (Done (Value.int IntKind.i64 (3 : Int) = Value.int IntKind.i64 (refE x kd ky)))
      (ifB (decide ((↑x.ps.length : Int) ≥ (7 : Int))) (Done (Value.int IntKind.i64 (3 : Int) = Value.int IntKind.i64 (refE x kd ky)))
      (ifB (!kd == (7 : Int))
      (ifB (decide (IntKind.i64.wrap (n + (1 : Int)) ≥ (↑x.ps.length : Int))) (Done (Value.int IntKind.i64 (170 : Int) = Value.int IntKind.i64 (refE x kd ky)))
      (∃ (n : Int),
      QSpec Try.prog (17 : Nat) [Value.slice a.ap x.ps.length a.cp] { π := m.π, sz := n', uf := m.uf : M } (Value.int IntKind.i64 n) ∧
      ifB (decide (n ≥ (4611686018427387904 : Int))) (Done (Value.int IntKind.i64 (170 : Int) = Value.int IntKind.i64 (refE x kd ky)))
      (ifB (decide (x.la ≥ (4611686018427387904 : Int))) (Done (Value.int IntKind.i64 (170 : Int) = Value.int IntKind.i64 (refE x kd ky)))
      (Done (Value.int IntKind.i64 (0 : Int) = Value.int IntKind.i64 (refE x kd ky))))))
      (∃ (n : Int),
      QSpec Try.prog (17 : Nat) [Value.slice a.ap x.ps.length a.cp] { π := m.π, sz := n', uf := m.uf : M } (Value.int IntKind.i64 n) ∧
      ifB (decide (n ≥ (4611686018427387904 : Int))) (Done (Value.int IntKind.i64 (170 : Int) = Value.int IntKind.i64 (refE x kd ky)))
      (ifB (decide (x.la ≥ (4611686018427387904 : Int))) (Done (Value.int IntKind.i64 (170 : Int) = Value.int IntKind.i64 (refE x kd ky)))
      (Done (Value.int IntKind.i64 (0 : Int) = Value.int IntKind.i64 (refE x kd ky))))))))
      (ifB (!kd == (7 : Int))
      (ifB (decide (IntKind.i64.wrap (n + (1 : Int)) ≥ (↑x.ps.length : Int))) (Done (Value.int IntKind.i64 (170 : Int) = Value.int IntKind.i64 (refE x kd ky)))
      (∃ (n : Int),
      QSpec Try.prog (17 : Nat) [Value.slice a.ap x.ps.length a.cp] { π := m.π, sz := n', uf := m.uf : M } (Value.int IntKind.i64 n) ∧
      ifB (decide (n ≥ (4611686018427387904 : Int))) (Done (Value.int IntKind.i64 (170 : Int) = Value.int IntKind.i64 (refE x kd ky)))
      (ifB (decide (x.la ≥ (4611686018427387904 : Int))) (Done (Value.int IntKind.i64 (170 : Int) = Value.int IntKind.i64 (refE x kd ky)))
      (Done (Value.int IntKind.i64 (0 : Int) = Value.int IntKind.i64 (refE x kd ky))))))
      (∃ (n : Int),
      QSpec Try.prog (17 : Nat) [Value.slice a.ap x.ps.length a.cp] { π := m.π, sz := n', uf := m.uf : M } (Value.int IntKind.i64 n) ∧
      ifB (decide (n ≥ (4611686018427387904 : Int))) (Done (Value.int IntKind.i64 (170 : Int) = Value.int IntKind.i64 (refE x kd ky)))
      (ifB (decide (x.la ≥ (4611686018427387904 : Int))) (Done (Value.int IntKind.i64 (170 : Int) = Value.int IntKind.i64 (refE x kd ky)))
      (Done (Value.int IntKind.i64 (0 : Int) = Value.int IntKind.i64 (refE x kd ky))))))))) (by kernel_rfl) ?_
  have h' := h.sz hn
  have hlen := right_len hr
  have hpos := right_pos hr
  have hf := findL_len ky hpos
  obtain ⟨b, o, hb, hc⟩ := h'.ps.cells (by rw [pl_len]; omega)
  have f2 : CellsAt { m with sz := n' } b (o + findL ky x.ps 0 0 * 3 + 1) [.string (plAt x.ps (fnd x.ps ky)).fr] := by
    have := pl_frc hc hf
    rw [← plAt_at hf] at this; exact this
  have w : IntKind.i64.wrap (((findL ky x.ps 0 0 : Nat) : Int) + 1) = ((findL ky x.ps 0 0 + 1 : Nat) : Int) := by simp [IntKind.wrap_i64]; omega
  have t11 : refE x kd ky = (if epochL x.ps ≥ 4611686018427387904 ∨ x.la ≥ 4611686018427387904 then 170 else 0) → ∃ n, QSpec Try.prog 17 [.slice a.ap x.ps.length a.cp] { m with sz := n' } (I n) ∧ ifB (decide (n ≥ 4611686018427387904)) (Done (I 170 = I (refE x kd ky))) (ifB (decide (x.la ≥ 4611686018427387904)) (Done (I 170 = I (refE x kd ky))) (Done (I 0 = I (refE x kd ky)))) := fun e => by
    refine ⟨_, rg_epoch x.ps a.ap a.cp (by omega) (row_h0 h.ps) _ h'.ps, ifB_intro (fun g => ⟨?_⟩) (fun g => ifB_intro (fun g2 => ⟨?_⟩) (fun g2 => ⟨?_⟩))⟩
    · rw [e, if_pos (.inl (of_decide_eq_true g))]
    · rw [e, if_pos (.inr (of_decide_eq_true g2))]
    · have k1 := of_decide_eq_false g
      have k2 := of_decide_eq_false g2
      rw [e, if_neg (by omega)]
  have t9 : refE x kd ky = (if kd ≠ 7 ∧ fnd x.ps ky + 1 ≥ x.ps.length then 170 else if epochL x.ps ≥ 4611686018427387904 ∨ x.la ≥ 4611686018427387904 then 170 else 0) → ifB (!kd == 7) (ifB (decide (IntKind.i64.wrap (((findL ky x.ps 0 0 : Nat) : Int) + 1) ≥ (x.ps.length : Int))) (Done (I 170 = I (refE x kd ky))) (∃ n, QSpec Try.prog 17 [.slice a.ap x.ps.length a.cp] { m with sz := n' } (I n) ∧ ifB (decide (n ≥ 4611686018427387904)) (Done (I 170 = I (refE x kd ky))) (ifB (decide (x.la ≥ 4611686018427387904)) (Done (I 170 = I (refE x kd ky))) (Done (I 0 = I (refE x kd ky)))))) (∃ n, QSpec Try.prog 17 [.slice a.ap x.ps.length a.cp] { m with sz := n' } (I n) ∧ ifB (decide (n ≥ 4611686018427387904)) (Done (I 170 = I (refE x kd ky))) (ifB (decide (x.la ≥ 4611686018427387904)) (Done (I 170 = I (refE x kd ky))) (Done (I 0 = I (refE x kd ky))))) := fun e => by
    rw [w]
    refine ifB_intro (fun g => ifB_intro (fun g2 => ⟨?_⟩) (fun g2 => t11 ?_)) (fun g => t11 ?_)
    · have k1 : ¬ kd = 7 := by simpa using g
      have k2 : fnd x.ps ky + 1 ≥ x.ps.length := by have := of_decide_eq_true g2; unfold fnd; omega
      rw [e, if_pos ⟨k1, k2⟩]
    · have k2 : ¬ fnd x.ps ky + 1 ≥ x.ps.length := by have := of_decide_eq_false g2; unfold fnd; omega
      rw [e, if_neg (fun q => k2 q.2)]
    · have k1 : kd = 7 := by simpa using g
      rw [e, if_neg (fun q => q.1 k1)]
  have t7 : refE x kd ky = (if kd = 7 ∧ (x.nx ≥ 8 ∨ x.ps.length ≥ 7) then 3 else if kd ≠ 7 ∧ fnd x.ps ky + 1 ≥ x.ps.length then 170 else if epochL x.ps ≥ 4611686018427387904 ∨ x.la ≥ 4611686018427387904 then 170 else 0) → _ := fun e => ifB_intro (b := kd == 7) (fun g => ifB_intro (b := decide (x.nx ≥ 8)) (fun g2 => (⟨by rw [e, if_pos ⟨by simpa using g, .inl (of_decide_eq_true g2)⟩]⟩ : Done (Value.int .i64 3 = I (refE x kd ky)))) (fun g2 => ifB_intro (b := decide ((x.ps.length : Int) ≥ 7)) (fun g3 => (⟨by rw [e, if_pos ⟨by simpa using g, .inr (by have := of_decide_eq_true g3; omega)⟩]⟩ : Done (Value.int .i64 3 = I (refE x kd ky)))) (fun g3 => t9 (by
      have k2 := of_decide_eq_false g2
      have k3 := of_decide_eq_false g3
      rw [e, if_neg (by omega)])))) (fun g => t9 (by
      have k1 : ¬ kd = 7 := by simpa using g
      rw [e, if_neg (fun q => k1 q.1)]))
  refine ⟨rfl, _, rg_find x.ps a.ap a.cp ky (by omega) _ h'.ps, ifB_intro (fun g => ⟨?_⟩) (fun g => ⟨by trivial, ifB_intro (fun g2 => ⟨b, o, hb, by omega, _, by simpa using f2, ifB_intro (fun g3 => ⟨?_⟩) (fun g3 => t7 ?_)⟩) (fun g2 => t7 ?_)⟩)⟩
  · have k : x.nu ≠ 0 := by simpa using g
    unfold refE; rw [if_pos k]
  all_goals have k : ¬ x.nu ≠ 0 := by simpa using g
  all_goals unfold refE
  all_goals rw [if_neg k]
  · have k2 : kd = 7 := by simpa using g2
    rw [bytes_beq] at g3
    rw [if_pos ⟨k2, of_decide_eq_true g3⟩]
  · rw [bytes_beq] at g3
    have k3 := of_decide_eq_false g3
    rw [if_neg (fun q => k3 q.2)]
  · have k2 : ¬ kd = 7 := by simpa using g2
    rw [if_neg (fun q => k2 q.1)]

structure RefZ (x : Ct) (kd : Int) (ky : ByteArray) : Prop where
  nu : x.nu = 0
  fr : kd = 7 → (plAt x.ps (fnd x.ps ky)).fr ≠ ky
  nx : kd = 7 → x.nx < 8 ∧ x.ps.length < 7
  nxt : kd ≠ 7 → fnd x.ps ky + 1 < x.ps.length
  ep : epochL x.ps < 4611686018427387904
  la : x.la < 4611686018427387904

theorem refE_zero {x : Ct} {kd : Int} {ky : ByteArray} : refE x kd ky = 0 ↔ RefZ x kd ky := by
  unfold refE
  constructor
  · intro h
    split at h
    · cases h
    rename_i h1
    split at h
    · cases h
    rename_i h2
    split at h
    · cases h
    rename_i h3
    split at h
    · cases h
    rename_i h4
    split at h
    · cases h
    rename_i h5
    exact ⟨by omega, fun e e2 => h2 ⟨e, e2⟩, fun e => by omega, fun e => by omega, by omega, by omega⟩
  · rintro ⟨h1, h2, h3, h4, h5, h6⟩
    rw [if_neg (by omega), if_neg (fun e => h2 e.1 e.2), if_neg (fun e => by have := h3 e.1; omega), if_neg (fun e => by have := h4 e.1; omega), if_neg (by omega)]

/-- the chart with the plan that a wish starts -/
def begP (x : Ct) (c : Cd) : Ct :=
  let i := fnd x.ps c.op_ky
  if c.op_kd = 7 then { x with la := x.la + 1, nx := x.nx + 1, nu := x.la + 1, fr := (plAt x.ps i).gr, to := x.nx, lo := c.op_ky, hi := endP x.ps i, cl := c.cl, sq := c.sq }
  else { x with la := x.la + 1, nu := x.la + 1, fr := (plAt x.ps (i + 1)).gr, to := (plAt x.ps i).gr, lo := (plAt x.ps (i + 1)).fr, hi := endP x.ps (i + 1), cl := c.cl, sq := c.sq }

/-- a client wants a split or a merge -/
def startE (x : Ct) (c : Cd) : Ct × List Ef :=
  if (argB c.cl c.sq && ((decide (c.op_kd = 7) || decide (c.op_kd = 8)) && keyB c.op_ky)) = false then (x, [])
  else if (beginM x.ms c.cl c.sq).2.2 ≠ 0 then (x, [])
  else if (beginM x.ms c.cl c.sq).2.1 = false then
    (let k := (findO x.ms c.cl).getD m0
     if k.op = true ∨ k.an_er = 80 then (x, []) else (x, [⟨1, c.cl, c.sq, k.an_er, k.an_va, k.an_le, k.an_mo⟩]))
  else
    (let y := { x with ms := (beginM x.ms c.cl c.sq).1 }
     if refE y c.op_kd c.op_ky ≠ 0 then doneE y c.cl c.sq (refE y c.op_kd c.op_ky) else (begP y c, []))

theorem start_s (x : Ct) (a : Ca) (b : Nat) (c : Cd) (ai : Option Addr) (ni ci : Nat) (hr : RiC x) (hm : x.ms.length ≤ 9223372036854775807) (m : M) (h : PtC b x a m) :
    SpecW Try.prog 31 [.pointer (some ⟨b, 0, none⟩), cdv c ai ni ci] m (fun z => z = b) (PtR b (startE x c)) := by
  refine SpecW.of_vc Try.func31 (ann := fun r => match r with
    | 4 => { A := Nat, inv := fun _ => (argB c.cl c.sq && ((decide (c.op_kd = 7) || decide (c.op_kd = 8)) && keyB c.op_ky)) = true, st := fun _ => [(0, .val (.pointer (some ⟨b, 0, none⟩))), (3, .own 0 0), (5, .own 4 0)], own := fun _ => [(0, ⟨39, encCd c ai ni ci⟩), (4, ⟨36, [I c.op_kd, .string c.op_ky, .string c.op_ot, I c.op_n, I c.op_lo, I c.op_hi]⟩)], m := fun _ => m, μ := fun _ => 0, cut := true }
    | _ => noAnn 0) ?_
  refine vc_by (X :=
      true = true ∧
      (∃ (b_1 : Bool),
      QSpec Try.prog (54 : Nat) [Value.int IntKind.i64 c.cl, Value.int IntKind.i64 c.sq] m (Value.bool b_1) ∧
      ifB (!b_1) (Done (PtR b (startE x c) (Value.slice none (0 : Nat) (0 : Nat)) m))
      (ifB (c.op_kd != (7 : Int))
      (ifB (c.op_kd != (8 : Int)) (Done (PtR b (startE x c) (Value.slice none (0 : Nat) (0 : Nat)) m))
      (ifB (decide ((↑c.op_ky.size : Int) < (1 : Int))) (Done (PtR b (startE x c) (Value.slice none (0 : Nat) (0 : Nat)) m))
      (ifB (decide ((↑c.op_ky.size : Int) > (16 : Int))) (Done (PtR b (startE x c) (Value.slice none (0 : Nat) (0 : Nat)) m))
      (∃ (x : Nat),
      (argB c.cl c.sq && ((decide (c.op_kd = (7 : Int)) || decide (c.op_kd = (8 : Int))) && keyB c.op_ky)) = true ∧
      m = m ∧
      ((SV.val (Value.pointer (some { block := b, off := (0 : Nat) : Addr })) = SV.val (Value.pointer (some { block := b, off := (0 : Nat) : Addr })) ∧
      true = true) ∧
      (SV.own ((0 : Nat) + (0 : Nat)) (0 : Nat) = SV.own (0 : Nat) (0 : Nat) ∧ true = true) ∧
      (SV.own ((0 : Nat) + (2 : Nat) + (2 : Nat)) (0 : Nat) = SV.own (4 : Nat) (0 : Nat) ∧ true = true) ∧ True) ∧
      (some
      { ty := (39 : Nat), cs := [Value.int IntKind.i64 c.kd, Value.int IntKind.i64 c.cl, Value.int IntKind.i64 c.sq, Value.int IntKind.i64 c.ep, Value.int IntKind.i64 c.nd, Value.int IntKind.i64 c.hm, Value.string c.ky, Value.int IntKind.i64 c.le, Value.int IntKind.i64 c.rn, Value.int IntKind.i64 c.ne, Value.bool c.ys, Value.int IntKind.i64 c.op_kd, Value.string c.op_ky, Value.string c.op_ot, Value.int IntKind.i64 c.op_n, Value.int IntKind.i64 c.op_lo, Value.int IntKind.i64 c.op_hi, Value.int IntKind.i64 c.pl_nu, Value.int IntKind.i64 c.pl_fr, Value.int IntKind.i64 c.pl_to, Value.string c.pl_lo, Value.string c.pl_hi, Value.int IntKind.i64 c.pl_cl, Value.int IntKind.i64 c.pl_sq, Value.slice ai ni ci] : Bx } =
      some
      { ty := (39 : TypeId), cs := [Value.int IntKind.i64 c.kd, Value.int IntKind.i64 c.cl, Value.int IntKind.i64 c.sq, Value.int IntKind.i64 c.ep, Value.int IntKind.i64 c.nd, Value.int IntKind.i64 c.hm, Value.string c.ky, Value.int IntKind.i64 c.le, Value.int IntKind.i64 c.rn, Value.int IntKind.i64 c.ne, Value.bool c.ys, Value.int IntKind.i64 c.op_kd, Value.string c.op_ky, Value.string c.op_ot, Value.int IntKind.i64 c.op_n, Value.int IntKind.i64 c.op_lo, Value.int IntKind.i64 c.op_hi, Value.int IntKind.i64 c.pl_nu, Value.int IntKind.i64 c.pl_fr, Value.int IntKind.i64 c.pl_to, Value.string c.pl_lo, Value.string c.pl_hi, Value.int IntKind.i64 c.pl_cl, Value.int IntKind.i64 c.pl_sq, Value.slice ai ni ci] : Bx } ∧
      true = true) ∧
      (some
      { ty := (36 : Nat), cs := [Value.int IntKind.i64 c.op_kd, Value.string c.op_ky, Value.string c.op_ot, Value.int IntKind.i64 c.op_n, Value.int IntKind.i64 c.op_lo, Value.int IntKind.i64 c.op_hi] : Bx } =
      some
      { ty := (36 : TypeId), cs := [Value.int IntKind.i64 c.op_kd, Value.string c.op_ky, Value.string c.op_ot, Value.int IntKind.i64 c.op_n, Value.int IntKind.i64 c.op_lo, Value.int IntKind.i64 c.op_hi] : Bx } ∧
      true = true) ∧
      True))))
      (ifB (decide ((↑c.op_ky.size : Int) < (1 : Int))) (Done (PtR b (startE x c) (Value.slice none (0 : Nat) (0 : Nat)) m))
      (ifB (decide ((↑c.op_ky.size : Int) > (16 : Int))) (Done (PtR b (startE x c) (Value.slice none (0 : Nat) (0 : Nat)) m))
      (∃ (x : Nat),
      (argB c.cl c.sq && ((decide (c.op_kd = (7 : Int)) || decide (c.op_kd = (8 : Int))) && keyB c.op_ky)) = true ∧
      m = m ∧
      ((SV.val (Value.pointer (some { block := b, off := (0 : Nat) : Addr })) = SV.val (Value.pointer (some { block := b, off := (0 : Nat) : Addr })) ∧
      true = true) ∧
      (SV.own ((0 : Nat) + (0 : Nat)) (0 : Nat) = SV.own (0 : Nat) (0 : Nat) ∧ true = true) ∧
      (SV.own ((0 : Nat) + (2 : Nat) + (2 : Nat)) (0 : Nat) = SV.own (4 : Nat) (0 : Nat) ∧ true = true) ∧ True) ∧
      (some
      { ty := (39 : Nat), cs := [Value.int IntKind.i64 c.kd, Value.int IntKind.i64 c.cl, Value.int IntKind.i64 c.sq, Value.int IntKind.i64 c.ep, Value.int IntKind.i64 c.nd, Value.int IntKind.i64 c.hm, Value.string c.ky, Value.int IntKind.i64 c.le, Value.int IntKind.i64 c.rn, Value.int IntKind.i64 c.ne, Value.bool c.ys, Value.int IntKind.i64 c.op_kd, Value.string c.op_ky, Value.string c.op_ot, Value.int IntKind.i64 c.op_n, Value.int IntKind.i64 c.op_lo, Value.int IntKind.i64 c.op_hi, Value.int IntKind.i64 c.pl_nu, Value.int IntKind.i64 c.pl_fr, Value.int IntKind.i64 c.pl_to, Value.string c.pl_lo, Value.string c.pl_hi, Value.int IntKind.i64 c.pl_cl, Value.int IntKind.i64 c.pl_sq, Value.slice ai ni ci] : Bx } =
      some
      { ty := (39 : TypeId), cs := [Value.int IntKind.i64 c.kd, Value.int IntKind.i64 c.cl, Value.int IntKind.i64 c.sq, Value.int IntKind.i64 c.ep, Value.int IntKind.i64 c.nd, Value.int IntKind.i64 c.hm, Value.string c.ky, Value.int IntKind.i64 c.le, Value.int IntKind.i64 c.rn, Value.int IntKind.i64 c.ne, Value.bool c.ys, Value.int IntKind.i64 c.op_kd, Value.string c.op_ky, Value.string c.op_ot, Value.int IntKind.i64 c.op_n, Value.int IntKind.i64 c.op_lo, Value.int IntKind.i64 c.op_hi, Value.int IntKind.i64 c.pl_nu, Value.int IntKind.i64 c.pl_fr, Value.int IntKind.i64 c.pl_to, Value.string c.pl_lo, Value.string c.pl_hi, Value.int IntKind.i64 c.pl_cl, Value.int IntKind.i64 c.pl_sq, Value.slice ai ni ci] : Bx } ∧
      true = true) ∧
      (some
      { ty := (36 : Nat), cs := [Value.int IntKind.i64 c.op_kd, Value.string c.op_ky, Value.string c.op_ot, Value.int IntKind.i64 c.op_n, Value.int IntKind.i64 c.op_lo, Value.int IntKind.i64 c.op_hi] : Bx } =
      some
      { ty := (36 : TypeId), cs := [Value.int IntKind.i64 c.op_kd, Value.string c.op_ky, Value.string c.op_ot, Value.int IntKind.i64 c.op_n, Value.int IntKind.i64 c.op_lo, Value.int IntKind.i64 c.op_hi] : Bx } ∧
      true = true) ∧
      True))))) ∧
      ∀ (x_1 : Nat),
      (argB c.cl c.sq && ((decide (c.op_kd = (7 : Int)) || decide (c.op_kd = (8 : Int))) && keyB c.op_ky)) = true →
      true = true ∧
      ∃ (a : Option Addr),
      ∃ (n : Nat),
      ∃ (c_1 : Nat),
      CellsAt m b (11 : Nat) [Value.slice a n c_1] ∧
      (∃ (S' : Nat → Prop),
      (∀ (b_1 : Nat), S' b_1 → m.uf b_1 ∧ (m.sz ≤ b_1 ∨ b_1 = b)) ∧
      ∀ (n_1 : Nat),
      m.sz ≤ n_1 →
      SpecW Try.prog (58 : Nat) [Value.slice a n c_1, Value.int IntKind.i64 c.cl, Value.int IntKind.i64 c.sq] { π := m.π, sz := n_1, uf := m.uf : M } S'
      fun (v : Value) (m' : M) =>
      ∃ (a : Option Addr),
      ∃ (n : Nat),
      ∃ (c_2 : Nat),
      ∃ (b_1 : Bool),
      ∃ (n_2 : Int),
      v = Value.tuple #[Value.slice a n c_2, Value.bool b_1, Value.int IntKind.i64 n_2] ∧
      ifB (n_2 != (0 : Int)) (Done (PtR b (startE x c) (Value.slice none (0 : Nat) (0 : Nat)) m'))
      (ifB (!b_1)
      (∃ (n_3 : Int),
      ∃ (n_4 : Int),
      ∃ (b_2 : Bool),
      ∃ (n_5 : Int),
      ∃ (n_6 : Int),
      ∃ (n_7 : Int),
      ∃ (n_8 : Int),
      ∃ (b_3 : Bool),
      QSpec Try.prog (19 : Nat) [Value.slice a n c_2, Value.int IntKind.i64 c.cl] m'
      (Value.tuple
      #[Value.agg
      #[Value.int IntKind.i64 n_3, Value.int IntKind.i64 n_4, Value.bool b_2, Value.int IntKind.i64 n_5,
      Value.int IntKind.i64 n_6, Value.int IntKind.i64 n_7, Value.int IntKind.i64 n_8],
      Value.bool b_3]) ∧
      ifB b_2 (Done (PtR b (startE x c) (Value.slice none (0 : Nat) (0 : Nat)) m'))
      (ifB (n_5 == (80 : Int)) (Done (PtR b (startE x c) (Value.slice none (0 : Nat) (0 : Nat)) m'))
      (true = true ∧
      ∀ (b_4 : Nat),
      m'.sz ≤ b_4 →
      Done
      (PtR b (startE x c) (Value.slice (some { block := b_4, off := (0 : Nat) : Addr }) (1 : Nat) (1 : Nat))
      (m'.newBlock b_4
      [Value.int IntKind.i64 (1 : Int), Value.int IntKind.i64 c.cl, Value.int IntKind.i64 c.sq,
      Value.int IntKind.i64 n_5, Value.int IntKind.i64 n_6, Value.int IntKind.i64 n_7,
      Value.int IntKind.i64 n_8])))))
      (Wr m.sz (fun (z : Nat) => z = b) m' b (11 : Nat) #[Value.slice a n c_2].size ∧
      true = true ∧
      ∃ (n_3 : Int),
      ∃ (a_2 : Option Addr),
      ∃ (n_4 : Nat),
      ∃ (c_3 : Nat),
      ∃ (n_5 : Int),
      ∃ (n_6 : Int),
      ∃ (n_7 : Int),
      ∃ (n_8 : Int),
      ∃ (n_9 : Int),
      ∃ (s : ByteArray),
      ∃ (s_1 : ByteArray),
      ∃ (n_10 : Int),
      ∃ (n_11 : Int),
      ∃ (a_3 : Option Addr),
      ∃ (n_12 : Nat),
      ∃ (c_4 : Nat),
      CellsAt (m'.setCells b (11 : Nat) [Value.slice a n c_2]) b (0 : Nat)
      [Value.int IntKind.i64 n_3, Value.slice a_2 n_4 c_3, Value.int IntKind.i64 n_5,
      Value.int IntKind.i64 n_6, Value.int IntKind.i64 n_7, Value.int IntKind.i64 n_8,
      Value.int IntKind.i64 n_9, Value.string s, Value.string s_1, Value.int IntKind.i64 n_10,
      Value.int IntKind.i64 n_11, Value.slice a_3 n_12 c_4] ∧
      ∃ (n_13 : Int),
      QSpec Try.prog (59 : Nat)
      [Value.agg
      #[Value.int IntKind.i64 n_3, Value.slice a_2 n_4 c_3, Value.int IntKind.i64 n_5,
      Value.int IntKind.i64 n_6, Value.int IntKind.i64 n_7, Value.int IntKind.i64 n_8,
      Value.int IntKind.i64 n_9, Value.string s, Value.string s_1,
      Value.int IntKind.i64 n_10, Value.int IntKind.i64 n_11, Value.slice a_3 n_12 c_4],
      Value.agg
      #[Value.int IntKind.i64 c.op_kd, Value.string c.op_ky, Value.string c.op_ot,
      Value.int IntKind.i64 c.op_n, Value.int IntKind.i64 c.op_lo,
      Value.int IntKind.i64 c.op_hi]]
      (m'.setCells b (11 : Nat) [Value.slice a n c_2]) (Value.int IntKind.i64 n_13) ∧
      ifB (n_13 != (0 : Int))
      (∃ (S' : Nat → Prop),
      (∀ (b_2 : Nat),
      S' b_2 →
      (m'.setCells b (11 : Nat) [Value.slice a n c_2]).uf b_2 ∧
      (m.sz ≤ b_2 ∨ b_2 = b)) ∧
      ∀ (n_14 : Nat),
      m'.sz ≤ n_14 →
      SpecW Try.prog (33 : Nat)
      [Value.pointer (some { block := b, off := (0 : Nat) : Addr }),
      Value.int IntKind.i64 c.cl, Value.int IntKind.i64 c.sq,
      Value.int IntKind.i64 n_13]
      { π := (m'.setCells b (11 : Nat) [Value.slice a n c_2]).π, sz := n_14, uf := (m'.setCells b (11 : Nat) [Value.slice a n c_2]).uf : M }
      S' fun (v : Value) (m' : M) =>
      ∃ (a : Option Addr),
      ∃ (n : Nat),
      ∃ (c_5 : Nat),
      v = Value.slice a n c_5 ∧
      Done (PtR b (startE x c) (Value.slice a n c_5) m'))
      (true = true ∧
      ∃ (a_4 : Option Addr),
      ∃ (n_14 : Nat),
      ∃ (c_5 : Nat),
      CellsAt (m'.setCells b (11 : Nat) [Value.slice a n c_2]) b (1 : Nat)
      [Value.slice a_4 n_14 c_5] ∧
      ∃ (n_15 : Int),
      QSpec Try.prog (20 : Nat) [Value.slice a_4 n_14 c_5, Value.string c.op_ky]
      (m'.setCells b (11 : Nat) [Value.slice a n c_2])
      (Value.int IntKind.i64 n_15) ∧
      ∃ (n_16 : Int),
      CellsAt (m'.setCells b (11 : Nat) [Value.slice a n c_2]) b (3 : Nat)
      [Value.int IntKind.i64 n_16] ∧
      Wr m.sz (fun (z : Nat) => z = b)
      (m'.setCells b (11 : Nat) [Value.slice a n c_2]) b (3 : Nat)
      #[Value.int IntKind.i64
      (IntKind.i64.wrap (n_16 + (1 : Int)))].size ∧
      true = true ∧
      ∃ (n_17 : Int),
      CellsAt
      ((m'.setCells b (11 : Nat) [Value.slice a n c_2]).setCells b
      (3 : Nat)
      [Value.int IntKind.i64
      (IntKind.i64.wrap (n_16 + (1 : Int)))])
      b (3 : Nat) [Value.int IntKind.i64 n_17] ∧
      ifB (c.op_kd == (7 : Int))
      (true = true ∧
      ∃ (a_5 : Option Addr),
      ∃ (n_18 : Nat),
      ∃ (c_6 : Nat),
      CellsAt
      ((m'.setCells b (11 : Nat)
      [Value.slice a n c_2]).setCells
      b (3 : Nat)
      [Value.int IntKind.i64
      (IntKind.i64.wrap (n_16 + (1 : Int)))])
      b (1 : Nat) [Value.slice a_5 n_18 c_6] ∧
      ∃ (b_2 : Nat),
      ∃ (off : Nat),
      a_5 = some { block := b_2, off := off : Addr } ∧
      ((0 : Int) ≤ n_15 ∧ n_15 < (↑n_18 : Int)) ∧
      ∃ (n_19 : Int),
      CellsAt
      ((m'.setCells b (11 : Nat)
      [Value.slice a n c_2]).setCells
      b (3 : Nat)
      [Value.int IntKind.i64
      (IntKind.i64.wrap
      (n_16 + (1 : Int)))])
      b_2
      (off + n_15.toNat * (3 : Nat) +
      (0 : Nat))
      [Value.int IntKind.i64 n_19] ∧
      ∃ (n_20 : Int),
      CellsAt
      ((m'.setCells b (11 : Nat)
      [Value.slice a n
      c_2]).setCells
      b (3 : Nat)
      [Value.int IntKind.i64
      (IntKind.i64.wrap
      (n_16 + (1 : Int)))])
      b (2 : Nat)
      [Value.int IntKind.i64 n_20] ∧
      ∃ (a_6 : Option Addr),
      ∃ (n_21 : Nat),
      ∃ (c_7 : Nat),
      CellsAt
      ((m'.setCells b (11 : Nat)
      [Value.slice a n
      c_2]).setCells
      b (3 : Nat)
      [Value.int IntKind.i64
      (IntKind.i64.wrap
      (n_16 +
      (1 : Int)))])
      b (1 : Nat)
      [Value.slice a_6 n_21
      c_7] ∧
      ∃ (s : ByteArray),
      QSpec Try.prog (60 : Nat)
      [Value.slice a_6 n_21
      c_7,
      Value.int
      IntKind.i64 n_15]
      ((m'.setCells b
      (11 : Nat)
      [Value.slice a n
      c_2]).setCells
      b (3 : Nat)
      [Value.int
      IntKind.i64
      (IntKind.i64.wrap
      (n_16 +
      (1 :
      Int)))])
      (Value.string s) ∧
      ∃ (n_22 : Int),
      CellsAt
      ((m'.setCells b
      (11 : Nat)
      [Value.slice
      a n
      c_2]).setCells
      b (3 : Nat)
      [Value.int
      IntKind.i64
      (IntKind.i64.wrap
      (n_16 +
      (1 :
      Int)))])
      b (2 : Nat)
      [Value.int
      IntKind.i64
      n_22] ∧
      Wr m.sz
      (fun
      (z : Nat) =>
      z = b)
      ((m'.setCells b
      (11 : Nat)
      [Value.slice
      a n
      c_2]).setCells
      b (3 : Nat)
      [Value.int
      IntKind.i64
      (IntKind.i64.wrap
      (n_16 +
      (1 :
      Int)))])
      b (2 : Nat)
      #[Value.int
      IntKind.i64
      (IntKind.i64.wrap
      (n_22 +
      (1 :
      Int)))].size ∧
      Wr m.sz
      (fun
      (z :
      Nat) =>
      z = b)
      (((m'.setCells
      b
      (11 :
      Nat)
      [Value.slice
      a
      n
      c_2]).setCells
      b
      (3 :
      Nat)
      [Value.int
      IntKind.i64
      (IntKind.i64.wrap
      (n_16 +
      (1 :
      Int)))]).setCells
      b (2 : Nat)
      [Value.int
      IntKind.i64
      (IntKind.i64.wrap
      (n_22 +
      (1 :
      Int)))])
      b (4 : Nat)
      #[Value.int
      IntKind.i64
      n_17,
      Value.int
      IntKind.i64
      n_19,
      Value.int
      IntKind.i64
      n_20,
      Value.string
      c.op_ky,
      Value.string
      s,
      Value.int
      IntKind.i64
      c.cl,
      Value.int
      IntKind.i64
      c.sq].size ∧
      Done
      (PtR b
      (startE x c)
      (Value.slice
      none
      (0 : Nat)
      (0 : Nat))
      ((((m'.setCells
      b
      (11 :
      Nat)
      [Value.slice
      a
      n
      c_2]).setCells
      b
      (3 :
      Nat)
      [Value.int
      IntKind.i64
      (IntKind.i64.wrap
      (n_16 +
      (1 :
      Int)))]).setCells
      b
      (2 :
      Nat)
      [Value.int
      IntKind.i64
      (IntKind.i64.wrap
      (n_22 +
      (1 :
      Int)))]).setCells
      b
      (4 : Nat)
      [Value.int
      IntKind.i64
      n_17,
      Value.int
      IntKind.i64
      n_19,
      Value.int
      IntKind.i64
      n_20,
      Value.string
      c.op_ky,
      Value.string
      s,
      Value.int
      IntKind.i64
      c.cl,
      Value.int
      IntKind.i64
      c.sq])))
      (true = true ∧
      ∃ (a_5 : Option Addr),
      ∃ (n_18 : Nat),
      ∃ (c_6 : Nat),
      CellsAt
      ((m'.setCells b (11 : Nat)
      [Value.slice a n c_2]).setCells
      b (3 : Nat)
      [Value.int IntKind.i64
      (IntKind.i64.wrap (n_16 + (1 : Int)))])
      b (1 : Nat) [Value.slice a_5 n_18 c_6] ∧
      ∃ (b_2 : Nat),
      ∃ (off : Nat),
      a_5 = some { block := b_2, off := off : Addr } ∧
      ((0 : Int) ≤
      IntKind.i64.wrap (n_15 + (1 : Int)) ∧
      IntKind.i64.wrap (n_15 + (1 : Int)) <
      (↑n_18 : Int)) ∧
      ∃ (n_19 : Int),
      CellsAt
      ((m'.setCells b (11 : Nat)
      [Value.slice a n c_2]).setCells
      b (3 : Nat)
      [Value.int IntKind.i64
      (IntKind.i64.wrap
      (n_16 + (1 : Int)))])
      b_2
      (off +
      (IntKind.i64.wrap
      (n_15 + (1 : Int))).toNat *
      (3 : Nat) +
      (0 : Nat))
      [Value.int IntKind.i64 n_19] ∧
      ∃ (a_6 : Option Addr),
      ∃ (n_20 : Nat),
      ∃ (c_7 : Nat),
      CellsAt
      ((m'.setCells b (11 : Nat)
      [Value.slice a n
      c_2]).setCells
      b (3 : Nat)
      [Value.int IntKind.i64
      (IntKind.i64.wrap
      (n_16 + (1 : Int)))])
      b (1 : Nat)
      [Value.slice a_6 n_20 c_7] ∧
      ∃ (b_3 : Nat),
      ∃ (off : Nat),
      a_6 =
      some
      { block := b_3, off := off : Addr } ∧
      ((0 : Int) ≤ n_15 ∧
      n_15 <
      (↑n_20 : Int)) ∧
      ∃ (n_21 : Int),
      CellsAt
      ((m'.setCells b
      (11 : Nat)
      [Value.slice
      a n
      c_2]).setCells
      b (3 : Nat)
      [Value.int
      IntKind.i64
      (IntKind.i64.wrap
      (n_16 +
      (1 :
      Int)))])
      b_3
      (off +
      n_15.toNat *
      (3 : Nat) +
      (0 : Nat))
      [Value.int
      IntKind.i64
      n_21] ∧
      ∃ (a_7 :
      Option Addr),
      ∃ (n_22 : Nat),
      ∃ (c_8 : Nat),
      CellsAt
      ((m'.setCells
      b
      (11 :
      Nat)
      [Value.slice
      a
      n
      c_2]).setCells
      b
      (3 :
      Nat)
      [Value.int
      IntKind.i64
      (IntKind.i64.wrap
      (n_16 +
      (1 :
      Int)))])
      b
      (1 : Nat)
      [Value.slice
      a_7
      n_22
      c_8] ∧
      ∃ (b_4 :
      Nat),
      ∃ (off :
      Nat),
      a_7 =
      some
      { block := b_4, off := off : Addr } ∧
      ((0 :
      Int) ≤
      IntKind.i64.wrap
      (n_15 +
      (1 :
      Int)) ∧
      IntKind.i64.wrap
      (n_15 +
      (1 :
      Int)) <
      (↑n_22 :
      Int)) ∧
      ∃ (s
      :
      ByteArray),
      CellsAt
      ((m'.setCells
      b
      (11 :
      Nat)
      [Value.slice
      a
      n
      c_2]).setCells
      b
      (3 :
      Nat)
      [Value.int
      IntKind.i64
      (IntKind.i64.wrap
      (n_16 +
      (1 :
      Int)))])
      b_4
      (off +
      (IntKind.i64.wrap
      (n_15 +
      (1 :
      Int))).toNat *
      (3 :
      Nat) +
      (1 :
      Nat))
      [Value.string
      s] ∧
      ∃
      (a_8
      :
      Option
      Addr),
      ∃
      (n_23
      :
      Nat),
      ∃
      (c_9
      :
      Nat),
      CellsAt
      ((m'.setCells
      b
      (11 :
      Nat)
      [Value.slice
      a
      n
      c_2]).setCells
      b
      (3 :
      Nat)
      [Value.int
      IntKind.i64
      (IntKind.i64.wrap
      (n_16 +
      (1 :
      Int)))])
      b
      (1 :
      Nat)
      [Value.slice
      a_8
      n_23
      c_9] ∧
      ∃
      (s_2
      :
      ByteArray),
      QSpec
      Try.prog
      (60 :
      Nat)
      [Value.slice
      a_8
      n_23
      c_9,
      Value.int
      IntKind.i64
      (IntKind.i64.wrap
      (n_15 +
      (1 :
      Int)))]
      ((m'.setCells
      b
      (11 :
      Nat)
      [Value.slice
      a
      n
      c_2]).setCells
      b
      (3 :
      Nat)
      [Value.int
      IntKind.i64
      (IntKind.i64.wrap
      (n_16 +
      (1 :
      Int)))])
      (Value.string
      s_2) ∧
      Wr
      m.sz
      (fun
      (z :
      Nat) =>
      z =
      b)
      ((m'.setCells
      b
      (11 :
      Nat)
      [Value.slice
      a
      n
      c_2]).setCells
      b
      (3 :
      Nat)
      [Value.int
      IntKind.i64
      (IntKind.i64.wrap
      (n_16 +
      (1 :
      Int)))])
      b
      (4 :
      Nat)
      #[Value.int
      IntKind.i64
      n_17,
      Value.int
      IntKind.i64
      n_19,
      Value.int
      IntKind.i64
      n_21,
      Value.string
      s,
      Value.string
      s_2,
      Value.int
      IntKind.i64
      c.cl,
      Value.int
      IntKind.i64
      c.sq].size ∧
      Done
      (PtR
      b
      (startE
      x
      c)
      (Value.slice
      none
      (0 :
      Nat)
      (0 :
      Nat))
      (((m'.setCells
      b
      (11 :
      Nat)
      [Value.slice
      a
      n
      c_2]).setCells
      b
      (3 :
      Nat)
      [Value.int
      IntKind.i64
      (IntKind.i64.wrap
      (n_16 +
      (1 :
      Int)))]).setCells
      b
      (4 :
      Nat)
      [Value.int
      IntKind.i64
      n_17,
      Value.int
      IntKind.i64
      n_19,
      Value.int
      IntKind.i64
      n_21,
      Value.string
      s,
      Value.string
      s_2,
      Value.int
      IntKind.i64
      c.cl,
      Value.int
      IntKind.i64
      c.sq]))))))) ∧
      True) (by kernel_rfl) ?_
  have hlen := right_len hr.ps
  have hpos := right_pos hr.ps
  have no : ∀ m', PtC b x a m' → startE x c = (x, []) → Done (PtR b (startE x c) (.slice none 0 0) m') := fun m' h' e => ⟨by rw [e]; exact ⟨a, none, 0, h', rfl, .nil _⟩⟩
  have e0 : (argB c.cl c.sq && ((decide (c.op_kd = 7) || decide (c.op_kd = 8)) && keyB c.op_ky)) = false → startE x c = (x, []) := fun e => by unfold startE; rw [if_pos e]
  have kb : ∀ m', PtC b x a m' → (decide (c.op_kd = 7) || decide (c.op_kd = 8)) = true → argB c.cl c.sq = true → ifB (decide ((c.op_ky.size : Int) < 1)) (Done (PtR b (startE x c) (.slice none 0 0) m')) (ifB (decide ((c.op_ky.size : Int) > 16)) (Done (PtR b (startE x c) (.slice none 0 0) m')) (∃ x_1 : Nat, (argB c.cl c.sq && ((decide (c.op_kd = 7) || decide (c.op_kd = 8)) && keyB c.op_ky)) = true)) := fun m' h' hk ha => by
    refine ifB_intro (fun g => no m' h' (e0 ?_)) (fun g => ifB_intro (fun g2 => no m' h' (e0 ?_)) (fun g2 => ⟨0, ?_⟩))
    · have : keyB c.op_ky = false := by have := of_decide_eq_true g; simp [keyB]; omega
      rw [this, Bool.and_false, Bool.and_false]
    · have : keyB c.op_ky = false := by have := of_decide_eq_true g2; simp [keyB]; omega
      rw [this, Bool.and_false, Bool.and_false]
    · have : keyB c.op_ky = true := by have := of_decide_eq_false g; have := of_decide_eq_false g2; simp [keyB]; omega
      rw [this, hk, ha]; rfl
  refine ⟨rfl, ⟨_, whose_q _ _ _, ifB_intro (fun g => no m h (e0 (by rw [not_t g]; rfl))) (fun g => ?_)⟩, fun _ hargs => ⟨rfl, _, _, _, ct_cell h.cells 11 _ rfl rfl, ⟨_, noS, fun N hN => (sbegin_s a.am a.cm x.ms c.cl c.sq hm _ (h.r.ms.sz hN)).monoW fun v m' hag ⟨⟨am, cm, hv, hrow⟩⟩ => ⟨_, _, _, _, _, hv, ?_⟩⟩, trivial⟩⟩
  · have ha := not_f g
    refine ifB_intro (fun g2 => ifB_intro (fun g3 => no m h (e0 ?_)) (fun g3 => ?_)) (fun g2 => ?_)
    · have k1 : ¬ c.op_kd = 7 := by simpa using g2
      have k2 : ¬ c.op_kd = 8 := by simpa using g3
      rw [decide_eq_false k1, decide_eq_false k2]; simp
    · have k2 : c.op_kd = 8 := by simpa using g3
      have := kb m h (by rw [decide_eq_true k2]; simp) ha
      refine ifB_intro (fun q => ?_) (fun q => ifB_intro (fun q2 => ?_) (fun q2 => ?_))
      · rw [q] at this; exact this
      · rw [q, q2] at this; exact this
      · rw [q, q2] at this
        obtain ⟨k, hk⟩ := this
        exact ⟨k, hk, rfl, by simp⟩
    · have k1 : c.op_kd = 7 := by simpa using g2
      have := kb m h (by rw [decide_eq_true k1]; simp) ha
      refine ifB_intro (fun q => ?_) (fun q => ifB_intro (fun q2 => ?_) (fun q2 => ?_))
      · rw [q] at this; exact this
      · rw [q, q2] at this; exact this
      · rw [q, q2] at this
        obtain ⟨k, hk⟩ := this
        exact ⟨k, hk, rfl, by simp⟩
  have h1 := h.step hN hag
  have hsz : m.sz ≤ m'.sz := by have := hag.2.2; simp only at this; omega
  have e1 : startE x c = if (beginM x.ms c.cl c.sq).2.2 ≠ 0 then (x, []) else if (beginM x.ms c.cl c.sq).2.1 = false then
      (let k := (findO x.ms c.cl).getD m0
       if k.op = true ∨ k.an_er = 80 then (x, []) else (x, [⟨1, c.cl, c.sq, k.an_er, k.an_va, k.an_le, k.an_mo⟩]))
    else
      (let y := { x with ms := (beginM x.ms c.cl c.sq).1 }
       if refE y c.op_kd c.op_ky ≠ 0 then doneE y c.cl c.sq (refE y c.op_kd c.op_ky) else (begP y c, [])) := by
    unfold startE; rw [if_neg (by rw [hargs]; simp)]
  refine ifB_intro (fun g => no m' h1 ?_) (fun g => ?_)
  · have g : (beginM x.ms c.cl c.sq).2.2 ≠ 0 := by simpa using g
    rw [e1, if_pos g]
  have g : (beginM x.ms c.cl c.sq).2.2 = 0 := by simpa using g
  rw [if_neg (by rw [g]; simp)] at e1
  refine ifB_intro (fun g2 => ?_) (fun g2 => ?_)
  · have g2 := not_t g2
    rw [if_pos g2] at e1
    have hb := begin_cases x.ms c.cl c.sq
    have hb1 : (beginM x.ms c.cl c.sq).1 = x.ms := by
      rcases hb with hb | hb
      · exact (hb.2.1 g).1
      · rw [hb.2.2.1] at g2; cases g2
    have hf := find_q am cm (beginM x.ms c.cl c.sq).1 c.cl (by rw [hb1]; exact hm) _ hrow
    rw [hb1] at hf hrow ⊢
    refine ⟨_, _, _, _, _, _, _, _, hf, ?_⟩
    generalize (findO x.ms c.cl).getD m0 = k at *
    refine ifB_intro (fun g3 => no m' h1 (by rw [e1]; simp only; rw [if_pos (.inl g3)])) (fun g3 => ifB_intro (fun g4 => no m' h1 (by rw [e1]; simp only; rw [if_pos (.inr (by simpa using g4))])) (fun g4 => ⟨rfl, fun b2 hb2 => ⟨?_⟩⟩))
    have e2 : startE x c = (x, [⟨1, c.cl, c.sq, k.an_er, k.an_va, k.an_le, k.an_mo⟩]) := by
      rw [e1]; simp only
      rw [if_neg]
      rintro (q | q)
      · rw [q] at g3; cases g3
      · simp [q] at g4
    rw [e2]
    exact ⟨a, some ⟨b2, 0, none⟩, 1, h1.newBlock hb2, rfl, .at _ _ _ (by simp only [M.newBlock]; omega) cellsAt_new⟩
  · have g2 := not_f g2
    rw [if_neg (by rw [g2]; simp)] at e1
    obtain ⟨w1, h2⟩ := h1.set (x' := { x with ms := (beginM x.ms c.cl c.sq).1 }) (a' := { a with am := am, cm := cm }) (p := (encCt x a).take 11) (old := [.slice a.am x.ms.length a.cm]) (new := [.slice am (beginM x.ms c.cl c.sq).1.length cm]) (q := []) (j := 11) rfl rfl rfl rfl h1.r.ps hrow (B := m.sz) (S := fun z => z = b) (.inr rfl)
    have hbl : (beginM x.ms c.cl c.sq).1.length ≤ 9 := begin_len _ _ _
    generalize hy : ({ x with ms := (beginM x.ms c.cl c.sq).1 } : Ct) = y at *
    have yps : y.ps = x.ps := by rw [← hy]
    have yla : y.la = x.la := by rw [← hy]
    have ynx : y.nx = x.nx := by rw [← hy]
    have yms : y.ms.length ≤ 9 := by rw [← hy]; exact hbl
    have hry : rightB y.ps = true := by rw [yps]; exact hr.ps
    have e1 : startE x c = if refE y c.op_kd c.op_ky ≠ 0 then doneE y c.cl c.sq (refE y c.op_kd c.op_ky) else (begP y c, []) := e1
    refine ⟨w1, rfl, _, _, _, _, _, _, _, _, _, _, _, _, _, _, _, _, h2.cells, _, refused_q y _ c.op_kd c.op_ky c.op_ot c.op_n c.op_lo c.op_hi hry _ h2.r, ifB_intro (fun g3 => ?_) (fun g3 => ?_)⟩
    · have g3 : refE y c.op_kd c.op_ky ≠ 0 := by simpa using g3
      rw [if_pos g3] at e1
      refine ⟨fun z => z = b, fun z e => by subst e; exact ⟨h2.uf, .inr rfl⟩, fun N2 hN2 => (done_s y _ b c.cl c.sq _ (by omega) _ (h2.sz hN2)).mono fun v2 m2 hag2 ⟨⟨a', av, cv, q1, q2, q3⟩⟩ => ⟨_, _, _, q2, ⟨?_⟩⟩⟩
      rw [e1]
      exact ⟨a', av, cv, q1, rfl, q3⟩
    · have g3 : refE y c.op_kd c.op_ky = 0 := by simpa using g3
      rw [if_neg (by rw [g3]; simp)] at e1
      have Z := refE_zero.1 g3
      have hla := Z.la
      have hla0 := hr.la0
      have hnx0 := hr.nx0
      have hnx1 := hr.nx1
      rw [← yla] at hla0
      rw [← ynx] at hnx0 hnx1
      have ylen : y.ps.length ≤ 7 := by rw [yps]; exact hlen
      have hf := findL_len c.op_ky (right_pos hry)
      have wl : IntKind.i64.wrap (y.la + 1) = y.la + 1 := by simp [IntKind.wrap_i64]; omega
      have wn : IntKind.i64.wrap (y.nx + 1) = y.nx + 1 := by simp [IntKind.wrap_i64]; omega
      have wi : IntKind.i64.wrap (((findL c.op_ky y.ps 0 0 : Nat) : Int) + 1) = ((findL c.op_ky y.ps 0 0 + 1 : Nat) : Int) := by simp [IntKind.wrap_i64]; omega
      generalize ha2 : ({ a with am := am, cm := cm } : Ca) = a2 at *
      generalize hm2 : m'.setCells b 11 [Value.slice am (beginM x.ms c.cl c.sq).1.length cm] = m2 at *
      obtain ⟨w2, h3⟩ := h2.set (x' := { y with la := y.la + 1 }) (a' := a2) (p := (encCt y a2).take 3) (old := [I y.la]) (new := [I (y.la + 1)]) (q := (encCt y a2).drop 4) (j := 3) rfl rfl rfl rfl h2.r.ps h2.r.ms (B := m.sz) (S := fun z => z = b) (.inr rfl)
      refine ⟨rfl, _, _, _, ct_cell h2.cells 1 _ rfl rfl, _, rg_find y.ps a2.ap a2.cp c.op_ky (by omega) _ h2.r.ps, _, ct_cell h2.cells 3 _ rfl rfl, by rw [wl]; exact w2, rfl, ?_⟩
      rw [wl, wi]
      obtain ⟨b5, o5, hb5, hc5⟩ := h3.r.ps.cells (by rw [pl_len]; have := right_pos hry; simp only; omega)
      have c3 : CellsAt (m2.setCells b 3 [I (y.la + 1)]) b 1 [.slice a2.ap y.ps.length a2.cp] := ct_cell h3.cells 1 _ rfl rfl
      have gr : ∀ k, k < y.ps.length → CellsAt (m2.setCells b 3 [I (y.la + 1)]) b5 (o5 + k * 3 + 0) [I (plAt y.ps k).gr] := fun k hk => by
        have := pl_grc hc5 hk
        rw [← plAt_at hk] at this; exact this
      have fr : ∀ k, k < y.ps.length → CellsAt (m2.setCells b 3 [I (y.la + 1)]) b5 (o5 + k * 3 + 1) [.string (plAt y.ps k).fr] := fun k hk => by
        have := pl_frc hc5 hk
        rw [← plAt_at hk] at this; exact this
      refine ⟨_, ct_cell h3.cells 3 _ rfl rfl, ifB_intro (fun g4 => ?_) (fun g4 => ?_)⟩
      · have k7 : c.op_kd = 7 := by simpa using g4
        have he := pl_end y.ps a2.ap a2.cp (findL c.op_ky y.ps 0 0 : Nat) (by unfold In64; omega) (by omega) _ h3.r.ps
        rw [endI_nat] at he
        have hx : Z.nx k7 = Z.nx k7 := rfl
        obtain ⟨w3, h4⟩ := h3.set (x' := { y with la := y.la + 1, nx := y.nx + 1 }) (a' := a2) (p := [I y.ix, .slice a2.ap y.ps.length a2.cp]) (old := [I y.nx]) (new := [I (y.nx + 1)]) (q := (encCt { y with la := y.la + 1 } a2).drop 3) (j := 2) rfl rfl rfl rfl h3.r.ps h3.r.ms (B := m.sz) (S := fun z => z = b) (.inr rfl)
        obtain ⟨w4, h5⟩ := h4.set (x' := begP y c) (a' := a2) (p := [I y.ix, .slice a2.ap y.ps.length a2.cp, I (y.nx + 1), I (y.la + 1)]) (old := [I y.nu, I y.fr, I y.to, .string y.lo, .string y.hi, I y.cl, I y.sq]) (new := [I (y.la + 1), I (plAt y.ps (fnd y.ps c.op_ky)).gr, I y.nx, .string c.op_ky, .string (endP y.ps (fnd y.ps c.op_ky)), I c.cl, I c.sq]) (q := [.slice a2.am y.ms.length a2.cm]) (j := 4) rfl (by simp only [begP, k7, if_true]; rfl) rfl rfl (by simp only [begP, k7, if_true]; exact h4.r.ps) (by simp only [begP, k7, if_true]; exact h4.r.ms) (B := m.sz) (S := fun z => z = b) (.inr rfl)
        refine ⟨rfl, _, _, _, c3, b5, o5, hb5, by omega, _, by simpa [fnd] using gr _ hf, _, ct_cell h3.cells 2 _ rfl rfl, _, _, _, c3, _, he, _, ct_cell h3.cells 2 _ rfl rfl, by rw [wn]; exact w3, by rw [wn]; exact w4, ⟨?_⟩⟩
        rw [wn, e1]
        exact ⟨a2, none, 0, h5, rfl, .nil _⟩
      · have k7 : ¬ c.op_kd = 7 := by simpa using g4
        have hnxt := Z.nxt k7
        have he := pl_end y.ps a2.ap a2.cp (findL c.op_ky y.ps 0 0 + 1 : Nat) (by unfold In64; omega) (by omega) _ h3.r.ps
        rw [endI_nat] at he
        obtain ⟨w4, h5⟩ := h3.set (x' := begP y c) (a' := a2) (p := [I y.ix, .slice a2.ap y.ps.length a2.cp, I y.nx, I (y.la + 1)]) (old := [I y.nu, I y.fr, I y.to, .string y.lo, .string y.hi, I y.cl, I y.sq]) (new := [I (y.la + 1), I (plAt y.ps (fnd y.ps c.op_ky + 1)).gr, I (plAt y.ps (fnd y.ps c.op_ky)).gr, .string (plAt y.ps (fnd y.ps c.op_ky + 1)).fr, .string (endP y.ps (fnd y.ps c.op_ky + 1)), I c.cl, I c.sq]) (q := [.slice a2.am y.ms.length a2.cm]) (j := 4) rfl (by simp only [begP, k7, if_false]; rfl) rfl rfl (by simp only [begP, k7, if_false]; exact h3.r.ps) (by simp only [begP, k7, if_false]; exact h3.r.ms) (B := m.sz) (S := fun z => z = b) (.inr rfl)
        refine ⟨rfl, _, _, _, c3, b5, o5, hb5, by unfold fnd at hnxt; omega, _, by simpa [fnd] using gr _ hnxt, _, _, _, c3, b5, o5, hb5, by omega, _, by simpa [fnd] using gr _ hf, _, _, _, c3, b5, o5, hb5, by unfold fnd at hnxt; omega, _, by simpa [fnd] using fr _ hnxt, _, _, _, c3, _, he, w4, ⟨?_⟩⟩
        rw [e1]
        exact ⟨a2, none, 0, h5, rfl, .nil _⟩

end Go.Proofs.Ytjjfcaigonomiaa
set_option linter.unusedVariables false
set_option linter.unusedSimpArgs false
namespace Go.Proofs.Ytjjfcaigonomiaa
open Go.Vc Go.RowKit
set_option maxRecDepth 100000

theorem repoch_q (x : Ct) (a : Ca) (hm : x.ms.length ≤ 9223372036854775807) (hl : x.ps.length ≤ 9223372036854775807) (m : M) (h : CtR m x a) : QSpec Try.prog 25 [ctv x a] m (I (if rightC x then epochL x.ps + 1 else 0)) := by
  refine QSpec.of_vc Try.func25 (ann := fun _ => noAnn) fun n hn => ?_
  refine vc_by (X :=
      true = true ∧
      ∃ (b : Bool),
      QSpec Try.prog (16 : Nat)
      [Value.agg
      #[Value.int IntKind.i64 x.ix, Value.slice a.ap x.ps.length a.cp, Value.int IntKind.i64 x.nx, Value.int IntKind.i64 x.la, Value.int IntKind.i64 x.nu,
      Value.int IntKind.i64 x.fr, Value.int IntKind.i64 x.to, Value.string x.lo, Value.string x.hi, Value.int IntKind.i64 x.cl, Value.int IntKind.i64 x.sq,
      Value.slice a.am x.ms.length a.cm]]
      { π := m.π, sz := n, uf := m.uf : M } (Value.bool b) ∧
      ifB (!b) (Done (Value.int IntKind.i64 (0 : Int) = Value.int IntKind.i64 (if rightC x = true then epochL x.ps + (1 : Int) else (0 : Int))))
      (∃ (n_1 : Int),
      QSpec Try.prog (45 : Nat) [Value.slice a.ap x.ps.length a.cp] { π := m.π, sz := n, uf := m.uf : M } (Value.int IntKind.i64 n_1) ∧
      Done (Value.int IntKind.i64 (IntKind.i64.wrap (n_1 + (1 : Int))) = Value.int IntKind.i64 (if rightC x = true then epochL x.ps + (1 : Int) else (0 : Int))))) (by kernel_rfl) ?_
  have h' := h.sz hn
  refine ⟨rfl, _, rright_c x a hl hm _ h', ?_⟩
  cases hr : rightC x with
  | false => exact ifB_true ⟨rfl⟩
  | true =>
    refine ifB_false ⟨_, rf_epoch x.ps a.ap a.cp hl _ h'.ps, ⟨?_⟩⟩
    have h1 := epoch_le (ric_iff.1 hr).ps
    have h2 := epoch_nn x.ps 0
    have e : epochL x.ps = x.ps.foldl (fun e p => max e p.ep) 0 := rfl
    rw [if_pos rfl, show IntKind.i64.wrap (epochL x.ps + 1) = epochL x.ps + 1 by simp [IntKind.wrap_i64]; omega]

structure RpX where
  am : Option Addr
  cm : Nat
  a : Ca
  m : M

/-- the plan that a wish would start -/
def plP (x : Ct) (c : Cd) : List Value :=
  let i := fnd x.ps c.op_ky
  if c.op_kd = 7 then [I (x.la + 1), I (plAt x.ps i).gr, I x.nx, .string c.op_ky, .string (endP x.ps i), I c.cl, I c.sq]
  else if i + 1 < x.ps.length then [I (x.la + 1), I (plAt x.ps (i + 1)).gr, I (plAt x.ps i).gr, .string (plAt x.ps (i + 1)).fr, .string (endP x.ps (i + 1)), I c.cl, I c.sq]
  else [I (x.la + 1), I 0, I 0, .string .empty, .string .empty, I c.cl, I c.sq]

abbrev cmO (c : Cd) (ai : Option Addr) (ni ci : Nat) : List (Nat × Bx) := [(0, ⟨39, encCd c ai ni ci⟩), (20, ⟨36, [I c.op_kd, .string c.op_ky, .string c.op_ot, I c.op_n, I c.op_lo, I c.op_hi]⟩)]

def begX (x : Ct) (c : Cd) : Ct := { x with ms := (beginM x.ms c.cl c.sq).1 }

/-- its source's group -/
def plF (x : Ct) (c : Cd) : Int := let i := fnd x.ps c.op_ky; if c.op_kd = 7 then (plAt x.ps i).gr else if i + 1 < x.ps.length then (plAt x.ps (i + 1)).gr else 0
def plT (x : Ct) (c : Cd) : Int := let i := fnd x.ps c.op_ky; if c.op_kd = 7 then x.nx else if i + 1 < x.ps.length then (plAt x.ps i).gr else 0
def plLo (x : Ct) (c : Cd) : ByteArray := let i := fnd x.ps c.op_ky; if c.op_kd = 7 then c.op_ky else if i + 1 < x.ps.length then (plAt x.ps (i + 1)).fr else .empty
def plHi (x : Ct) (c : Cd) : ByteArray := let i := fnd x.ps c.op_ky; if c.op_kd = 7 then endP x.ps i else if i + 1 < x.ps.length then endP x.ps (i + 1) else .empty

theorem rplan_s (x : Ct) (a : Ca) (b : Nat) (c : Cd) (ai : Option Addr) (ni ci : Nat) (hr : RiC x) (hm : x.ms.length ≤ 9223372036854775807) (m : M) (h : PtC b x a m) :
    SpecW Try.prog 34 [.pointer (some ⟨b, 0, none⟩), cdv c ai ni ci] m (fun z => z = b) (PtR b (startE x c)) := by
  refine SpecW.of_vc Try.func34 (ann := fun r => match r with
    | 5 => { A := RpX, inv := fun y => PtC b x a y.m ∧ Row y.m y.am (mks (beginM x.ms c.cl c.sq).1) ∧ m.sz ≤ y.m.sz ∧ (beginM x.ms c.cl c.sq).2.2 = 0 ∧ ((decide (c.op_kd = 7) || decide (c.op_kd = 8)) && keyB c.op_ky) = true, st := fun y => [(0, .val (.pointer (some ⟨b, 0, none⟩))), (3, .own 0 0), (8, .own 20 0), (5, .val (.slice y.am (beginM x.ms c.cl c.sq).1.length y.cm)), (6, .val (.bool (beginM x.ms c.cl c.sq).2.1))], own := fun _ => cmO c ai ni ci, m := fun y => y.m, μ := fun _ => 0, cut := true }
    | 10 => { A := RpX, inv := fun y => PtC b x a y.m ∧ Row y.m y.am (mks (beginM x.ms c.cl c.sq).1) ∧ m.sz ≤ y.m.sz ∧ (beginM x.ms c.cl c.sq).2.2 = 0 ∧ ((decide (c.op_kd = 7) || decide (c.op_kd = 8)) && keyB c.op_ky) = true ∧ (beginM x.ms c.cl c.sq).2.1 = true, st := fun y => [(0, .val (.pointer (some ⟨b, 0, none⟩))), (3, .own 0 0), (8, .own 20 0), (5, .val (.slice y.am (beginM x.ms c.cl c.sq).1.length y.cm))], own := fun _ => cmO c ai ni ci, m := fun y => y.m, μ := fun _ => 0, cut := true }
    | 18 => { A := RpX, inv := fun y => PtC b (begX x c) y.a y.m ∧ m.sz ≤ y.m.sz, st := fun y => [(0, .val (.pointer (some ⟨b, 0, none⟩))), (3, .own 0 0), (8, .own 20 0), (12, .val (I (fnd x.ps c.op_ky))), (11, .val (I (epochL x.ps + 1))), (13, .own 102 0)], own := fun _ => (102, ⟨25, [I (x.la + 1), I (plF x c), I (plT x c), .string (plLo x c), .string (plHi x c), I c.cl, I c.sq]⟩) :: cmO c ai ni ci, m := fun y => y.m, μ := fun _ => 0, cut := true }
    | 26 => { A := RpX, inv := fun y => PtC b (begX x c) y.a y.m ∧ m.sz ≤ y.m.sz ∧ refE (begX x c) c.op_kd c.op_ky = 0, st := fun y => [(0, .val (.pointer (some ⟨b, 0, none⟩))), (8, .own 20 0), (13, .own 102 0)], own := fun _ => (102, ⟨25, [I (x.la + 1), I (plF x c), I (plT x c), .string (plLo x c), .string (plHi x c), I c.cl, I c.sq]⟩) :: cmO c ai ni ci, m := fun y => y.m, μ := fun _ => 0, cut := true, loose := true }
    | _ => noAnn 0) ?_
  refine vc_by (X :=
      true = true ∧
      true = true ∧
      ∃ (a_1 : Option Addr),
      ∃ (n : Nat),
      ∃ (c_1 : Nat),
      CellsAt m b (11 : Nat) [Value.slice a_1 n c_1] ∧
      (∃ (S' : Nat → Prop),
      (∀ (b_1 : Nat), S' b_1 → m.uf b_1 ∧ (m.sz ≤ b_1 ∨ b_1 = b)) ∧
      ∀ (n_1 : Nat),
      m.sz ≤ n_1 →
      SpecW Try.prog (62 : Nat) [Value.slice a_1 n c_1, Value.int IntKind.i64 c.cl, Value.int IntKind.i64 c.sq] { π := m.π, sz := n_1, uf := m.uf : M } S'
      fun (v : Value) (m' : M) =>
      ∃ (a_3 : Option Addr),
      ∃ (n : Nat),
      ∃ (c_2 : Nat),
      ∃ (b_1 : Bool),
      ∃ (n_2 : Int),
      v = Value.tuple #[Value.slice a_3 n c_2, Value.bool b_1, Value.int IntKind.i64 n_2] ∧
      ifB (n_2 != (0 : Int)) (Done (PtR b (startE x c) (Value.slice none (0 : Nat) (0 : Nat)) m'))
      (ifB (c.op_kd != (7 : Int))
      (ifB (c.op_kd != (8 : Int)) (Done (PtR b (startE x c) (Value.slice none (0 : Nat) (0 : Nat)) m'))
      (∃ (b_2 : Bool),
      QSpec Try.prog (63 : Nat) [Value.string c.op_ky] m' (Value.bool b_2) ∧
      ifB (!b_2) (Done (PtR b (startE x c) (Value.slice none (0 : Nat) (0 : Nat)) m'))
      (∃ (x_1 : RpX),
      (PtC b x a x_1.m ∧
      Row x_1.m x_1.am (mks (beginM x.ms c.cl c.sq).fst) ∧
      m.sz ≤ x_1.m.sz ∧
      (beginM x.ms c.cl c.sq).snd.snd = (0 : Int) ∧
      ((decide (c.op_kd = (7 : Int)) || decide (c.op_kd = (8 : Int))) && keyB c.op_ky) = true) ∧
      m' = x_1.m ∧
      ((SV.val (Value.pointer (some { block := b, off := (0 : Nat) : Addr })) =
      SV.val (Value.pointer (some { block := b, off := (0 : Nat) : Addr })) ∧
      true = true) ∧
      (SV.own ((0 : Nat) + (0 : Nat)) (0 : Nat) = SV.own (0 : Nat) (0 : Nat) ∧ true = true) ∧
      (SV.own ((0 : Nat) + (2 : Nat) + (16 : Nat) + (2 : Nat)) (0 : Nat) = SV.own (20 : Nat) (0 : Nat) ∧ true = true) ∧
      (SV.val (Value.slice a_3 n c_2) = SV.val (Value.slice x_1.am (beginM x.ms c.cl c.sq).fst.length x_1.cm) ∧
      true = true) ∧
      (SV.val (Value.bool b_1) = SV.val (Value.bool (beginM x.ms c.cl c.sq).snd.fst) ∧ true = true) ∧ True) ∧
      (some
      { ty := (39 : Nat), cs := [Value.int IntKind.i64 c.kd, Value.int IntKind.i64 c.cl, Value.int IntKind.i64 c.sq, Value.int IntKind.i64 c.ep, Value.int IntKind.i64 c.nd, Value.int IntKind.i64 c.hm, Value.string c.ky, Value.int IntKind.i64 c.le, Value.int IntKind.i64 c.rn, Value.int IntKind.i64 c.ne, Value.bool c.ys, Value.int IntKind.i64 c.op_kd, Value.string c.op_ky, Value.string c.op_ot, Value.int IntKind.i64 c.op_n, Value.int IntKind.i64 c.op_lo, Value.int IntKind.i64 c.op_hi, Value.int IntKind.i64 c.pl_nu, Value.int IntKind.i64 c.pl_fr, Value.int IntKind.i64 c.pl_to, Value.string c.pl_lo, Value.string c.pl_hi, Value.int IntKind.i64 c.pl_cl, Value.int IntKind.i64 c.pl_sq, Value.slice ai ni ci] : Bx } =
      some
      { ty := (39 : TypeId), cs := [Value.int IntKind.i64 c.kd, Value.int IntKind.i64 c.cl, Value.int IntKind.i64 c.sq, Value.int IntKind.i64 c.ep, Value.int IntKind.i64 c.nd, Value.int IntKind.i64 c.hm, Value.string c.ky, Value.int IntKind.i64 c.le, Value.int IntKind.i64 c.rn, Value.int IntKind.i64 c.ne, Value.bool c.ys, Value.int IntKind.i64 c.op_kd, Value.string c.op_ky, Value.string c.op_ot, Value.int IntKind.i64 c.op_n, Value.int IntKind.i64 c.op_lo, Value.int IntKind.i64 c.op_hi, Value.int IntKind.i64 c.pl_nu, Value.int IntKind.i64 c.pl_fr, Value.int IntKind.i64 c.pl_to, Value.string c.pl_lo, Value.string c.pl_hi, Value.int IntKind.i64 c.pl_cl, Value.int IntKind.i64 c.pl_sq, Value.slice ai ni ci] : Bx } ∧
      true = true) ∧
      (some
      { ty := (36 : Nat), cs := [Value.int IntKind.i64 c.op_kd, Value.string c.op_ky, Value.string c.op_ot, Value.int IntKind.i64 c.op_n, Value.int IntKind.i64 c.op_lo, Value.int IntKind.i64 c.op_hi] : Bx } =
      some
      { ty := (36 : TypeId), cs := [Value.int IntKind.i64 c.op_kd, Value.string c.op_ky, Value.string c.op_ot, Value.int IntKind.i64 c.op_n, Value.int IntKind.i64 c.op_lo, Value.int IntKind.i64 c.op_hi] : Bx } ∧
      true = true) ∧
      True)))
      (∃ (b_2 : Bool),
      QSpec Try.prog (63 : Nat) [Value.string c.op_ky] m' (Value.bool b_2) ∧
      ifB (!b_2) (Done (PtR b (startE x c) (Value.slice none (0 : Nat) (0 : Nat)) m'))
      (∃ (x_1 : RpX),
      (PtC b x a x_1.m ∧
      Row x_1.m x_1.am (mks (beginM x.ms c.cl c.sq).fst) ∧
      m.sz ≤ x_1.m.sz ∧
      (beginM x.ms c.cl c.sq).snd.snd = (0 : Int) ∧
      ((decide (c.op_kd = (7 : Int)) || decide (c.op_kd = (8 : Int))) && keyB c.op_ky) = true) ∧
      m' = x_1.m ∧
      ((SV.val (Value.pointer (some { block := b, off := (0 : Nat) : Addr })) =
      SV.val (Value.pointer (some { block := b, off := (0 : Nat) : Addr })) ∧
      true = true) ∧
      (SV.own ((0 : Nat) + (0 : Nat)) (0 : Nat) = SV.own (0 : Nat) (0 : Nat) ∧ true = true) ∧
      (SV.own ((0 : Nat) + (2 : Nat) + (16 : Nat) + (2 : Nat)) (0 : Nat) = SV.own (20 : Nat) (0 : Nat) ∧ true = true) ∧
      (SV.val (Value.slice a_3 n c_2) = SV.val (Value.slice x_1.am (beginM x.ms c.cl c.sq).fst.length x_1.cm) ∧
      true = true) ∧
      (SV.val (Value.bool b_1) = SV.val (Value.bool (beginM x.ms c.cl c.sq).snd.fst) ∧ true = true) ∧ True) ∧
      (some
      { ty := (39 : Nat), cs := [Value.int IntKind.i64 c.kd, Value.int IntKind.i64 c.cl, Value.int IntKind.i64 c.sq, Value.int IntKind.i64 c.ep, Value.int IntKind.i64 c.nd, Value.int IntKind.i64 c.hm, Value.string c.ky, Value.int IntKind.i64 c.le, Value.int IntKind.i64 c.rn, Value.int IntKind.i64 c.ne, Value.bool c.ys, Value.int IntKind.i64 c.op_kd, Value.string c.op_ky, Value.string c.op_ot, Value.int IntKind.i64 c.op_n, Value.int IntKind.i64 c.op_lo, Value.int IntKind.i64 c.op_hi, Value.int IntKind.i64 c.pl_nu, Value.int IntKind.i64 c.pl_fr, Value.int IntKind.i64 c.pl_to, Value.string c.pl_lo, Value.string c.pl_hi, Value.int IntKind.i64 c.pl_cl, Value.int IntKind.i64 c.pl_sq, Value.slice ai ni ci] : Bx } =
      some
      { ty := (39 : TypeId), cs := [Value.int IntKind.i64 c.kd, Value.int IntKind.i64 c.cl, Value.int IntKind.i64 c.sq, Value.int IntKind.i64 c.ep, Value.int IntKind.i64 c.nd, Value.int IntKind.i64 c.hm, Value.string c.ky, Value.int IntKind.i64 c.le, Value.int IntKind.i64 c.rn, Value.int IntKind.i64 c.ne, Value.bool c.ys, Value.int IntKind.i64 c.op_kd, Value.string c.op_ky, Value.string c.op_ot, Value.int IntKind.i64 c.op_n, Value.int IntKind.i64 c.op_lo, Value.int IntKind.i64 c.op_hi, Value.int IntKind.i64 c.pl_nu, Value.int IntKind.i64 c.pl_fr, Value.int IntKind.i64 c.pl_to, Value.string c.pl_lo, Value.string c.pl_hi, Value.int IntKind.i64 c.pl_cl, Value.int IntKind.i64 c.pl_sq, Value.slice ai ni ci] : Bx } ∧
      true = true) ∧
      (some
      { ty := (36 : Nat), cs := [Value.int IntKind.i64 c.op_kd, Value.string c.op_ky, Value.string c.op_ot, Value.int IntKind.i64 c.op_n, Value.int IntKind.i64 c.op_lo, Value.int IntKind.i64 c.op_hi] : Bx } =
      some
      { ty := (36 : TypeId), cs := [Value.int IntKind.i64 c.op_kd, Value.string c.op_ky, Value.string c.op_ot, Value.int IntKind.i64 c.op_n, Value.int IntKind.i64 c.op_lo, Value.int IntKind.i64 c.op_hi] : Bx } ∧
      true = true) ∧
      True))) ∧
      ∀ (x_1 : RpX),
      PtC b x a x_1.m ∧
      Row x_1.m x_1.am (mks (beginM x.ms c.cl c.sq).fst) ∧
      m.sz ≤ x_1.m.sz ∧
      (beginM x.ms c.cl c.sq).snd.snd = (0 : Int) ∧
      ((decide (c.op_kd = (7 : Int)) || decide (c.op_kd = (8 : Int))) && keyB c.op_ky) = true →
      ifB (!(beginM x.ms c.cl c.sq).snd.fst)
      (true = true ∧
      ∃ (a : Option Addr),
      ∃ (n : Nat),
      ∃ (c_3 : Nat),
      CellsAt x_1.m b (11 : Nat) [Value.slice a n c_3] ∧
      ∃ (n_3 : Int),
      ∃ (n_4 : Int),
      ∃ (b_2 : Bool),
      ∃ (n_5 : Int),
      ∃ (n_6 : Int),
      ∃ (n_7 : Int),
      ∃ (n_8 : Int),
      ∃ (b_3 : Bool),
      QSpec Try.prog (64 : Nat) [Value.slice a n c_3, Value.int IntKind.i64 c.cl] x_1.m
      (Value.tuple
      #[Value.agg
      #[Value.int IntKind.i64 n_3, Value.int IntKind.i64 n_4, Value.bool b_2, Value.int IntKind.i64 n_5,
      Value.int IntKind.i64 n_6, Value.int IntKind.i64 n_7, Value.int IntKind.i64 n_8],
      Value.bool b_3]) ∧
      ifB b_2 (Done (PtR b (startE x c) (Value.slice none (0 : Nat) (0 : Nat)) x_1.m))
      (ifB (n_5 == (80 : Int)) (Done (PtR b (startE x c) (Value.slice none (0 : Nat) (0 : Nat)) x_1.m))
      (true = true ∧
      ∀ (b_4 : Nat),
      x_1.m.sz ≤ b_4 →
      Done
      (PtR b (startE x c)
      (Value.slice (some { block := b_4, off := (0 : Nat) : Addr }) (1 : Nat) (1 : Nat))
      (x_1.m.newBlock b_4
      [Value.int IntKind.i64 (1 : Int), Value.int IntKind.i64 n_3, Value.int IntKind.i64 n_4,
      Value.int IntKind.i64 n_5, Value.int IntKind.i64 n_6, Value.int IntKind.i64 n_7,
      Value.int IntKind.i64 n_8])))))
      (∃ (x_2 : RpX),
      (PtC b x a x_2.m ∧
      Row x_2.m x_2.am (mks (beginM x.ms c.cl c.sq).fst) ∧
      m.sz ≤ x_2.m.sz ∧
      (beginM x.ms c.cl c.sq).snd.snd = (0 : Int) ∧
      ((decide (c.op_kd = (7 : Int)) || decide (c.op_kd = (8 : Int))) && keyB c.op_ky) = true ∧
      (beginM x.ms c.cl c.sq).snd.fst = true) ∧
      x_1.m = x_2.m ∧
      ((SV.val (Value.pointer (some { block := b, off := (0 : Nat) : Addr })) =
      SV.val (Value.pointer (some { block := b, off := (0 : Nat) : Addr })) ∧
      true = true) ∧
      (SV.own (0 : Nat) (0 : Nat) = SV.own (0 : Nat) (0 : Nat) ∧ true = true) ∧
      (SV.own (20 : Nat) (0 : Nat) = SV.own (20 : Nat) (0 : Nat) ∧ true = true) ∧
      (SV.val (Value.slice x_1.am (beginM x.ms c.cl c.sq).fst.length x_1.cm) =
      SV.val (Value.slice x_2.am (beginM x.ms c.cl c.sq).fst.length x_2.cm) ∧
      true = true) ∧
      True) ∧
      (some
      { ty := (39 : TypeId), cs := [Value.int IntKind.i64 c.kd, Value.int IntKind.i64 c.cl, Value.int IntKind.i64 c.sq, Value.int IntKind.i64 c.ep, Value.int IntKind.i64 c.nd, Value.int IntKind.i64 c.hm, Value.string c.ky, Value.int IntKind.i64 c.le, Value.int IntKind.i64 c.rn, Value.int IntKind.i64 c.ne, Value.bool c.ys, Value.int IntKind.i64 c.op_kd, Value.string c.op_ky, Value.string c.op_ot, Value.int IntKind.i64 c.op_n, Value.int IntKind.i64 c.op_lo, Value.int IntKind.i64 c.op_hi, Value.int IntKind.i64 c.pl_nu, Value.int IntKind.i64 c.pl_fr, Value.int IntKind.i64 c.pl_to, Value.string c.pl_lo, Value.string c.pl_hi, Value.int IntKind.i64 c.pl_cl, Value.int IntKind.i64 c.pl_sq, Value.slice ai ni ci] : Bx } =
      some
      { ty := (39 : TypeId), cs := [Value.int IntKind.i64 c.kd, Value.int IntKind.i64 c.cl, Value.int IntKind.i64 c.sq, Value.int IntKind.i64 c.ep, Value.int IntKind.i64 c.nd, Value.int IntKind.i64 c.hm, Value.string c.ky, Value.int IntKind.i64 c.le, Value.int IntKind.i64 c.rn, Value.int IntKind.i64 c.ne, Value.bool c.ys, Value.int IntKind.i64 c.op_kd, Value.string c.op_ky, Value.string c.op_ot, Value.int IntKind.i64 c.op_n, Value.int IntKind.i64 c.op_lo, Value.int IntKind.i64 c.op_hi, Value.int IntKind.i64 c.pl_nu, Value.int IntKind.i64 c.pl_fr, Value.int IntKind.i64 c.pl_to, Value.string c.pl_lo, Value.string c.pl_hi, Value.int IntKind.i64 c.pl_cl, Value.int IntKind.i64 c.pl_sq, Value.slice ai ni ci] : Bx } ∧
      true = true) ∧
      (some
      { ty := (36 : TypeId), cs := [Value.int IntKind.i64 c.op_kd, Value.string c.op_ky, Value.string c.op_ot, Value.int IntKind.i64 c.op_n, Value.int IntKind.i64 c.op_lo, Value.int IntKind.i64 c.op_hi] : Bx } =
      some
      { ty := (36 : TypeId), cs := [Value.int IntKind.i64 c.op_kd, Value.string c.op_ky, Value.string c.op_ot, Value.int IntKind.i64 c.op_n, Value.int IntKind.i64 c.op_lo, Value.int IntKind.i64 c.op_hi] : Bx } ∧
      true = true) ∧
      True) ∧
      ∀ (x_2 : RpX),
      PtC b x a x_2.m ∧
      Row x_2.m x_2.am (mks (beginM x.ms c.cl c.sq).fst) ∧
      m.sz ≤ x_2.m.sz ∧
      (beginM x.ms c.cl c.sq).snd.snd = (0 : Int) ∧
      ((decide (c.op_kd = (7 : Int)) || decide (c.op_kd = (8 : Int))) && keyB c.op_ky) = true ∧
      (beginM x.ms c.cl c.sq).snd.fst = true →
      ∃ (n : Int),
      ∃ (a : Option Addr),
      ∃ (n_3 : Nat),
      ∃ (c_3 : Nat),
      ∃ (n_4 : Int),
      ∃ (n_5 : Int),
      ∃ (n_6 : Int),
      ∃ (n_7 : Int),
      ∃ (n_8 : Int),
      ∃ (s : ByteArray),
      ∃ (s_1 : ByteArray),
      ∃ (n_9 : Int),
      ∃ (n_10 : Int),
      ∃ (a_5 : Option Addr),
      ∃ (n_11 : Nat),
      ∃ (c_4 : Nat),
      CellsAt x_2.m b (0 : Nat)
      [Value.int IntKind.i64 n, Value.slice a n_3 c_3, Value.int IntKind.i64 n_4,
      Value.int IntKind.i64 n_5, Value.int IntKind.i64 n_6, Value.int IntKind.i64 n_7,
      Value.int IntKind.i64 n_8, Value.string s, Value.string s_1, Value.int IntKind.i64 n_9,
      Value.int IntKind.i64 n_10, Value.slice a_5 n_11 c_4] ∧
      ∃ (n_12 : Int),
      QSpec Try.prog (25 : Nat)
      [Value.agg
      #[Value.int IntKind.i64 n, Value.slice a n_3 c_3, Value.int IntKind.i64 n_4,
      Value.int IntKind.i64 n_5, Value.int IntKind.i64 n_6, Value.int IntKind.i64 n_7,
      Value.int IntKind.i64 n_8, Value.string s, Value.string s_1,
      Value.int IntKind.i64 n_9, Value.int IntKind.i64 n_10, Value.slice a_5 n_11 c_4]]
      x_2.m (Value.int IntKind.i64 n_12) ∧
      Wr m.sz (fun (z : Nat) => z = b) x_2.m b (11 : Nat)
      #[Value.slice x_2.am (beginM x.ms c.cl c.sq).fst.length x_2.cm].size ∧
      true = true ∧
      ∃ (a : Option Addr),
      ∃ (n : Nat),
      ∃ (c_5 : Nat),
      CellsAt
      (x_2.m.setCells b (11 : Nat)
      [Value.slice x_2.am (beginM x.ms c.cl c.sq).fst.length x_2.cm])
      b (1 : Nat) [Value.slice a n c_5] ∧
      ∃ (n_13 : Int),
      QSpec Try.prog (65 : Nat) [Value.slice a n c_5, Value.string c.op_ky]
      (x_2.m.setCells b (11 : Nat)
      [Value.slice x_2.am (beginM x.ms c.cl c.sq).fst.length x_2.cm])
      (Value.int IntKind.i64 n_13) ∧
      true = true ∧
      ∃ (n : Int),
      CellsAt
      (x_2.m.setCells b (11 : Nat)
      [Value.slice x_2.am (beginM x.ms c.cl c.sq).fst.length x_2.cm])
      b (3 : Nat) [Value.int IntKind.i64 n] ∧
      ifB (c.op_kd == (7 : Int))
      (true = true ∧
      ∃ (a : Option Addr),
      ∃ (n_14 : Nat),
      ∃ (c_6 : Nat),
      CellsAt
      (x_2.m.setCells b (11 : Nat)
      [Value.slice x_2.am (beginM x.ms c.cl c.sq).fst.length
      x_2.cm])
      b (1 : Nat) [Value.slice a n_14 c_6] ∧
      ∃ (b_2 : Nat),
      ∃ (off : Nat),
      a = some { block := b_2, off := off : Addr } ∧
      ((0 : Int) ≤ n_13 ∧ n_13 < (↑n_14 : Int)) ∧
      ∃ (n_15 : Int),
      CellsAt
      (x_2.m.setCells b (11 : Nat)
      [Value.slice x_2.am
      (beginM x.ms c.cl c.sq).fst.length
      x_2.cm])
      b_2
      (off + n_13.toNat * (3 : Nat) + (0 : Nat))
      [Value.int IntKind.i64 n_15] ∧
      ∃ (n_16 : Int),
      CellsAt
      (x_2.m.setCells b (11 : Nat)
      [Value.slice x_2.am
      (beginM x.ms c.cl c.sq).fst.length
      x_2.cm])
      b (2 : Nat)
      [Value.int IntKind.i64 n_16] ∧
      ∃ (a : Option Addr),
      ∃ (n_17 : Nat),
      ∃ (c_7 : Nat),
      CellsAt
      (x_2.m.setCells b (11 : Nat)
      [Value.slice x_2.am
      (beginM x.ms c.cl
      c.sq).fst.length
      x_2.cm])
      b (1 : Nat)
      [Value.slice a n_17 c_7] ∧
      ∃ (s : ByteArray),
      QSpec Try.prog (66 : Nat)
      [Value.slice a n_17 c_7,
      Value.int IntKind.i64
      n_13]
      (x_2.m.setCells b (11 : Nat)
      [Value.slice x_2.am
      (beginM x.ms c.cl
      c.sq).fst.length
      x_2.cm])
      (Value.string s) ∧
      ∃ (x_3 : RpX),
      (PtC b (begX x c) x_3.a
      x_3.m ∧
      m.sz ≤ x_3.m.sz) ∧
      x_2.m.setCells b
      (11 : Nat)
      [Value.slice x_2.am
      (beginM x.ms
      c.cl
      c.sq).fst.length
      x_2.cm] =
      x_3.m ∧
      ((SV.val
      (Value.pointer
      (some
      { block := b, off := (0 : Nat) : Addr })) =
      SV.val
      (Value.pointer
      (some
      { block := b, off := (0 : Nat) : Addr })) ∧
      true = true) ∧
      (SV.own (0 : Nat)
      (0 : Nat) =
      SV.own
      (0 : Nat)
      (0 : Nat) ∧
      true = true) ∧
      (SV.own (20 : Nat)
      (0 :
      Nat) =
      SV.own
      (20 : Nat)
      (0 :
      Nat) ∧
      true = true) ∧
      (SV.val
      (Value.int
      IntKind.i64
      n_13) =
      SV.val
      (Value.int
      IntKind.i64
      (↑(fnd
      x.ps
      c.op_ky) :
      Int)) ∧
      true =
      true) ∧
      (SV.val
      (Value.int
      IntKind.i64
      n_12) =
      SV.val
      (Value.int
      IntKind.i64
      (epochL
      x.ps +
      (1 :
      Int))) ∧
      true =
      true) ∧
      (SV.own
      ((0 :
      Nat) +
      (2 :
      Nat) +
      (16 :
      Nat) +
      (4 :
      Nat) +
      (19 :
      Nat) +
      (33 :
      Nat) +
      (5 :
      Nat) +
      (5 :
      Nat) +
      (8 :
      Nat) +
      (10 :
      Nat))
      (0 :
      Nat) =
      SV.own
      (102 :
      Nat)
      (0 :
      Nat) ∧
      true =
      true) ∧
      True) ∧
      (some
      { ty := (25 : Nat), cs := [Value.int IntKind.i64 (IntKind.i64.wrap (n + (1 : Int))), Value.int IntKind.i64 n_15, Value.int IntKind.i64 n_16, Value.string c.op_ky, Value.string s, Value.int IntKind.i64 c.cl, Value.int IntKind.i64 c.sq] : Bx } =
      some
      { ty := (25 : TypeId), cs := [Value.int IntKind.i64 (x.la + (1 : Int)), Value.int IntKind.i64 (plF x c), Value.int IntKind.i64 (plT x c), Value.string (plLo x c), Value.string (plHi x c), Value.int IntKind.i64 c.cl, Value.int IntKind.i64 c.sq] : Bx } ∧
      true = true) ∧
      (some
      { ty := (39 : TypeId), cs := [Value.int IntKind.i64 c.kd, Value.int IntKind.i64 c.cl, Value.int IntKind.i64 c.sq, Value.int IntKind.i64 c.ep, Value.int IntKind.i64 c.nd, Value.int IntKind.i64 c.hm, Value.string c.ky, Value.int IntKind.i64 c.le, Value.int IntKind.i64 c.rn, Value.int IntKind.i64 c.ne, Value.bool c.ys, Value.int IntKind.i64 c.op_kd, Value.string c.op_ky, Value.string c.op_ot, Value.int IntKind.i64 c.op_n, Value.int IntKind.i64 c.op_lo, Value.int IntKind.i64 c.op_hi, Value.int IntKind.i64 c.pl_nu, Value.int IntKind.i64 c.pl_fr, Value.int IntKind.i64 c.pl_to, Value.string c.pl_lo, Value.string c.pl_hi, Value.int IntKind.i64 c.pl_cl, Value.int IntKind.i64 c.pl_sq, Value.slice ai ni ci] : Bx } =
      some
      { ty := (39 : TypeId), cs := [Value.int IntKind.i64 c.kd, Value.int IntKind.i64 c.cl, Value.int IntKind.i64 c.sq, Value.int IntKind.i64 c.ep, Value.int IntKind.i64 c.nd, Value.int IntKind.i64 c.hm, Value.string c.ky, Value.int IntKind.i64 c.le, Value.int IntKind.i64 c.rn, Value.int IntKind.i64 c.ne, Value.bool c.ys, Value.int IntKind.i64 c.op_kd, Value.string c.op_ky, Value.string c.op_ot, Value.int IntKind.i64 c.op_n, Value.int IntKind.i64 c.op_lo, Value.int IntKind.i64 c.op_hi, Value.int IntKind.i64 c.pl_nu, Value.int IntKind.i64 c.pl_fr, Value.int IntKind.i64 c.pl_to, Value.string c.pl_lo, Value.string c.pl_hi, Value.int IntKind.i64 c.pl_cl, Value.int IntKind.i64 c.pl_sq, Value.slice ai ni ci] : Bx } ∧
      true = true) ∧
      (some
      { ty := (36 : TypeId), cs := [Value.int IntKind.i64 c.op_kd, Value.string c.op_ky, Value.string c.op_ot, Value.int IntKind.i64 c.op_n, Value.int IntKind.i64 c.op_lo, Value.int IntKind.i64 c.op_hi] : Bx } =
      some
      { ty := (36 : TypeId), cs := [Value.int IntKind.i64 c.op_kd, Value.string c.op_ky, Value.string c.op_ot, Value.int IntKind.i64 c.op_n, Value.int IntKind.i64 c.op_lo, Value.int IntKind.i64 c.op_hi] : Bx } ∧
      true = true) ∧
      True)
      (∃ (a : Option Addr),
      ∃ (n_14 : Nat),
      ∃ (c_6 : Nat),
      CellsAt
      (x_2.m.setCells b (11 : Nat)
      [Value.slice x_2.am (beginM x.ms c.cl c.sq).fst.length
      x_2.cm])
      b (1 : Nat) [Value.slice a n_14 c_6] ∧
      ifB
      (decide
      (IntKind.i64.wrap (n_13 + (1 : Int)) < (↑n_14 : Int)))
      (true = true ∧
      ∃ (a : Option Addr),
      ∃ (n_15 : Nat),
      ∃ (c_7 : Nat),
      CellsAt
      (x_2.m.setCells b (11 : Nat)
      [Value.slice x_2.am
      (beginM x.ms c.cl c.sq).fst.length
      x_2.cm])
      b (1 : Nat) [Value.slice a n_15 c_7] ∧
      ∃ (b_2 : Nat),
      ∃ (off : Nat),
      a =
      some
      { block := b_2, off := off : Addr } ∧
      ((0 : Int) ≤
      IntKind.i64.wrap
      (n_13 + (1 : Int)) ∧
      IntKind.i64.wrap (n_13 + (1 : Int)) <
      (↑n_15 : Int)) ∧
      ∃ (n_16 : Int),
      CellsAt
      (x_2.m.setCells b (11 : Nat)
      [Value.slice x_2.am
      (beginM x.ms c.cl
      c.sq).fst.length
      x_2.cm])
      b_2
      (off +
      (IntKind.i64.wrap
      (n_13 +
      (1 : Int))).toNat *
      (3 : Nat) +
      (0 : Nat))
      [Value.int IntKind.i64 n_16] ∧
      ∃ (a : Option Addr),
      ∃ (n_17 : Nat),
      ∃ (c_8 : Nat),
      CellsAt
      (x_2.m.setCells b
      (11 : Nat)
      [Value.slice x_2.am
      (beginM x.ms c.cl
      c.sq).fst.length
      x_2.cm])
      b (1 : Nat)
      [Value.slice a n_17 c_8] ∧
      ∃ (b_3 : Nat),
      ∃ (off : Nat),
      a =
      some
      { block := b_3, off := off : Addr } ∧
      ((0 : Int) ≤ n_13 ∧
      n_13 <
      (↑n_17 : Int)) ∧
      ∃ (n_18 : Int),
      CellsAt
      (x_2.m.setCells
      b (11 : Nat)
      [Value.slice
      x_2.am
      (beginM
      x.ms
      c.cl
      c.sq).fst.length
      x_2.cm])
      b_3
      (off +
      n_13.toNat *
      (3 :
      Nat) +
      (0 : Nat))
      [Value.int
      IntKind.i64
      n_18] ∧
      ∃ (a :
      Option Addr),
      ∃ (n_19 :
      Nat),
      ∃ (c_9 :
      Nat),
      CellsAt
      (x_2.m.setCells
      b
      (11 :
      Nat)
      [Value.slice
      x_2.am
      (beginM
      x.ms
      c.cl
      c.sq).fst.length
      x_2.cm])
      b
      (1 :
      Nat)
      [Value.slice
      a
      n_19
      c_9] ∧
      ∃ (b_4 :
      Nat),
      ∃ (off
      :
      Nat),
      a =
      some
      { block := b_4, off := off : Addr } ∧
      ((0 :
      Int) ≤
      IntKind.i64.wrap
      (n_13 +
      (1 :
      Int)) ∧
      IntKind.i64.wrap
      (n_13 +
      (1 :
      Int)) <
      (↑n_19 :
      Int)) ∧
      ∃
      (s
      :
      ByteArray),
      CellsAt
      (x_2.m.setCells
      b
      (11 :
      Nat)
      [Value.slice
      x_2.am
      (beginM
      x.ms
      c.cl
      c.sq).fst.length
      x_2.cm])
      b_4
      (off +
      (IntKind.i64.wrap
      (n_13 +
      (1 :
      Int))).toNat *
      (3 :
      Nat) +
      (1 :
      Nat))
      [Value.string
      s] ∧
      ∃
      (a
      :
      Option
      Addr),
      ∃
      (n_20
      :
      Nat),
      ∃
      (c_10
      :
      Nat),
      CellsAt
      (x_2.m.setCells
      b
      (11 :
      Nat)
      [Value.slice
      x_2.am
      (beginM
      x.ms
      c.cl
      c.sq).fst.length
      x_2.cm])
      b
      (1 :
      Nat)
      [Value.slice
      a
      n_20
      c_10] ∧
      ∃
      (s_2
      :
      ByteArray),
      QSpec
      Try.prog
      (66 :
      Nat)
      [Value.slice
      a
      n_20
      c_10,
      Value.int
      IntKind.i64
      (IntKind.i64.wrap
      (n_13 +
      (1 :
      Int)))]
      (x_2.m.setCells
      b
      (11 :
      Nat)
      [Value.slice
      x_2.am
      (beginM
      x.ms
      c.cl
      c.sq).fst.length
      x_2.cm])
      (Value.string
      s_2) ∧
      ∃
      (x_3
      :
      RpX),
      (PtC
      b
      (begX
      x
      c)
      x_3.a
      x_3.m ∧
      m.sz ≤
      x_3.m.sz) ∧
      x_2.m.setCells
      b
      (11 :
      Nat)
      [Value.slice
      x_2.am
      (beginM
      x.ms
      c.cl
      c.sq).fst.length
      x_2.cm] =
      x_3.m ∧
      ((SV.val
      (Value.pointer
      (some
      { block := b, off := (0 : Nat) : Addr })) =
      SV.val
      (Value.pointer
      (some
      { block := b, off := (0 : Nat) : Addr })) ∧
      true =
      true) ∧
      (SV.own
      (0 :
      Nat)
      (0 :
      Nat) =
      SV.own
      (0 :
      Nat)
      (0 :
      Nat) ∧
      true =
      true) ∧
      (SV.own
      (20 :
      Nat)
      (0 :
      Nat) =
      SV.own
      (20 :
      Nat)
      (0 :
      Nat) ∧
      true =
      true) ∧
      (SV.val
      (Value.int
      IntKind.i64
      n_13) =
      SV.val
      (Value.int
      IntKind.i64
      (↑(fnd
      x.ps
      c.op_ky) :
      Int)) ∧
      true =
      true) ∧
      (SV.val
      (Value.int
      IntKind.i64
      n_12) =
      SV.val
      (Value.int
      IntKind.i64
      (epochL
      x.ps +
      (1 :
      Int))) ∧
      true =
      true) ∧
      (SV.own
      ((0 :
      Nat) +
      (2 :
      Nat) +
      (16 :
      Nat) +
      (4 :
      Nat) +
      (19 :
      Nat) +
      (33 :
      Nat) +
      (5 :
      Nat) +
      (5 :
      Nat) +
      (8 :
      Nat) +
      (10 :
      Nat))
      (0 :
      Nat) =
      SV.own
      (102 :
      Nat)
      (0 :
      Nat) ∧
      true =
      true) ∧
      True) ∧
      (some
      { ty := (25 : Nat), cs := [Value.int IntKind.i64 (IntKind.i64.wrap (n + (1 : Int))), Value.int IntKind.i64 n_16, Value.int IntKind.i64 n_18, Value.string s, Value.string s_2, Value.int IntKind.i64 c.cl, Value.int IntKind.i64 c.sq] : Bx } =
      some
      { ty := (25 : TypeId), cs := [Value.int IntKind.i64 (x.la + (1 : Int)), Value.int IntKind.i64 (plF x c), Value.int IntKind.i64 (plT x c), Value.string (plLo x c), Value.string (plHi x c), Value.int IntKind.i64 c.cl, Value.int IntKind.i64 c.sq] : Bx } ∧
      true =
      true) ∧
      (some
      { ty := (39 : TypeId), cs := [Value.int IntKind.i64 c.kd, Value.int IntKind.i64 c.cl, Value.int IntKind.i64 c.sq, Value.int IntKind.i64 c.ep, Value.int IntKind.i64 c.nd, Value.int IntKind.i64 c.hm, Value.string c.ky, Value.int IntKind.i64 c.le, Value.int IntKind.i64 c.rn, Value.int IntKind.i64 c.ne, Value.bool c.ys, Value.int IntKind.i64 c.op_kd, Value.string c.op_ky, Value.string c.op_ot, Value.int IntKind.i64 c.op_n, Value.int IntKind.i64 c.op_lo, Value.int IntKind.i64 c.op_hi, Value.int IntKind.i64 c.pl_nu, Value.int IntKind.i64 c.pl_fr, Value.int IntKind.i64 c.pl_to, Value.string c.pl_lo, Value.string c.pl_hi, Value.int IntKind.i64 c.pl_cl, Value.int IntKind.i64 c.pl_sq, Value.slice ai ni ci] : Bx } =
      some
      { ty := (39 : TypeId), cs := [Value.int IntKind.i64 c.kd, Value.int IntKind.i64 c.cl, Value.int IntKind.i64 c.sq, Value.int IntKind.i64 c.ep, Value.int IntKind.i64 c.nd, Value.int IntKind.i64 c.hm, Value.string c.ky, Value.int IntKind.i64 c.le, Value.int IntKind.i64 c.rn, Value.int IntKind.i64 c.ne, Value.bool c.ys, Value.int IntKind.i64 c.op_kd, Value.string c.op_ky, Value.string c.op_ot, Value.int IntKind.i64 c.op_n, Value.int IntKind.i64 c.op_lo, Value.int IntKind.i64 c.op_hi, Value.int IntKind.i64 c.pl_nu, Value.int IntKind.i64 c.pl_fr, Value.int IntKind.i64 c.pl_to, Value.string c.pl_lo, Value.string c.pl_hi, Value.int IntKind.i64 c.pl_cl, Value.int IntKind.i64 c.pl_sq, Value.slice ai ni ci] : Bx } ∧
      true =
      true) ∧
      (some
      { ty := (36 : TypeId), cs := [Value.int IntKind.i64 c.op_kd, Value.string c.op_ky, Value.string c.op_ot, Value.int IntKind.i64 c.op_n, Value.int IntKind.i64 c.op_lo, Value.int IntKind.i64 c.op_hi] : Bx } =
      some
      { ty := (36 : TypeId), cs := [Value.int IntKind.i64 c.op_kd, Value.string c.op_ky, Value.string c.op_ot, Value.int IntKind.i64 c.op_n, Value.int IntKind.i64 c.op_lo, Value.int IntKind.i64 c.op_hi] : Bx } ∧
      true =
      true) ∧
      True)
      (∃ (x_3 : RpX),
      (PtC b (begX x c) x_3.a x_3.m ∧ m.sz ≤ x_3.m.sz) ∧
      x_2.m.setCells b (11 : Nat)
      [Value.slice x_2.am
      (beginM x.ms c.cl c.sq).fst.length x_2.cm] =
      x_3.m ∧
      ((SV.val
      (Value.pointer
      (some
      { block := b, off := (0 : Nat) : Addr })) =
      SV.val
      (Value.pointer
      (some
      { block := b, off := (0 : Nat) : Addr })) ∧
      true = true) ∧
      (SV.own (0 : Nat) (0 : Nat) =
      SV.own (0 : Nat) (0 : Nat) ∧
      true = true) ∧
      (SV.own (20 : Nat) (0 : Nat) =
      SV.own (20 : Nat) (0 : Nat) ∧
      true = true) ∧
      (SV.val (Value.int IntKind.i64 n_13) =
      SV.val
      (Value.int IntKind.i64
      (↑(fnd x.ps c.op_ky) : Int)) ∧
      true = true) ∧
      (SV.val (Value.int IntKind.i64 n_12) =
      SV.val
      (Value.int IntKind.i64
      (epochL x.ps + (1 : Int))) ∧
      true = true) ∧
      (SV.own
      ((0 : Nat) + (2 : Nat) +
      (16 : Nat) +
      (4 : Nat) +
      (19 : Nat) +
      (33 : Nat) +
      (5 : Nat) +
      (5 : Nat) +
      (8 : Nat) +
      (10 : Nat))
      (0 : Nat) =
      SV.own (102 : Nat) (0 : Nat) ∧
      true = true) ∧
      True) ∧
      (some
      { ty := (25 : Nat), cs := [Value.int IntKind.i64 (IntKind.i64.wrap (n + (1 : Int))), Value.int IntKind.i64 (0 : Int), Value.int IntKind.i64 (0 : Int), Value.string { data := #[] : ByteArray }, Value.string { data := #[] : ByteArray }, Value.int IntKind.i64 c.cl, Value.int IntKind.i64 c.sq] : Bx } =
      some
      { ty := (25 : TypeId), cs := [Value.int IntKind.i64 (x.la + (1 : Int)), Value.int IntKind.i64 (plF x c), Value.int IntKind.i64 (plT x c), Value.string (plLo x c), Value.string (plHi x c), Value.int IntKind.i64 c.cl, Value.int IntKind.i64 c.sq] : Bx } ∧
      true = true) ∧
      (some
      { ty := (39 : TypeId), cs := [Value.int IntKind.i64 c.kd, Value.int IntKind.i64 c.cl, Value.int IntKind.i64 c.sq, Value.int IntKind.i64 c.ep, Value.int IntKind.i64 c.nd, Value.int IntKind.i64 c.hm, Value.string c.ky, Value.int IntKind.i64 c.le, Value.int IntKind.i64 c.rn, Value.int IntKind.i64 c.ne, Value.bool c.ys, Value.int IntKind.i64 c.op_kd, Value.string c.op_ky, Value.string c.op_ot, Value.int IntKind.i64 c.op_n, Value.int IntKind.i64 c.op_lo, Value.int IntKind.i64 c.op_hi, Value.int IntKind.i64 c.pl_nu, Value.int IntKind.i64 c.pl_fr, Value.int IntKind.i64 c.pl_to, Value.string c.pl_lo, Value.string c.pl_hi, Value.int IntKind.i64 c.pl_cl, Value.int IntKind.i64 c.pl_sq, Value.slice ai ni ci] : Bx } =
      some
      { ty := (39 : TypeId), cs := [Value.int IntKind.i64 c.kd, Value.int IntKind.i64 c.cl, Value.int IntKind.i64 c.sq, Value.int IntKind.i64 c.ep, Value.int IntKind.i64 c.nd, Value.int IntKind.i64 c.hm, Value.string c.ky, Value.int IntKind.i64 c.le, Value.int IntKind.i64 c.rn, Value.int IntKind.i64 c.ne, Value.bool c.ys, Value.int IntKind.i64 c.op_kd, Value.string c.op_ky, Value.string c.op_ot, Value.int IntKind.i64 c.op_n, Value.int IntKind.i64 c.op_lo, Value.int IntKind.i64 c.op_hi, Value.int IntKind.i64 c.pl_nu, Value.int IntKind.i64 c.pl_fr, Value.int IntKind.i64 c.pl_to, Value.string c.pl_lo, Value.string c.pl_hi, Value.int IntKind.i64 c.pl_cl, Value.int IntKind.i64 c.pl_sq, Value.slice ai ni ci] : Bx } ∧
      true = true) ∧
      (some
      { ty := (36 : TypeId), cs := [Value.int IntKind.i64 c.op_kd, Value.string c.op_ky, Value.string c.op_ot, Value.int IntKind.i64 c.op_n, Value.int IntKind.i64 c.op_lo, Value.int IntKind.i64 c.op_hi] : Bx } =
      some
      { ty := (36 : TypeId), cs := [Value.int IntKind.i64 c.op_kd, Value.string c.op_ky, Value.string c.op_ot, Value.int IntKind.i64 c.op_n, Value.int IntKind.i64 c.op_lo, Value.int IntKind.i64 c.op_hi] : Bx } ∧
      true = true) ∧
      True)) ∧
      ∀ (x_3 : RpX),
      PtC b (begX x c) x_3.a x_3.m ∧ m.sz ≤ x_3.m.sz →
      (∃ (n : Int),
      CellsAt x_3.m b (4 : Nat) [Value.int IntKind.i64 n] ∧
      ifB (n != (0 : Int))
      (∃ (S' : Nat → Prop),
      (∀ (b_2 : Nat),
      S' b_2 → x_3.m.uf b_2 ∧ (m.sz ≤ b_2 ∨ b_2 = b)) ∧
      ∀ (n : Nat),
      x_3.m.sz ≤ n →
      SpecW Try.prog (36 : Nat)
      [Value.pointer
      (some
      { block := b, off := (0 : Nat) : Addr }),
      Value.int IntKind.i64 c.cl,
      Value.int IntKind.i64 c.sq,
      Value.int IntKind.i64 (190 : Int)]
      { π := x_3.m.π, sz := n, uf := x_3.m.uf : M } S'
      fun (v : Value) (m' : M) =>
      ∃ (a : Option Addr),
      ∃ (n : Nat),
      ∃ (c_6 : Nat),
      v = Value.slice a n c_6 ∧
      Done
      (PtR b (startE x c)
      (Value.slice a n c_6) m'))
      (true = true ∧
      ifB (c.op_kd == (7 : Int))
      (∃ (a : Option Addr),
      ∃ (n : Nat),
      ∃ (c_6 : Nat),
      CellsAt x_3.m b (1 : Nat)
      [Value.slice a n c_6] ∧
      ∃ (b_2 : Nat),
      ∃ (off : Nat),
      a =
      some
      { block := b_2, off := off : Addr } ∧
      ((0 : Int) ≤
      (↑(fnd x.ps c.op_ky) : Int) ∧
      (↑(fnd x.ps c.op_ky) : Int) <
      (↑n : Int)) ∧
      ∃ (s : ByteArray),
      CellsAt x_3.m b_2
      (off +
      (↑(fnd x.ps c.op_ky) :
      Int).toNat *
      (3 : Nat) +
      (1 : Nat))
      [Value.string s] ∧
      ifB (s.toList == c.op_ky.toList)
      (∃ (S' : Nat → Prop),
      (∀ (b_3 : Nat),
      S' b_3 →
      x_3.m.uf b_3 ∧
      (m.sz ≤ b_3 ∨
      b_3 = b)) ∧
      ∀ (n : Nat),
      x_3.m.sz ≤ n →
      SpecW Try.prog
      (36 : Nat)
      [Value.pointer
      (some
      { block := b, off := (0 : Nat) : Addr }),
      Value.int
      IntKind.i64 c.cl,
      Value.int
      IntKind.i64 c.sq,
      Value.int
      IntKind.i64
      (171 : Int)]
      { π := x_3.m.π, sz := n, uf := x_3.m.uf : M }
      S'
      fun (v : Value)
      (m' : M) =>
      ∃ (a : Option Addr),
      ∃ (n : Nat),
      ∃ (c_7 : Nat),
      v =
      Value.slice
      a n c_7 ∧
      Done
      (PtR b
      (startE x
      c)
      (Value.slice
      a n c_7)
      m'))
      (ifB (c.op_kd == (7 : Int))
      (∃ (n : Int),
      CellsAt x_3.m b (2 : Nat)
      [Value.int IntKind.i64
      n] ∧
      ifB (n == (8 : Int))
      (∃ (S' : Nat → Prop),
      (∀ (b_3 : Nat),
      S' b_3 →
      x_3.m.uf b_3 ∧
      (m.sz ≤ b_3 ∨
      b_3 = b)) ∧
      ∀ (n : Nat),
      x_3.m.sz ≤ n →
      SpecW Try.prog
      (36 : Nat)
      [Value.pointer
      (some
      { block := b, off := (0 : Nat) : Addr }),
      Value.int
      IntKind.i64
      c.cl,
      Value.int
      IntKind.i64
      c.sq,
      Value.int
      IntKind.i64
      (3 : Int)]
      { π := x_3.m.π, sz := n, uf := x_3.m.uf : M }
      S'
      fun
      (v : Value)
      (m' : M) =>
      ∃ (a :
      Option
      Addr),
      ∃ (n : Nat),
      ∃ (c_7 :
      Nat),
      v =
      Value.slice
      a
      n
      c_7 ∧
      Done
      (PtR
      b
      (startE
      x
      c)
      (Value.slice
      a
      n
      c_7)
      m'))
      (∃ (a : Option Addr),
      ∃ (n : Nat),
      ∃ (c_7 : Nat),
      CellsAt x_3.m b
      (1 : Nat)
      [Value.slice a
      n c_7] ∧
      ifB
      (decide
      ((↑n :
      Int) ≥
      (7 :
      Int)))
      (∃ (S' :
      Nat → Prop),
      (∀
      (b_3 :
      Nat),
      S' b_3 →
      x_3.m.uf
      b_3 ∧
      (m.sz ≤
      b_3 ∨
      b_3 =
      b)) ∧
      ∀
      (n :
      Nat),
      x_3.m.sz ≤
      n →
      SpecW
      Try.prog
      (36 :
      Nat)
      [Value.pointer
      (some
      { block := b, off := (0 : Nat) : Addr }),
      Value.int
      IntKind.i64
      c.cl,
      Value.int
      IntKind.i64
      c.sq,
      Value.int
      IntKind.i64
      (3 :
      Int)]
      { π := x_3.m.π, sz := n, uf := x_3.m.uf : M }
      S'
      fun
      (v :
      Value)
      (m' :
      M) =>
      ∃ (a
      :
      Option
      Addr),
      ∃
      (n
      :
      Nat),
      ∃
      (c_8
      :
      Nat),
      v =
      Value.slice
      a
      n
      c_8 ∧
      Done
      (PtR
      b
      (startE
      x
      c)
      (Value.slice
      a
      n
      c_8)
      m'))
      (ifB
      (plF x c ==
      (0 : Int))
      (∃ (S' :
      Nat →
      Prop),
      (∀
      (b_3 :
      Nat),
      S'
      b_3 →
      x_3.m.uf
      b_3 ∧
      (m.sz ≤
      b_3 ∨
      b_3 =
      b)) ∧
      ∀
      (n :
      Nat),
      x_3.m.sz ≤
      n →
      SpecW
      Try.prog
      (36 :
      Nat)
      [Value.pointer
      (some
      { block := b, off := (0 : Nat) : Addr }),
      Value.int
      IntKind.i64
      c.cl,
      Value.int
      IntKind.i64
      c.sq,
      Value.int
      IntKind.i64
      (170 :
      Int)]
      { π := x_3.m.π, sz := n, uf := x_3.m.uf : M }
      S'
      fun
      (v :
      Value)
      (m' :
      M) =>
      ∃
      (a
      :
      Option
      Addr),
      ∃
      (n
      :
      Nat),
      ∃
      (c_8
      :
      Nat),
      v =
      Value.slice
      a
      n
      c_8 ∧
      Done
      (PtR
      b
      (startE
      x
      c)
      (Value.slice
      a
      n
      c_8)
      m'))
      (ifB
      (decide
      (epochL
      x.ps +
      (1 :
      Int) >
      (4611686018427387904 :
      Int)))
      (∃ (S' :
      Nat →
      Prop),
      (∀
      (b_3 :
      Nat),
      S'
      b_3 →
      x_3.m.uf
      b_3 ∧
      (m.sz ≤
      b_3 ∨
      b_3 =
      b)) ∧
      ∀
      (n :
      Nat),
      x_3.m.sz ≤
      n →
      SpecW
      Try.prog
      (36 :
      Nat)
      [Value.pointer
      (some
      { block := b, off := (0 : Nat) : Addr }),
      Value.int
      IntKind.i64
      c.cl,
      Value.int
      IntKind.i64
      c.sq,
      Value.int
      IntKind.i64
      (170 :
      Int)]
      { π := x_3.m.π, sz := n, uf := x_3.m.uf : M }
      S'
      fun
      (v :
      Value)
      (m' :
      M) =>
      ∃
      (a
      :
      Option
      Addr),
      ∃
      (n
      :
      Nat),
      ∃
      (c_8
      :
      Nat),
      v =
      Value.slice
      a
      n
      c_8 ∧
      Done
      (PtR
      b
      (startE
      x
      c)
      (Value.slice
      a
      n
      c_8)
      m'))
      (∃ (n :
      Int),
      CellsAt
      x_3.m
      b
      (3 :
      Nat)
      [Value.int
      IntKind.i64
      n] ∧
      ifB
      (n ==
      (4611686018427387904 :
      Int))
      (∃
      (S'
      :
      Nat →
      Prop),
      (∀
      (b_3 :
      Nat),
      S'
      b_3 →
      x_3.m.uf
      b_3 ∧
      (m.sz ≤
      b_3 ∨
      b_3 =
      b)) ∧
      ∀
      (n :
      Nat),
      x_3.m.sz ≤
      n →
      SpecW
      Try.prog
      (36 :
      Nat)
      [Value.pointer
      (some
      { block := b, off := (0 : Nat) : Addr }),
      Value.int
      IntKind.i64
      c.cl,
      Value.int
      IntKind.i64
      c.sq,
      Value.int
      IntKind.i64
      (170 :
      Int)]
      { π := x_3.m.π, sz := n, uf := x_3.m.uf : M }
      S'
      fun
      (v :
      Value)
      (m' :
      M) =>
      ∃
      (a
      :
      Option
      Addr),
      ∃
      (n
      :
      Nat),
      ∃
      (c_8
      :
      Nat),
      v =
      Value.slice
      a
      n
      c_8 ∧
      Done
      (PtR
      b
      (startE
      x
      c)
      (Value.slice
      a
      n
      c_8)
      m'))
      (∃
      (x_4
      :
      RpX),
      (PtC
      b
      (begX
      x
      c)
      x_4.a
      x_4.m ∧
      m.sz ≤
      x_4.m.sz ∧
      refE
      (begX
      x
      c)
      c.op_kd
      c.op_ky =
      (0 :
      Int)) ∧
      x_3.m =
      x_4.m ∧
      ((SV.val
      (Value.pointer
      (some
      { block := b, off := (0 : Nat) : Addr })) =
      SV.val
      (Value.pointer
      (some
      { block := b, off := (0 : Nat) : Addr })) ∧
      true =
      true) ∧
      (SV.own
      (20 :
      Nat)
      (0 :
      Nat) =
      SV.own
      (20 :
      Nat)
      (0 :
      Nat) ∧
      true =
      true) ∧
      (SV.own
      (102 :
      Nat)
      (0 :
      Nat) =
      SV.own
      (102 :
      Nat)
      (0 :
      Nat) ∧
      true =
      true) ∧
      True) ∧
      (some
      { ty := (25 : TypeId), cs := [Value.int IntKind.i64 (x.la + (1 : Int)), Value.int IntKind.i64 (plF x c), Value.int IntKind.i64 (plT x c), Value.string (plLo x c), Value.string (plHi x c), Value.int IntKind.i64 c.cl, Value.int IntKind.i64 c.sq] : Bx } =
      some
      { ty := (25 : TypeId), cs := [Value.int IntKind.i64 (x.la + (1 : Int)), Value.int IntKind.i64 (plF x c), Value.int IntKind.i64 (plT x c), Value.string (plLo x c), Value.string (plHi x c), Value.int IntKind.i64 c.cl, Value.int IntKind.i64 c.sq] : Bx } ∧
      true =
      true) ∧
      (some
      { ty := (39 : TypeId), cs := [Value.int IntKind.i64 c.kd, Value.int IntKind.i64 c.cl, Value.int IntKind.i64 c.sq, Value.int IntKind.i64 c.ep, Value.int IntKind.i64 c.nd, Value.int IntKind.i64 c.hm, Value.string c.ky, Value.int IntKind.i64 c.le, Value.int IntKind.i64 c.rn, Value.int IntKind.i64 c.ne, Value.bool c.ys, Value.int IntKind.i64 c.op_kd, Value.string c.op_ky, Value.string c.op_ot, Value.int IntKind.i64 c.op_n, Value.int IntKind.i64 c.op_lo, Value.int IntKind.i64 c.op_hi, Value.int IntKind.i64 c.pl_nu, Value.int IntKind.i64 c.pl_fr, Value.int IntKind.i64 c.pl_to, Value.string c.pl_lo, Value.string c.pl_hi, Value.int IntKind.i64 c.pl_cl, Value.int IntKind.i64 c.pl_sq, Value.slice ai ni ci] : Bx } =
      some
      { ty := (39 : TypeId), cs := [Value.int IntKind.i64 c.kd, Value.int IntKind.i64 c.cl, Value.int IntKind.i64 c.sq, Value.int IntKind.i64 c.ep, Value.int IntKind.i64 c.nd, Value.int IntKind.i64 c.hm, Value.string c.ky, Value.int IntKind.i64 c.le, Value.int IntKind.i64 c.rn, Value.int IntKind.i64 c.ne, Value.bool c.ys, Value.int IntKind.i64 c.op_kd, Value.string c.op_ky, Value.string c.op_ot, Value.int IntKind.i64 c.op_n, Value.int IntKind.i64 c.op_lo, Value.int IntKind.i64 c.op_hi, Value.int IntKind.i64 c.pl_nu, Value.int IntKind.i64 c.pl_fr, Value.int IntKind.i64 c.pl_to, Value.string c.pl_lo, Value.string c.pl_hi, Value.int IntKind.i64 c.pl_cl, Value.int IntKind.i64 c.pl_sq, Value.slice ai ni ci] : Bx } ∧
      true =
      true) ∧
      (some
      { ty := (36 : TypeId), cs := [Value.int IntKind.i64 c.op_kd, Value.string c.op_ky, Value.string c.op_ot, Value.int IntKind.i64 c.op_n, Value.int IntKind.i64 c.op_lo, Value.int IntKind.i64 c.op_hi] : Bx } =
      some
      { ty := (36 : TypeId), cs := [Value.int IntKind.i64 c.op_kd, Value.string c.op_ky, Value.string c.op_ot, Value.int IntKind.i64 c.op_n, Value.int IntKind.i64 c.op_lo, Value.int IntKind.i64 c.op_hi] : Bx } ∧
      true =
      true) ∧
      True))))))
      (ifB (plF x c == (0 : Int))
      (∃ (S' : Nat → Prop),
      (∀ (b_3 : Nat),
      S' b_3 →
      x_3.m.uf b_3 ∧
      (m.sz ≤ b_3 ∨
      b_3 = b)) ∧
      ∀ (n : Nat),
      x_3.m.sz ≤ n →
      SpecW Try.prog
      (36 : Nat)
      [Value.pointer
      (some
      { block := b, off := (0 : Nat) : Addr }),
      Value.int
      IntKind.i64
      c.cl,
      Value.int
      IntKind.i64
      c.sq,
      Value.int
      IntKind.i64
      (170 : Int)]
      { π := x_3.m.π, sz := n, uf := x_3.m.uf : M }
      S'
      fun (v : Value)
      (m' : M) =>
      ∃ (a :
      Option Addr),
      ∃ (n : Nat),
      ∃ (c_7 : Nat),
      v =
      Value.slice
      a n
      c_7 ∧
      Done
      (PtR b
      (startE
      x c)
      (Value.slice
      a n
      c_7)
      m'))
      (ifB
      (decide
      (epochL x.ps +
      (1 : Int) >
      (4611686018427387904 :
      Int)))
      (∃ (S' : Nat → Prop),
      (∀ (b_3 : Nat),
      S' b_3 →
      x_3.m.uf b_3 ∧
      (m.sz ≤ b_3 ∨
      b_3 = b)) ∧
      ∀ (n : Nat),
      x_3.m.sz ≤ n →
      SpecW Try.prog
      (36 : Nat)
      [Value.pointer
      (some
      { block := b, off := (0 : Nat) : Addr }),
      Value.int
      IntKind.i64
      c.cl,
      Value.int
      IntKind.i64
      c.sq,
      Value.int
      IntKind.i64
      (170 : Int)]
      { π := x_3.m.π, sz := n, uf := x_3.m.uf : M }
      S'
      fun (v : Value)
      (m' : M) =>
      ∃ (a :
      Option Addr),
      ∃ (n : Nat),
      ∃ (c_7 :
      Nat),
      v =
      Value.slice
      a n
      c_7 ∧
      Done
      (PtR b
      (startE
      x
      c)
      (Value.slice
      a
      n
      c_7)
      m'))
      (∃ (n : Int),
      CellsAt x_3.m b
      (3 : Nat)
      [Value.int
      IntKind.i64 n] ∧
      ifB
      (n ==
      (4611686018427387904 :
      Int))
      (∃ (S' :
      Nat → Prop),
      (∀ (b_3 : Nat),
      S' b_3 →
      x_3.m.uf
      b_3 ∧
      (m.sz ≤
      b_3 ∨
      b_3 =
      b)) ∧
      ∀ (n : Nat),
      x_3.m.sz ≤ n →
      SpecW
      Try.prog
      (36 : Nat)
      [Value.pointer
      (some
      { block := b, off := (0 : Nat) : Addr }),
      Value.int
      IntKind.i64
      c.cl,
      Value.int
      IntKind.i64
      c.sq,
      Value.int
      IntKind.i64
      (170 :
      Int)]
      { π := x_3.m.π, sz := n, uf := x_3.m.uf : M }
      S'
      fun
      (v :
      Value)
      (m' :
      M) =>
      ∃ (a :
      Option
      Addr),
      ∃ (n :
      Nat),
      ∃ (c_7
      :
      Nat),
      v =
      Value.slice
      a
      n
      c_7 ∧
      Done
      (PtR
      b
      (startE
      x
      c)
      (Value.slice
      a
      n
      c_7)
      m'))
      (∃ (x_4 : RpX),
      (PtC b (begX x c)
      x_4.a
      x_4.m ∧
      m.sz ≤
      x_4.m.sz ∧
      refE
      (begX x
      c)
      c.op_kd
      c.op_ky =
      (0 :
      Int)) ∧
      x_3.m = x_4.m ∧
      ((SV.val
      (Value.pointer
      (some
      { block := b, off := (0 : Nat) : Addr })) =
      SV.val
      (Value.pointer
      (some
      { block := b, off := (0 : Nat) : Addr })) ∧
      true =
      true) ∧
      (SV.own
      (20 :
      Nat)
      (0 :
      Nat) =
      SV.own
      (20 :
      Nat)
      (0 :
      Nat) ∧
      true =
      true) ∧
      (SV.own
      (102 :
      Nat)
      (0 :
      Nat) =
      SV.own
      (102 :
      Nat)
      (0 :
      Nat) ∧
      true =
      true) ∧
      True) ∧
      (some
      { ty := (25 : TypeId), cs := [Value.int IntKind.i64 (x.la + (1 : Int)), Value.int IntKind.i64 (plF x c), Value.int IntKind.i64 (plT x c), Value.string (plLo x c), Value.string (plHi x c), Value.int IntKind.i64 c.cl, Value.int IntKind.i64 c.sq] : Bx } =
      some
      { ty := (25 : TypeId), cs := [Value.int IntKind.i64 (x.la + (1 : Int)), Value.int IntKind.i64 (plF x c), Value.int IntKind.i64 (plT x c), Value.string (plLo x c), Value.string (plHi x c), Value.int IntKind.i64 c.cl, Value.int IntKind.i64 c.sq] : Bx } ∧
      true =
      true) ∧
      (some
      { ty := (39 : TypeId), cs := [Value.int IntKind.i64 c.kd, Value.int IntKind.i64 c.cl, Value.int IntKind.i64 c.sq, Value.int IntKind.i64 c.ep, Value.int IntKind.i64 c.nd, Value.int IntKind.i64 c.hm, Value.string c.ky, Value.int IntKind.i64 c.le, Value.int IntKind.i64 c.rn, Value.int IntKind.i64 c.ne, Value.bool c.ys, Value.int IntKind.i64 c.op_kd, Value.string c.op_ky, Value.string c.op_ot, Value.int IntKind.i64 c.op_n, Value.int IntKind.i64 c.op_lo, Value.int IntKind.i64 c.op_hi, Value.int IntKind.i64 c.pl_nu, Value.int IntKind.i64 c.pl_fr, Value.int IntKind.i64 c.pl_to, Value.string c.pl_lo, Value.string c.pl_hi, Value.int IntKind.i64 c.pl_cl, Value.int IntKind.i64 c.pl_sq, Value.slice ai ni ci] : Bx } =
      some
      { ty := (39 : TypeId), cs := [Value.int IntKind.i64 c.kd, Value.int IntKind.i64 c.cl, Value.int IntKind.i64 c.sq, Value.int IntKind.i64 c.ep, Value.int IntKind.i64 c.nd, Value.int IntKind.i64 c.hm, Value.string c.ky, Value.int IntKind.i64 c.le, Value.int IntKind.i64 c.rn, Value.int IntKind.i64 c.ne, Value.bool c.ys, Value.int IntKind.i64 c.op_kd, Value.string c.op_ky, Value.string c.op_ot, Value.int IntKind.i64 c.op_n, Value.int IntKind.i64 c.op_lo, Value.int IntKind.i64 c.op_hi, Value.int IntKind.i64 c.pl_nu, Value.int IntKind.i64 c.pl_fr, Value.int IntKind.i64 c.pl_to, Value.string c.pl_lo, Value.string c.pl_hi, Value.int IntKind.i64 c.pl_cl, Value.int IntKind.i64 c.pl_sq, Value.slice ai ni ci] : Bx } ∧
      true =
      true) ∧
      (some
      { ty := (36 : TypeId), cs := [Value.int IntKind.i64 c.op_kd, Value.string c.op_ky, Value.string c.op_ot, Value.int IntKind.i64 c.op_n, Value.int IntKind.i64 c.op_lo, Value.int IntKind.i64 c.op_hi] : Bx } =
      some
      { ty := (36 : TypeId), cs := [Value.int IntKind.i64 c.op_kd, Value.string c.op_ky, Value.string c.op_ot, Value.int IntKind.i64 c.op_n, Value.int IntKind.i64 c.op_lo, Value.int IntKind.i64 c.op_hi] : Bx } ∧
      true =
      true) ∧
      True))))))
      (ifB (c.op_kd == (7 : Int))
      (∃ (n : Int),
      CellsAt x_3.m b (2 : Nat)
      [Value.int IntKind.i64 n] ∧
      ifB (n == (8 : Int))
      (∃ (S' : Nat → Prop),
      (∀ (b_2 : Nat),
      S' b_2 →
      x_3.m.uf b_2 ∧
      (m.sz ≤ b_2 ∨ b_2 = b)) ∧
      ∀ (n : Nat),
      x_3.m.sz ≤ n →
      SpecW Try.prog (36 : Nat)
      [Value.pointer
      (some
      { block := b, off := (0 : Nat) : Addr }),
      Value.int IntKind.i64 c.cl,
      Value.int IntKind.i64 c.sq,
      Value.int IntKind.i64 (3 : Int)]
      { π := x_3.m.π, sz := n, uf := x_3.m.uf : M }
      S' fun (v : Value) (m' : M) =>
      ∃ (a : Option Addr),
      ∃ (n : Nat),
      ∃ (c_6 : Nat),
      v = Value.slice a n c_6 ∧
      Done
      (PtR b (startE x c)
      (Value.slice a n c_6)
      m'))
      (∃ (a : Option Addr),
      ∃ (n : Nat),
      ∃ (c_6 : Nat),
      CellsAt x_3.m b (1 : Nat)
      [Value.slice a n c_6] ∧
      ifB (decide ((↑n : Int) ≥ (7 : Int)))
      (∃ (S' : Nat → Prop),
      (∀ (b_2 : Nat),
      S' b_2 →
      x_3.m.uf b_2 ∧
      (m.sz ≤ b_2 ∨ b_2 = b)) ∧
      ∀ (n : Nat),
      x_3.m.sz ≤ n →
      SpecW Try.prog (36 : Nat)
      [Value.pointer
      (some
      { block := b, off := (0 : Nat) : Addr }),
      Value.int IntKind.i64
      c.cl,
      Value.int IntKind.i64
      c.sq,
      Value.int IntKind.i64
      (3 : Int)]
      { π := x_3.m.π, sz := n, uf := x_3.m.uf : M }
      S'
      fun (v : Value)
      (m' : M) =>
      ∃ (a : Option Addr),
      ∃ (n : Nat),
      ∃ (c_7 : Nat),
      v =
      Value.slice a n
      c_7 ∧
      Done
      (PtR b
      (startE x c)
      (Value.slice a
      n c_7)
      m'))
      (ifB (plF x c == (0 : Int))
      (∃ (S' : Nat → Prop),
      (∀ (b_2 : Nat),
      S' b_2 →
      x_3.m.uf b_2 ∧
      (m.sz ≤ b_2 ∨
      b_2 = b)) ∧
      ∀ (n : Nat),
      x_3.m.sz ≤ n →
      SpecW Try.prog (36 : Nat)
      [Value.pointer
      (some
      { block := b, off := (0 : Nat) : Addr }),
      Value.int IntKind.i64
      c.cl,
      Value.int IntKind.i64
      c.sq,
      Value.int IntKind.i64
      (170 : Int)]
      { π := x_3.m.π, sz := n, uf := x_3.m.uf : M }
      S'
      fun (v : Value)
      (m' : M) =>
      ∃ (a : Option Addr),
      ∃ (n : Nat),
      ∃ (c_7 : Nat),
      v =
      Value.slice a
      n c_7 ∧
      Done
      (PtR b
      (startE x c)
      (Value.slice
      a n c_7)
      m'))
      (ifB
      (decide
      (epochL x.ps + (1 : Int) >
      (4611686018427387904 :
      Int)))
      (∃ (S' : Nat → Prop),
      (∀ (b_2 : Nat),
      S' b_2 →
      x_3.m.uf b_2 ∧
      (m.sz ≤ b_2 ∨
      b_2 = b)) ∧
      ∀ (n : Nat),
      x_3.m.sz ≤ n →
      SpecW Try.prog
      (36 : Nat)
      [Value.pointer
      (some
      { block := b, off := (0 : Nat) : Addr }),
      Value.int
      IntKind.i64 c.cl,
      Value.int
      IntKind.i64 c.sq,
      Value.int
      IntKind.i64
      (170 : Int)]
      { π := x_3.m.π, sz := n, uf := x_3.m.uf : M }
      S'
      fun (v : Value)
      (m' : M) =>
      ∃ (a : Option Addr),
      ∃ (n : Nat),
      ∃ (c_7 : Nat),
      v =
      Value.slice
      a n c_7 ∧
      Done
      (PtR b
      (startE x
      c)
      (Value.slice
      a n c_7)
      m'))
      (∃ (n : Int),
      CellsAt x_3.m b (3 : Nat)
      [Value.int IntKind.i64
      n] ∧
      ifB
      (n ==
      (4611686018427387904 :
      Int))
      (∃ (S' : Nat → Prop),
      (∀ (b_2 : Nat),
      S' b_2 →
      x_3.m.uf b_2 ∧
      (m.sz ≤ b_2 ∨
      b_2 = b)) ∧
      ∀ (n : Nat),
      x_3.m.sz ≤ n →
      SpecW Try.prog
      (36 : Nat)
      [Value.pointer
      (some
      { block := b, off := (0 : Nat) : Addr }),
      Value.int
      IntKind.i64
      c.cl,
      Value.int
      IntKind.i64
      c.sq,
      Value.int
      IntKind.i64
      (170 : Int)]
      { π := x_3.m.π, sz := n, uf := x_3.m.uf : M }
      S'
      fun (v : Value)
      (m' : M) =>
      ∃ (a :
      Option Addr),
      ∃ (n : Nat),
      ∃ (c_7 :
      Nat),
      v =
      Value.slice
      a n
      c_7 ∧
      Done
      (PtR b
      (startE
      x
      c)
      (Value.slice
      a
      n
      c_7)
      m'))
      (∃ (x_4 : RpX),
      (PtC b (begX x c) x_4.a
      x_4.m ∧
      m.sz ≤ x_4.m.sz ∧
      refE (begX x c)
      c.op_kd
      c.op_ky =
      (0 : Int)) ∧
      x_3.m = x_4.m ∧
      ((SV.val
      (Value.pointer
      (some
      { block := b, off := (0 : Nat) : Addr })) =
      SV.val
      (Value.pointer
      (some
      { block := b, off := (0 : Nat) : Addr })) ∧
      true = true) ∧
      (SV.own
      (20 :
      Nat)
      (0 :
      Nat) =
      SV.own
      (20 :
      Nat)
      (0 :
      Nat) ∧
      true =
      true) ∧
      (SV.own
      (102 :
      Nat)
      (0 :
      Nat) =
      SV.own
      (102 :
      Nat)
      (0 :
      Nat) ∧
      true =
      true) ∧
      True) ∧
      (some
      { ty := (25 : TypeId), cs := [Value.int IntKind.i64 (x.la + (1 : Int)), Value.int IntKind.i64 (plF x c), Value.int IntKind.i64 (plT x c), Value.string (plLo x c), Value.string (plHi x c), Value.int IntKind.i64 c.cl, Value.int IntKind.i64 c.sq] : Bx } =
      some
      { ty := (25 : TypeId), cs := [Value.int IntKind.i64 (x.la + (1 : Int)), Value.int IntKind.i64 (plF x c), Value.int IntKind.i64 (plT x c), Value.string (plLo x c), Value.string (plHi x c), Value.int IntKind.i64 c.cl, Value.int IntKind.i64 c.sq] : Bx } ∧
      true = true) ∧
      (some
      { ty := (39 : TypeId), cs := [Value.int IntKind.i64 c.kd, Value.int IntKind.i64 c.cl, Value.int IntKind.i64 c.sq, Value.int IntKind.i64 c.ep, Value.int IntKind.i64 c.nd, Value.int IntKind.i64 c.hm, Value.string c.ky, Value.int IntKind.i64 c.le, Value.int IntKind.i64 c.rn, Value.int IntKind.i64 c.ne, Value.bool c.ys, Value.int IntKind.i64 c.op_kd, Value.string c.op_ky, Value.string c.op_ot, Value.int IntKind.i64 c.op_n, Value.int IntKind.i64 c.op_lo, Value.int IntKind.i64 c.op_hi, Value.int IntKind.i64 c.pl_nu, Value.int IntKind.i64 c.pl_fr, Value.int IntKind.i64 c.pl_to, Value.string c.pl_lo, Value.string c.pl_hi, Value.int IntKind.i64 c.pl_cl, Value.int IntKind.i64 c.pl_sq, Value.slice ai ni ci] : Bx } =
      some
      { ty := (39 : TypeId), cs := [Value.int IntKind.i64 c.kd, Value.int IntKind.i64 c.cl, Value.int IntKind.i64 c.sq, Value.int IntKind.i64 c.ep, Value.int IntKind.i64 c.nd, Value.int IntKind.i64 c.hm, Value.string c.ky, Value.int IntKind.i64 c.le, Value.int IntKind.i64 c.rn, Value.int IntKind.i64 c.ne, Value.bool c.ys, Value.int IntKind.i64 c.op_kd, Value.string c.op_ky, Value.string c.op_ot, Value.int IntKind.i64 c.op_n, Value.int IntKind.i64 c.op_lo, Value.int IntKind.i64 c.op_hi, Value.int IntKind.i64 c.pl_nu, Value.int IntKind.i64 c.pl_fr, Value.int IntKind.i64 c.pl_to, Value.string c.pl_lo, Value.string c.pl_hi, Value.int IntKind.i64 c.pl_cl, Value.int IntKind.i64 c.pl_sq, Value.slice ai ni ci] : Bx } ∧
      true =
      true) ∧
      (some
      { ty := (36 : TypeId), cs := [Value.int IntKind.i64 c.op_kd, Value.string c.op_ky, Value.string c.op_ot, Value.int IntKind.i64 c.op_n, Value.int IntKind.i64 c.op_lo, Value.int IntKind.i64 c.op_hi] : Bx } =
      some
      { ty := (36 : TypeId), cs := [Value.int IntKind.i64 c.op_kd, Value.string c.op_ky, Value.string c.op_ot, Value.int IntKind.i64 c.op_n, Value.int IntKind.i64 c.op_lo, Value.int IntKind.i64 c.op_hi] : Bx } ∧
      true =
      true) ∧
      True))))))
      (ifB (plF x c == (0 : Int))
      (∃ (S' : Nat → Prop),
      (∀ (b_2 : Nat),
      S' b_2 →
      x_3.m.uf b_2 ∧ (m.sz ≤ b_2 ∨ b_2 = b)) ∧
      ∀ (n : Nat),
      x_3.m.sz ≤ n →
      SpecW Try.prog (36 : Nat)
      [Value.pointer
      (some
      { block := b, off := (0 : Nat) : Addr }),
      Value.int IntKind.i64 c.cl,
      Value.int IntKind.i64 c.sq,
      Value.int IntKind.i64 (170 : Int)]
      { π := x_3.m.π, sz := n, uf := x_3.m.uf : M }
      S' fun (v : Value) (m' : M) =>
      ∃ (a : Option Addr),
      ∃ (n : Nat),
      ∃ (c_6 : Nat),
      v = Value.slice a n c_6 ∧
      Done
      (PtR b (startE x c)
      (Value.slice a n c_6) m'))
      (ifB
      (decide
      (epochL x.ps + (1 : Int) >
      (4611686018427387904 : Int)))
      (∃ (S' : Nat → Prop),
      (∀ (b_2 : Nat),
      S' b_2 →
      x_3.m.uf b_2 ∧ (m.sz ≤ b_2 ∨ b_2 = b)) ∧
      ∀ (n : Nat),
      x_3.m.sz ≤ n →
      SpecW Try.prog (36 : Nat)
      [Value.pointer
      (some
      { block := b, off := (0 : Nat) : Addr }),
      Value.int IntKind.i64 c.cl,
      Value.int IntKind.i64 c.sq,
      Value.int IntKind.i64 (170 : Int)]
      { π := x_3.m.π, sz := n, uf := x_3.m.uf : M }
      S' fun (v : Value) (m' : M) =>
      ∃ (a : Option Addr),
      ∃ (n : Nat),
      ∃ (c_6 : Nat),
      v = Value.slice a n c_6 ∧
      Done
      (PtR b (startE x c)
      (Value.slice a n c_6) m'))
      (∃ (n : Int),
      CellsAt x_3.m b (3 : Nat)
      [Value.int IntKind.i64 n] ∧
      ifB (n == (4611686018427387904 : Int))
      (∃ (S' : Nat → Prop),
      (∀ (b_2 : Nat),
      S' b_2 →
      x_3.m.uf b_2 ∧
      (m.sz ≤ b_2 ∨ b_2 = b)) ∧
      ∀ (n : Nat),
      x_3.m.sz ≤ n →
      SpecW Try.prog (36 : Nat)
      [Value.pointer
      (some
      { block := b, off := (0 : Nat) : Addr }),
      Value.int IntKind.i64 c.cl,
      Value.int IntKind.i64 c.sq,
      Value.int IntKind.i64
      (170 : Int)]
      { π := x_3.m.π, sz := n, uf := x_3.m.uf : M }
      S' fun (v : Value) (m' : M) =>
      ∃ (a : Option Addr),
      ∃ (n : Nat),
      ∃ (c_6 : Nat),
      v = Value.slice a n c_6 ∧
      Done
      (PtR b (startE x c)
      (Value.slice a n
      c_6)
      m'))
      (∃ (x_4 : RpX),
      (PtC b (begX x c) x_4.a x_4.m ∧
      m.sz ≤ x_4.m.sz ∧
      refE (begX x c) c.op_kd c.op_ky =
      (0 : Int)) ∧
      x_3.m = x_4.m ∧
      ((SV.val
      (Value.pointer
      (some
      { block := b, off := (0 : Nat) : Addr })) =
      SV.val
      (Value.pointer
      (some
      { block := b, off := (0 : Nat) : Addr })) ∧
      true = true) ∧
      (SV.own (20 : Nat) (0 : Nat) =
      SV.own (20 : Nat)
      (0 : Nat) ∧
      true = true) ∧
      (SV.own (102 : Nat)
      (0 : Nat) =
      SV.own (102 : Nat)
      (0 : Nat) ∧
      true = true) ∧
      True) ∧
      (some
      { ty := (25 : TypeId), cs := [Value.int IntKind.i64 (x.la + (1 : Int)), Value.int IntKind.i64 (plF x c), Value.int IntKind.i64 (plT x c), Value.string (plLo x c), Value.string (plHi x c), Value.int IntKind.i64 c.cl, Value.int IntKind.i64 c.sq] : Bx } =
      some
      { ty := (25 : TypeId), cs := [Value.int IntKind.i64 (x.la + (1 : Int)), Value.int IntKind.i64 (plF x c), Value.int IntKind.i64 (plT x c), Value.string (plLo x c), Value.string (plHi x c), Value.int IntKind.i64 c.cl, Value.int IntKind.i64 c.sq] : Bx } ∧
      true = true) ∧
      (some
      { ty := (39 : TypeId), cs := [Value.int IntKind.i64 c.kd, Value.int IntKind.i64 c.cl, Value.int IntKind.i64 c.sq, Value.int IntKind.i64 c.ep, Value.int IntKind.i64 c.nd, Value.int IntKind.i64 c.hm, Value.string c.ky, Value.int IntKind.i64 c.le, Value.int IntKind.i64 c.rn, Value.int IntKind.i64 c.ne, Value.bool c.ys, Value.int IntKind.i64 c.op_kd, Value.string c.op_ky, Value.string c.op_ot, Value.int IntKind.i64 c.op_n, Value.int IntKind.i64 c.op_lo, Value.int IntKind.i64 c.op_hi, Value.int IntKind.i64 c.pl_nu, Value.int IntKind.i64 c.pl_fr, Value.int IntKind.i64 c.pl_to, Value.string c.pl_lo, Value.string c.pl_hi, Value.int IntKind.i64 c.pl_cl, Value.int IntKind.i64 c.pl_sq, Value.slice ai ni ci] : Bx } =
      some
      { ty := (39 : TypeId), cs := [Value.int IntKind.i64 c.kd, Value.int IntKind.i64 c.cl, Value.int IntKind.i64 c.sq, Value.int IntKind.i64 c.ep, Value.int IntKind.i64 c.nd, Value.int IntKind.i64 c.hm, Value.string c.ky, Value.int IntKind.i64 c.le, Value.int IntKind.i64 c.rn, Value.int IntKind.i64 c.ne, Value.bool c.ys, Value.int IntKind.i64 c.op_kd, Value.string c.op_ky, Value.string c.op_ot, Value.int IntKind.i64 c.op_n, Value.int IntKind.i64 c.op_lo, Value.int IntKind.i64 c.op_hi, Value.int IntKind.i64 c.pl_nu, Value.int IntKind.i64 c.pl_fr, Value.int IntKind.i64 c.pl_to, Value.string c.pl_lo, Value.string c.pl_hi, Value.int IntKind.i64 c.pl_cl, Value.int IntKind.i64 c.pl_sq, Value.slice ai ni ci] : Bx } ∧
      true = true) ∧
      (some
      { ty := (36 : TypeId), cs := [Value.int IntKind.i64 c.op_kd, Value.string c.op_ky, Value.string c.op_ot, Value.int IntKind.i64 c.op_n, Value.int IntKind.i64 c.op_lo, Value.int IntKind.i64 c.op_hi] : Bx } =
      some
      { ty := (36 : TypeId), cs := [Value.int IntKind.i64 c.op_kd, Value.string c.op_ky, Value.string c.op_ot, Value.int IntKind.i64 c.op_n, Value.int IntKind.i64 c.op_lo, Value.int IntKind.i64 c.op_hi] : Bx } ∧
      true = true) ∧
      True))))))) ∧
      ∀ (x_4 : RpX),
      PtC b (begX x c) x_4.a x_4.m ∧
      m.sz ≤ x_4.m.sz ∧
      refE (begX x c) c.op_kd c.op_ky = (0 : Int) →
      true = true ∧
      ∃ (n : Int),
      CellsAt x_4.m b (3 : Nat) [Value.int IntKind.i64 n] ∧
      (Wr m.sz (fun (z : Nat) => z = b) x_4.m b (3 : Nat)
      #[Value.int IntKind.i64
      (IntKind.i64.wrap (n + (1 : Int)))].size ∧
      (True ∧ True) ∧
      (Wr m.sz (fun (z : Nat) => z = b)
      (x_4.m.setCells b (3 : Nat)
      [Value.int IntKind.i64
      (IntKind.i64.wrap (n + (1 : Int)))])
      b (4 : Nat)
      #[Value.int IntKind.i64
      (x.la + (1 : Int)),
      Value.int IntKind.i64 (plF x c),
      Value.int IntKind.i64 (plT x c),
      Value.string (plLo x c),
      Value.string (plHi x c),
      Value.int IntKind.i64 c.cl,
      Value.int IntKind.i64 c.sq].size ∧
      ifB (c.op_kd == (7 : Int))
      (∃ (n_14 : Int),
      CellsAt
      ((x_4.m.setCells b (3 : Nat)
      [Value.int IntKind.i64
      (IntKind.i64.wrap
      (n +
      (1 : Int)))]).setCells
      b (4 : Nat)
      [Value.int IntKind.i64
      (x.la + (1 : Int)),
      Value.int IntKind.i64 (plF x c),
      Value.int IntKind.i64 (plT x c),
      Value.string (plLo x c),
      Value.string (plHi x c),
      Value.int IntKind.i64 c.cl,
      Value.int IntKind.i64 c.sq])
      b (2 : Nat)
      [Value.int IntKind.i64 n_14] ∧
      Wr m.sz (fun (z : Nat) => z = b)
      ((x_4.m.setCells b (3 : Nat)
      [Value.int IntKind.i64
      (IntKind.i64.wrap
      (n +
      (1 :
      Int)))]).setCells
      b (4 : Nat)
      [Value.int IntKind.i64
      (x.la + (1 : Int)),
      Value.int IntKind.i64
      (plF x c),
      Value.int IntKind.i64
      (plT x c),
      Value.string (plLo x c),
      Value.string (plHi x c),
      Value.int IntKind.i64 c.cl,
      Value.int IntKind.i64 c.sq])
      b (2 : Nat)
      #[Value.int IntKind.i64
      (IntKind.i64.wrap
      (n_14 +
      (1 : Int)))].size ∧
      Done
      (PtR b (startE x c)
      (Value.slice none (0 : Nat)
      (0 : Nat))
      (((x_4.m.setCells b (3 : Nat)
      [Value.int IntKind.i64
      (IntKind.i64.wrap
      (n +
      (1 :
      Int)))]).setCells
      b (4 : Nat)
      [Value.int IntKind.i64
      (x.la + (1 : Int)),
      Value.int IntKind.i64
      (plF x c),
      Value.int IntKind.i64
      (plT x c),
      Value.string (plLo x c),
      Value.string (plHi x c),
      Value.int IntKind.i64
      c.cl,
      Value.int IntKind.i64
      c.sq]).setCells
      b (2 : Nat)
      [Value.int IntKind.i64
      (IntKind.i64.wrap
      (n_14 + (1 : Int)))])))
      (Done
      (PtR b (startE x c)
      (Value.slice none (0 : Nat) (0 : Nat))
      ((x_4.m.setCells b (3 : Nat)
      [Value.int IntKind.i64
      (IntKind.i64.wrap
      (n +
      (1 : Int)))]).setCells
      b (4 : Nat)
      [Value.int IntKind.i64
      (x.la + (1 : Int)),
      Value.int IntKind.i64 (plF x c),
      Value.int IntKind.i64 (plT x c),
      Value.string (plLo x c),
      Value.string (plHi x c),
      Value.int IntKind.i64 c.cl,
      Value.int IntKind.i64 c.sq])))) ∧
      True) ∧
      True) ∧
      True) (by kernel_rfl) ?_
  have hlen := right_len hr.ps
  have hpos := right_pos hr.ps
  have hla0 := hr.la0
  have hla1 := hr.la1
  have hnx0 := hr.nx0
  have hnx1 := hr.nx1
  have hgr : ∀ k, k < x.ps.length → 1 ≤ (plAt x.ps k).gr := fun k hk => by
    have := (right_iff.1 hr.ps).2.1 x.ps[k] (List.getElem_mem hk)
    rw [plAt_at hk]
    simp [plB, grpB] at this
    exact this.1.1
  have no : ∀ m', PtC b x a m' → startE x c = (x, []) → Done (PtR b (startE x c) (.slice none 0 0) m') := fun m' h' e => ⟨by rw [e]; exact ⟨a, none, 0, h', rfl, .nil _⟩⟩
  have e0 : (argB c.cl c.sq && ((decide (c.op_kd = 7) || decide (c.op_kd = 8)) && keyB c.op_ky)) = false → startE x c = (x, []) := fun e => by unfold startE; rw [if_pos e]
  have eE : (beginM x.ms c.cl c.sq).2.2 ≠ 0 → startE x c = (x, []) := fun e => by
    unfold startE
    by_cases q : (argB c.cl c.sq && ((decide (c.op_kd = 7) || decide (c.op_kd = 8)) && keyB c.op_ky)) = false
    · rw [if_pos q]
    · rw [if_neg q, if_pos e]
  have harg : (beginM x.ms c.cl c.sq).2.2 = 0 → argB c.cl c.sq = true := fun e => by
    unfold beginM at e
    rw [if_neg (by rw [hr.ms]; simp)] at e
    by_cases q : argB c.cl c.sq = false
    · rw [if_pos q] at e; cases e
    · simpa using q
  have e1 : (beginM x.ms c.cl c.sq).2.2 = 0 → ((decide (c.op_kd = 7) || decide (c.op_kd = 8)) && keyB c.op_ky) = true → startE x c = if (beginM x.ms c.cl c.sq).2.1 = false then
      (let k := (findO x.ms c.cl).getD m0
       if k.op = true ∨ k.an_er = 80 then (x, []) else (x, [⟨1, c.cl, c.sq, k.an_er, k.an_va, k.an_le, k.an_mo⟩]))
    else
      (if refE (begX x c) c.op_kd c.op_ky ≠ 0 then doneE (begX x c) c.cl c.sq (refE (begX x c) c.op_kd c.op_ky) else (begP (begX x c) c, [])) := fun q1 q2 => by
    unfold startE
    rw [if_neg (by rw [harg q1, q2]; simp), if_neg (by rw [q1]; simp)]
    rfl
  refine ⟨rfl, rfl, _, _, _, ct_cell h.cells 11 _ rfl rfl, ⟨_, noS, fun N hN => (rbegin_s a.am a.cm x.ms c.cl c.sq hm _ (h.r.ms.sz hN)).monoW fun v m' hag ⟨⟨am, cm, hv, hrow⟩⟩ => ⟨_, _, _, _, _, hv, ifB_intro (fun g => no _ (h.step hN hag) (eE (by simpa using g))) (fun g => ?_), fun y ⟨P, prow, psz, pe, pk⟩ => ⟨ifB_intro (fun g => ?_) (fun g => ⟨⟨y.am, y.cm, a, y.m⟩, ⟨P, prow, psz, pe, pk, not_f g⟩, rfl, by simp⟩), fun z ⟨Q, qrow, qsz, qe, qk, qf⟩ => ?_⟩⟩⟩, trivial⟩
  · have h1 := h.step hN hag
    have hsz : m.sz ≤ m'.sz := by have := hag.2.2; simp only at this; omega
    have g : (beginM x.ms c.cl c.sq).2.2 = 0 := by simpa using g
    refine ifB_intro (fun g2 => ifB_intro (fun g3 => no _ h1 (e0 ?_)) (fun g3 => ⟨_, rkey_q _ _, ifB_intro (fun g4 => no _ h1 (e0 ?_)) (fun g4 => ⟨⟨am, cm, a, m'⟩, ⟨h1, hrow, hsz, g, ?_⟩, rfl, by simp⟩)⟩)) (fun g2 => ⟨_, rkey_q _ _, ifB_intro (fun g4 => no _ h1 (e0 ?_)) (fun g4 => ⟨⟨am, cm, a, m'⟩, ⟨h1, hrow, hsz, g, ?_⟩, rfl, by simp⟩)⟩)
    · have k1 : ¬ c.op_kd = 7 := by simpa using g2
      have k2 : ¬ c.op_kd = 8 := by simpa using g3
      rw [decide_eq_false k1, decide_eq_false k2]; simp
    · rw [not_t g4]; simp
    · have k2 : c.op_kd = 8 := by simpa using g3
      rw [not_f g4, decide_eq_true k2]; simp
    · rw [not_t g4]; simp
    · have k2 : c.op_kd = 7 := by simpa using g2
      rw [not_f g4, decide_eq_true k2]; simp
  · have g2 := not_t g
    have e1 := e1 pe pk
    rw [if_pos g2] at e1
    have hf := rfind_q a.am a.cm x.ms c.cl hm _ P.r.ms
    refine ⟨rfl, _, _, _, ct_cell P.cells 11 _ rfl rfl, _, _, _, _, _, _, _, _, hf, ?_⟩
    have hk : ∃ k0, findO x.ms c.cl = some k0 ∧ k0.cl = c.cl ∧ k0.sq = c.sq := by
      have q1 := pe
      have q2 := g2
      unfold beginM at q1 q2
      rw [if_neg (by rw [hr.ms]; simp), if_neg (by rw [harg pe]; simp)] at q1 q2
      cases ho : ofM x.ms c.cl with
      | none => rw [ho] at q2; simp at q2
      | some k0 =>
        rw [ho] at q1 q2
        simp only at q1 q2
        by_cases r1 : c.sq < k0.sq
        · rw [if_pos r1] at q1; simp at q1
        · rw [if_neg r1] at q2
          by_cases r2 : k0.sq = c.sq
          · exact ⟨k0, by simp [findO, hr.ms, ho], (ofM_some ho).2, r2⟩
          · rw [if_neg r2] at q2; simp at q2
    obtain ⟨k0, hk0, hk1, hk2⟩ := hk
    rw [hk0] at e1 ⊢
    simp only [Option.getD_some] at e1 ⊢
    refine ifB_intro (fun g3 => no _ P (by rw [e1, if_pos (.inl g3)])) (fun g3 => ifB_intro (fun g4 => no _ P (by rw [e1, if_pos (.inr (by simpa using g4))])) (fun g4 => ⟨by trivial, fun b2 hb2 => ⟨?_⟩⟩))
    rw [e1, if_neg]
    · rw [← hk1, ← hk2]
      exact ⟨a, some ⟨b2, 0, none⟩, 1, P.newBlock hb2, rfl, .at _ _ _ (by simp only [M.newBlock]; omega) cellsAt_new⟩
    · rintro (q | q)
      · rw [q] at g3; cases g3
      · simp [q] at g4
  · have e1 := e1 qe qk
    rw [if_neg (by rw [qf]; simp)] at e1
    have hbl : (beginM x.ms c.cl c.sq).1.length ≤ 9 := begin_len _ _ _
    obtain ⟨w1, h2⟩ := Q.set (x' := begX x c) (a' := { a with am := z.am, cm := z.cm }) (p := (encCt x a).take 11) (old := [.slice a.am x.ms.length a.cm]) (new := [.slice z.am (beginM x.ms c.cl c.sq).1.length z.cm]) (q := []) (j := 11) rfl rfl rfl rfl Q.r.ps qrow (B := m.sz) (S := fun z => z = b) (.inr rfl)
    have hE := repoch_q x a hm (by omega) _ Q.r
    rw [ric_iff.2 hr, if_pos rfl] at hE
    have hfi := rf_find x.ps a.ap a.cp c.op_ky (by omega) _ h2.r.ps
    rw [rfind_eq c.op_ky hr.ps] at hfi
    generalize ha2 : ({ a with am := z.am, cm := z.cm } : Ca) = a2 at *
    have hap : a2.ap = a.ap := by rw [← ha2]
    have hacp : a2.cp = a.cp := by rw [← ha2]
    generalize hm2 : z.m.setCells b 11 [Value.slice z.am (beginM x.ms c.cl c.sq).1.length z.cm] = m2 at *
    have hsz2 : m.sz ≤ m2.sz := by rw [← hm2]; exact qsz
    have hf := findL_len c.op_ky hpos
    have wl : IntKind.i64.wrap (x.la + 1) = x.la + 1 := by simp [IntKind.wrap_i64]; omega
    have wi : IntKind.i64.wrap (((findL c.op_ky x.ps 0 0 : Nat) : Int) + 1) = ((findL c.op_ky x.ps 0 0 + 1 : Nat) : Int) := by simp [IntKind.wrap_i64]; omega
    obtain ⟨b5, o5, hb5, hc5⟩ := h2.r.ps.cells (by rw [pl_len]; show x.ps.length * 3 ≠ 0; omega)
    have hc5 : CellsAt m2 b5 o5 (pls x.ps) := hc5
    have gr : ∀ k, k < x.ps.length → CellsAt m2 b5 (o5 + k * 3 + 0) [I (plAt x.ps k).gr] := fun k hk => by
      have := pl_grc hc5 hk
      rw [← plAt_at hk] at this; exact this
    have fr : ∀ k, k < x.ps.length → CellsAt m2 b5 (o5 + k * 3 + 1) [.string (plAt x.ps k).fr] := fun k hk => by
      have := pl_frc hc5 hk
      rw [← plAt_at hk] at this; exact this
    have c1 : CellsAt m2 b 1 [.slice a2.ap x.ps.length a2.cp] := ct_cell h2.cells 1 _ rfl rfl
    have hfi2 : QSpec Try.prog 65 [.slice a2.ap x.ps.length a2.cp, .string c.op_ky] m2 (I (findL c.op_ky x.ps 0 0)) := by rw [hap, hacp]; exact hfi
    have he : ∀ k : Nat, k < 1048576 → QSpec Try.prog 66 [.slice a2.ap x.ps.length a2.cp, I k] m2 (.string (endP x.ps k)) := fun k hk => by
      have := rf_end x.ps a2.ap a2.cp (k : Int) (by unfold In64; omega) (by omega) _ h2.r.ps
      rw [endI_nat] at this
      exact this
    refine ⟨_, _, _, _, _, _, _, _, _, _, _, _, _, _, _, _, Q.cells, _, hE, w1, rfl, _, _, _, c1, _, hfi2, rfl, _, ct_cell h2.cells 3 _ rfl rfl, ?_⟩
    rw [wi]
    refine ⟨ifB_intro (fun g4 => ?_) (fun g4 => ⟨_, _, _, c1, ifB_intro (fun g5 => ?_) (fun g5 => ?_)⟩), fun u ⟨U, usz⟩ => ?_⟩
    · have k7 : c.op_kd = 7 := by simpa using g4
      refine ⟨rfl, _, _, _, c1, b5, o5, hb5, by omega, _, by simpa [fnd] using gr _ hf, _, ct_cell h2.cells 2 _ rfl rfl, _, _, _, c1, _, he _ (by omega), ⟨none, 0, a2, m2⟩, ⟨h2, hsz2⟩, rfl, by simp [fnd], ?_⟩
      refine ⟨⟨?_, rfl⟩, by simp⟩
      simp only [plF, plT, plLo, plHi, k7, if_true]
      congr 2
      show [Value.int .i64 (IntKind.i64.wrap (x.la + 1)), _, _, _, _, _, _] = _
      rw [wl]; rfl
    · have k7 : ¬ c.op_kd = 7 := by simpa using g4
      have hnxt : findL c.op_ky x.ps 0 0 + 1 < x.ps.length := by have := of_decide_eq_true g5; omega
      refine ⟨rfl, _, _, _, c1, b5, o5, hb5, by omega, _, by simpa [fnd] using gr _ hnxt, _, _, _, c1, b5, o5, hb5, by omega, _, by simpa [fnd] using gr _ hf, _, _, _, c1, b5, o5, hb5, by omega, _, by simpa [fnd] using fr _ hnxt, _, _, _, c1, _, he _ (by omega), ⟨none, 0, a2, m2⟩, ⟨h2, hsz2⟩, rfl, by simp [fnd], ?_⟩
      refine ⟨⟨?_, rfl⟩, by simp⟩
      have hn2 : fnd x.ps c.op_ky + 1 < x.ps.length := hnxt
      simp only [plF, plT, plLo, plHi, k7, if_false, hn2, if_true]
      congr 2
      show [Value.int .i64 (IntKind.i64.wrap (x.la + 1)), _, _, _, _, _, _] = _
      rw [wl]; rfl
    · have k7 : ¬ c.op_kd = 7 := by simpa using g4
      have hnxt : ¬ findL c.op_ky x.ps 0 0 + 1 < x.ps.length := by have := of_decide_eq_false g5; omega
      refine ⟨⟨none, 0, a2, m2⟩, ⟨h2, hsz2⟩, rfl, by simp [fnd], ?_⟩
      refine ⟨⟨?_, rfl⟩, by simp⟩
      have hn2 : ¬ fnd x.ps c.op_ky + 1 < x.ps.length := hnxt
      simp only [plF, plT, plLo, plHi, k7, if_false, hn2]
      congr 2
      show [Value.int .i64 (IntKind.i64.wrap (x.la + 1)), _, _, _, _, _, _] = _
      rw [wl]; rfl
    · have dn : ∀ er : Int, refE (begX x c) c.op_kd c.op_ky = er → er ≠ 0 → ∃ S' : Nat → Prop, (∀ z, S' z → u.m.uf z ∧ (m.sz ≤ z ∨ z = b)) ∧ ∀ N, u.m.sz ≤ N → SpecW Try.prog 36 [.pointer (some ⟨b, 0, none⟩), I c.cl, I c.sq, I er] { u.m with sz := N } S' fun v m' => ∃ a n c_6, v = .slice a n c_6 ∧ Done (PtR b (startE x c) (.slice a n c_6) m') := fun er h1 h2 => by
        refine ⟨fun z => z = b, fun z e => by subst e; exact ⟨U.uf, .inr rfl⟩, fun N2 hN2 => (rdone_s (begX x c) u.a b c.cl c.sq er (by show (beginM x.ms c.cl c.sq).1.length ≤ _; omega) _ (U.sz hN2)).mono fun v2 m2 hag2 ⟨⟨a', av, cv, q1, q2, q3⟩⟩ => ⟨_, _, _, q2, ⟨?_⟩⟩⟩
        rw [e1, h1, if_pos h2]
        exact ⟨a', av, cv, q1, rfl, q3⟩
      have eps : (begX x c).ps = x.ps := rfl
      have enx : (begX x c).nx = x.nx := rfl
      have ela : (begX x c).la = x.la := rfl
      have enu : (begX x c).nu = x.nu := rfl
      obtain ⟨b6, o6, hb6, hc6⟩ := U.r.ps.cells (by rw [pl_len]; show x.ps.length * 3 ≠ 0; omega)
      have hc6 : CellsAt u.m b6 o6 (pls x.ps) := hc6
      have fr6 : CellsAt u.m b6 (o6 + fnd x.ps c.op_ky * 3 + 1) [.string (plAt x.ps (fnd x.ps c.op_ky)).fr] := by
        have := pl_frc hc6 hf
        rw [← plAt_at hf] at this; exact this
      have u1 : CellsAt u.m b 1 [.slice u.a.ap x.ps.length u.a.cp] := ct_cell U.cells 1 _ rfl rfl
      have hpf : plF x c = 0 ↔ (c.op_kd ≠ 7 ∧ fnd x.ps c.op_ky + 1 ≥ x.ps.length) := by
        unfold plF
        by_cases k7 : c.op_kd = 7
        · have := hgr _ hf
          unfold fnd
          simp [k7]; omega
        · by_cases k8 : fnd x.ps c.op_ky + 1 < x.ps.length
          · have := hgr _ k8
            simp [k7, k8]; omega
          · simp [k7, k8]; omega
      refine ⟨⟨_, by have := cells_sub U.cells (p := (encCt (begX x c) u.a).take 4) (ds := [I x.nu]) (q := (encCt (begX x c) u.a).drop 5) rfl rfl; rwa [Nat.zero_add] at this, ifB_intro (fun g4 => dn 190 ?_ (by decide)) (fun g4 => ⟨by trivial, ?_⟩)⟩, fun w ⟨W, wsz, wz⟩ => ?_⟩
      · have k : x.nu ≠ 0 := by simpa using g4
        unfold refE; rw [enu, if_pos k]
      · have k0 : x.nu = 0 := by simpa using g4
        have R0 : refE (begX x c) c.op_kd c.op_ky = if c.op_kd = 7 ∧ (plAt x.ps (fnd x.ps c.op_ky)).fr = c.op_ky then 171 else if c.op_kd = 7 ∧ (x.nx ≥ 8 ∨ x.ps.length ≥ 7) then 3 else if plF x c = 0 then 170 else if epochL x.ps ≥ 4611686018427387904 ∨ x.la ≥ 4611686018427387904 then 170 else 0 := by
          unfold refE
          rw [enu, eps, enx, ela, if_neg (by omega)]
          simp only [hpf]
        have hf2 : fnd x.ps c.op_ky < x.ps.length := hf
        refine ifB_intro (fun g5 => ⟨_, _, _, u1, b6, o6, hb6, by omega, _, by simpa using fr6, ifB_intro (fun g6 => dn 171 ?_ (by decide)) (fun g6 => ifB_intro (fun g7 => ⟨_, ct_cell U.cells 2 _ rfl rfl, ifB_intro (fun g8 => dn 3 ?_ (by decide)) (fun g8 => ⟨_, _, _, u1, ifB_intro (fun g9 => dn 3 ?_ (by decide)) (fun g9 => ?_)⟩)⟩) (fun g7 => by rw [g5] at g7; cases g7))⟩) (fun g5 => ifB_intro (fun g7 => by rw [g5] at g7; cases g7) (fun g7 => ?_))
        all_goals try rw [bytes_beq] at g6
        · have k7 : c.op_kd = 7 := by simpa using g5
          rw [R0, if_pos ⟨k7, of_decide_eq_true g6⟩]
        · have k7 : c.op_kd = 7 := by simpa using g5
          have g8 : x.nx = 8 := by simpa [enx] using g8
          rw [R0, if_neg (fun e => of_decide_eq_false g6 e.2), if_pos ⟨k7, .inl (by omega)⟩]
        · have k7 : c.op_kd = 7 := by simpa using g5
          have g9 := of_decide_eq_true g9
          rw [R0, if_neg (fun e => of_decide_eq_false g6 e.2), if_pos ⟨k7, .inr (by omega)⟩]
        · have k7 : c.op_kd = 7 := by simpa using g5
          have g8 : ¬ x.nx = 8 := by simpa [enx] using g8
          have g9 := of_decide_eq_false g9
          have H : refE (begX x c) c.op_kd c.op_ky = if plF x c = 0 then 170 else if epochL x.ps ≥ 4611686018427387904 ∨ x.la ≥ 4611686018427387904 then 170 else 0 := by
              rw [R0, if_neg (fun e => of_decide_eq_false g6 e.2), if_neg (by omega)]
          refine ifB_intro (fun q => dn 170 (by rw [H, if_pos (by simpa using q)]) (by decide)) (fun q => ifB_intro (fun q2 => dn 170 ?_ (by decide)) (fun q2 => ⟨_, ct_cell U.cells 3 _ rfl rfl, ifB_intro (fun q3 => dn 170 ?_ (by decide)) (fun q3 => ⟨⟨none, 0, u.a, u.m⟩, ⟨U, usz, ?_⟩, rfl, by simp⟩)⟩))
          · have q1 : ¬ plF x c = 0 := by simpa using q
            have q2 := of_decide_eq_true q2
            rw [H, if_neg q1, if_pos (.inl (by omega))]
          · have q1 : ¬ plF x c = 0 := by simpa using q
            have q3 : x.la = 4611686018427387904 := by simpa [ela] using q3
            rw [H, if_neg q1, if_pos (.inr (by omega))]
          · have q1 : ¬ plF x c = 0 := by simpa using q
            have q2 := of_decide_eq_false q2
            have q3 : ¬ x.la = 4611686018427387904 := by simpa [ela] using q3
            rw [H, if_neg q1, if_neg (by omega)]
        · have k7 : ¬ c.op_kd = 7 := by simpa using g5
          have H : refE (begX x c) c.op_kd c.op_ky = if plF x c = 0 then 170 else if epochL x.ps ≥ 4611686018427387904 ∨ x.la ≥ 4611686018427387904 then 170 else 0 := by
              rw [R0, if_neg (fun e => k7 e.1), if_neg (fun e => k7 e.1)]
          refine ifB_intro (fun q => dn 170 (by rw [H, if_pos (by simpa using q)]) (by decide)) (fun q => ifB_intro (fun q2 => dn 170 ?_ (by decide)) (fun q2 => ⟨_, ct_cell U.cells 3 _ rfl rfl, ifB_intro (fun q3 => dn 170 ?_ (by decide)) (fun q3 => ⟨⟨none, 0, u.a, u.m⟩, ⟨U, usz, ?_⟩, rfl, by simp⟩)⟩))
          · have q1 : ¬ plF x c = 0 := by simpa using q
            have q2 := of_decide_eq_true q2
            rw [H, if_neg q1, if_pos (.inl (by omega))]
          · have q1 : ¬ plF x c = 0 := by simpa using q
            have q3 : x.la = 4611686018427387904 := by simpa [ela] using q3
            rw [H, if_neg q1, if_pos (.inr (by omega))]
          · have q1 : ¬ plF x c = 0 := by simpa using q
            have q2 := of_decide_eq_false q2
            have q3 : ¬ x.la = 4611686018427387904 := by simpa [ela] using q3
            rw [H, if_neg q1, if_neg (by omega)]
      · have Z := refE_zero.1 wz
        rw [wz] at e1
        simp only [ne_eq, not_true_eq_false, if_false] at e1
        have hn : (begP (begX x c) c) = if c.op_kd = 7 then { begX x c with la := x.la + 1, nu := x.la + 1, fr := plF x c, to := plT x c, lo := plLo x c, hi := plHi x c, cl := c.cl, sq := c.sq, nx := x.nx + 1 } else { begX x c with la := x.la + 1, nu := x.la + 1, fr := plF x c, to := plT x c, lo := plLo x c, hi := plHi x c, cl := c.cl, sq := c.sq } := by
          by_cases k7 : c.op_kd = 7
          · simp only [begP, plF, plT, plLo, plHi, k7, if_true]; rfl
          · have hx : fnd x.ps c.op_ky + 1 < x.ps.length := Z.nxt k7
            simp only [begP, plF, plT, plLo, plHi, k7, if_false, hx, if_true]; rfl
        have hnx2 : IntKind.i64.wrap (x.nx + 1) = x.nx + 1 := by simp [IntKind.wrap_i64]; omega
        obtain ⟨w2, h3⟩ := W.set (x' := { begX x c with la := x.la + 1 }) (a' := w.a) (p := (encCt (begX x c) w.a).take 3) (old := [I x.la]) (new := [I (x.la + 1)]) (q := (encCt (begX x c) w.a).drop 4) (j := 3) rfl rfl rfl rfl W.r.ps W.r.ms (B := m.sz) (S := fun z => z = b) (.inr rfl)
        obtain ⟨w3, h4⟩ := h3.set (x' := { begX x c with la := x.la + 1, nu := x.la + 1, fr := plF x c, to := plT x c, lo := plLo x c, hi := plHi x c, cl := c.cl, sq := c.sq }) (a' := w.a) (p := [I x.ix, .slice w.a.ap x.ps.length w.a.cp, I x.nx, I (x.la + 1)]) (old := [I x.nu, I x.fr, I x.to, .string x.lo, .string x.hi, I x.cl, I x.sq]) (new := [I (x.la + 1), I (plF x c), I (plT x c), .string (plLo x c), .string (plHi x c), I c.cl, I c.sq]) (q := [.slice w.a.am (beginM x.ms c.cl c.sq).1.length w.a.cm]) (j := 4) rfl rfl rfl rfl h3.r.ps h3.r.ms (B := m.sz) (S := fun z => z = b) (.inr rfl)
        refine ⟨rfl, _, ct_cell W.cells 3 _ rfl rfl, ⟨by rw [ela, wl]; exact w2, ⟨trivial, trivial⟩, ?_, trivial⟩, trivial⟩
        rw [ela, wl]
        refine ⟨w3, ifB_intro (fun g4 => ⟨_, ct_cell h4.cells 2 _ rfl rfl, ?_⟩) (fun g4 => ⟨?_⟩)⟩
        · have k7 : c.op_kd = 7 := by simpa using g4
          rw [if_pos k7] at hn
          obtain ⟨w4, h5⟩ := h4.set (x' := begP (begX x c) c) (a' := w.a) (p := [I x.ix, .slice w.a.ap x.ps.length w.a.cp]) (old := [I x.nx]) (new := [I (x.nx + 1)]) (q := (encCt { begX x c with la := x.la + 1, nu := x.la + 1, fr := plF x c, to := plT x c, lo := plLo x c, hi := plHi x c, cl := c.cl, sq := c.sq } w.a).drop 3) (j := 2) rfl (by rw [hn]; rfl) rfl rfl (by rw [hn]; exact h4.r.ps) (by rw [hn]; exact h4.r.ms) (B := m.sz) (S := fun z => z = b) (.inr rfl)
          refine ⟨by rw [show IntKind.i64.wrap ((begX x c).nx + 1) = x.nx + 1 from hnx2]; exact w4, ⟨?_⟩⟩
          rw [e1, show IntKind.i64.wrap ((begX x c).nx + 1) = x.nx + 1 from hnx2]
          exact ⟨w.a, none, 0, h5, rfl, .nil _⟩
        · have k7 : ¬ c.op_kd = 7 := by simpa using g4
          rw [if_neg k7] at hn
          rw [e1]
          refine ⟨w.a, none, 0, ?_, rfl, .nil _⟩
          rw [hn]; exact h4

end Go.Proofs.Ytjjfcaigonomiaa
set_option linter.unusedVariables false
set_option linter.unusedSimpArgs false
namespace Go.Proofs.Ytjjfcaigonomiaa
open Go.Vc Go.RowKit
set_option maxRecDepth 100000

theorem row_freshC {m : M} {b B : Nat} {a : Option Addr} {cs ds : List Value} (h : Row m a cs) (hf : Fresh B m b) : Row (m.newBlock b ds) a cs := by
  by_cases e : cs = []
  · subst e; exact .nil _
  · refine h.of (by simp only [M.newBlock]; omega) fun b' o e2 _ => newBlock_other fun e3 => ?_
    subst e3
    obtain ⟨b2, o2, e4, hc⟩ := h.cells (fun e5 => e (List.eq_nil_of_length_eq_zero e5))
    rw [e2] at e4
    cases e4
    have h1 := hc.out 0 (List.length_pos_iff.2 e)
    rw [hf.cells] at h1
    rw [List.getElem?_eq_getElem (List.length_pos_iff.2 e)] at h1
    cases h1

theorem CtR.freshC {m : M} {x : Ct} {a : Ca} {B b : Nat} {ds : List Value} (h : CtR m x a) (hb : Fresh B m b) : CtR (m.newBlock b ds) x a := ⟨row_freshC h.ps hb, row_freshC h.ms hb⟩

theorem PtC.newC {m : M} {x : Ct} {a : Ca} {b2 B : Nat} (hb : Fresh B m b2) (r : CtR m x a) : PtC b2 x a (m.newBlock b2 (encCt x a)) :=
  ⟨cellsAt_new, fun j hj => by simp only [M.newBlock]; rw [show Nat.beq b2 b2 = true by simp]; exact List.getElem?_eq_none (by simpa using hj), .inl rfl, by simp only [M.newBlock]; omega, r.freshC hb⟩

theorem RiC.ix {x : Ct} (h : RiC x) {i : Int} (h1 : 0 ≤ i) (h2 : i ≤ 4611686018427387904) : RiC { x with ix := i } := ⟨h1, h2, h.la0, h.la1, h.nx0, h.nx1, h.ps, h.ms, h.gr, h.pn⟩

theorem copied_s (x : Ct) (a : Ca) (hr : RiC x) (m : M) (h : CtR m x a) : Vc.Spec Try.prog 30 [ctv x a] m fun v m' => ∃ a', v = ctv x a' ∧ CtR m' x a' := by
  refine Vc.Spec.of_vc Try.func30 (ann := noAnn) ?_
  refine vc_by (X :=
      true = true ∧
      true = true ∧
      (∃ (S' : Nat → Prop),
      (∀ (b : Nat), S' b → m.uf b ∧ (m.sz ≤ b ∨ False)) ∧
      ∀ (n : Nat),
      m.sz ≤ n →
      SpecW Try.prog (49 : Nat) [Value.slice a.ap x.ps.length a.cp] { π := m.π, sz := n, uf := m.uf : M } S' fun (v : Value) (m' : M) =>
      ∃ (a_2 : Option Addr),
      ∃ (n : Nat),
      ∃ (c : Nat),
      v = Value.slice a_2 n c ∧
      MLe m m' ∧
      (∃ (S' : Nat → Prop),
      (∀ (b : Nat), S' b → m'.uf b ∧ (m.sz ≤ b ∨ False)) ∧
      ∀ (n_1 : Nat),
      m'.sz ≤ n_1 →
      SpecW Try.prog (57 : Nat) [Value.slice a.am x.ms.length a.cm] { π := m'.π, sz := n_1, uf := m'.uf : M } S' fun (v : Value) (m' : M) =>
      ∃ (a : Option Addr),
      ∃ (n_2 : Nat),
      ∃ (c_1 : Nat),
      v = Value.slice a n_2 c_1 ∧
      Done
      (∃ (a' : Ca),
      Value.agg
      #[Value.int IntKind.i64 x.ix, Value.slice a_2 n c, Value.int IntKind.i64 x.nx, Value.int IntKind.i64 x.la,
      Value.int IntKind.i64 x.nu, Value.int IntKind.i64 x.fr, Value.int IntKind.i64 x.to, Value.string x.lo, Value.string x.hi,
      Value.int IntKind.i64 x.cl, Value.int IntKind.i64 x.sq, Value.slice a n_2 c_1] =
      Value.agg
      #[Value.int IntKind.i64 x.ix, Value.slice a'.ap x.ps.length a'.cp, Value.int IntKind.i64 x.nx, Value.int IntKind.i64 x.la,
      Value.int IntKind.i64 x.nu, Value.int IntKind.i64 x.fr, Value.int IntKind.i64 x.to, Value.string x.lo, Value.string x.hi,
      Value.int IntKind.i64 x.cl, Value.int IntKind.i64 x.sq, Value.slice a'.am x.ms.length a'.cm] ∧
      CtR m' x a')) ∧
      True) ∧
      True) (by kernel_rfl) ?_
  have hl := right_len hr.ps
  have hm := tab8 hr.ms
  refine ⟨rfl, rfl, ⟨_, noS, fun N hN => (pl_clone x.ps a.ap a.cp (by omega) (row_h0 h.ps) _ (h.ps.sz hN)).monoW fun v m' hag ⟨ap, cp, hv, hr1⟩ => ⟨_, _, _, hv, MLe.ofAgree hN hag, ⟨_, noS, fun N2 hN2 => (mk_clone x.ms a.am a.cm (by omega) (mk_none h.ms) _ (((h.ms.sz hN).agree hag).sz hN2)).monoW fun v2 m2 hag2 ⟨am, cm, hv2, hr2⟩ => ⟨_, _, _, hv2, ⟨⟨⟨ap, cp, am, cm⟩, rfl, ?_, hr2.row⟩⟩⟩⟩, trivial⟩⟩, trivial⟩
  exact (hr1.row.sz hN2).agree hag2

theorem rcopy_s (x : Ct) (a : Ca) (hl : x.ps.length ≤ 4398046510976) (hm : x.ms.length ≤ 2513169434843) (m : M) (h : CtR m x a) : Vc.Spec Try.prog 22 [ctv x a] m fun v m' => ∃ a', v = ctv x a' ∧ CtR m' x a' := by
  refine Vc.Spec.of_vc Try.func22 (ann := noAnn) ?_
  refine vc_by (X :=
      true = true ∧
      ∃ (old : List Value),
      ∃ (src : List Value),
      AppPre m.sz (fun (x : Nat) => False) m (3 : Nat) (32 : Nat) none (0 : Nat) (0 : Nat) a.ap x.ps.length old src ∧
      ∀ (a' : Option Addr) (c' : Nat) (m' : M),
      AppPost Try.prog (51 : Nat) m (3 : Nat) none (0 : Nat) (0 : Nat) x.ps.length old src a' c' m' →
      ∃ (old : List Value),
      ∃ (src : List Value),
      AppPre m.sz (fun (x : Nat) => False) m' (7 : Nat) (56 : Nat) none (0 : Nat) (0 : Nat) a.am x.ms.length old src ∧
      ∀ (a'_1 : Option Addr) (c'_1 : Nat) (m'_1 : M),
      AppPost Try.prog (56 : Nat) m' (7 : Nat) none (0 : Nat) (0 : Nat) x.ms.length old src a'_1 c'_1 m'_1 →
      Done
      (∃ (a'_2 : Ca),
      Value.agg
      #[Value.int IntKind.i64 x.ix, Value.slice a' ((0 : Nat) + x.ps.length) c', Value.int IntKind.i64 x.nx, Value.int IntKind.i64 x.la,
      Value.int IntKind.i64 x.nu, Value.int IntKind.i64 x.fr, Value.int IntKind.i64 x.to, Value.string x.lo, Value.string x.hi,
      Value.int IntKind.i64 x.cl, Value.int IntKind.i64 x.sq, Value.slice a'_1 ((0 : Nat) + x.ms.length) c'_1] =
      Value.agg
      #[Value.int IntKind.i64 x.ix, Value.slice a'_2.ap x.ps.length a'_2.cp, Value.int IntKind.i64 x.nx, Value.int IntKind.i64 x.la,
      Value.int IntKind.i64 x.nu, Value.int IntKind.i64 x.fr, Value.int IntKind.i64 x.to, Value.string x.lo, Value.string x.hi,
      Value.int IntKind.i64 x.cl, Value.int IntKind.i64 x.sq, Value.slice a'_2.am x.ms.length a'_2.cm] ∧
      CtR m'_1 x a'_2)) (by kernel_rfl) ?_
  have o1 : NewR m.sz (fun _ => False) m 3 none 0 0 [] := .nil _
  refine ⟨rfl, _, _, o1.appPre h.ps (pl_len _) (pl_one _) (by omega), fun a1 c1 m1 hp1 => ?_⟩
  have n1 := o1.append hp1 (pl_len _) pl_zr (Nat.le_refl _)
  have g1 := o1.appAgree hp1 (pl_len _) (Nat.le_refl _)
  have o2 : NewR m1.sz (fun _ => False) m1 7 none 0 0 [] := .nil _
  have hms := h.ms.agree g1
  refine ⟨_, _, (o2.lower g1.2.2).appPre hms (mk_len _) (mk_one _) (by omega), fun a2 c2 m2 hp2 => ⟨⟨⟨a1, c1, a2, c2⟩, ?_, ?_, ?_⟩⟩⟩
  · simp only [Nat.zero_add]
  · have := n1.row.agree (o2.appAgree hp2 (mk_len _) (Nat.le_refl _))
    simpa using this
  · have := (o2.append hp2 (mk_len _) mk_zr (Nat.le_refl _)).row
    simpa using this

/-- what a command makes of a chart -/
def applyE (x : Ct) (c : Cd) (ix : Int) : Ct × List Ef × Int :=
  if rightC x = false then (c0, [], 21)
  else if ix ≤ x.ix ∨ ix > 4611686018427387904 then (c0, [], 80)
  else
    (let y := { x with ix := ix }
     let g := y.nu ≠ 0 ∧ c.pl_nu = y.nu
     if c.kd = 12 then ((startE y c).1, (startE y c).2, 0)
     else if c.kd = 13 ∧ g then ((shfE y).1, (shfE y).2, 0)
     else if c.kd = 14 ∧ g then ((doneE (clrP y) y.cl y.sq 190).1, (doneE (clrP y) y.cl y.sq 190).2, 0)
     else (y, [], 0))

structure ApR (y : Ct × List Ef × Int) (v : Value) (m' : M) : Prop where
  out : ∃ a' av cv, v = .tuple #[ctv y.1 a', .slice av y.2.1.length cv, I y.2.2] ∧ CtR m' y.1 a' ∧ Row m' av (efs y.2.1)

theorem apply_s (x : Ct) (a : Ca) (c : Cd) (ai : Option Addr) (ni ci : Nat) (ix : Int) (hl : x.ps.length ≤ 9223372036854775807) (hm : x.ms.length ≤ 9223372036854775807) (m : M) (h : CtR m x a) :
    Vc.Spec Try.prog 11 [ctv x a, cdv c ai ni ci, I ix] m (ApR (applyE x c ix)) := by
  refine Vc.Spec.of_vc Try.func11 (ann := noAnn) ?_
  refine vc_by (X :=
      true = true ∧
      ∃ (b : Bool),
      QSpec Try.prog (29 : Nat)
      [Value.agg
      #[Value.int IntKind.i64 x.ix, Value.slice a.ap x.ps.length a.cp, Value.int IntKind.i64 x.nx, Value.int IntKind.i64 x.la, Value.int IntKind.i64 x.nu,
      Value.int IntKind.i64 x.fr, Value.int IntKind.i64 x.to, Value.string x.lo, Value.string x.hi, Value.int IntKind.i64 x.cl, Value.int IntKind.i64 x.sq,
      Value.slice a.am x.ms.length a.cm]]
      m (Value.bool b) ∧
      ifB (!b)
      (Done
      (ApR (applyE x c ix)
      (Value.tuple
      #[Value.agg
      #[Value.int IntKind.i64 (0 : Int), Value.slice none (0 : Nat) (0 : Nat), Value.int IntKind.i64 (0 : Int), Value.int IntKind.i64 (0 : Int),
      Value.int IntKind.i64 (0 : Int), Value.int IntKind.i64 (0 : Int), Value.int IntKind.i64 (0 : Int), Value.string { data := #[] : ByteArray },
      Value.string { data := #[] : ByteArray }, Value.int IntKind.i64 (0 : Int), Value.int IntKind.i64 (0 : Int), Value.slice none (0 : Nat) (0 : Nat)],
      Value.slice none (0 : Nat) (0 : Nat), Value.int IntKind.i64 (21 : Int)])
      m))
      (ifB (decide (ix ≤ x.ix))
      (Done
      (ApR (applyE x c ix)
      (Value.tuple
      #[Value.agg
      #[Value.int IntKind.i64 (0 : Int), Value.slice none (0 : Nat) (0 : Nat), Value.int IntKind.i64 (0 : Int), Value.int IntKind.i64 (0 : Int),
      Value.int IntKind.i64 (0 : Int), Value.int IntKind.i64 (0 : Int), Value.int IntKind.i64 (0 : Int), Value.string { data := #[] : ByteArray },
      Value.string { data := #[] : ByteArray }, Value.int IntKind.i64 (0 : Int), Value.int IntKind.i64 (0 : Int), Value.slice none (0 : Nat) (0 : Nat)],
      Value.slice none (0 : Nat) (0 : Nat), Value.int IntKind.i64 (80 : Int)])
      m))
      (ifB (decide (ix > (4611686018427387904 : Int)))
      (Done
      (ApR (applyE x c ix)
      (Value.tuple
      #[Value.agg
      #[Value.int IntKind.i64 (0 : Int), Value.slice none (0 : Nat) (0 : Nat), Value.int IntKind.i64 (0 : Int), Value.int IntKind.i64 (0 : Int),
      Value.int IntKind.i64 (0 : Int), Value.int IntKind.i64 (0 : Int), Value.int IntKind.i64 (0 : Int), Value.string { data := #[] : ByteArray },
      Value.string { data := #[] : ByteArray }, Value.int IntKind.i64 (0 : Int), Value.int IntKind.i64 (0 : Int), Value.slice none (0 : Nat) (0 : Nat)],
      Value.slice none (0 : Nat) (0 : Nat), Value.int IntKind.i64 (80 : Int)])
      m))
      (∀ (n : Nat),
      m.sz ≤ n →
      Vc.Spec Try.prog (30 : Nat)
      [Value.agg
      #[Value.int IntKind.i64 x.ix, Value.slice a.ap x.ps.length a.cp, Value.int IntKind.i64 x.nx, Value.int IntKind.i64 x.la, Value.int IntKind.i64 x.nu,
      Value.int IntKind.i64 x.fr, Value.int IntKind.i64 x.to, Value.string x.lo, Value.string x.hi, Value.int IntKind.i64 x.cl, Value.int IntKind.i64 x.sq,
      Value.slice a.am x.ms.length a.cm]]
      { π := m.π, sz := n, uf := m.uf : M } fun (v : Value) (m' : M) =>
      ∃ (n : Int),
      ∃ (a : Option Addr),
      ∃ (n_1 : Nat),
      ∃ (c_1 : Nat),
      ∃ (n_2 : Int),
      ∃ (n_3 : Int),
      ∃ (n_4 : Int),
      ∃ (n_5 : Int),
      ∃ (n_6 : Int),
      ∃ (s : ByteArray),
      ∃ (s_1 : ByteArray),
      ∃ (n_7 : Int),
      ∃ (n_8 : Int),
      ∃ (a_2 : Option Addr),
      ∃ (n_9 : Nat),
      ∃ (c_2 : Nat),
      v =
      Value.agg
      #[Value.int IntKind.i64 n, Value.slice a n_1 c_1, Value.int IntKind.i64 n_2, Value.int IntKind.i64 n_3,
      Value.int IntKind.i64 n_4, Value.int IntKind.i64 n_5, Value.int IntKind.i64 n_6, Value.string s, Value.string s_1,
      Value.int IntKind.i64 n_7, Value.int IntKind.i64 n_8, Value.slice a_2 n_9 c_2] ∧
      ifB (n_4 != (0 : Int))
      (ifB (c.kd == (12 : Int))
      (∀ (b : Nat),
      Fresh m.sz m' b →
      ∃ (S' : Nat → Prop),
      (∀ (b_1 : Nat),
      S' b_1 →
      (m'.newBlock b
      [Value.int IntKind.i64 ix, Value.slice a n_1 c_1, Value.int IntKind.i64 n_2, Value.int IntKind.i64 n_3,
      Value.int IntKind.i64 n_4, Value.int IntKind.i64 n_5, Value.int IntKind.i64 n_6, Value.string s,
      Value.string s_1, Value.int IntKind.i64 n_7, Value.int IntKind.i64 n_8, Value.slice a_2 n_9 c_2]).uf
      b_1 ∧
      (m.sz ≤ b_1 ∨ False)) ∧
      ∀ (n : Nat),
      max m'.sz (b + (1 : Nat)) ≤ n →
      SpecW Try.prog (31 : Nat)
      [Value.pointer (some { block := b, off := (0 : Nat) : Addr }),
      Value.agg
      #[Value.int IntKind.i64 c.kd, Value.int IntKind.i64 c.cl, Value.int IntKind.i64 c.sq,
      Value.int IntKind.i64 c.ep, Value.int IntKind.i64 c.nd, Value.int IntKind.i64 c.hm, Value.string c.ky,
      Value.int IntKind.i64 c.le, Value.int IntKind.i64 c.rn, Value.int IntKind.i64 c.ne, Value.bool c.ys,
      Value.int IntKind.i64 c.op_kd, Value.string c.op_ky, Value.string c.op_ot, Value.int IntKind.i64 c.op_n,
      Value.int IntKind.i64 c.op_lo, Value.int IntKind.i64 c.op_hi, Value.int IntKind.i64 c.pl_nu,
      Value.int IntKind.i64 c.pl_fr, Value.int IntKind.i64 c.pl_to, Value.string c.pl_lo,
      Value.string c.pl_hi, Value.int IntKind.i64 c.pl_cl, Value.int IntKind.i64 c.pl_sq,
      Value.slice ai ni ci]]
      { π := (m'.newBlock b [Value.int IntKind.i64 ix, Value.slice a n_1 c_1, Value.int IntKind.i64 n_2, Value.int IntKind.i64 n_3, Value.int IntKind.i64 n_4, Value.int IntKind.i64 n_5, Value.int IntKind.i64 n_6, Value.string s, Value.string s_1, Value.int IntKind.i64 n_7, Value.int IntKind.i64 n_8, Value.slice a_2 n_9 c_2]).π, sz := n, uf := (m'.newBlock b [Value.int IntKind.i64 ix, Value.slice a n_1 c_1, Value.int IntKind.i64 n_2, Value.int IntKind.i64 n_3, Value.int IntKind.i64 n_4, Value.int IntKind.i64 n_5, Value.int IntKind.i64 n_6, Value.string s, Value.string s_1, Value.int IntKind.i64 n_7, Value.int IntKind.i64 n_8, Value.slice a_2 n_9 c_2]).uf : M }
      S' fun (v : Value) (m' : M) =>
      ∃ (a : Option Addr),
      ∃ (n : Nat),
      ∃ (c_3 : Nat),
      v = Value.slice a n c_3 ∧
      ∃ (n_10 : Int),
      ∃ (a_5 : Option Addr),
      ∃ (n_11 : Nat),
      ∃ (c_4 : Nat),
      ∃ (n_12 : Int),
      ∃ (n_13 : Int),
      ∃ (n_14 : Int),
      ∃ (n_15 : Int),
      ∃ (n_16 : Int),
      ∃ (s : ByteArray),
      ∃ (s_2 : ByteArray),
      ∃ (n_17 : Int),
      ∃ (n_18 : Int),
      ∃ (a_6 : Option Addr),
      ∃ (n_19 : Nat),
      ∃ (c_5 : Nat),
      CellsAt m' b (0 : Nat)
      [Value.int IntKind.i64 n_10, Value.slice a_5 n_11 c_4,
      Value.int IntKind.i64 n_12, Value.int IntKind.i64 n_13,
      Value.int IntKind.i64 n_14, Value.int IntKind.i64 n_15,
      Value.int IntKind.i64 n_16, Value.string s, Value.string s_2,
      Value.int IntKind.i64 n_17, Value.int IntKind.i64 n_18,
      Value.slice a_6 n_19 c_5] ∧
      Done
      (ApR (applyE x c ix)
      (Value.tuple
      #[Value.agg
      #[Value.int IntKind.i64 n_10, Value.slice a_5 n_11 c_4,
      Value.int IntKind.i64 n_12, Value.int IntKind.i64 n_13,
      Value.int IntKind.i64 n_14, Value.int IntKind.i64 n_15,
      Value.int IntKind.i64 n_16, Value.string s,
      Value.string s_2, Value.int IntKind.i64 n_17,
      Value.int IntKind.i64 n_18, Value.slice a_6 n_19 c_5],
      Value.slice a n c_3, Value.int IntKind.i64 (0 : Int)])
      m'))
      (ifB (c.kd == (13 : Int))
      (ifB (!c.pl_nu == n_4)
      (Done
      (ApR (applyE x c ix)
      (Value.tuple
      #[Value.agg
      #[Value.int IntKind.i64 ix, Value.slice a n_1 c_1, Value.int IntKind.i64 n_2, Value.int IntKind.i64 n_3,
      Value.int IntKind.i64 n_4, Value.int IntKind.i64 n_5, Value.int IntKind.i64 n_6, Value.string s,
      Value.string s_1, Value.int IntKind.i64 n_7, Value.int IntKind.i64 n_8, Value.slice a_2 n_9 c_2],
      Value.slice none (0 : Nat) (0 : Nat), Value.int IntKind.i64 (0 : Int)])
      m'))
      (∀ (b : Nat),
      Fresh m.sz m' b →
      ∃ (S' : Nat → Prop),
      (∀ (b_1 : Nat),
      S' b_1 →
      (m'.newBlock b
      [Value.int IntKind.i64 ix, Value.slice a n_1 c_1, Value.int IntKind.i64 n_2,
      Value.int IntKind.i64 n_3, Value.int IntKind.i64 n_4, Value.int IntKind.i64 n_5,
      Value.int IntKind.i64 n_6, Value.string s, Value.string s_1, Value.int IntKind.i64 n_7,
      Value.int IntKind.i64 n_8, Value.slice a_2 n_9 c_2]).uf
      b_1 ∧
      (m.sz ≤ b_1 ∨ False)) ∧
      ∀ (n : Nat),
      max m'.sz (b + (1 : Nat)) ≤ n →
      SpecW Try.prog (32 : Nat) [Value.pointer (some { block := b, off := (0 : Nat) : Addr })]
      { π := (m'.newBlock b [Value.int IntKind.i64 ix, Value.slice a n_1 c_1, Value.int IntKind.i64 n_2, Value.int IntKind.i64 n_3, Value.int IntKind.i64 n_4, Value.int IntKind.i64 n_5, Value.int IntKind.i64 n_6, Value.string s, Value.string s_1, Value.int IntKind.i64 n_7, Value.int IntKind.i64 n_8, Value.slice a_2 n_9 c_2]).π, sz := n, uf := (m'.newBlock b [Value.int IntKind.i64 ix, Value.slice a n_1 c_1, Value.int IntKind.i64 n_2, Value.int IntKind.i64 n_3, Value.int IntKind.i64 n_4, Value.int IntKind.i64 n_5, Value.int IntKind.i64 n_6, Value.string s, Value.string s_1, Value.int IntKind.i64 n_7, Value.int IntKind.i64 n_8, Value.slice a_2 n_9 c_2]).uf : M }
      S' fun (v : Value) (m' : M) =>
      ∃ (b_1 : Bool),
      v = Value.bool b_1 ∧
      ifB (!b_1)
      (∃ (n : Int),
      ∃ (a : Option Addr),
      ∃ (n_10 : Nat),
      ∃ (c_3 : Nat),
      ∃ (n_11 : Int),
      ∃ (n_12 : Int),
      ∃ (n_13 : Int),
      ∃ (n_14 : Int),
      ∃ (n_15 : Int),
      ∃ (s : ByteArray),
      ∃ (s_2 : ByteArray),
      ∃ (n_16 : Int),
      ∃ (n_17 : Int),
      ∃ (a_5 : Option Addr),
      ∃ (n_18 : Nat),
      ∃ (c_4 : Nat),
      CellsAt m' b (0 : Nat)
      [Value.int IntKind.i64 n, Value.slice a n_10 c_3,
      Value.int IntKind.i64 n_11, Value.int IntKind.i64 n_12,
      Value.int IntKind.i64 n_13, Value.int IntKind.i64 n_14,
      Value.int IntKind.i64 n_15, Value.string s, Value.string s_2,
      Value.int IntKind.i64 n_16, Value.int IntKind.i64 n_17,
      Value.slice a_5 n_18 c_4] ∧
      Done
      (ApR (applyE x c ix)
      (Value.tuple
      #[Value.agg
      #[Value.int IntKind.i64 n, Value.slice a n_10 c_3,
      Value.int IntKind.i64 n_11,
      Value.int IntKind.i64 n_12,
      Value.int IntKind.i64 n_13,
      Value.int IntKind.i64 n_14,
      Value.int IntKind.i64 n_15, Value.string s,
      Value.string s_2, Value.int IntKind.i64 n_16,
      Value.int IntKind.i64 n_17, Value.slice a_5 n_18 c_4],
      Value.slice none (0 : Nat) (0 : Nat),
      Value.int IntKind.i64 (0 : Int)])
      m'))
      (ifB (!c.pl_nu == n_4)
      (∃ (n : Int),
      ∃ (a : Option Addr),
      ∃ (n_10 : Nat),
      ∃ (c_3 : Nat),
      ∃ (n_11 : Int),
      ∃ (n_12 : Int),
      ∃ (n_13 : Int),
      ∃ (n_14 : Int),
      ∃ (n_15 : Int),
      ∃ (s : ByteArray),
      ∃ (s_2 : ByteArray),
      ∃ (n_16 : Int),
      ∃ (n_17 : Int),
      ∃ (a_5 : Option Addr),
      ∃ (n_18 : Nat),
      ∃ (c_4 : Nat),
      CellsAt m' b (0 : Nat)
      [Value.int IntKind.i64 n, Value.slice a n_10 c_3,
      Value.int IntKind.i64 n_11, Value.int IntKind.i64 n_12,
      Value.int IntKind.i64 n_13, Value.int IntKind.i64 n_14,
      Value.int IntKind.i64 n_15, Value.string s,
      Value.string s_2, Value.int IntKind.i64 n_16,
      Value.int IntKind.i64 n_17, Value.slice a_5 n_18 c_4] ∧
      Done
      (ApR (applyE x c ix)
      (Value.tuple
      #[Value.agg
      #[Value.int IntKind.i64 n, Value.slice a n_10 c_3,
      Value.int IntKind.i64 n_11,
      Value.int IntKind.i64 n_12,
      Value.int IntKind.i64 n_13,
      Value.int IntKind.i64 n_14,
      Value.int IntKind.i64 n_15, Value.string s,
      Value.string s_2, Value.int IntKind.i64 n_16,
      Value.int IntKind.i64 n_17,
      Value.slice a_5 n_18 c_4],
      Value.slice none (0 : Nat) (0 : Nat),
      Value.int IntKind.i64 (0 : Int)])
      m'))
      (Wr m.sz (fun (x : Nat) => False) m' b (4 : Nat) (7 : Nat) ∧
      ∃ (S' : Nat → Prop),
      (∀ (b_2 : Nat),
      S' b_2 →
      (m'.setCells b (4 : Nat)
      [Value.int IntKind.i64 (0 : Int), Value.int IntKind.i64 (0 : Int),
      Value.int IntKind.i64 (0 : Int), Value.string { data := #[] : ByteArray },
      Value.string { data := #[] : ByteArray }, Value.int IntKind.i64 (0 : Int),
      Value.int IntKind.i64 (0 : Int)]).uf
      b_2 ∧
      (m.sz ≤ b_2 ∨ False)) ∧
      ∀ (n : Nat),
      m'.sz ≤ n →
      SpecW Try.prog (33 : Nat)
      [Value.pointer (some { block := b, off := (0 : Nat) : Addr }),
      Value.int IntKind.i64 n_7, Value.int IntKind.i64 n_8,
      Value.int IntKind.i64 (0 : Int)]
      { π := (m'.setCells b (4 : Nat) [Value.int IntKind.i64 (0 : Int), Value.int IntKind.i64 (0 : Int), Value.int IntKind.i64 (0 : Int), Value.string { data := #[] : ByteArray }, Value.string { data := #[] : ByteArray }, Value.int IntKind.i64 (0 : Int), Value.int IntKind.i64 (0 : Int)]).π, sz := n, uf := (m'.setCells b (4 : Nat) [Value.int IntKind.i64 (0 : Int), Value.int IntKind.i64 (0 : Int), Value.int IntKind.i64 (0 : Int), Value.string { data := #[] : ByteArray }, Value.string { data := #[] : ByteArray }, Value.int IntKind.i64 (0 : Int), Value.int IntKind.i64 (0 : Int)]).uf : M }
      S' fun (v : Value) (m' : M) =>
      ∃ (a : Option Addr),
      ∃ (n : Nat),
      ∃ (c_3 : Nat),
      v = Value.slice a n c_3 ∧
      ∃ (n_10 : Int),
      ∃ (a_5 : Option Addr),
      ∃ (n_11 : Nat),
      ∃ (c_4 : Nat),
      ∃ (n_12 : Int),
      ∃ (n_13 : Int),
      ∃ (n_14 : Int),
      ∃ (n_15 : Int),
      ∃ (n_16 : Int),
      ∃ (s : ByteArray),
      ∃ (s_2 : ByteArray),
      ∃ (n_17 : Int),
      ∃ (n_18 : Int),
      ∃ (a_6 : Option Addr),
      ∃ (n_19 : Nat),
      ∃ (c_5 : Nat),
      CellsAt m' b (0 : Nat)
      [Value.int IntKind.i64 n_10,
      Value.slice a_5 n_11 c_4,
      Value.int IntKind.i64 n_12,
      Value.int IntKind.i64 n_13,
      Value.int IntKind.i64 n_14,
      Value.int IntKind.i64 n_15,
      Value.int IntKind.i64 n_16,
      Value.string s, Value.string s_2,
      Value.int IntKind.i64 n_17,
      Value.int IntKind.i64 n_18,
      Value.slice a_6 n_19 c_5] ∧
      Done
      (ApR (applyE x c ix)
      (Value.tuple
      #[Value.agg
      #[Value.int IntKind.i64 n_10,
      Value.slice a_5 n_11 c_4,
      Value.int IntKind.i64 n_12,
      Value.int IntKind.i64 n_13,
      Value.int IntKind.i64 n_14,
      Value.int IntKind.i64 n_15,
      Value.int IntKind.i64 n_16,
      Value.string s,
      Value.string s_2,
      Value.int IntKind.i64 n_17,
      Value.int IntKind.i64 n_18,
      Value.slice a_6 n_19 c_5],
      Value.slice a n c_3,
      Value.int IntKind.i64 (0 : Int)])
      m')))))
      (ifB (c.kd == (14 : Int))
      (ifB (!c.pl_nu == n_4)
      (Done
      (ApR (applyE x c ix)
      (Value.tuple
      #[Value.agg
      #[Value.int IntKind.i64 ix, Value.slice a n_1 c_1, Value.int IntKind.i64 n_2, Value.int IntKind.i64 n_3,
      Value.int IntKind.i64 n_4, Value.int IntKind.i64 n_5, Value.int IntKind.i64 n_6, Value.string s,
      Value.string s_1, Value.int IntKind.i64 n_7, Value.int IntKind.i64 n_8, Value.slice a_2 n_9 c_2],
      Value.slice none (0 : Nat) (0 : Nat), Value.int IntKind.i64 (0 : Int)])
      m'))
      (∀ (b : Nat),
      Fresh m.sz m' b →
      ∃ (S' : Nat → Prop),
      (∀ (b_1 : Nat),
      S' b_1 →
      (m'.newBlock b
      [Value.int IntKind.i64 ix, Value.slice a n_1 c_1, Value.int IntKind.i64 n_2,
      Value.int IntKind.i64 n_3, Value.int IntKind.i64 (0 : Int), Value.int IntKind.i64 (0 : Int),
      Value.int IntKind.i64 (0 : Int), Value.string { data := #[] : ByteArray },
      Value.string { data := #[] : ByteArray }, Value.int IntKind.i64 (0 : Int),
      Value.int IntKind.i64 (0 : Int), Value.slice a_2 n_9 c_2]).uf
      b_1 ∧
      (m.sz ≤ b_1 ∨ False)) ∧
      ∀ (n : Nat),
      max m'.sz (b + (1 : Nat)) ≤ n →
      SpecW Try.prog (33 : Nat)
      [Value.pointer (some { block := b, off := (0 : Nat) : Addr }), Value.int IntKind.i64 n_7,
      Value.int IntKind.i64 n_8, Value.int IntKind.i64 (190 : Int)]
      { π := (m'.newBlock b [Value.int IntKind.i64 ix, Value.slice a n_1 c_1, Value.int IntKind.i64 n_2, Value.int IntKind.i64 n_3, Value.int IntKind.i64 (0 : Int), Value.int IntKind.i64 (0 : Int), Value.int IntKind.i64 (0 : Int), Value.string { data := #[] : ByteArray }, Value.string { data := #[] : ByteArray }, Value.int IntKind.i64 (0 : Int), Value.int IntKind.i64 (0 : Int), Value.slice a_2 n_9 c_2]).π, sz := n, uf := (m'.newBlock b [Value.int IntKind.i64 ix, Value.slice a n_1 c_1, Value.int IntKind.i64 n_2, Value.int IntKind.i64 n_3, Value.int IntKind.i64 (0 : Int), Value.int IntKind.i64 (0 : Int), Value.int IntKind.i64 (0 : Int), Value.string { data := #[] : ByteArray }, Value.string { data := #[] : ByteArray }, Value.int IntKind.i64 (0 : Int), Value.int IntKind.i64 (0 : Int), Value.slice a_2 n_9 c_2]).uf : M }
      S' fun (v : Value) (m' : M) =>
      ∃ (a : Option Addr),
      ∃ (n : Nat),
      ∃ (c_3 : Nat),
      v = Value.slice a n c_3 ∧
      ∃ (n_10 : Int),
      ∃ (a_5 : Option Addr),
      ∃ (n_11 : Nat),
      ∃ (c_4 : Nat),
      ∃ (n_12 : Int),
      ∃ (n_13 : Int),
      ∃ (n_14 : Int),
      ∃ (n_15 : Int),
      ∃ (n_16 : Int),
      ∃ (s : ByteArray),
      ∃ (s_2 : ByteArray),
      ∃ (n_17 : Int),
      ∃ (n_18 : Int),
      ∃ (a_6 : Option Addr),
      ∃ (n_19 : Nat),
      ∃ (c_5 : Nat),
      CellsAt m' b (0 : Nat)
      [Value.int IntKind.i64 n_10, Value.slice a_5 n_11 c_4,
      Value.int IntKind.i64 n_12, Value.int IntKind.i64 n_13,
      Value.int IntKind.i64 n_14, Value.int IntKind.i64 n_15,
      Value.int IntKind.i64 n_16, Value.string s,
      Value.string s_2, Value.int IntKind.i64 n_17,
      Value.int IntKind.i64 n_18, Value.slice a_6 n_19 c_5] ∧
      Done
      (ApR (applyE x c ix)
      (Value.tuple
      #[Value.agg
      #[Value.int IntKind.i64 n_10,
      Value.slice a_5 n_11 c_4,
      Value.int IntKind.i64 n_12,
      Value.int IntKind.i64 n_13,
      Value.int IntKind.i64 n_14,
      Value.int IntKind.i64 n_15,
      Value.int IntKind.i64 n_16, Value.string s,
      Value.string s_2, Value.int IntKind.i64 n_17,
      Value.int IntKind.i64 n_18,
      Value.slice a_6 n_19 c_5],
      Value.slice a n c_3, Value.int IntKind.i64 (0 : Int)])
      m')))
      (Done
      (ApR (applyE x c ix)
      (Value.tuple
      #[Value.agg
      #[Value.int IntKind.i64 ix, Value.slice a n_1 c_1, Value.int IntKind.i64 n_2, Value.int IntKind.i64 n_3,
      Value.int IntKind.i64 n_4, Value.int IntKind.i64 n_5, Value.int IntKind.i64 n_6, Value.string s,
      Value.string s_1, Value.int IntKind.i64 n_7, Value.int IntKind.i64 n_8, Value.slice a_2 n_9 c_2],
      Value.slice none (0 : Nat) (0 : Nat), Value.int IntKind.i64 (0 : Int)])
      m')))))
      (ifB (c.kd == (12 : Int))
      (∀ (b : Nat),
      Fresh m.sz m' b →
      ∃ (S' : Nat → Prop),
      (∀ (b_1 : Nat),
      S' b_1 →
      (m'.newBlock b
      [Value.int IntKind.i64 ix, Value.slice a n_1 c_1, Value.int IntKind.i64 n_2, Value.int IntKind.i64 n_3,
      Value.int IntKind.i64 n_4, Value.int IntKind.i64 n_5, Value.int IntKind.i64 n_6, Value.string s,
      Value.string s_1, Value.int IntKind.i64 n_7, Value.int IntKind.i64 n_8, Value.slice a_2 n_9 c_2]).uf
      b_1 ∧
      (m.sz ≤ b_1 ∨ False)) ∧
      ∀ (n : Nat),
      max m'.sz (b + (1 : Nat)) ≤ n →
      SpecW Try.prog (31 : Nat)
      [Value.pointer (some { block := b, off := (0 : Nat) : Addr }),
      Value.agg
      #[Value.int IntKind.i64 c.kd, Value.int IntKind.i64 c.cl, Value.int IntKind.i64 c.sq,
      Value.int IntKind.i64 c.ep, Value.int IntKind.i64 c.nd, Value.int IntKind.i64 c.hm, Value.string c.ky,
      Value.int IntKind.i64 c.le, Value.int IntKind.i64 c.rn, Value.int IntKind.i64 c.ne, Value.bool c.ys,
      Value.int IntKind.i64 c.op_kd, Value.string c.op_ky, Value.string c.op_ot, Value.int IntKind.i64 c.op_n,
      Value.int IntKind.i64 c.op_lo, Value.int IntKind.i64 c.op_hi, Value.int IntKind.i64 c.pl_nu,
      Value.int IntKind.i64 c.pl_fr, Value.int IntKind.i64 c.pl_to, Value.string c.pl_lo,
      Value.string c.pl_hi, Value.int IntKind.i64 c.pl_cl, Value.int IntKind.i64 c.pl_sq,
      Value.slice ai ni ci]]
      { π := (m'.newBlock b [Value.int IntKind.i64 ix, Value.slice a n_1 c_1, Value.int IntKind.i64 n_2, Value.int IntKind.i64 n_3, Value.int IntKind.i64 n_4, Value.int IntKind.i64 n_5, Value.int IntKind.i64 n_6, Value.string s, Value.string s_1, Value.int IntKind.i64 n_7, Value.int IntKind.i64 n_8, Value.slice a_2 n_9 c_2]).π, sz := n, uf := (m'.newBlock b [Value.int IntKind.i64 ix, Value.slice a n_1 c_1, Value.int IntKind.i64 n_2, Value.int IntKind.i64 n_3, Value.int IntKind.i64 n_4, Value.int IntKind.i64 n_5, Value.int IntKind.i64 n_6, Value.string s, Value.string s_1, Value.int IntKind.i64 n_7, Value.int IntKind.i64 n_8, Value.slice a_2 n_9 c_2]).uf : M }
      S' fun (v : Value) (m' : M) =>
      ∃ (a : Option Addr),
      ∃ (n : Nat),
      ∃ (c_3 : Nat),
      v = Value.slice a n c_3 ∧
      ∃ (n_10 : Int),
      ∃ (a_5 : Option Addr),
      ∃ (n_11 : Nat),
      ∃ (c_4 : Nat),
      ∃ (n_12 : Int),
      ∃ (n_13 : Int),
      ∃ (n_14 : Int),
      ∃ (n_15 : Int),
      ∃ (n_16 : Int),
      ∃ (s : ByteArray),
      ∃ (s_2 : ByteArray),
      ∃ (n_17 : Int),
      ∃ (n_18 : Int),
      ∃ (a_6 : Option Addr),
      ∃ (n_19 : Nat),
      ∃ (c_5 : Nat),
      CellsAt m' b (0 : Nat)
      [Value.int IntKind.i64 n_10, Value.slice a_5 n_11 c_4,
      Value.int IntKind.i64 n_12, Value.int IntKind.i64 n_13,
      Value.int IntKind.i64 n_14, Value.int IntKind.i64 n_15,
      Value.int IntKind.i64 n_16, Value.string s, Value.string s_2,
      Value.int IntKind.i64 n_17, Value.int IntKind.i64 n_18,
      Value.slice a_6 n_19 c_5] ∧
      Done
      (ApR (applyE x c ix)
      (Value.tuple
      #[Value.agg
      #[Value.int IntKind.i64 n_10, Value.slice a_5 n_11 c_4,
      Value.int IntKind.i64 n_12, Value.int IntKind.i64 n_13,
      Value.int IntKind.i64 n_14, Value.int IntKind.i64 n_15,
      Value.int IntKind.i64 n_16, Value.string s,
      Value.string s_2, Value.int IntKind.i64 n_17,
      Value.int IntKind.i64 n_18, Value.slice a_6 n_19 c_5],
      Value.slice a n c_3, Value.int IntKind.i64 (0 : Int)])
      m'))
      (ifB (c.kd == (13 : Int))
      (Done
      (ApR (applyE x c ix)
      (Value.tuple
      #[Value.agg
      #[Value.int IntKind.i64 ix, Value.slice a n_1 c_1, Value.int IntKind.i64 n_2, Value.int IntKind.i64 n_3,
      Value.int IntKind.i64 n_4, Value.int IntKind.i64 n_5, Value.int IntKind.i64 n_6, Value.string s,
      Value.string s_1, Value.int IntKind.i64 n_7, Value.int IntKind.i64 n_8, Value.slice a_2 n_9 c_2],
      Value.slice none (0 : Nat) (0 : Nat), Value.int IntKind.i64 (0 : Int)])
      m'))
      (ifB (c.kd == (14 : Int))
      (Done
      (ApR (applyE x c ix)
      (Value.tuple
      #[Value.agg
      #[Value.int IntKind.i64 ix, Value.slice a n_1 c_1, Value.int IntKind.i64 n_2, Value.int IntKind.i64 n_3,
      Value.int IntKind.i64 n_4, Value.int IntKind.i64 n_5, Value.int IntKind.i64 n_6, Value.string s,
      Value.string s_1, Value.int IntKind.i64 n_7, Value.int IntKind.i64 n_8, Value.slice a_2 n_9 c_2],
      Value.slice none (0 : Nat) (0 : Nat), Value.int IntKind.i64 (0 : Int)])
      m'))
      (Done
      (ApR (applyE x c ix)
      (Value.tuple
      #[Value.agg
      #[Value.int IntKind.i64 ix, Value.slice a n_1 c_1, Value.int IntKind.i64 n_2, Value.int IntKind.i64 n_3,
      Value.int IntKind.i64 n_4, Value.int IntKind.i64 n_5, Value.int IntKind.i64 n_6, Value.string s,
      Value.string s_1, Value.int IntKind.i64 n_7, Value.int IntKind.i64 n_8, Value.slice a_2 n_9 c_2],
      Value.slice none (0 : Nat) (0 : Nat), Value.int IntKind.i64 (0 : Int)])
      m'))))))))) (by kernel_rfl) ?_
  refine ⟨rfl, _, right_q x a hl hm _ h, ?_⟩
  cases hrc : rightC x with
  | false =>
    have e : applyE x c ix = (c0, [], 21) := by unfold applyE; rw [if_pos hrc]
    exact ifB_true ⟨by rw [e]; exact ⟨a0, none, 0, rfl, ⟨.nil _, .nil _⟩, .nil _⟩⟩
  | true =>
  have hr := ric_iff.1 hrc
  have hbad : (ix ≤ x.ix ∨ ix > 4611686018427387904) → applyE x c ix = (c0, [], 80) := fun q => by unfold applyE; rw [if_neg (by rw [hrc]; simp), if_pos q]
  refine ifB_false (ifB_intro (fun g => ⟨?_⟩) (fun g => ifB_intro (fun g2 => ⟨?_⟩) (fun g2 => ?_)))
  · rw [hbad (.inl (of_decide_eq_true g))]; exact ⟨a0, none, 0, rfl, ⟨.nil _, .nil _⟩, .nil _⟩
  · rw [hbad (.inr (of_decide_eq_true g2))]; exact ⟨a0, none, 0, rfl, ⟨.nil _, .nil _⟩, .nil _⟩
  have k1 := of_decide_eq_false g
  have k2 := of_decide_eq_false g2
  have hix0 := hr.ix0
  have hry : RiC { x with ix := ix } := hr.ix (by omega) (by omega)
  refine fun N hN => (copied_s x a hr _ (h.sz hN)).mono fun v m1 hag1 ⟨a1, hv, r1⟩ => ?_
  have r1 : CtR m1 { x with ix := ix } a1 := ⟨r1.ps, r1.ms⟩
  have eA : applyE x c ix = (let y := { x with ix := ix }
     let g := y.nu ≠ 0 ∧ c.pl_nu = y.nu
     if c.kd = 12 then ((startE y c).1, (startE y c).2, 0)
     else if c.kd = 13 ∧ g then ((shfE y).1, (shfE y).2, 0)
     else if c.kd = 14 ∧ g then ((doneE (clrP y) y.cl y.sq 190).1, (doneE (clrP y) y.cl y.sq 190).2, 0)
     else (y, [], 0)) := by unfold applyE; rw [if_neg (by rw [hrc]; simp), if_neg (by omega)]
  generalize hyy : ({ x with ix := ix } : Ct) = y at *
  have yix : ix = y.ix := by rw [← hyy]
  subst yix
  have ynu : y.nu = x.nu := by rw [← hyy]
  have ycl : y.cl = x.cl := by rw [← hyy]
  have ysq : y.sq = x.sq := by rw [← hyy]
  have hmy : y.ms.length ≤ 9223372036854775807 := by rw [← hyy]; exact hm
  have eA : applyE x c y.ix = (if c.kd = 12 then ((startE y c).1, (startE y c).2, 0)
     else if c.kd = 13 ∧ (y.nu ≠ 0 ∧ c.pl_nu = y.nu) then ((shfE y).1, (shfE y).2, 0)
     else if c.kd = 14 ∧ (y.nu ≠ 0 ∧ c.pl_nu = y.nu) then ((doneE (clrP y) y.cl y.sq 190).1, (doneE (clrP y) y.cl y.sq 190).2, 0)
     else (y, [], 0)) := eA
  have lf : applyE x c y.ix = (y, [], 0) → Done (ApR (applyE x c y.ix) (.tuple #[ctv y a1, .slice none 0 0, I 0]) m1) := fun e => ⟨by rw [e]; exact ⟨a1, none, 0, rfl, r1, .nil _⟩⟩
  have hsz1 : m.sz ≤ m1.sz := by have := hag1.2.2; simp only at this; omega
  have fin : ∀ (b : Nat) (z : Ct × List Ef) (v : Value) (m' : M), PtR b z v m' → applyE x c y.ix = (z.1, z.2, 0) → ∃ a n c_3, v = .slice a n c_3 ∧ ∃ n_10 a_5 n_11 c_4 n_12 n_13 n_14 n_15 n_16 s s_2 n_17 n_18 a_6 n_19 c_5, CellsAt m' b 0 [I n_10, .slice a_5 n_11 c_4, I n_12, I n_13, I n_14, I n_15, I n_16, .string s, .string s_2, I n_17, I n_18, .slice a_6 n_19 c_5] ∧ Done (ApR (applyE x c y.ix) (.tuple #[.agg #[I n_10, .slice a_5 n_11 c_4, I n_12, I n_13, I n_14, I n_15, I n_16, .string s, .string s_2, I n_17, I n_18, .slice a_6 n_19 c_5], .slice a n c_3, I 0]) m') := fun b z v m' ⟨⟨a', av, cv, q1, q2, q3⟩⟩ e => by
    refine ⟨_, _, _, q2, _, _, _, _, _, _, _, _, _, _, _, _, _, _, _, _, q1.cells, ⟨?_⟩⟩
    rw [e]
    exact ⟨a', av, cv, rfl, q1.r, q3⟩
  have st : c.kd = 12 → ∀ b, Fresh m.sz m1 b → ∃ S' : Nat → Prop, (∀ z, S' z → (m1.newBlock b (encCt y a1)).uf z ∧ (m.sz ≤ z ∨ False)) ∧ ∀ n, (m1.newBlock b (encCt y a1)).sz ≤ n → SpecW Try.prog 31 [.pointer (some ⟨b, 0, none⟩), cdv c ai ni ci] { m1.newBlock b (encCt y a1) with sz := n } S' fun v m' => ∃ a n c_3, v = .slice a n c_3 ∧ ∃ n_10 a_5 n_11 c_4 n_12 n_13 n_14 n_15 n_16 s s_2 n_17 n_18 a_6 n_19 c_5, CellsAt m' b 0 [I n_10, .slice a_5 n_11 c_4, I n_12, I n_13, I n_14, I n_15, I n_16, .string s, .string s_2, I n_17, I n_18, .slice a_6 n_19 c_5] ∧ Done (ApR (applyE x c y.ix) (.tuple #[.agg #[I n_10, .slice a_5 n_11 c_4, I n_12, I n_13, I n_14, I n_15, I n_16, .string s, .string s_2, I n_17, I n_18, .slice a_6 n_19 c_5], .slice a n c_3, I 0]) m') := fun k b hb => by
    have P := PtC.newC hb r1
    exact ⟨fun z => z = b, fun z e => by subst e; exact ⟨P.uf, .inl hb.lo⟩, fun n hn => (start_s y a1 b c ai ni ci hry hmy _ (P.sz hn)).mono fun v m' hag q => fin b _ v m' q (by rw [eA, if_pos k])⟩
  have dn : ∀ (b : Nat) (z : Ct) (a2 : Ca) (er : Int) (m2 : M), PtC b z a2 m2 → m.sz ≤ b → z.ms.length ≤ 9223372036854775807 → applyE x c y.ix = ((doneE z y.cl y.sq er).1, (doneE z y.cl y.sq er).2, 0) → ∃ S' : Nat → Prop, (∀ z, S' z → m2.uf z ∧ (m.sz ≤ z ∨ False)) ∧ ∀ n, m2.sz ≤ n → SpecW Try.prog 33 [.pointer (some ⟨b, 0, none⟩), I y.cl, I y.sq, I er] { m2 with sz := n } S' fun v m' => ∃ a n c_3, v = .slice a n c_3 ∧ ∃ n_10 a_5 n_11 c_4 n_12 n_13 n_14 n_15 n_16 s s_2 n_17 n_18 a_6 n_19 c_5, CellsAt m' b 0 [I n_10, .slice a_5 n_11 c_4, I n_12, I n_13, I n_14, I n_15, I n_16, .string s, .string s_2, I n_17, I n_18, .slice a_6 n_19 c_5] ∧ Done (ApR (applyE x c y.ix) (.tuple #[.agg #[I n_10, .slice a_5 n_11 c_4, I n_12, I n_13, I n_14, I n_15, I n_16, .string s, .string s_2, I n_17, I n_18, .slice a_6 n_19 c_5], .slice a n c_3, I 0]) m') := fun b z a2 er m2 P hlo hms e =>
    ⟨fun z => z = b, fun z e => by subst e; exact ⟨P.uf, .inl hlo⟩, fun n hn => (done_s z a2 b y.cl y.sq er hms _ (P.sz hn)).mono fun v m' hag q => fin b _ v m' q e⟩
  have hv : v = ctv { y with ix := x.ix } a1 := by rw [← hyy]; exact hv
  refine ⟨_, _, _, _, _, _, _, _, _, _, _, _, _, _, _, _, hv, ifB_intro (fun g3 => ifB_intro (fun g4 => st (by simpa using g4)) (fun g4 => ifB_intro (fun g5 => ifB_intro (fun g6 => lf ?e1) (fun g6 b hb => ?e2)) (fun g5 => ifB_intro (fun g6 => ifB_intro (fun g7 => lf ?e3) (fun g7 b hb => ?e4)) (fun g6 => lf ?e5)))) (fun g3 => ifB_intro (fun g4 => st (by simpa using g4)) (fun g4 => ifB_intro (fun g5 => lf ?e6) (fun g5 => ifB_intro (fun g6 => lf ?e7) (fun g6 => lf ?e8))))⟩
  case e1 => 
    have q4 : ¬ c.kd = 12 := by simpa using g4
    have q6 : ¬ c.pl_nu = y.nu := by have := not_t g6; simpa using this
    rw [eA, if_neg q4, if_neg (fun e => q6 e.2.2), if_neg (fun e => q6 e.2.2)]
  case e2 => 
    have q3 : y.nu ≠ 0 := by simpa using g3
    have q4 : ¬ c.kd = 12 := by simpa using g4
    have q5 : c.kd = 13 := by simpa using g5
    have q6 : c.pl_nu = y.nu := by have := not_f g6; simpa using this
    have P := PtC.newC hb r1
    have hgg := hry.go q3
    refine ⟨fun z => z = b, fun z e => by subst e; exact ⟨P.uf, .inl hb.lo⟩, fun n hn => (shift_s y a1 b hry q3 _ (P.sz hn)).mono fun v m2 hag2 ⟨⟨a2, P2, hv2⟩⟩ => ⟨_, hv2, ifB_false ?_⟩⟩
    rw [g6]
    obtain ⟨w2, P3⟩ := P2.set (x' := clrP { y with ps := shiftL y }) (a' := a2) (p := [I y.ix, .slice a2.ap (shiftL y).length a2.cp, I y.nx, I y.la]) (old := [I y.nu, I y.fr, I y.to, .string y.lo, .string y.hi, I y.cl, I y.sq]) (new := [I 0, I 0, I 0, .string .empty, .string .empty, I 0, I 0]) (q := [.slice a2.am y.ms.length a2.cm]) (j := 4) rfl rfl rfl rfl P2.r.ps P2.r.ms (B := m.sz) (S := fun _ => False) (.inl hb.lo)
    exact ifB_false ⟨w2, dn b _ a2 0 _ P3 hb.lo hmy (by rw [eA, if_neg q4, if_pos ⟨q5, q3, q6⟩]; rfl)⟩
  case e3 => 
    have q4 : ¬ c.kd = 12 := by simpa using g4
    have q7 : ¬ c.pl_nu = y.nu := by have := not_t g7; simpa using this
    rw [eA, if_neg q4, if_neg (fun e => q7 e.2.2), if_neg (fun e => q7 e.2.2)]
  case e4 => 
    have q3 : y.nu ≠ 0 := by simpa using g3
    have q4 : ¬ c.kd = 12 := by simpa using g4
    have q5 : ¬ c.kd = 13 := by simpa using g5
    have q6 : c.kd = 14 := by simpa using g6
    have q7 : c.pl_nu = y.nu := by have := not_f g7; simpa using this
    have r2 : CtR m1 (clrP y) a1 := ⟨r1.ps, r1.ms⟩
    exact dn b (clrP y) a1 190 _ (PtC.newC hb r2) hb.lo hmy (by rw [eA, if_neg q4, if_neg (fun e => q5 e.1), if_pos ⟨q6, q3, q7⟩])
  case e5 => 
    have q4 : ¬ c.kd = 12 := by simpa using g4
    have q5 : ¬ c.kd = 13 := by simpa using g5
    have q6 : ¬ c.kd = 14 := by simpa using g6
    rw [eA, if_neg q4, if_neg (fun e => q5 e.1), if_neg (fun e => q6 e.1)]
  all_goals
    have q3 : y.nu = 0 := by simpa using g3
    have q4 : ¬ c.kd = 12 := by simpa using g4
    rw [eA, if_neg q4, if_neg (fun e => e.2.1 q3), if_neg (fun e => e.2.1 q3)]

end Go.Proofs.Ytjjfcaigonomiaa
