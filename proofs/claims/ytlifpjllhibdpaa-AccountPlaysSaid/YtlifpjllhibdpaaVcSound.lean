/-
  One operation does what the evaluator asks: regular operations. Nothing here is trusted: Lean checks it. It names no program.
-/
import Derived.Test.YtlifpjllhibdpaaVcDef
import Derived.Deep.Quiet
set_option linter.unusedVariables false
set_option linter.unusedSimpArgs false
namespace Go.Vc
open Go.RowKit

def svR (ρ : Nat → Nat) : SV → Value → Prop
  | .val v, x => x = v
  | .own i off, x => x = .pointer (some ⟨ρ i, off, none⟩)
  | .unk, _ => True

def Boxes (own : Nat → Option Bx) (ρ : Nat → Nat) (w : World) : Prop := ∀ i b, own i = some b → w.heap[ρ i]? = some (.cells b.cs.toArray b.ty (0, 0))

structure WC (B : Nat) (S : Nat → Prop) (w0 : World) (m : M) (own : Nat → Option Bx) (ρ : Nat → Nat) (w : World) : Prop where
  ok : m.ok w
  below : BelowS B S w0 w
  size : B ≤ w.heap.size
  boxes : Boxes own ρ w

structure SC (B : Nat) (S : Nat → Prop) (m0 m : M) (own : Nat → Option Bx) (ρ : Nat → Nat) : Prop where
  agree : AgreeS B S m0 m
  lo : ∀ i b, own i = some b → B ≤ ρ i
  apart : ∀ i b, own i = some b → (∀ o, m.π (ρ i) o = none) ∧ ¬ m.uf (ρ i)
  inj : ∀ i j b c, own i = some b → own j = some c → ρ i = ρ j → i = j

structure TC (DF : List Deferred) (N n : Nat) (st : St) (ρ : Nat → Nat) (a : Act) : Prop where
  size : a.tmps.size = N
  defers : a.defers = DF
  slots : ∀ t, svR ρ (st.tmps t) (a.tmps.getD t undef)
  fresh : ∀ t i o, st.tmps t = .own i o → i < n
  ownfresh : ∀ i b, st.own i = some b → i < n

theorem look_lt {w : World} {r : Nat} {o : Obj} (h : w.heap[r]? = some o) : r < w.heap.size := (Array.getElem?_eq_some_iff.1 h).1

theorem M.ok.grow {m : M} {w w' : World} (h : m.ok w) (hb : Below w.heap.size w w') : m.ok w' := by
  obtain ⟨h1, h2, h3⟩ := h
  refine ⟨Nat.le_trans h1 hb.size, fun b o v hv => ?_, fun b hu => ?_⟩
  · obtain ⟨hlt, hc⟩ := h2 b o v hv
    exact ⟨hlt, by rw [hb.cell (p := ⟨b, o, none⟩) (Nat.lt_of_lt_of_le hlt h1)]; exact hc⟩
  · obtain ⟨hlt, c, t, hc⟩ := h3 b hu
    exact ⟨hlt, c, t, by rw [hb.block b (Nat.lt_of_lt_of_le hlt h1)]; exact hc⟩

theorem BelowS.refl (B : Nat) (S : Nat → Prop) (w : World) : BelowS B S w w := ⟨rfl, rfl, rfl, Nat.le_refl _, fun _ _ _ => rfl, fun _ _ h _ => h⟩
theorem BelowS.trans' {B : Nat} {S : Nat → Prop} {a b c : World} (h : BelowS B S a b) (k : Below b.heap.size b c) (hB : B ≤ b.heap.size) : BelowS B S a c :=
  ⟨k.os.trans h.os, k.tape.trans h.tape, k.output.trans h.output, Nat.le_trans h.size k.size, fun i hi hs => (k.block i (by omega)).trans (h.block i hi hs), fun i o hi ho => (k.block i (look_lt (h.keeps i o hi ho))).trans (h.keeps i o hi ho)⟩
theorem BelowS.trans {B : Nat} {S : Nat → Prop} {a b c : World} (h : BelowS B S a b) (k : BelowS B S b c) : BelowS B S a c :=
  ⟨k.os.trans h.os, k.tape.trans h.tape, k.output.trans h.output, Nat.le_trans h.size k.size, fun i hi hs => (k.block i hi hs).trans (h.block i hi hs), fun i o hi ho => k.keeps i o (h.keeps i o hi ho) ho⟩
theorem BelowS.below {B : Nat} {a b : World} (h : BelowS B (fun _ => False) a b) : Below B a b := ⟨h.os, h.tape, h.output, h.size, fun k hk => h.block k hk id⟩

theorem WC.grow {B : Nat} {S : Nat → Prop} {w0 : World} {m : M} {own : Nat → Option Bx} {ρ : Nat → Nat} {w w' : World} (h : WC B S w0 m own ρ w) (hb : Below w.heap.size w w') : WC B S w0 m own ρ w' :=
  ⟨h.ok.grow hb, h.below.trans' hb h.size, Nat.le_trans h.size hb.size, fun i b hi => by rw [hb.block _ (look_lt (h.boxes i b hi))]; exact h.boxes i b hi⟩

theorem evO_sound {DF : List Deferred} {N n : Nat} {st : St} {ρ : Nat → Nat} {a : Act} (T : TC DF N n st ρ a) (x : Operand) : svR ρ (evO st x) (a.eval x) := by
  cases x with
  | tmp t => exact T.slots t
  | const v => exact rfl
  | global g => exact rfl
  | func f => exact rfl

theorem evO_fresh {DF : List Deferred} {N n : Nat} {st : St} {ρ : Nat → Nat} {a : Act} (T : TC DF N n st ρ a) (x : Operand) {i o : Nat} (h : evO st x = .own i o) : i < n := by
  cases x with
  | tmp t => exact T.fresh t i o h
  | const v => cases h
  | global g => cases h
  | func f => cases h

theorem evO_src {st : St} {x : Operand} {i o : Nat} (h : evO st x = .own i o) : ∃ t o', st.tmps t = .own i o' := by
  cases x with
  | tmp t => exact ⟨t, o, h⟩
  | const v => cases h
  | global g => cases h
  | func f => cases h

theorem evO_val {DF : List Deferred} {N n : Nat} {st : St} {ρ : Nat → Nat} {a : Act} (T : TC DF N n st ρ a) {x : Operand} {v : Value} (h : evO st x = .val v) : a.eval x = v := by
  have := evO_sound T x; rw [h] at this; exact this
theorem evO_own {DF : List Deferred} {N n : Nat} {st : St} {ρ : Nat → Nat} {a : Act} (T : TC DF N n st ρ a) {x : Operand} {i o : Nat} (h : evO st x = .own i o) : a.eval x = .pointer (some ⟨ρ i, o, none⟩) := by
  have := evO_sound T x; rw [h] at this; exact this

theorem withVal_elim {st : St} {x : Operand} {K : Value → Prop} (h : withVal st x K) : ∃ v, evO st x = .val v ∧ K v := by
  unfold withVal at h
  split at h
  · exact ⟨_, by assumption, h⟩
  · exact h.elim

theorem withVals_elim {DF : List Deferred} {N n : Nat} {st : St} {ρ : Nat → Nat} {a : Act} (T : TC DF N n st ρ a) {K : List Value → Prop} : ∀ (l : List Operand) (acc : List Value), withVals st l acc K → K (acc ++ l.map a.eval)
  | [], acc, h => by simpa [withVals] using h
  | x :: r, acc, h => by
    obtain ⟨v, hv, hk⟩ := withVal_elim h
    have := withVals_elim T r _ hk
    rw [← evO_val T hv] at this
    simpa using this

theorem pureK_elim {α : Type} {P : Program} {K : α → Prop} : ∀ (s : Sem α), pureK P s K → ∃ v, (∀ w, s.run P w = .ok v w) ∧ K v := by
  intro s
  induction s with
  | pure a => exact fun h => ⟨a, fun _ => rfl, h⟩
  | program k ih => exact fun h => ih P h
  | mark m k ih => exact fun h => ih h
  | load m a k _ => exact fun h => h.elim
  | store m a v k _ => exact fun h => h.elim
  | new o k _ => exact fun h => h.elim
  | shape r k _ => exact fun h => h.elim
  | freeze a n k _ => exact fun h => h.elim
  | frozen a k _ => exact fun h => h.elim
  | getObj r k _ => exact fun h => h.elim
  | setObj r o k _ => exact fun h => h.elim
  | choose q k _ => exact fun h => h.elim
  | sys c k _ => exact fun h => h.elim
  | halt x => exact fun h => h.elim

mutual
theorem exSh_elim {K : Value → Prop} : ∀ (s : Sh), exSh s K → ∃ v, K v
  | .int k, h => by simp only [exSh] at h; exact h.elim fun n h => ⟨_, h⟩
  | .bool, h => by simp only [exSh] at h; exact h.elim fun n h => ⟨_, h⟩
  | .str, h => by simp only [exSh] at h; exact h.elim fun n h => ⟨_, h⟩
  | .sl, h => by simp only [exSh] at h; obtain ⟨a, n, c, h⟩ := h; exact ⟨_, h⟩
  | .ptr, h => by simp only [exSh] at h; exact h.elim fun n h => ⟨_, h⟩
  | .fn, h => by simp only [exSh] at h; obtain ⟨f, c, h⟩ := h; exact ⟨_, h⟩
  | .any, h => by simp only [exSh] at h; exact h.elim fun n h => ⟨_, h.2⟩
  | .agg l, h => by simp only [exSh] at h; exact (exCells_elim l [] h).elim fun cs h => ⟨_, h⟩
  | .tup l, h => by simp only [exSh] at h; exact (exVals_elim l [] h).elim fun cs h => ⟨_, h⟩
theorem exCells_elim {K : List Value → Prop} : ∀ (l : List Sh) (acc : List Value), exCells l acc K → ∃ cs, K cs
  | [], acc, h => ⟨acc, by simpa only [exCells] using h⟩
  | s :: r, acc, h => by
    simp only [exCells] at h
    obtain ⟨v, h⟩ := exSh_elim s h
    exact exCells_elim r _ h
theorem exVals_elim {K : List Value → Prop} : ∀ (l : List Sh) (acc : List Value), exVals l acc K → ∃ cs, K cs
  | [], acc, h => ⟨acc, by simpa only [exVals] using h⟩
  | s :: r, acc, h => by
    simp only [exVals] at h
    obtain ⟨v, h⟩ := exSh_elim s h
    exact exVals_elim r _ h
end

theorem ifB_elim {b : Bool} {X Y : Prop} (h : ifB b X Y) : (b = true ∧ X) ∨ (b = false ∧ Y) := by
  cases b
  · exact .inr ⟨rfl, h⟩
  · exact .inl ⟨rfl, h⟩

def Alt (P : Program) (o : Oper) (id : Nat) (st : St) (a : Act) (B : Nat) (S : Nat → Prop) (w0 : World) (m : M) (ρ : Nat → Nat) (K : Eff → Prop) : Prop :=
  (∃ x v, K (.put x) ∧ svR ρ x v ∧ (∀ i off, x = .own i off → ∃ t o', st.tmps t = .own i o') ∧ ∀ w, WC B S w0 m st.own ρ w → Oper.quietAt P o a (WC B S w0 m st.own ρ) w v)
  ∨ (∃ b, K (.box id b) ∧ ∀ w, (execOp a.eval o).run P w = .ok (.value (.pointer (some ⟨w.heap.size, 0, none⟩))) (w.alloc (.cells b.cs.toArray b.ty (0, 0))))
  ∨ (∃ i b b', st.own i = some b ∧ b'.ty = b.ty ∧ K (.wr i b') ∧ ∀ w, WC B S w0 m st.own ρ w → (execOp a.eval o).run P w = .ok .skip (w.setRow (ρ i) b'.cs.toArray))

section
variable {P : Program} {o : Oper} {DF : List Deferred} {id N n : Nat} {st : St} {a : Act} {B : Nat} {S : Nat → Prop} {w0 : World} {m : M} {ρ : Nat → Nat} {K : Eff → Prop}

theorem alt_val {v : Value} (hk : K (.put (.val v))) (h : ∀ w, (execOp a.eval o).run P w = .ok (.value v) w) : Alt P o id st a B S w0 m ρ K :=
  .inl ⟨.val v, v, hk, rfl, fun i off e => (by cases e), fun w _ => by unfold Oper.quietAt; rw [h w]; exact ⟨rfl, rfl⟩⟩

theorem alt_pure {s : Sem Value} (h : pureK P s fun v => K (.put (.val v))) (hx : execOp a.eval o = (do pure (.value (← s)))) : Alt P o id st a B S w0 m ρ K := by
  obtain ⟨v, hr, hk⟩ := pureK_elim s h
  exact alt_val hk fun w => by rw [hx]; simp [hr w]

theorem alt_sv (T : TC DF N n st ρ a) (x : Operand) (hk : K (.put (evO st x))) (h : execOp a.eval o = pure (.value (a.eval x))) : Alt P o id st a B S w0 m ρ K :=
  .inl ⟨_, _, hk, evO_sound T x, fun _ _ e => evO_src e, fun w _ => by unfold Oper.quietAt; rw [h]; exact ⟨rfl, rfl⟩⟩
end


section
variable {P : Program} {o : Oper} {DF : List Deferred} {id N n : Nat} {st : St} {a : Act} {B : Nat} {S : Nat → Prop} {w0 : World} {m : M} {ρ : Nat → Nat} {K : Eff → Prop}

theorem alt_pick (T : TC DF N n st ρ a) (c x y : Operand) (ho : o.op = .pick c x y) (h : opK P o id st m K) : Alt P o id st a B S w0 m ρ K := by
  simp only [opK, ho] at h
  split at h
  · rename_i b hb
    have hc := evO_val T hb
    rcases ifB_elim h with ⟨rfl, h⟩ | ⟨rfl, h⟩
    · exact alt_sv T x h (by simp only [execOp, ho, hc]; rfl)
    · exact alt_sv T y h (by simp only [execOp, ho, hc]; rfl)
  · exact h.elim

theorem alt_alloc (t : TypeId) (ho : o.op = .alloc t) (h : opK P o id st m K) : Alt P o id st a B S w0 m ρ K := by
  simp only [opK, ho] at h
  obtain ⟨v, hr, hk⟩ := pureK_elim _ h
  refine .inr (.inl ⟨_, hk, fun w => ?_⟩)
  simp [execOp, ho, Instr.alloc, hr w, newVar, newRow, newObj, Sem.run]

theorem alt_box (T : TC DF N n st ρ a) (t : TypeId) (x : Operand) (ho : o.op = .box t x) (h : opK P o id st m K) : Alt P o id st a B S w0 m ρ K := by
  simp only [opK, ho] at h
  obtain ⟨v, hv, hk⟩ := withVal_elim h
  refine .inr (.inl ⟨_, hk, fun w => ?_⟩)
  simp [execOp, ho, Instr.box, evO_val T hv, newVar, newRow, newObj, Sem.run]

theorem takeCells_eq : ∀ (n : Nat) (l r : List Value), takeCells n l = some r → r.length = n ∧ ∀ j, j < n → l[j]? = r[j]?
  | 0, l, r, h => by simp [takeCells] at h; subst h; exact ⟨rfl, fun j hj => absurd hj (Nat.not_lt_zero _)⟩
  | n + 1, [], r, h => by simp [takeCells] at h
  | n + 1, v :: l, r, h => by
    simp only [takeCells, Option.map_eq_some_iff] at h
    obtain ⟨q, hq, rfl⟩ := h
    obtain ⟨h1, h2⟩ := takeCells_eq n l q hq
    refine ⟨by simp [h1], fun j hj => ?_⟩
    cases j with
    | zero => rfl
    | succ j => simpa using h2 j (by omega)

theorem run_isAgg (t : TypeId) (d : TypeDesc) (hu : P.underlying t = some d) (w : World) : (isAgg t).run P w = .ok (isAggT P t) w := by
  unfold isAgg isAggT
  rw [Sem.run_bind, run_underlying hu w, hu]
  cases d <;> simp

theorem okT_elim {t : TypeId} (h : okT P t = true) : (∃ d, P.underlying t = some d) ∧ ∃ i, P.info? t = some i := by
  simp only [okT, Bool.and_eq_true] at h
  exact ⟨Option.isSome_iff_exists.1 h.1, Option.isSome_iff_exists.1 h.2⟩

theorem run_sizeOf {t : TypeId} {i : TypeInfo} (hi : P.info? t = some i) (w : World) : (sizeOf t).run P w = .ok (sizeT P t) w := by simp [sizeOf, typeInfo, hi, sizeT]

theorem run_loadVar_agg (t : TypeId) (b off : Nat) (cs : List Value) (w : World) (h : okT P t = true) (hA : isAggT P t = true) (hs : cs.length = sizeT P t)
    (hc : ∀ j, j < cs.length → w.cell? ⟨b, off + j, none⟩ = cs[j]?) : (loadVar t ⟨b, off, none⟩).run P w = .ok (.agg cs.toArray) w := by
  obtain ⟨⟨d, hd⟩, i, hi⟩ := okT_elim h
  have hagg := run_isAgg t d hd w
  rw [hA] at hagg
  have hl : (loadCells ⟨b, off, none⟩ cs.length).run P w = .ok cs.toArray w :=
    run_loadCells_list (P := P) w ⟨b, off, none⟩ cs (fun j u hu => by
      have hj : j < cs.length := (List.getElem?_eq_some_iff.1 hu).1
      have hadd : (⟨b, off, none⟩ : Addr).add j = ⟨b, off + j, none⟩ := by unfold Addr.add; split <;> simp_all
      rw [hadd, hc j hj, hu])
  rw [hs] at hl
  simp [loadVar, hagg, run_sizeOf hi, hl]

theorem run_loadVar_one (t : TypeId) (b off : Nat) (v : Value) (w : World) (h : okT P t = true) (hA : isAggT P t = false)
    (hc : w.cell? ⟨b, off, none⟩ = some v) : (loadVar t ⟨b, off, none⟩).run P w = .ok v w := by
  obtain ⟨⟨d, hd⟩, i, hi⟩ := okT_elim h
  have hagg := run_isAgg t d hd w
  rw [hA] at hagg
  simp [loadVar, hagg, load, Sem.run, hc]

theorem run_loadVar_at (t : TypeId) (b off : Nat) (v : Value) (w : World) (h : okT P t = true)
    (hv : aggLike (isAggT P t) v = true) (hs : v.cells.size = sizeT P t) (hc : ∀ j, j < v.cells.toList.length → w.cell? ⟨b, off + j, none⟩ = v.cells.toList[j]?) :
    (loadVar t ⟨b, off, none⟩).run P w = .ok v w := by
  cases hA : isAggT P t with
  | true =>
    rw [hA] at hv
    cases v <;> simp [aggLike] at hv
    rename_i cs
    simp only [Value.cells] at hs hc
    have := run_loadVar_agg t b off cs.toList w h hA (by simpa using hs) hc
    simpa using this
  | false =>
    rw [hA] at hv
    have h1 : v.cells = #[v] := by cases v <;> simp [aggLike] at hv <;> rfl
    have h0 := hc 0 (by simp [h1])
    simp [h1] at h0
    exact run_loadVar_one t b off v w h hA h0

theorem ldOwn_run {t : TypeId} {cs : List Value} {off : Nat} {v : Value} (h : ldOwn P t cs off = some v) {w : World} {r : Nat} {ty : TypeId} (hr : w.heap[r]? = some (.cells cs.toArray ty (0, 0))) :
    (loadVar t ⟨r, off, none⟩).run P w = .ok v w := by
  unfold ldOwn at h
  have hcell : ∀ o, w.cell? ⟨r, o, none⟩ = cs[o]? := fun o => by simp [World.cell?, hr]
  split at h
  · rename_i hA hB
    simp only [Option.map_eq_some_iff] at h
    obtain ⟨l, hl, rfl⟩ := h
    obtain ⟨h1, h2⟩ := takeCells_eq _ _ _ hl
    refine run_loadVar_agg t r off l w hA hB h1 fun j hj => ?_
    rw [hcell, ← h2 j (h1 ▸ hj)]
    simp
  · rename_i hA hB
    exact run_loadVar_one t r off v w hA hB (by rw [hcell]; exact h)
  · cases h

theorem quiet_load {t : TypeId} {x : Operand} (ho : o.op = .load t x) {b off : Nat} {v : Value} (hx : a.eval x = .pointer (some ⟨b, off, none⟩))
    {w : World} {C : World → Prop} (hr : (loadVar t ⟨b, off, none⟩).run P w = .ok v w) : Oper.quietAt P o a C w v := by
  unfold Oper.quietAt
  simp only [execOp, ho, hx, Instr.loadAt, Instr.sureAddr, Sem.run_bind, Sem.run_pure, Result.andThen_ok, hr]
  exact ⟨rfl, rfl⟩

theorem alt_load (T : TC DF N n st ρ a) (t : TypeId) (x : Operand) (ho : o.op = .load t x) (h : opK P o id st m K) : Alt P o id st a B S w0 m ρ K := by
  simp only [opK, ho] at h
  split at h
  · rename_i i off hx
    split at h
    · rename_i b hb
      split at h
      · rename_i v hv
        exact .inl ⟨.val v, v, h, rfl, fun _ _ e => (by cases e), fun w hw => quiet_load ho (evO_own T hx) (ldOwn_run hv (hw.boxes i b hb))⟩
      · exact h.elim
    · exact h.elim
  · rename_i b off hx
    obtain ⟨v, h⟩ := exSh_elim _ h
    split at h
    · rename_i hc
      simp only [Bool.and_eq_true] at hc
      obtain ⟨hca, hk⟩ := h
      refine .inl ⟨.val v, v, hk, rfl, fun _ _ e => (by cases e), fun w hw => quiet_load ho (evO_val T hx) (run_loadVar_at t b off v w hc.2 hc.1.1 (Nat.eq_of_beq_eq_true hc.1.2) fun j hj => ?_)⟩
      have := hca.out j hj
      have hj' : v.cells.toList[j]? = some v.cells.toList[j] := List.getElem?_eq_getElem hj
      rw [hj'] at this ⊢
      exact (hw.ok.2.1 _ _ _ this).2
    · exact h.elim
  · exact h.elim

theorem overCells_eq : ∀ (cs : List Value) (off : Nat) (vs : List Value), off + vs.length ≤ cs.length → overCells cs off vs = cs.take off ++ vs ++ cs.drop (off + vs.length)
  | cs, 0, [], _ => by simp [overCells]
  | [], 0, v :: vs, h => by simp at h
  | c :: cs, 0, v :: vs, h => by
    have := overCells_eq cs 0 vs (by simp at h ⊢; omega)
    simp only [overCells, this]
    simp [Nat.zero_add]
  | [], off + 1, vs, h => by simp at h
  | c :: cs, off + 1, vs, h => by
    have := overCells_eq cs off vs (by simp at h; omega)
    simp only [overCells, this]
    simp [Nat.add_right_comm]

theorem oneCells_all : ∀ (l : List Value), oneCells l = true → ∀ v ∈ l, v.oneCell' = true
  | [], _, v, h => by cases h
  | x :: r, hh, v, h => by
    simp only [oneCells, Bool.and_eq_true] at hh
    rcases List.mem_cons.1 h with rfl | h
    · cases v <;> first | rfl | exact hh.1
    · exact oneCells_all r hh.2 v h

theorem alt_store (T : TC DF N n st ρ a) (t : TypeId) (x y : Operand) (ho : o.op = .store t x y) (h : opK P o id st m K) : Alt P o id st a B S w0 m ρ K := by
  simp only [opK, ho] at h
  split at h
  · rename_i i off v hx hy
    split at h
    · rename_i b hb
      split at h
      · rename_i hc
        simp only [Bool.and_eq_true] at hc
        obtain ⟨⟨⟨hc1, hc2⟩, hc3⟩, hc4⟩ := hc
        obtain ⟨-, inf, hi⟩ := okT_elim hc4
        have hc1 := Nat.eq_of_beq_eq_true hc1
        have hc2 := Nat.le_of_ble_eq_true hc2
        refine .inr (.inr ⟨i, b, ⟨b.ty, overCells b.cs off v.cells.toList⟩, hb, rfl, h, fun w hw => ?_⟩)
        have hr := hw.boxes i b hb
        have hst := run_storeCells_at (P := P) (ρ i) off b.ty v.cells.toList 0 b.cs.toArray w hr (by simp; omega) (oneCells_all _ hc3)
        have hsz : (storeVar t ⟨ρ i, off, none⟩ v).run P w = .ok () (w.setRow (ρ i) (overCells b.cs off v.cells.toList).toArray) := by
          simp only [storeVar, Sem.run_bind, run_sizeOf hi, Result.andThen_ok, hc1, ne_eq, not_true_eq_false, if_false]
          rw [overCells_eq _ _ _ (by simpa using hc2)]
          simpa using hst
        simp [execOp, ho, evO_own T hx, evO_val T hy, Instr.storeAt, Instr.sureAddr, hsz]
      · exact h.elim
    · exact h.elim
  · exact h.elim

theorem fieldOff_run {s : TypeId} {f k : Nat} (h : fieldOff P s f = some k) (r off : Nat) (w : World) :
    (Instr.fieldAt s (.pointer (some ⟨r, off, none⟩)) f).run P w = .ok (.pointer (some ⟨r, off + k, none⟩)) w := by
  unfold fieldOff at h
  split at h
  · rename_i fs hu
    split at h
    · rename_i fd hf
      cases hz : Nat.beq (sizeT P fd.type) 0 with
      | true => simp [hz] at h
      | false =>
        simp only [hz, cond_false] at h
        split at h
        · rename_i hi
          obtain ⟨inf, hi⟩ := Option.isSome_iff_exists.1 hi
          simp only [Option.some.injEq] at h
          subst h
          have hz' : sizeT P fd.type ≠ 0 := fun e => by rw [e] at hz; cases hz
          have hfp : (fieldPlace ⟨r, off, none⟩ fd).run P w = .ok ⟨r, off + fd.offset, none⟩ w := by
            simp only [fieldPlace, Sem.run_bind, run_sizeOf hi, Result.andThen_ok, hz', if_false, Sem.run_pure]
            congr 1
            unfold Addr.add
            split <;> simp_all
          simp [Instr.fieldAt, run_underlying hu w, hf, Instr.sureAddr, hfp]
        · cases h
    · cases h
  · cases h

theorem alt_fieldAddr (T : TC DF N n st ρ a) (s : TypeId) (x : Operand) (f : Nat) (ho : o.op = .fieldAddr s x f) (h : opK P o id st m K) : Alt P o id st a B S w0 m ρ K := by
  simp only [opK, ho] at h
  split at h
  · rename_i i off hx
    split at h
    · rename_i k hk
      refine .inl ⟨.own i (off + k), .pointer (some ⟨ρ i, off + k, none⟩), h, rfl, fun i' off' e => ?_, fun w _ => ?_⟩
      · cases e; exact evO_src hx
      · unfold Oper.quietAt
        simp only [execOp, ho, evO_own T hx, Sem.run_bind, fieldOff_run hk, Result.andThen_ok, Sem.run_pure]
        exact ⟨rfl, rfl⟩
    · exact h.elim
  · rename_i b off hx
    split at h
    · rename_i k hk
      exact alt_val h fun w => by simp only [execOp, ho, evO_val T hx, Sem.run_bind, fieldOff_run hk, Result.andThen_ok, Sem.run_pure]
    · exact h.elim
  · exact h.elim

theorem alt_indexAddr (T : TC DF N n st ρ a) (t : TypeId) (x ix : Operand) (ho : o.op = .indexAddr t x ix) (h : opK P o id st m K) : Alt P o id st a B S w0 m ρ K := by
  simp only [opK, ho] at h
  split at h
  · rename_i s len cap k i size hx hi he
    obtain ⟨b, off, rfl, hb, hk⟩ := h
    refine alt_val hk fun w => ?_
    unfold elemSize at he
    split at he
    · rename_i e hu
      split at he
      · rename_i inf hinf
        simp only [Option.some.injEq] at he
        subst he
        have hs : (sizeOf e).run P w = .ok inf.size w := by simp [sizeOf, typeInfo, hinf]
        have hadd : (⟨b, off, none⟩ : Addr).add (i.toNat * inf.size) = ⟨b, off + i.toNat * inf.size, none⟩ := by unfold Addr.add; split <;> simp_all
        simp [execOp, ho, evO_val T hx, evO_val T hi, Instr.indexAt, asIntOf, run_underlying hu w, hb, hs, hadd]
      · cases he
    · cases he
  · rename_i b off k i hx hi he
    split at h
    · rename_i len size ha
      obtain ⟨hb, hk⟩ := h
      refine alt_val hk fun w => ?_
      unfold arrInfo at ha
      split at ha
      · rename_i len' e hu
        split at ha
        · rename_i inf hinf
          simp only [Option.some.injEq, Prod.mk.injEq] at ha
          obtain ⟨rfl, rfl⟩ := ha
          have hs : (sizeOf e).run P w = .ok inf.size w := by simp [sizeOf, typeInfo, hinf]
          have hadd : (⟨b, off, none⟩ : Addr).add (i.toNat * inf.size) = ⟨b, off + i.toNat * inf.size, none⟩ := by unfold Addr.add; split <;> simp_all
          simp [execOp, ho, evO_val T hx, evO_val T hi, Instr.indexAt, asIntOf, run_underlying hu w, hb, hs, hadd, Instr.sureAddr]
        · cases ha
      · cases ha
    · exact h.elim
  · exact h.elim

theorem alt_nilCheck (T : TC DF N n st ρ a) (x : Operand) (ho : o.op = .nilCheck x) (h : opK P o id st m K) : Alt P o id st a B S w0 m ρ K := by
  simp only [opK, ho] at h
  split at h
  · rename_i i off hx
    refine .inl ⟨.own i off, .pointer (some ⟨ρ i, off, none⟩), h, rfl, fun i' off' e => ?_, fun w _ => ?_⟩
    · cases e; exact evO_src hx
    · unfold Oper.quietAt
      simp only [execOp, ho, evO_own T hx, Sem.run_pure]
      exact ⟨rfl, rfl⟩
  · rename_i b hx
    exact alt_val h fun w => by simp only [execOp, ho, evO_val T hx, Sem.run_pure]
  · rename_i f first caps hx
    exact alt_val h fun w => by simp only [execOp, ho, evO_val T hx, Sem.run_pure]
  · exact h.elim

theorem alt_build (T : TC DF N n st ρ a) (t : TypeId) (parts : Array (Nat × Operand)) (ho : o.op = .build t parts) (h : opK P o id st m K) : Alt P o id st a B S w0 m ρ K := by
  simp only [opK, ho] at h
  have h := withVals_elim T _ _ h
  refine alt_pure h ?_
  have e : ((parts.toList.map (·.1)).zip ([] ++ (parts.toList.map (·.2)).map a.eval)).toArray = parts.map fun (i, x) => (i, a.eval x) := by
    apply Array.ext'
    simp only [List.nil_append, List.map_map, Array.toList_map]
    generalize parts.toList = l
    induction l with
    | nil => rfl
    | cons p r ih => simp_all
  simp only [execOp, ho, e]

theorem partB_run {t : TypeId} {cs : Array Value} {off : Nat} {v : Value} (h : partB P t cs off = some v) (hok : (P.info? t).isSome = true) (hu : (P.underlying t).isSome = true) (w : World) :
    (part t cs off).run P w = .ok v w := by
  obtain ⟨d, hd⟩ := Option.isSome_iff_exists.1 hu
  obtain ⟨i, hi⟩ := Option.isSome_iff_exists.1 hok
  have hagg := run_isAgg t d hd w
  unfold partB at h
  split at h
  · rename_i hA
    rw [hA] at hagg
    simp only [Option.some.injEq] at h
    subst h
    simp [part, hagg, run_sizeOf hi]
  · rename_i hA
    rw [hA] at hagg
    simp [part, hagg, h]

theorem eqB_under {d : Nat} {t : TypeId} {x y : Value} {b : Bool} (h : eqB P d t x y = some b) : (P.underlying t).isSome = true := by
  cases d with
  | zero => simp [eqB] at h
  | succ d =>
    cases hu : P.underlying t with
    | none => simp [eqB, hu] at h
    | some d => rfl

theorem eqFs_run {d D : Nat} (ih : ∀ t x y b, eqB P d t x y = some b → ∀ w, (Op.equalIn D t x y).run P w = .ok b w) :
    ∀ (fs : List Field) xs ys b, eqFs P (eqB P d) fs xs ys = some b → ∀ w, (Op.eqFields D xs ys fs).run P w = .ok b w
  | [], xs, ys, b, h, w => by simp only [eqFs, Option.some.injEq] at h; subst h; simp [Op.eqFields]
  | f :: r, xs, ys, b, h, w => by
    simp only [eqFs] at h
    split at h
    · rename_i x y hn hx hy
      split at h
      · rename_i b1 c1 hb hc
        simp only [Option.some.injEq] at h
        subst h
        simp only [Bool.and_eq_true, bne_iff_ne, ne_eq] at hn
        have hu := eqB_under hb
        have e1 := partB_run hx hn.2 hu w
        have e2 := partB_run hy hn.2 hu w
        have e3 := ih _ _ _ _ hb w
        have e4 := eqFs_run ih r xs ys c1 hc w
        simp only [Op.eqFields, ne_eq, hn.1, not_false_eq_true, if_true, Sem.run_bind, e1, e2, e3, Result.andThen_ok]
        cases b1
        · simp
        · simpa using e4
      · cases h
    · cases h

theorem eqB_run : ∀ (d : Nat) (t : TypeId) (x y : Value) (b : Bool) (D : Nat) (_ : eqB P d t x y = some b) (_ : d ≤ D) (w : World), (Op.equalIn D t x y).run P w = .ok b w
  | 0, t, x, y, b, D, h, _, _ => by simp [eqB] at h
  | d + 1, t, x, y, b, D, h, hD, w => by
    obtain ⟨D, rfl⟩ : ∃ D', D = D' + 1 := ⟨D - 1, by omega⟩
    simp only [eqB] at h
    split at h
    · rename_i hu
      simp only [Option.some.injEq] at h; subst h
      exact run_equalIn_bool' w D t _ _ hu
    · rename_i k0 k a k' b hu
      split at h
      · rename_i he
        have he := of_decide_eq_true he
        subst he
        simp only [Option.some.injEq] at h; subst h
        exact run_equalIn_int w D t _ _ _ _ hu
      · cases h
    · rename_i hu
      simp only [Option.some.injEq] at h; subst h
      exact run_equalIn_string w D t _ _ hu
    · rename_i fs xs ys hu
      split at h
      · cases h
      · rename_i hp
        have hf : P.fieldsOf t = fs := by simp [Program.fieldsOf, hu]
        rw [run_equalIn_struct w D t xs ys (by rw [hf]; exact hu) hp, hf]
        exact eqFs_run (fun t x y b h w => eqB_run d t x y b D h (by omega) w) _ _ _ _ h w
    · cases h

theorem eqGuard_slice (op : BinOp) (t : TypeId) (x y : Operand) (a b : Option Addr) (n c n' c' : Nat) (w : World) : (eqGuard op t x y (.slice a n c) (.slice b n' c')).run P w = .ok () w := by
  cases op <;> simp [eqGuard]
theorem run_equalIn_nil {t e : TypeId} (hu : P.underlying t = some (.slice e)) (a : Option Addr) (n c n' c' : Nat) (w : World) (d : Nat) : (Op.equalIn (d + 1) t (.slice a n c) (.slice none n' c')).run P w = .ok a.isNone w := by
  cases a <;> simp [Op.equalIn, run_underlying hu]
theorem run_equal_nil {t e : TypeId} (hu : P.underlying t = some (.slice e)) (a : Option Addr) (n c n' c' : Nat) (w : World) : (Op.equal t (.slice a n c) (.slice none n' c')).run P w = .ok a.isNone w :=
  run_equalIn_nil hu a n c n' c' w 9999
theorem run_eql_nil {t e : TypeId} (hu : P.underlying t = some (.slice e)) (a : Option Addr) (n c n' c' : Nat) (w : World) : (Go.binOp .eql t (.slice a n c) (.slice none n' c')).run P w = .ok (.bool a.isNone) w := by
  simp [Go.binOp, run_equal_nil hu]
theorem run_neq_nil {t e : TypeId} (hu : P.underlying t = some (.slice e)) (a : Option Addr) (n c n' c' : Nat) (w : World) : (Go.binOp .neq t (.slice a n c) (.slice none n' c')).run P w = .ok (.bool !a.isNone) w := by
  simp [Go.binOp, run_equal_nil hu]

theorem run_equalIn_fn {t : TypeId} {ps rs : Array TypeId} {vd : Bool} (hu : P.underlying t = some (.func ps rs vd)) (f : Fn) (a b : Array Value) (w : World) (d : Nat) : (Op.equalIn (d + 1) t (.func f a b) .nilFunc).run P w = .ok false w := by
  simp [Op.equalIn, run_underlying hu]
theorem run_eql_fn {t : TypeId} {ps rs : Array TypeId} {vd : Bool} (hu : P.underlying t = some (.func ps rs vd)) (f : Fn) (a b : Array Value) (w : World) : (Go.binOp .eql t (.func f a b) .nilFunc).run P w = .ok (.bool false) w := by
  have : (Op.equal t (.func f a b) .nilFunc).run P w = .ok false w := run_equalIn_fn hu f a b w 9999
  simp [Go.binOp, this]

theorem alt_binOp (T : TC DF N n st ρ a) (op : BinOp) (t : TypeId) (x y : Operand) (yt : TypeId) (ho : o.op = .binOp op t x y yt) (h : opK P o id st m K) : Alt P o id st a B S w0 m ρ K := by
  simp only [opK, ho] at h
  obtain ⟨v, hv, h⟩ := withVal_elim h
  obtain ⟨u, hu, h⟩ := withVal_elim h
  have hx := evO_val T hv
  have hy := evO_val T hu
  split at h
  · split at h
    · rename_i he
      have he := of_decide_eq_true he
      subst he
      exact alt_val h.2 fun w => by simp [execOp, ho, hx, hy, eqGuard, Go.binOp, Op.intDiv, h.1]
    · exact h.elim
  · split at h
    · rename_i he
      have he := of_decide_eq_true he
      subst he
      exact alt_val h.2 fun w => by simp [execOp, ho, hx, hy, eqGuard, Go.binOp, Op.intDiv, h.1]
    · exact h.elim
  · split at h
    · rename_i b hg hb
      exact alt_val h fun w => by
        simp only [execOp, ho, hx, hy, Sem.run_bind, run_eqGuard_agg w _ _ _ _ _ _ hg, Result.andThen_ok, run_eql_struct, eqB_run _ _ _ _ _ 10000 hb (by omega) w, Sem.run_pure]
    · exact h.elim
  · split at h
    · rename_i b hg hb
      exact alt_val h fun w => by
        simp only [execOp, ho, hx, hy, Sem.run_bind, run_eqGuard_agg w _ _ _ _ _ _ hg, Result.andThen_ok, run_neq_struct, eqB_run _ _ _ _ _ 10000 hb (by omega) w, Sem.run_pure]
    · exact h.elim
  · split at h
    · rename_i e hu
      exact alt_val h fun w => by simp only [execOp, ho, hx, hy, Sem.run_bind, eqGuard_slice, run_eql_nil hu, Sem.run_pure, Result.andThen_ok]
    · exact h.elim
  · split at h
    · rename_i e hu
      exact alt_val h fun w => by simp only [execOp, ho, hx, hy, Sem.run_bind, eqGuard_slice, run_neq_nil hu, Sem.run_pure, Result.andThen_ok]
    · exact h.elim
  · split at h
    · rename_i ps rs vd hu
      exact alt_val h fun w => by simp only [execOp, ho, hx, hy, Sem.run_bind, eqGuard, run_eql_fn hu, Sem.run_pure, Result.andThen_ok]; simp [run_eql_fn hu]
    · exact h.elim
  · obtain ⟨v, hr, hk⟩ := pureK_elim _ h
    exact alt_val hk fun w => by simp [execOp, ho, hx, hy, eqGuard, hr w]
  · obtain ⟨v, hr, hk⟩ := pureK_elim _ h
    exact alt_val hk fun w => by simp [execOp, ho, hx, hy, eqGuard, hr w]
  · obtain ⟨v, hr, hk⟩ := pureK_elim _ h
    exact alt_val hk fun w => by simp [execOp, ho, hx, hy, eqGuard, hr w]
  · exact h.elim

theorem boundV_elim (T : TC DF N n st ρ a) {x : Option Operand} {d : Int} {K : Int → Prop} (h : boundV st x d K) :
    ∃ i, K i ∧ ((x = none ∧ i = d) ∨ (x.isSome = true ∧ ∃ k, x.map a.eval = some (.int k i))) := by
  unfold boundV at h
  split at h
  · exact ⟨_, h, .inl ⟨rfl, rfl⟩⟩
  · split at h
    · rename_i hx
      exact ⟨_, h, .inr ⟨rfl, ⟨_, by rw [Option.map_some, evO_val T hx]⟩⟩⟩
    · exact h.elim

theorem run_sliceBound (k : IntKind) (i : Int) (y : Nat) (code : BoundsCode) (h : 0 ≤ i ∧ i ≤ y) (w : World) : (Instr.sliceBound (.int k i) y code).run P w = .ok i.toNat w := by
  simp [Instr.sliceBound, asIntOf, h]

theorem alt_slice (T : TC DF N n st ρ a) (t : TypeId) (x : Operand) (lo hi mx : Option Operand) (ho : o.op = .slice t x lo hi mx) (h : opK P o id st m K) : Alt P o id st a B S w0 m ρ K := by
  simp only [opK, ho] at h
  split at h
  · rename_i s hx hu
    obtain ⟨l, h, hl⟩ := boundV_elim T h
    obtain ⟨e, h, he⟩ := boundV_elim T h
    obtain ⟨⟨h1, h2, h3, h4⟩, hk⟩ := h
    obtain rfl : mx = none := by simpa using h1
    refine alt_val hk fun w => ?_
    have hb : (Instr.sliceBounds false s.size s.size (lo.map a.eval) (hi.map a.eval) none).run P w = .ok (l.toNat, e.toNat, s.size) w := by
      rcases he with ⟨rfl, rfl⟩ | ⟨hs, k, hv⟩
      · rcases hl with ⟨rfl, rfl⟩ | ⟨hs', k', hv'⟩
        · simp [Instr.sliceBounds]
        · simp [Instr.sliceBounds, hv', run_sliceBound k' l s.size _ ⟨h2, h3⟩ w]
      · rw [hs] at h4
        rcases hl with ⟨rfl, rfl⟩ | ⟨hs', k', hv'⟩
        · simp [Instr.sliceBounds, hv, run_sliceBound k e s.size _ ⟨by omega, h4⟩ w]
        · simp [Instr.sliceBounds, hv, hv', run_sliceBound k e s.size _ ⟨by omega, h4⟩ w, run_sliceBound k' l e.toNat _ ⟨h2, by omega⟩ w]
    simp [execOp, ho, evO_val T hx, Instr.sliceAt, Instr.slice, run_underlying hu w, hb]
  · rename_i s len cap el hx hu
    split at h
    · rename_i inf hinf
      obtain ⟨l, h, hl⟩ := boundV_elim T h
      obtain ⟨e, h, he⟩ := boundV_elim T h
      obtain ⟨mm, h, hm⟩ := boundV_elim T h
      obtain ⟨⟨h1, h2, h3, h4, h5⟩, hk⟩ := h
      refine alt_val hk fun w => ?_
      have hb : (Instr.sliceBounds true len cap (lo.map a.eval) (hi.map a.eval) (mx.map a.eval)).run P w = .ok (l.toNat, e.toNat, mm.toNat) w := by
        rcases hm with ⟨rfl, rfl⟩ | ⟨hs3, k3, hv3⟩
        · rcases he with ⟨rfl, rfl⟩ | ⟨hs, k, hv⟩
          · rcases hl with ⟨rfl, rfl⟩ | ⟨hs', k', hv'⟩
            · simp [Instr.sliceBounds]
            · simp [Instr.sliceBounds, hv', run_sliceBound k' l len _ ⟨h2, h3⟩ w]
          · rw [hs] at h4
            rcases hl with ⟨rfl, rfl⟩ | ⟨hs', k', hv'⟩
            · simp [Instr.sliceBounds, hv, run_sliceBound k e cap _ ⟨by omega, h4⟩ w]
            · simp [Instr.sliceBounds, hv, hv', run_sliceBound k e cap _ ⟨by omega, h4⟩ w, run_sliceBound k' l e.toNat _ ⟨h2, by omega⟩ w]
        · rw [hs3] at h5
          rcases he with ⟨rfl, rfl⟩ | ⟨hs, k, hv⟩
          · simp at h1; simp [h1] at hs3
          · rw [hs] at h4
            have h4 : e ≤ mm := h4
            have h5 : mm ≤ cap := h5
            rcases hl with ⟨rfl, rfl⟩ | ⟨hs', k', hv'⟩
            · simp [Instr.sliceBounds, hv, hv3, run_sliceBound k3 mm cap _ ⟨by omega, h5⟩ w, run_sliceBound k e mm.toNat _ ⟨by omega, by omega⟩ w]
            · simp [Instr.sliceBounds, hv, hv', hv3, run_sliceBound k3 mm cap _ ⟨by omega, h5⟩ w, run_sliceBound k e mm.toNat _ ⟨by omega, by omega⟩ w, run_sliceBound k' l e.toNat _ ⟨h2, by omega⟩ w]
      have hs : (sizeOf el).run P w = .ok inf.size w := by simp [sizeOf, typeInfo, hinf]
      simp [execOp, ho, evO_val T hx, Instr.sliceAt, Instr.slice, run_underlying hu w, hb, hs, sliceTo]
    · exact h.elim
  · exact h.elim

theorem calls_quiet {g : FuncId} {args : List Value} {own : Nat → Option Bx} {v : Value} (hq : QSpec P g args m v) (w : World) (hw : WC B S w0 m own ρ w) :
    Calls P g args.toArray w fun e w' => e = .returned v ∧ WC B S w0 m own ρ w' :=
  (hq.out w hw.ok).mono fun _ _ h => ⟨h.1, hw.grow h.2⟩

theorem callFunc_run {g : FuncId} {fn : Func} (hf : P.funcs[g]? = some fn) (hb : fn.body.isSome = true) (hn : (fn.name != "runtime.NumGoroutine") = true) (args : Array Value) (w : World) :
    (callFunc g args).run P w = .ok (.enter g args) w := by
  simp only [bne_iff_ne, ne_eq] at hn
  obtain ⟨c, hc⟩ := Option.isSome_iff_exists.1 hb
  simp [callFunc, program, Sem.run, hf, hn, hc]

theorem alt_call (T : TC DF N n st ρ a) (c : Call) (ho : o.op = .call c) (h : opK P o id st m K) : Alt P o id st a B S w0 m ρ K := by
  simp only [opK, ho] at h
  obtain ⟨callee, args, argTypes⟩ := c
  cases callee with
  | value f =>
    simp only at h
    split at h
    · rename_i g first caps hev
      have hev := evO_val T hev
      have hargs : first ++ args.map a.eval ++ caps = (first.toList ++ (args.toList.map a.eval) ++ caps.toList).toArray := by apply Array.ext'; simp
      split at h
      · rename_i fn hf
        split at h
        · rename_i hc
          simp only [Bool.and_eq_true] at hc
          have h := withVals_elim T _ _ h
          obtain ⟨v, hq, hk⟩ := exSh_elim _ h
          refine .inl ⟨.val v, v, hk, rfl, fun _ _ e => (by cases e), fun w hw => ?_⟩
          unfold Oper.quietAt
          simp only [execOp, ho, resolve, hev, Deferred.ofValue, Sem.run_bind, Sem.run_pure, Result.andThen_ok, invoke, callFunc_run hf hc.1.1.1 hc.1.1.2]
          refine ⟨rfl, ?_⟩
          rw [hargs]
          exact calls_quiet (by simpa using hq) w hw
        · split at h
          · exact h.elim
          · split at h
            · have h := withVals_elim T _ _ h
              obtain ⟨u, ⟨hcv⟩, hk⟩ := exSh_elim _ h
              obtain ⟨x, hr, hx⟩ := pureK_elim _ hcv
              split at hx
              · rename_i v
                subst hx
                refine alt_val hk fun w => ?_
                simp only [execOp, ho, resolve, hev, Deferred.ofValue, Sem.run_bind, Sem.run_pure, Result.andThen_ok, invoke]
                rw [hargs]
                have := hr w
                simp only [List.nil_append] at this
                exact this
              · exact hx.elim
            · split at h
              · have h := withVals_elim T _ _ h
                obtain ⟨v, ⟨hrun⟩, hk⟩ := exSh_elim _ h
                refine .inl ⟨.val v, v, hk, rfl, fun _ _ e => (by cases e), fun w hw => ?_⟩
                unfold Oper.quietAt
                simp only [execOp, ho, resolve, hev, Deferred.ofValue, Sem.run_bind, Sem.run_pure, Result.andThen_ok, invoke]
                rw [hargs]
                have := hrun w hw.ok
                simp only [List.nil_append] at this
                rw [this]
                exact ⟨rfl, rfl⟩
              · have h := withVals_elim T _ _ h
                obtain ⟨x, hr, hk⟩ := pureK_elim _ h
                split at hk
                · rename_i v
                  refine alt_val hk fun w => ?_
                  simp only [execOp, ho, resolve, hev, Deferred.ofValue, Sem.run_bind, Sem.run_pure, Result.andThen_ok, invoke]
                  rw [hargs]
                  have := hr w
                  simp only [List.nil_append] at this
                  exact this
                · exact hk.elim
      · exact h.elim
    · exact h.elim
  | invoke r mm => exact h.elim
  | builtin b =>
    simp only at h
    split at h
    · rename_i hb
      have h := withVals_elim T _ _ h
      obtain ⟨x, hr, hk⟩ := pureK_elim _ h
      have hargs : args.map a.eval = (args.toList.map a.eval).toArray := by apply Array.ext'; simp
      split at hk
      · rename_i v
        refine alt_val hk fun w => ?_
        simp only [execOp, ho, resolve, Sem.run_bind, Sem.run_pure, Result.andThen_ok, invoke]
        rw [hargs]
        have := hr w
        simp only [List.nil_append] at this
        exact this
      · exact hk.elim
    · exact h.elim

theorem opK_alt (T : TC DF N n st ρ a) (h : opK P o id st m K) : Alt P o id st a B S w0 m ρ K := by
  cases ho : o.op with
  | move x => exact alt_sv T x (by simpa only [opK, ho] using h) (by simp only [execOp, ho])
  | assign x => exact alt_sv T x (by simpa only [opK, ho] using h) (by simp only [execOp, ho])
  | pick c x y => exact alt_pick T c x y ho h
  | alloc t => exact alt_alloc t ho h
  | box t x => exact alt_box T t x ho h
  | load t x => exact alt_load T t x ho h
  | store t x y => exact alt_store T t x y ho h
  | fieldAddr s x f => exact alt_fieldAddr T s x f ho h
  | indexAddr t x ix => exact alt_indexAddr T t x ix ho h
  | nilCheck x => exact alt_nilCheck T x ho h
  | field t x f =>
    simp only [opK, ho] at h
    obtain ⟨v, hv, h⟩ := withVal_elim h
    exact alt_pure h (by simp only [execOp, ho, evO_val T hv])
  | extract x i =>
    simp only [opK, ho] at h
    obtain ⟨v, hv, h⟩ := withVal_elim h
    exact alt_pure h (by simp only [execOp, ho, evO_val T hv])
  | unOp op t x =>
    simp only [opK, ho] at h
    obtain ⟨v, hv, h⟩ := withVal_elim h
    exact alt_pure h (by simp only [execOp, ho, evO_val T hv])
  | convert s d x =>
    simp only [opK, ho] at h
    obtain ⟨v, hv, h⟩ := withVal_elim h
    exact alt_pure h (by simp only [execOp, ho, evO_val T hv])
  | build t parts => exact alt_build T t parts ho h
  | binOp op t x y yt => exact alt_binOp T op t x y yt ho h
  | slice t x lo hi mx => exact alt_slice T t x lo hi mx ho h
  | call c => exact alt_call T c ho h
  | _ => simp only [opK, ho] at h
end

/-- the state that the evaluator has stands for the frame and the world -/
def Rep (B : Nat) (S : Nat → Prop) (w0 : World) (m0 : M) (DF : List Deferred) (N n : Nat) (st : St) (m : M) (a : Act) (w : World) : Prop :=
  ∃ ρ, SC B S m0 m st.own ρ ∧ TC DF N n st ρ a ∧ WC B S w0 m st.own ρ w

section
variable {P : Program} {B : Nat} {S : Nat → Prop} {w0 : World} {m0 : M} {DF : List Deferred} {N n : Nat} {st : St} {m : M} {a : Act} {w : World} {ρ : Nat → Nat}

theorem getD_set {l : Array Value} {d t : Nat} {v : Value} (hd : d < l.size) : (l.setIfInBounds d v).getD t undef = if t = d then v else l.getD t undef := by
  by_cases h : t = d
  · subst h; simp [hd]
  · have h' : ¬ d = t := fun e => h e.symm
    simp [h, h']

theorem TC.putO (T : TC DF N n st ρ a) {dst : Option Nat} (hd : ∀ d, dst = some d → d < N) {x : SV} {v : Value} (hx : svR ρ x v) (hf : ∀ i off, x = .own i off → i < n) : TC DF N n (st.putO dst x) ρ (a.put dst v) := by
  cases dst with
  | none => exact T
  | some d =>
    have hd := hd d rfl
    refine ⟨by simp [Act.put, T.size], T.defers, fun t => ?_, fun t i o h => ?_, T.ownfresh⟩
    · simp only [St.putO, St.put, Act.put]
      rw [getD_set (by rw [T.size]; exact hd)]
      cases hb : Nat.beq t d with
      | true => rw [if_pos (Nat.eq_of_beq_eq_true hb)]; exact hx
      | false => rw [if_neg (Nat.ne_of_beq_eq_false hb)]; exact T.slots t
    · simp only [St.putO, St.put] at h
      cases hb : Nat.beq t d with
      | true => rw [hb] at h; exact hf _ _ h
      | false => rw [hb] at h; exact T.fresh _ _ _ h

theorem TC.mono {n' : Nat} (T : TC DF N n st ρ a) (h : n ≤ n') : TC DF N n' st ρ a :=
  ⟨T.size, T.defers, T.slots, fun t i o e => Nat.lt_of_lt_of_le (T.fresh t i o e) h, fun i b e => Nat.lt_of_lt_of_le (T.ownfresh i b e) h⟩

theorem putO_own (dst : Option Nat) (x : SV) : (st.putO dst x).own = st.own := by cases dst <;> rfl

theorem SC.setBox (Z : SC B S m0 m st.own ρ) {id : Nat} {b : Bx} {r : Nat} (hfr : ∀ i c, st.own i = some c → ρ i ≠ r) (hlo : B ≤ r) (hap : (∀ o, m.π r o = none) ∧ ¬ m.uf r) :
    SC B S m0 m (fun t => bif Nat.beq t id then some b else st.own t) (fun t => bif Nat.beq t id then r else ρ t) := by
  refine ⟨Z.agree, fun i c h => ?_, fun i c h => ?_, fun i j c d hi hj e => ?_⟩
  · cases hb : Nat.beq i id with
    | true => simpa [hb] using hlo
    | false => rw [hb] at h; simpa [hb] using Z.lo i c h
  · cases hb : Nat.beq i id with
    | true => simpa [hb] using hap
    | false => rw [hb] at h; simpa [hb] using Z.apart i c h
  · cases hb : Nat.beq i id with
    | true =>
      cases hb' : Nat.beq j id with
      | true => exact (Nat.eq_of_beq_eq_true hb).trans (Nat.eq_of_beq_eq_true hb').symm
      | false =>
        rw [hb'] at hj
        simp only [hb, hb', cond_true, cond_false] at e
        exact absurd e.symm (hfr j d hj)
    | false =>
      rw [hb] at hi
      cases hb' : Nat.beq j id with
      | true =>
        simp only [hb, hb', cond_true, cond_false] at e
        exact absurd e (hfr i c hi)
      | false =>
        rw [hb'] at hj
        simp only [hb, hb', cond_false] at e
        exact Z.inj i j c d hi hj e

theorem Rep.box (Z : SC B S m0 m st.own ρ) (T : TC DF N n st ρ a) (W : WC B S w0 m st.own ρ w) {dst : Option Nat} (hd : ∀ d, dst = some d → d < N) {id n' : Nat} (hown : ∀ i c, st.own i = some c → i ≠ id) (hslot : ∀ t i o, st.tmps t = .own i o → i ≠ id) (hnn : n ≤ n') (hid : id < n') (b : Bx) :
    Rep B S w0 m0 DF N n' (st.app dst (.box id b)) m (a.put dst (.pointer (some ⟨w.heap.size, 0, none⟩))) (w.alloc (.cells b.cs.toArray b.ty (0, 0))) := by
  have hbelow : Below w.heap.size w (w.alloc (.cells b.cs.toArray b.ty (0, 0))) := (Below.refl _ _).alloc (Nat.le_refl _) _
  have W' := W.grow hbelow
  have hlt : ∀ i c, st.own i = some c → ρ i < w.heap.size := fun i c h => look_lt (W.boxes i c h)
  have hne : ∀ i c, st.own i = some c → Nat.beq i id = false := fun i c h => by
    cases hb : Nat.beq i id with
    | false => rfl
    | true => exact absurd (Nat.eq_of_beq_eq_true hb) (hown i c h)
  let ρ' : Nat → Nat := fun t => bif Nat.beq t id then w.heap.size else ρ t
  have hρ : ∀ x v, (∀ i off, x = .own i off → i ≠ id) → svR ρ x v → svR ρ' x v := fun x v hf h => by
    cases x with
    | val u => exact h
    | unk => trivial
    | own i off =>
      have hi := hf i off rfl
      have : Nat.beq i id = false := by
        cases hb : Nat.beq i id with
        | false => rfl
        | true => exact absurd (Nat.eq_of_beq_eq_true hb) hi
      simp only [svR, ρ', this, cond_false]
      exact h
  have T' : TC DF N n' st ρ' a := ⟨T.size, T.defers, fun t => hρ _ _ (fun i off e => hslot t i off e) (T.slots t), fun t i o e => by have := T.fresh t i o e; omega, fun i c e => by have := T.ownfresh i c e; omega⟩
  have T2 := T'.putO hd (x := .own id 0) (v := .pointer (some ⟨w.heap.size, 0, none⟩)) (by simp [svR, ρ']) (fun i off e => by cases e; omega)
  refine ⟨ρ', ?_, ⟨T2.size, T2.defers, T2.slots, T2.fresh, fun i c h => ?_⟩, ?_⟩
  · have := Z.setBox (id := id) (b := b) (r := w.heap.size) (fun i c h => Nat.ne_of_lt (hlt i c h)) W.size
      ⟨fun o => by
        cases hp : m.π w.heap.size o with
        | none => rfl
        | some v => have := (W.ok.2.1 _ _ _ hp).1; have := W.ok.1; omega, fun hu => by have := (W.ok.2.2 _ hu).1; have := W.ok.1; omega⟩
    simpa only [St.app, St.setOwn, putO_own] using this
  · simp only [St.app, St.setOwn, putO_own] at h
    cases hb : Nat.beq i id with
    | true => have := Nat.eq_of_beq_eq_true hb; omega
    | false => rw [hb] at h; have := T.ownfresh i c h; omega
  · refine ⟨W'.ok, W'.below, W'.size, fun i c h => ?_⟩
    simp only [St.app, St.setOwn, putO_own] at h
    cases hb : Nat.beq i id with
    | true =>
      rw [hb] at h
      simp only [cond_true, Option.some.injEq] at h
      subst h
      simp only [ρ', hb, cond_true, World.alloc, Array.getElem?_push_size]
    | false =>
      rw [hb] at h
      simp only [ρ', hb, cond_false]
      exact W'.boxes i c h

theorem heap_setRow_ne (w : World) (g k : Nat) (cs : Array Value) (h : k ≠ g) : (w.setRow g cs).heap[k]? = w.heap[k]? := by
  have h' : ¬ g = k := fun e => h e.symm
  simp [World.setRow, Array.getElem?_modify, h']

theorem size_setRow (w : World) (g : Nat) (cs : Array Value) : (w.setRow g cs).heap.size = w.heap.size := by simp [World.setRow]

theorem M.ok.setRow (h : m.ok w) {g : Nat} {cs : Array Value} (hap : (∀ o, m.π g o = none) ∧ ¬ m.uf g) : m.ok (w.setRow g cs) := by
  obtain ⟨h1, h2, h3⟩ := h
  refine ⟨by rw [size_setRow]; exact h1, fun b o v hv => ?_, fun b hu => ?_⟩
  · obtain ⟨hlt, hc⟩ := h2 b o v hv
    have : b ≠ g := fun e => by subst e; rw [hap.1 o] at hv; cases hv
    exact ⟨hlt, by rw [World.cell?_of_block (w := w) (heap_setRow_ne w g b cs this)]; exact hc⟩
  · obtain ⟨hlt, c, t, hc⟩ := h3 b hu
    have : b ≠ g := fun e => by subst e; exact hap.2 hu
    exact ⟨hlt, c, t, by rw [heap_setRow_ne w g b cs this]; exact hc⟩

theorem Rep.wr (Z : SC B S m0 m st.own ρ) (T : TC DF N n st ρ a) (W : WC B S w0 m st.own ρ w) {dst : Option Nat} (hd : ∀ d, dst = some d → d < N) {i : Nat} {b b' : Bx} (hi : st.own i = some b) (ht : b'.ty = b.ty) :
    Rep B S w0 m0 DF N n (st.app dst (.wr i b')) m (a.put dst undef) (w.setRow (ρ i) b'.cs.toArray) := by
  have T2 := T.putO hd (x := .val undef) (v := undef) rfl (fun i off e => by cases e)
  refine ⟨ρ, ⟨Z.agree, fun j c h => ?_, fun j c h => ?_, fun j k c d hj hk e => ?_⟩, ⟨T2.size, T2.defers, T2.slots, T2.fresh, fun j c h => ?_⟩, W.ok.setRow (Z.apart i b hi), ?_, by rw [size_setRow]; exact W.size, fun j c h => ?_⟩
  all_goals try simp only [St.app, St.setOwn, putO_own] at *
  · cases hb : Nat.beq j i with
    | true => have := Nat.eq_of_beq_eq_true hb; subst this; exact Z.lo _ _ hi
    | false => rw [hb] at h; exact Z.lo _ _ h
  · cases hb : Nat.beq j i with
    | true => have := Nat.eq_of_beq_eq_true hb; subst this; exact Z.apart _ _ hi
    | false => rw [hb] at h; exact Z.apart _ _ h
  · have f : ∀ j c, (bif Nat.beq j i then some b' else st.own j) = some c → ∃ c, st.own j = some c := fun j c h => by
      cases hb : Nat.beq j i with
      | true => have := Nat.eq_of_beq_eq_true hb; subst this; exact ⟨_, hi⟩
      | false => rw [hb] at h; exact ⟨_, h⟩
    obtain ⟨_, hj'⟩ := f j c hj
    obtain ⟨_, hk'⟩ := f k d hk
    exact Z.inj j k _ _ hj' hk' e
  · cases hb : Nat.beq j i with
    | true => have := Nat.eq_of_beq_eq_true hb; subst this; exact T.ownfresh _ _ hi
    | false => rw [hb] at h; exact T.ownfresh _ _ h
  · refine W.below.trans ⟨rfl, rfl, rfl, by rw [size_setRow]; exact Nat.le_refl _, fun k hk _ => heap_setRow_ne w _ _ _ ?_, fun k o hk ho => ?_⟩
    · have := Z.lo i b hi
      omega
    · rw [heap_setRow_ne w _ _ _ (fun e => ?_)]
      · exact hk
      · subst e
        rw [W.boxes i b hi] at hk
        cases hk
        simp [Obj.isCells] at ho
  · cases hb : Nat.beq j i with
    | true =>
      rw [hb] at h
      have := Nat.eq_of_beq_eq_true hb
      subst this
      simp only [cond_true, Option.some.injEq] at h
      subst h
      rw [setRow_heap w (ρ j) _ _ _ _ (W.boxes j b hi), ht]
    | false =>
      rw [hb] at h
      have hne : ρ j ≠ ρ i := fun e => by have := Z.inj j i _ _ h hi e; subst this; simp at hb
      rw [heap_setRow_ne w _ _ _ hne]
      exact W.boxes j c h
end
end Go.Vc
