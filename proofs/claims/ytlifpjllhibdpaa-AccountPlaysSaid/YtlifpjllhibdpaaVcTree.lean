/-
  A region without a fixed order does what the evaluator asks, in every order. Nothing here is trusted: Lean checks it. It names no program.
-/
import Derived.Test.YtlifpjllhibdpaaVcDraw
set_option linter.unusedVariables false
set_option linter.unusedSimpArgs false
namespace Go.Vc
open Go.RowKit

/-! ### effects by number -/
def esOf (ops : Array Oper) (ε : Nat → Eff) : List (Oper × Eff) := ops.toList.zipIdx.map fun p => (p.1, ε p.2)
theorem esOf_get {ops : Array Oper} {ε : Nat → Eff} {k : Nat} {o : Oper} {e : Eff} : (esOf ops ε)[k]? = some (o, e) ↔ ops[k]? = some o ∧ e = ε k := by
  simp only [esOf, List.getElem?_map, List.getElem?_zipIdx, Array.getElem?_toList, Option.map_map, Option.map_eq_some_iff, Nat.zero_add]
  constructor
  · rintro ⟨a, ha, he⟩
    simp only [Function.comp, Prod.mk.injEq] at he
    obtain ⟨rfl, rfl⟩ := he
    exact ⟨ha, rfl⟩
  · rintro ⟨ha, rfl⟩
    exact ⟨o, ha, rfl⟩
def R (ops : Array Oper) (ε : Nat → Eff) (L : Nat → Bool) (st : St) : St := run L (esOf ops ε) 0 st
def upd (ε : Nat → Eff) (i : Nat) (e : Eff) : Nat → Eff := fun k => if k = i then e else ε k
theorem upd_self (ε : Nat → Eff) (i : Nat) : upd ε i (ε i) = ε := by funext k; unfold upd; split <;> simp_all
theorem upd_at (ε : Nat → Eff) (i : Nat) (e : Eff) : upd ε i e i = e := by simp [upd]
theorem upd_ne {ε : Nat → Eff} {i k : Nat} {e : Eff} (h : k ≠ i) : upd ε i e k = ε k := by simp [upd, h]

theorem run_congr_es {L : Nat → Bool} (l : List (Oper × Eff)) : ∀ (l' : List (Oper × Eff)) (i : Nat) (s : St), l.length = l'.length → (∀ j p p', l[j]? = some p → l'[j]? = some p' → L (i + j) = true → p = p') → run L l i s = run L l' i s := by
  induction l with
  | nil => intro l' i s hl _; cases l' with
    | nil => rfl
    | cons p' r' => simp at hl
  | cons p r ih =>
    intro l' i s hl h
    cases l' with
    | nil => simp at hl
    | cons p' r' =>
      obtain ⟨o, e⟩ := p
      obtain ⟨o', e'⟩ := p'
      have step : (bif L i then s.app o.dst e else s) = (bif L i then s.app o'.dst e' else s) := by
        cases hL : L i with
        | false => rfl
        | true => have := h 0 (o, e) (o', e') rfl rfl (by simpa using hL); cases this; rfl
      have hr := ih r' (i + 1) (bif L i then s.app o'.dst e' else s) (by simpa using hl) fun j p p' hp hp' hL => h (j + 1) p p' (by simpa using hp) (by simpa using hp') (by rw [show i + (j + 1) = i + 1 + j by omega]; exact hL)
      simp only [run]
      rw [step]
      exact hr

theorem R_upd {ops : Array Oper} {ε ε' : Nat → Eff} {L : Nat → Bool} {st : St} (h : ∀ k, L k = true → ε' k = ε k) : R ops ε' L st = R ops ε L st := by
  refine run_congr_es _ _ 0 st (by simp [esOf]) fun j p p' hp hp' hL => ?_
  obtain ⟨o, e⟩ := p
  obtain ⟨o', e'⟩ := p'
  obtain ⟨h1, rfl⟩ := esOf_get.1 hp
  obtain ⟨h2, rfl⟩ := esOf_get.1 hp'
  rw [h1] at h2
  cases h2
  rw [Nat.zero_add] at hL
  rw [h j hL]

theorem run_tmps_cases {L : Nat → Bool} {t : Nat} : ∀ (l : List (Oper × Eff)) (i : Nat) (s : St), (run L l i s).tmps t = s.tmps t ∨ ∃ j o e, l[j]? = some (o, e) ∧ L (i + j) = true ∧ o.dst = some t ∧ (run L l i s).tmps t = slotOf e
  | [], _, _ => .inl rfl
  | (o, e) :: r, i, s => by
    simp only [run]
    rcases run_tmps_cases (L := L) (t := t) r (i + 1) (bif L i then s.app o.dst e else s) with h | ⟨j, o', e', h1, h2, h3, h4⟩
    · rw [h]
      cases hL : L i with
      | false => exact .inl rfl
      | true =>
        simp only [cond_true, app_tmps]
        split
        · rename_i hd
          exact .inr ⟨0, o, e, rfl, by simpa using hL, hd, rfl⟩
        · exact .inl rfl
    · exact .inr ⟨j + 1, o', e', by simpa using h1, by rw [show i + (j + 1) = i + 1 + j by omega]; exact h2, h3, h4⟩
theorem run_own_cases {L : Nat → Bool} {id : Nat} : ∀ (l : List (Oper × Eff)) (i : Nat) (s : St), (run L l i s).own id = s.own id ∨ ∃ j o e b, l[j]? = some (o, e) ∧ L (i + j) = true ∧ boxOf e = some (id, b)
  | [], _, _ => .inl rfl
  | (o, e) :: r, i, s => by
    simp only [run]
    rcases run_own_cases (L := L) (id := id) r (i + 1) (bif L i then s.app o.dst e else s) with h | ⟨j, o', e', b, h1, h2, h3⟩
    · rw [h]
      cases hL : L i with
      | false => exact .inl rfl
      | true =>
        simp only [cond_true, app_own]
        split
        · rename_i id' b' hb
          split
          · rename_i hd
            subst hd
            exact .inr ⟨0, o, e, b', rfl, by simpa using hL, hb⟩
          · exact .inl rfl
        · exact .inl rfl
    · exact .inr ⟨j + 1, o', e', b, by simpa using h1, by rw [show i + (j + 1) = i + 1 + j by omega]; exact h2, h3⟩

def LabOk : Lbl → Nat → Prop
  | .no, _ => False
  | .id a, b => a = b
  | .any, _ => True
theorem apart_ne {l l' : Lbl} {a b : Nat} (h : apartL l l' = true) (h1 : LabOk l a) (h2 : LabOk l' b) : a ≠ b := by
  cases l <;> cases l' <;> simp_all [apartL, LabOk]
  exact Nat.ne_of_beq_eq_false h

/-- a set of operations that may be done: with each all that are ahead of it; boxes come from there -/
structure Cl (st : St) (ops : Array Oper) (base : Nat) (ε : Nat → Eff) (L : Nat → Bool) : Prop where
  dom : ∀ k, L k = true → k < ops.size
  closed : ∀ j o k, ops[j]? = some o → L j = true → hasEdge o k = true → L k = true
  slot : ∀ j id o', L j = true → slotOf (ε j) = .own id o' → id < base ∨ ∃ k, L k = true ∧ id = base + k
  box : ∀ j id b, L j = true → boxOf (ε j) = some (id, b) → id < base ∨ ∃ k, L k = true ∧ id = base + k
  sl : ∀ j id o', L j = true → slotOf (ε j) = .own id o' → id ≤ base + j
  bx : ∀ j id b, L j = true → ε j = .box id b → id = base + j
  wr : ∀ j o id b, ops[j]? = some o → L j = true → ε j = .wr id b → isStore o = true ∧ id < base + j
  lab : ∀ j o id o', ops[j]? = some o → L j = true → slotOf (ε j) = .own id o' → LabOk (labOp base (labT base st ops) st o j) id
  wlab : ∀ j o id b, ops[j]? = some o → L j = true → ε j = .wr id b → LabOk (addrL (labT base st ops) st o) id

section
variable {ops : Array Oper} {base : Nat} {ε ε1 ε2 : Nat → Eff} {L : Nat → Bool} {st : St}

theorem Cl.setE (C : Cl st ops base ε L) {ε' : Nat → Eff} (h : ∀ k, L k = true → ε' k = ε k) : Cl st ops base ε' L where
  dom := C.dom
  closed := C.closed
  slot j id o' hj hs := C.slot j id o' hj (by rw [← h j hj]; exact hs)
  box j id b hj hs := C.box j id b hj (by rw [← h j hj]; exact hs)
  sl j id o' hj hs := C.sl j id o' hj (by rw [← h j hj]; exact hs)
  bx j id b hj hs := C.bx j id b hj (by rw [← h j hj]; exact hs)
  wr j o id b ho hj hs := C.wr j o id b ho hj (by rw [← h j hj]; exact hs)
  lab j o id o' ho hj hs := C.lab j o id o' ho hj (by rw [← h j hj]; exact hs)
  wlab j o id b ho hj hs := C.wlab j o id b ho hj (by rw [← h j hj]; exact hs)

theorem Cl.src (C : Cl st ops base ε L) (h0 : ∀ t id o, st.tmps t = .own id o → id < base) {t id o : Nat} (h : (R ops ε L st).tmps t = .own id o) : id < base ∨ ∃ k, L k = true ∧ id = base + k := by
  rcases run_tmps_cases (L := L) (t := t) (esOf ops ε) 0 st with h1 | ⟨j, o', e, h1, h2, h3, h4⟩
  · exact .inl (h0 t id o (by rw [← h1]; exact h))
  · obtain ⟨-, rfl⟩ := esOf_get.1 h1
    rw [Nat.zero_add] at h2
    exact C.slot j id o h2 (by rw [← h4]; exact h)
theorem Cl.osrc (C : Cl st ops base ε L) (h0 : ∀ id b, st.own id = some b → id < base) {id : Nat} {b : Bx} (h : (R ops ε L st).own id = some b) : id < base ∨ ∃ k, L k = true ∧ id = base + k := by
  rcases run_own_cases (L := L) (id := id) (esOf ops ε) 0 st with h1 | ⟨j, o', e, b', h1, h2, h3⟩
  · exact .inl (h0 id b (by rw [← h1]; exact h))
  · obtain ⟨-, rfl⟩ := esOf_get.1 h1
    rw [Nat.zero_add] at h2
    exact C.box j id b' h2 h3

theorem reads_of {o : Oper} {y : Operand} {id off : Nat} (hy : y ∈ o.op.operands.toList) (h : evO st y = .own id off) : ∃ t, inList t (opReads ops o) = true ∧ st.tmps t = .own id off := by
  cases y with
  | tmp t => exact ⟨t, inList_mem (List.mem_append_left _ (tmpsOf_mem hy)), h⟩
  | const v => cases h
  | global g => cases h
  | func f => cases h

theorem Cl.read (F : Static ops base st) (C : Cl st ops base ε L) (h0 : ∀ t id o, st.tmps t = .own id o → id < base) {i : Nat} {o : Oper} (ho : ops[i]? = some o) (hi : L i = false) {y : Operand} {id off : Nat} (hy : y ∈ o.op.operands.toList)
    (h : evO (R ops ε L st) y = .own id off) : id < base + i := by
  obtain ⟨t, ht, h⟩ := reads_of (ops := ops) hy h
  rcases run_tmps_cases (L := L) (t := t) (esOf ops ε) 0 st with h1 | ⟨j, o', e, h1, h2, h3, h4⟩
  · have := h0 t id off (by rw [← h1]; exact h); omega
  · obtain ⟨hj, rfl⟩ := esOf_get.1 h1
    rw [Nat.zero_add] at h2
    have := C.sl j id off h2 (by rw [← h4]; exact h)
    rcases F.reads i o j o' t ho hj h3 ht with ⟨h5, -⟩ | ⟨-, h5, -⟩
    · omega
    · have := C.closed j o' i hj h2 h5
      rw [hi] at this; cases this

/-- an operand that points to a box: its label says which -/
theorem Cl.labX (F : Static ops base st) (C : Cl st ops base ε L) {i : Nat} {o : Oper} (ho : ops[i]? = some o) (hi : L i = false) (hpre : ∀ k, hasEdge o k = true → L k = true) {y : Operand} {id off : Nat} (hy : y ∈ o.op.operands.toList)
    (h : evO (R ops ε L st) y = .own id off) : LabOk (Vc.labX (labT base st ops) st y) id := by
  cases y with
  | tmp t =>
    have hin : inList t (opReads ops o) = true := inList_mem (List.mem_append_left _ (tmpsOf_mem hy))
    have h : (R ops ε L st).tmps t = .own id off := h
    simp only [Vc.labX]
    cases hl : lookL (labT base st ops) t with
    | none =>
      simp only
      rcases run_tmps_cases (L := L) (t := t) (esOf ops ε) 0 st with h1 | ⟨j, o', e, h1, h2, h3, h4⟩
      · have h2 : st.tmps t = .own id off := by rw [← h1]; exact h
        rw [h2]
        exact rfl
      · obtain ⟨hj, -⟩ := esOf_get.1 h1
        rw [F.labs j o' t hj h3] at hl; cases hl
    | some l =>
      simp only
      obtain ⟨k, o', hk, hd⟩ := F.keys t l hl
      rcases F.reads i o k o' t ho hk hd hin with ⟨-, he⟩ | ⟨-, he, v, hv⟩
      rotate_left
      · exfalso
        rcases run_tmps_cases (L := L) (t := t) (esOf ops ε) 0 st with h1 | ⟨j, o2, e2, h1, h2, h3, h4⟩
        · have h2 : st.tmps t = .own id off := by rw [← h1]; exact h
          rw [hv] at h2; cases h2
        · obtain ⟨hj, rfl⟩ := esOf_get.1 h1
          rw [Nat.zero_add] at h2
          by_cases hjk : j = k
          · subst hjk
            rw [hk] at hj; cases hj
            have := C.closed j _ i hk h2 he
            rw [hi] at this; cases this
          · exact F.dsts k o' j o2 t hk hj hjk hd h3
      have hLk := hpre k he
      have hlast : (R ops ε L st).tmps t = slotOf (ε k) :=
        run_tmps_last (L := L) (k := k) (o := o') (e := ε k) (esOf ops ε) 0 st (esOf_get.2 ⟨hk, rfl⟩) (by rw [Nat.zero_add]; exact hLk) hd fun j o2 e2 hj hlt _ => F.dsts k o' j o2 t hk (esOf_get.1 hj).1 (by omega) hd
      rw [hlast] at h
      have := C.lab k o' id off hk hLk h
      rw [F.labs k o' t hk hd] at hl
      cases hl
      exact this
  | const v => cases h
  | global g => cases h
  | func f => cases h

/-- one more -/
theorem Cl.insert (F : Static ops base st) (C : Cl st ops base ε L) (h0 : ∀ t id o, st.tmps t = .own id o → id < base) {i : Nat} {o : Oper} {e : Eff} {L' : Nat → Bool} (ho : ops[i]? = some o) (hi : L i = false)
    (hpre : ∀ k, hasEdge o k = true → L k = true) (hr : RE o (base + i) (R ops ε L st) e) (hL' : ∀ k, L' k = (L k || decide (k = i))) :
    Cl st ops base (upd ε i e) L' ∧ R ops (upd ε i e) L' st = (R ops ε L st).app o.dst e := by
  have hup : ∀ k, L k = true → Vc.upd ε i e k = ε k := fun k hk => upd_ne (fun h => by subst h; rw [hi] at hk; cases hk)
  have hin : ∀ k, L' k = true → L k = true ∨ k = i := fun k hk => by rw [hL'] at hk; simpa using hk
  have hL : ∀ k, L k = true → L' k = true := fun k hk => by rw [hL', hk]; rfl
  have hii : L' i = true := by rw [hL']; simp
  have rise : ∀ id, (id < base ∨ ∃ k, L k = true ∧ id = base + k) → (id < base ∨ ∃ k, L' k = true ∧ id = base + k) := fun id h => h.elim .inl fun ⟨k, hk, h⟩ => .inr ⟨k, hL k hk, h⟩
  have hsrc : ∀ y id off, y ∈ o.op.operands.toList → evO (R ops ε L st) y = .own id off → id < base ∨ ∃ k, L k = true ∧ id = base + k := fun y id off hy h => by
    obtain ⟨t, -, h⟩ := reads_of (ops := ops) hy h
    exact C.src h0 h
  have hslot : ∀ id o', slotOf e = .own id o' → (id < base ∨ ∃ k, L' k = true ∧ id = base + k) ∧ id ≤ base + i := fun id o' h => by
    cases e with
    | put x =>
      obtain ⟨-, y, off, hy, h2⟩ := hr id o' h
      exact ⟨rise _ (hsrc y id off hy h2), Nat.le_of_lt (C.read F h0 ho hi hy h2)⟩
    | box id' b' => simp only [RE] at hr; cases h; exact ⟨.inr ⟨i, hii, hr.1⟩, by omega⟩
    | wr id' b' => cases h
  have hbox : ∀ id b, boxOf e = some (id, b) → id < base ∨ ∃ k, L' k = true ∧ id = base + k := fun id b h => by
    cases e with
    | put x => cases h
    | box id' b' => simp only [RE] at hr; simp only [boxOf, Option.some.injEq, Prod.mk.injEq] at h; exact .inr ⟨i, hii, by omega⟩
    | wr id' b' =>
      obtain ⟨⟨y, off, -, hy, h2⟩, -⟩ := hr
      simp only [boxOf, Option.some.injEq, Prod.mk.injEq] at h
      rw [← h.1]
      exact rise _ (hsrc y id' off hy h2)
  have hlx : ∀ y id off, y ∈ o.op.operands.toList → evO (R ops ε L st) y = .own id off → LabOk (Vc.labX (labT base st ops) st y) id := fun y id off hy h => C.labX F ho hi hpre hy h
  refine ⟨⟨fun k hk => ?_, fun j oj k hj hl he => ?_, fun j id o' hl hs => ?_, fun j id b hl hs => ?_, fun j id o' hl hs => ?_, fun j id b hl hs => ?_, fun j oj id b hj hl hs => ?_, fun j oj id o' hj hl hs => ?_, fun j oj id b hj hl hs => ?_⟩, ?_⟩
  · rcases hin k hk with h | h
    · exact C.dom k h
    · subst h; exact (Array.getElem?_eq_some_iff.1 ho).1
  · rcases hin j hl with h | h
    · exact hL k (C.closed j oj k hj h he)
    · subst h
      rw [ho] at hj; cases hj
      exact hL k (hpre k he)
  · rcases hin j hl with h | h
    · rw [hup j h] at hs; exact rise _ (C.slot j id o' h hs)
    · subst h; rw [upd_at] at hs; exact (hslot id o' hs).1
  · rcases hin j hl with h | h
    · rw [hup j h] at hs; exact rise _ (C.box j id b h hs)
    · subst h; rw [upd_at] at hs; exact hbox id b hs
  · rcases hin j hl with h | h
    · rw [hup j h] at hs; exact C.sl j id o' h hs
    · subst h; rw [upd_at] at hs; exact (hslot id o' hs).2
  · rcases hin j hl with h | h
    · rw [hup j h] at hs; exact C.bx j id b h hs
    · subst h; rw [upd_at] at hs; subst hs; exact hr.1
  · rcases hin j hl with h | h
    · rw [hup j h] at hs; exact C.wr j oj id b hj h hs
    · subst h; rw [upd_at] at hs; subst hs
      rw [ho] at hj; cases hj
      obtain ⟨⟨y, off, -, hy, h2⟩, hst⟩ := hr
      exact ⟨hst, C.read F h0 ho hi hy h2⟩
  · rcases hin j hl with h | h
    · rw [hup j h] at hs; exact C.lab j oj id o' hj h hs
    · subst h; rw [upd_at] at hs
      rw [ho] at hj; cases hj
      cases e with
      | put x =>
        obtain ⟨hp, y, off, hy, h2⟩ := hr id o' hs
        have hl2 := hlx y id off hy h2
        unfold ptrOp at hp
        unfold labOp
        cases hop : o.op <;> simp only [hop, Bool.false_eq_true] at hp hy ⊢
        case pick => trivial
        all_goals
          simp [Op.operands] at hy
          subst hy
          exact hl2
      | box id' b' =>
        simp only [slotOf, SV.own.injEq] at hs
        obtain ⟨h3, hb⟩ := hr
        unfold boxOp at hb
        unfold labOp
        cases hop : o.op <;> simp only [hop, Bool.false_eq_true] at hb ⊢
        all_goals exact h3.symm.trans hs.1
      | wr id' b' => cases hs
  · rcases hin j hl with h | h
    · rw [hup j h] at hs; exact C.wlab j oj id b hj h hs
    · subst h; rw [upd_at] at hs; subst hs
      rw [ho] at hj; cases hj
      obtain ⟨⟨y, off, ha, hy, h2⟩, hst⟩ := hr
      unfold addrL
      rw [ha]
      exact hlx y id off hy h2
  · have hes : (esOf ops (Vc.upd ε i e))[i]? = some (o, e) := esOf_get.2 ⟨ho, (upd_at ε i e).symm⟩
    have := run_insert (L := L) (L' := L') (st := st) hes hL' (fun j o' e' d hj hne hd => F.dsts i o j o' d ho (esOf_get.1 hj).1 hne hd) (fun j o' e' id b b' hj hlt hLj hb hb' => ?_)
    · unfold R
      rw [this]
      congr 1
      exact R_upd (ε := ε) hup
    · obtain ⟨hj1, he'⟩ := esOf_get.1 hj
      rw [upd_ne (by omega)] at he'
      subst he'
      cases e with
      | put x => cases hb
      | box id1 b1 =>
        simp only [RE] at hr
        simp only [boxOf, Option.some.injEq, Prod.mk.injEq] at hb
        rcases C.box j id b' hLj hb' with h | ⟨k, hk, h⟩
        · omega
        · have : k = i := by omega
          subst this; rw [hi] at hk; cases hk
      | wr id1 b1 =>
        obtain ⟨⟨y, off, ha, hy, h2⟩, hst⟩ := hr
        have hlt2 := C.read F h0 ho hi hy h2
        simp only [boxOf, Option.some.injEq, Prod.mk.injEq] at hb
        cases he : ε j with
        | put x => rw [he] at hb'; cases hb'
        | box id2 b2 =>
          have := C.bx j id2 b2 hLj he
          rw [he] at hb'
          simp only [boxOf, Option.some.injEq, Prod.mk.injEq] at hb'
          omega
        | wr id2 b2 =>
          obtain ⟨hst', -⟩ := C.wr j o' id2 b2 hj1 hLj he
          rcases F.mems j o' i o hj1 ho (isMem_of_store hst') (isMem_of_store hst) (.inl hst') hlt with this | hap
          · have := C.closed j o' i hj1 hLj this
            rw [hi] at this; cases this
          · have hl1 : LabOk (addrL (labT base st ops) st o) id1 := by unfold addrL; rw [ha]; exact hlx y id1 off hy h2
            have hl2 := C.wlab j o' id2 b2 hj1 hLj he
            have := apart_ne hap hl2 hl1
            rw [he] at hb'
            simp only [boxOf, Option.some.injEq, Prod.mk.injEq] at hb'
            omega

/-- two such sets, both ahead of an operation: it sees the same -/
theorem Cl.slots (F : Static ops base st) {L1 L2 : Nat → Bool} (C1 : Cl st ops base ε1 L1) (C2 : Cl st ops base ε2 L2) {i : Nat} {o : Oper} (ho : ops[i]? = some o) (n1 : L1 i = false) (n2 : L2 i = false) (p1 : ∀ k, hasEdge o k = true → L1 k = true) (p2 : ∀ k, hasEdge o k = true → L2 k = true) {t : Nat} (ht : inList t (opReads ops o) = true) :
    (R ops ε L2 st).tmps t = (R ops ε L1 st).tmps t := by
  refine run_tmps_congr _ 0 st st (fun j o' e hj hd => ?_) rfl
  obtain ⟨hj, -⟩ := esOf_get.1 hj
  rw [Nat.zero_add]
  rcases F.reads i o j o' t ho hj hd ht with ⟨-, h5⟩ | ⟨-, h5, -⟩
  · rw [p1 j h5, p2 j h5]
  · have q1 : L1 j = false := by
      cases q : L1 j with
      | false => rfl
      | true => have := C1.closed j o' i hj q h5; rw [n1] at this; cases this
    have q2 : L2 j = false := by
      cases q : L2 j with
      | false => rfl
      | true => have := C2.closed j o' i hj q h5; rw [n2] at this; cases this
    rw [q1, q2]
theorem Cl.opnds (F : Static ops base st) {L1 L2 : Nat → Bool} (C1 : Cl st ops base ε1 L1) (C2 : Cl st ops base ε2 L2) {i : Nat} {o : Oper} (ho : ops[i]? = some o) (n1 : L1 i = false) (n2 : L2 i = false) (p1 : ∀ k, hasEdge o k = true → L1 k = true) (p2 : ∀ k, hasEdge o k = true → L2 k = true) :
    ∀ x, x ∈ o.op.operands.toList → evO (R ops ε L2 st) x = evO (R ops ε L1 st) x := fun x hx => by
  cases x with
  | tmp t => exact Cl.slots F C1 C2 ho n1 n2 p1 p2 (inList_mem (List.mem_append_left _ (tmpsOf_mem hx)))
  | const v => rfl
  | global g => rfl
  | func f => rfl
theorem Cl.opK {P : Program} {m : M} {K : Eff → Prop} {id : Nat} (F : Static ops base st) {L1 L2 : Nat → Bool} (C1 : Cl st ops base ε L1) (C2 : Cl st ops base ε L2) (h0 : ∀ t id o, st.tmps t = .own id o → id < base) {i : Nat} {o : Oper} (ho : ops[i]? = some o)
    (n1 : L1 i = false) (n2 : L2 i = false) (p1 : ∀ k, hasEdge o k = true → L1 k = true) (p2 : ∀ k, hasEdge o k = true → L2 k = true)
    (h : Vc.opK P o id (R ops ε L1 st) m K) : Vc.opK P o id (R ops ε L2 st) m K := by
  have hop := Cl.opnds (ε := ε) (st := st) F C1 C2 ho n1 n2 p1 p2
  refine opK_congr hop (fun hmem x i' off haddr hx hev => ?_) h
  refine run_own_congr _ 0 st st (fun j o' e b hj hb => ?_) rfl
  obtain ⟨hj1, he'⟩ := esOf_get.1 hj
  subst he'
  rw [Nat.zero_add]
  have s1 : i' < base ∨ ∃ k, L1 k = true ∧ i' = base + k := by obtain ⟨t, -, h⟩ := reads_of (ops := ops) hx hev; exact C1.src h0 h
  have s2 : i' < base ∨ ∃ k, L2 k = true ∧ i' = base + k := by rw [← hop x hx] at hev; obtain ⟨t, -, h⟩ := reads_of (ops := ops) hx hev; exact C2.src h0 h
  cases he : ε j with
  | put x => rw [he] at hb; cases hb
  | box id' b' =>
    rw [he] at hb
    simp only [boxOf, Option.some.injEq, Prod.mk.injEq] at hb
    have key : ∀ {La Lb : Nat → Bool}, Cl st ops base ε La → La j = true → (i' < base ∨ ∃ k, Lb k = true ∧ i' = base + k) → Lb j = true := fun Ca ha hs => by
      have := Ca.bx j id' b' ha he
      rcases hs with h | ⟨k, hk, h⟩
      · omega
      · have : k = j := by omega
        subst this; exact hk
    cases h2 : L2 j with
    | true => rw [key C2 h2 s1]
    | false => cases h1 : L1 j with
      | false => rfl
      | true => rw [key C1 h1 s2] at h2; cases h2
  | wr id' b' =>
    rw [he] at hb
    simp only [boxOf, Option.some.injEq, Prod.mk.injEq] at hb
    have key : ∀ {La Lb : Nat → Bool}, Cl st ops base ε La → La i = false → (∀ k, hasEdge o k = true → La k = true) → (∀ k, hasEdge o k = true → Lb k = true) → evO (R ops ε La st) x = .own i' off → La j = true → Lb j = true := fun Ca na pa pb hevA ha => by
      obtain ⟨hst, -⟩ := Ca.wr j o' id' b' hj1 ha he
      have hmem' := isMem_of_store hst
      have hlo : LabOk (addrL (labT base st ops) st o) i' := by
        unfold addrL
        rw [haddr]
        exact Ca.labX F ho na pa hx hevA
      have hlo' := Ca.wlab j o' id' b' hj1 ha he
      rcases Nat.lt_trichotomy j i with hji | hji | hji
      · rcases F.mems i o j o' ho hj1 hmem hmem' (.inr hst) hji with h | hap
        · exact pb j h
        · have := apart_ne hap hlo hlo'; omega
      · subst hji; rw [na] at ha; cases ha
      · rcases F.mems j o' i o hj1 ho hmem' hmem (.inl hst) hji with h | hap
        · have := Ca.closed j o' i hj1 ha h
          rw [na] at this; cases this
        · have := apart_ne hap hlo' hlo; omega
    cases h2 : L2 j with
    | true => rw [key C2 n2 p2 p1 (by rw [hop x hx]; exact hev) h2]
    | false => cases h1 : L1 j with
      | false => rfl
      | true => rw [key C1 n1 p1 p2 hev h1] at h2; cases h2
end

/-! ### what is known stays known -/
def Wf (m : M) : Prop := (∀ b o v, m.π b o = some v → b < m.sz) ∧ ∀ b, m.uf b → b < m.sz
theorem M.ok.wf {m : M} {w : World} (h : m.ok w) : Wf m := ⟨fun b o v hv => (h.2.1 b o v hv).1, fun b hu => (h.2.2 b hu).1⟩
theorem MLe.refl (m : M) : MLe m m := ⟨fun _ _ _ _ h => h, fun _ _ h => h, Nat.le_refl _⟩
theorem MLe.trans {m m1 m2 : M} (h : MLe m m1) (k : MLe m1 m2) : MLe m m2 :=
  ⟨fun b hb o v hv => k.cell b (Nat.lt_of_lt_of_le hb h.sz) o v (h.cell b hb o v hv), fun b hb hu => k.uf b (Nat.lt_of_lt_of_le hb h.sz) (h.uf b hb hu), Nat.le_trans h.sz k.sz⟩
theorem M.ok.mle {m m' : M} {w : World} (h : m'.ok w) (hw : Wf m) (hl : MLe m m') : m.ok w :=
  ⟨Nat.le_trans hl.sz h.1, fun b o v hv => ⟨hw.1 b o v hv, (h.2.1 b o v (hl.cell b (hw.1 b o v hv) o v hv)).2⟩, fun b hu => ⟨hw.2 b hu, (h.2.2 b (hl.uf b (hw.2 b hu) hu)).2⟩⟩
theorem exSh_mono {K K' : Value → Prop} {s : Sh} (hk : ∀ v, K v → K' v) (h : exSh s K) : exSh s K' := by
  obtain ⟨v, hv, hp⟩ := dn_exSh s _ h
  exact hp _ (hk v hv)
theorem withVals_mono {st : St} {l : List Operand} {acc : List Value} {K K' : List Value → Prop} (hk : ∀ v, K v → K' v) (h : withVals st l acc K) : withVals st l acc K' := by
  obtain ⟨v, hv, hp⟩ := dn_withVals st l acc _ h
  exact hp _ (hk v hv)

theorem opK_mono {P : Program} {o : Oper} {id : Nat} {st : St} {m m' : M} {K : Eff → Prop} (hw : Wf m) (hl : MLe m m') (h : opK P o id st m K) : opK P o id st m' K := by
  have hc : ∀ b off cs, CellsAt m b off cs → CellsAt m' b off cs := fun b off cs hc => ⟨fun j hj => by
    have h1 := hc.out j hj
    rw [List.getElem?_eq_getElem hj] at h1 ⊢
    exact hl.cell b (hw.1 _ _ _ h1) _ _ h1⟩
  have hq : ∀ g args v, QSpec P g args m v → QSpec P g args m' v := fun g args v h => ⟨fun w hok => h.out w (hok.mle hw hl)⟩
  cases ho : o.op <;> simp only [opK, ho] at h ⊢
  case load t x =>
    split at h
    · rename_i i off hx
      exact h
    · rename_i b off hx
      refine exSh_mono (fun v hv => ?_) h
      split at hv
      · rename_i hb
        exact ⟨hc _ _ _ hv.1, hv.2⟩
      · exact hv.elim
    · exact h.elim
  case call c =>
    obtain ⟨callee, args, argTypes⟩ := c
    cases callee with
    | value f =>
      simp only at h ⊢
      split at h
      · rename_i g first caps hx
        split at h
        · rename_i fn hf
          split at h
          · rename_i hb
            exact withVals_mono (fun vs hv => exSh_mono (fun v hv => ⟨hq _ _ _ hv.1, hv.2⟩) hv) h
          · split at h
            · exact h.elim
            · split at h
              · exact h
              · split at h
                · exact withVals_mono (fun vs hv => exSh_mono (fun v hv => ⟨⟨fun w hok => hv.1.out w (hok.mle hw hl)⟩, hv.2⟩) hv) h
                · exact h
        · exact h.elim
      · exact h.elim
    | invoke => exact h
    | builtin b => exact h
  all_goals exact h

/-! ### an operation on memory, in another frame -/
theorem allVal_mem {st : St} : ∀ {l : List Operand}, allVal st l = true → ∀ x, x ∈ l → ∃ v, evO st x = .val v
  | y :: r, h, x, hx => by
    simp only [allVal] at h
    split at h
    · rename_i v hv
      rcases List.mem_cons.1 hx with rfl | hx
      · exact ⟨v, hv⟩
      · exact allVal_mem h x hx
    · cases h
theorem withValsE_val {B : Nat} {st : St} {m : M} {K : List Value → St → M → Prop} : ∀ (l : List Operand) (acc : List Value), (∀ x, x ∈ l → ∃ v, evO st x = .val v) → withValsE B l acc st m K = withVals st l acc fun vs => K vs st m
  | [], _, _ => rfl
  | x :: r, acc, h => by
    obtain ⟨v, hv⟩ := h x (by simp)
    simp only [withValsE, withVals, withVal, hv]
    exact withValsE_val r _ fun y hy => h y (by simp [hy])
theorem opK_free {P : Program} {o : Oper} {id : Nat} {st : St} {m m' : M} {K : Eff → Prop} (hf : memF2 o = true) (h : Vc.opK P o id st m K) : Vc.opK P o id st m' K := by
  cases ho : o.op <;> simp only [memF2, memF, ho, Bool.false_eq_true] at hf <;> simp only [Vc.opK, ho] at h ⊢ <;> exact h
theorem memF_two {o : Oper} (h : memF o = true) : memF2 o = true := by
  unfold memF2; split
  all_goals first | rfl | exact h
theorem memCall_congr {P : Program} {st st' : St} {o : Oper} (h : ∀ x, x ∈ o.op.operands.toList → evO st' x = evO st x) : memCall P st' o = memCall P st o := by
  unfold memCall
  split
  · rename_i c hc
    split
    · rename_i f hf
      rw [h f (by simp [hc, Op.operands, Call.operands, hf])]
    · rfl
  · rfl
theorem memCall_args {P : Program} {st : St} {o : Oper} {g : FuncId} {first caps : List Value} {args : List Operand} {sh : Sh} {p : Bool} (h : memCall P st o = some (g, first, caps, args, sh, p)) : ∀ x, x ∈ args → x ∈ o.op.operands.toList := by
  unfold memCall at h
  split at h
  · rename_i c hc
    split at h
    · rename_i f hf
      split at h
      · split at h
        · split at h
          · simp only [Option.some.injEq, Prod.mk.injEq] at h
            obtain ⟨-, -, -, rfl, -⟩ := h
            intro x hx
            simp [hc, Op.operands, Call.operands, hf]
            right; simpa using hx
          · cases h
        · cases h
      · cases h
    · cases h
  · cases h

theorem opKD_opKM {P : Program} {B : Nat} {S : Nat → Prop} {o : Oper} {id : Nat} {st st' : St} {m : M} {K : Eff → M → Prop} (h0 : ∀ x, x ∈ o.op.operands.toList → evO st' x = evO st x) (hirr : (irr P o || isStore o) = true)
    (h : opKD P B S o st m K) : opKM P B S o id st' m fun e s m' => s = st' ∧ (∃ v, e = .put (.val v)) ∧ K e m' := by
  unfold opKD at h
  split at h
  · rename_i hb
    simp only [Bool.and_eq_true] at hb
    obtain ⟨hv, hmc⟩ := hb
    have hv := allVal_mem hv
    have hv' : ∀ x, x ∈ o.op.operands.toList → ∃ v, evO st' x = .val v := fun x hx => by rw [h0 x hx]; exact hv x hx
    unfold opKM at h ⊢
    rw [memCall_congr h0]
    split at h
    · rename_i g first caps args sh hm
      have ha := memCall_args hm
      simp only
      rw [withValsE_val _ _ fun x hx => hv x (ha x hx)] at h
      rw [withValsE_val _ _ fun x hx => hv' x (ha x hx), withVals_congr _ _ fun x hx => h0 x (ha x hx)]
      refine withVals_mono (fun vs ⟨S', hS, hh⟩ => ⟨S', hS, fun n hn => ⟨fun w hok hs => ((hh n hn).out w hok hs).mono fun e w' ⟨v, m', h1, h2, h3, h4, h5⟩ => ⟨v, m', h1, h2, h3, h4, exSh_mono (fun u hu => ⟨hu.1, by trivial, ⟨_, rfl⟩, hu.2⟩) h5⟩⟩⟩) h
    · rename_i g first caps args sh hm
      have ha := memCall_args hm
      simp only
      rw [withVals_congr _ _ fun x hx => h0 x (ha x hx)]
      refine withVals_mono (fun vs hh => fun n hn => ⟨fun w hok hs => ((hh n hn).out w hok hs).mono fun e w' ⟨v, m', h1, h2, h3, h4, h5⟩ => ⟨v, m', h1, h2, h3, h4, exSh_mono (fun u hu => ⟨hu.1, by trivial, ⟨_, rfl⟩, hu.2⟩) h5⟩⟩) h
    · rename_i hm
      simp only
      cases ho : o.op <;> simp only [ho, irr, isStore, Bool.or_false, Bool.or_true, Bool.false_eq_true] at h hirr hmc h0 hv hv' ⊢
      case store t x y =>
        obtain ⟨vx, hvx⟩ := hv x (by simp [Op.operands])
        obtain ⟨vy, hvy⟩ := hv y (by simp [Op.operands])
        have hx := h0 x (by simp [Op.operands])
        have hy := h0 y (by simp [Op.operands])
        rw [hvx] at hx
        rw [hvy] at hy
        rw [hx, hy]
        rw [hvx, hvy] at h
        split at h
        · split at h
          · exact ⟨h.1, by trivial, ⟨_, rfl⟩, h.2⟩
          · exact h.elim
        · unfold opK at h
          simp only [ho, hvx, hvy] at h
          try exact h.elim
      case makeFunc fn first caps =>
        rw [withValsE_val _ _ fun x hx => hv x (by simpa [Op.operands] using hx)] at h
        rw [withValsE_val _ _ fun x hx => hv' x (by simpa [Op.operands] using hx), withVals_congr _ _ fun x hx => h0 x (by simpa [Op.operands] using hx)]
        refine withVals_mono (fun vs hh => ?_) h
        obtain ⟨v, hr, hp⟩ := Dn.pureK (Instr.makeFunc fn (vs.take first.size).toArray (vs.drop first.size).toArray) (fun v => Dn.ret v) _ hh
        exact hp _ ⟨by trivial, ⟨_, rfl⟩, hr⟩
      case buildSlice t len parts =>
        split at h
        · rename_i e i he
          try rw [he]
          try simp only
          rw [withVals_congr _ _ fun x hx => h0 x (by simpa [Op.operands] using hx)]
          refine withVals_mono (fun vs hh => ?_) h
          split at hh
          · rename_i z hz
            try rw [hz]
            try simp only
            split at hh
            · rename_i cells hc
              try rw [hc]
              exact ⟨hh.1, fun b hb => ⟨by trivial, ⟨_, rfl⟩, hh.2 b hb⟩⟩
            · exact hh.elim
          · exact hh.elim
        · exact h.elim
      case makeSlice t l c =>
        split at h
        · rename_i e i he
          try rw [he]
          try simp only
          rw [withVal_congr (h0 l (by simp [Op.operands])), withVal_congr (h0 c (by simp [Op.operands]))]
          obtain ⟨lv, hl, h⟩ := withVal_elim h
          obtain ⟨cv, hc, h⟩ := withVal_elim h
          simp only [withVal, hl, hc]
          split at h
          · rename_i z hz
            try rw [hz]
            exact ⟨h.1, fun b hb => ⟨by trivial, ⟨_, rfl⟩, h.2 b hb⟩⟩
          · exact h.elim
        · exact h.elim
      case call c =>
        obtain ⟨callee, args, argTypes⟩ := c
        cases callee with
        | value f => simp [hm] at hmc
        | invoke r k => simp at hirr
        | builtin b =>
          have hc := withVals_congr (st := st) (st' := st') args.toList [] fun x hx => h0 x (by simp [Op.operands, Call.operands]; simpa using hx)
          cases b <;> simp only [Bool.false_eq_true] at h hirr ⊢
          case append =>
            try rw [hc]
            refine withVals_mono (fun vs hh => ?_) h
            split at hh
            · rename_i a len cap a2 n c2 t t' hvs hts
              try simp only
              split at hh
              · rename_i e i he hb
                try rw [he, hb]
                try simp only
                split at hh
                · rename_i z hz
                  try rw [hz]
                  obtain ⟨old, src, hp, hk⟩ := hh
                  exact ⟨old, src, hp, fun a' c' m' hq => ⟨by trivial, ⟨_, rfl⟩, hk a' c' m' hq⟩⟩
                · exact hh.elim
              · exact hh.elim
            · rename_i a len cap kk n t t' hvs hts
              try simp only
              split at hh
              · rename_i e i he hb
                try rw [he, hb]
                try simp only
                split at hh
                · rename_i z hz
                  try rw [hz]
                  obtain ⟨old, hp, hk⟩ := hh
                  exact ⟨old, hp, fun a' c' m' hq => ⟨by trivial, ⟨_, rfl⟩, hk a' c' m' hq⟩⟩
                · exact hh.elim
              · exact hh.elim
            · exact hh.elim
          case copy =>
            try rw [hc]
            refine withVals_mono (fun vs hh => ?_) h
            split at hh
            · rename_i a len cap a2 n c2 t t' hvs hts
              try simp only
              split at hh
              · rename_i e i he
                try rw [he]
                obtain ⟨src, hp, hk⟩ := hh
                exact ⟨src, hp, fun m' hq => ⟨by trivial, ⟨_, rfl⟩, hk m' hq⟩⟩
              · exact hh.elim
            · exact hh.elim
          case clear =>
            try rw [hc]
            refine withVals_mono (fun vs hh => ?_) h
            split at hh
            · rename_i a n c2 t hvs hts
              try simp only
              split at hh
              · rename_i e i he
                try rw [he]
                try simp only
                split at hh
                · rename_i z hz
                  try rw [hz]
                  exact ⟨hh.1, hh.2.1, fun m' hq => ⟨by trivial, ⟨_, rfl⟩, hh.2.2 m' hq⟩⟩
                · exact hh.elim
              · exact hh.elim
            · exact hh.elim
  · exact h.elim

/-! ### the game -/
theorem inList_iff {t : Nat} : ∀ {l : List Nat}, inList t l = true ↔ t ∈ l
  | [] => by simp [inList]
  | x :: r => by simp only [inList, Bool.or_eq_true, List.mem_cons, inList_iff (l := r)]; simp
theorem avail_elim {blk : List Nat} {o : Oper} (h : avail blk o = true) {k : Nat} (hk : hasEdge o k = true) : k ∉ blk := fun hm => by
  obtain ⟨e, he, hb, rfl⟩ := hasEdge_elim hk
  unfold avail at h
  rw [List.all_eq_true] at h
  have := h e (by simpa using he)
  rw [hb, inList_iff.2 hm] at this
  cases this
theorem avail_intro {blk : List Nat} {o : Oper} (h : ∀ k, hasEdge o k = true → k ∉ blk) : avail blk o = true := by
  unfold avail
  rw [List.all_eq_true]
  intro e he
  cases hb : Region.binds .any e with
  | false => rfl
  | true =>
    cases hi : inList e.on blk with
    | false => rfl
    | true =>
      refine absurd (inList_iff.1 hi) (h e.on ?_)
      simp only [hasEdge, List.any_eq_true, Bool.and_eq_true]
      exact ⟨e, he, hb, by simp⟩
theorem avail_mono {blk blk' : List Nat} {o : Oper} (hs : ∀ k, k ∈ blk → k ∈ blk') (h : avail blk o = false) : avail blk' o = false := by
  cases hq : avail blk' o with
  | false => rfl
  | true => rw [avail_intro fun k hk hm => avail_elim hq hk (hs k hm)] at h; cases h
theorem without_mem {i x : Nat} : ∀ {l : List Nat}, x ∈ without i l ↔ x ∈ l ∧ x ≠ i
  | [] => by simp [without]
  | y :: r => by
    simp only [without]
    cases hb : Nat.beq y i with
    | true =>
      have := Nat.eq_of_beq_eq_true hb
      subst this
      simp only [without_mem (l := r), List.mem_cons]
      constructor
      · rintro ⟨h1, h2⟩; exact ⟨.inr h1, h2⟩
      · rintro ⟨h1 | h1, h2⟩
        · exact absurd h1 h2
        · exact ⟨h1, h2⟩
    | false =>
      have := Nat.ne_of_beq_eq_false hb
      simp only [List.mem_cons, without_mem (l := r)]
      constructor
      · rintro (rfl | ⟨h1, h2⟩)
        · exact ⟨.inl rfl, this⟩
        · exact ⟨.inr h1, h2⟩
      · rintro ⟨h1 | h1, h2⟩
        · exact .inl h1
        · exact .inr ⟨h1, h2⟩
theorem without_sub {i : Nat} : ∀ (l : List Nat), (without i l).Sublist l
  | [] => .slnil
  | y :: r => by
    simp only [without]
    split
    · exact (without_sub r).cons _
    · exact (without_sub r).cons_cons _

section
variable {P : Program} {ops : Array Oper} {base : Nat} {st : St}

/-- a load at an address that stays, of a block that stays -/
def LdK (ops : Array Oper) (st : St) (o : Oper) (m m' : M) : Prop :=
  isStore o = true ∨ ∃ t x, o.op = .load t x ∧ freeX ops x = true ∧ ((∃ i off, evO st x = .own i off) ∨ ∃ b off, evO st x = .val (.pointer (some ⟨b, off, none⟩)) ∧ KeepB b m m')

theorem freeX_evO {ε : Nat → Eff} {L : Nat → Bool} {x : Operand} (h : freeX ops x = true) : evO (R ops ε L st) x = evO st x := by
  cases x with
  | tmp t =>
    simp only [evO]
    rcases run_tmps_cases (L := L) (t := t) (esOf ops ε) 0 st with e | ⟨j, o, e, h1, -, h3, -⟩
    · exact e
    · exfalso
      simp only [freeX, List.all_eq_true] at h
      have := h o (by
        obtain ⟨hlt, e⟩ := Array.getElem?_eq_some_iff.1 (esOf_get.1 h1).1
        rw [← e]; exact Array.getElem_mem_toList hlt)
      rw [h3] at this
      simp at this
  | _ => rfl

theorem opK_load {o : Oper} {id : Nat} {s : St} {m m' : M} {K : Eff → Prop} {ε : Nat → Eff} {L : Nat → Bool} (h : LdK ops st o m m') (hk : Vc.opK P o id (R ops ε L st) m K) : Vc.opK P o id (R ops ε L st) m' K := by
  rcases h with h | ⟨t, x, ho, hf, h⟩
  · unfold isStore at h
    cases ho : o.op <;> simp only [ho, Bool.false_eq_true] at h
    simp only [Vc.opK, ho] at hk ⊢
    exact hk
  have he := freeX_evO (ε := ε) (L := L) (st := st) hf
  simp only [Vc.opK, ho] at hk ⊢
  rcases h with ⟨i, off, hx⟩ | ⟨b, off, hx, hb⟩
  · rw [he, hx] at hk ⊢
    exact hk
  · rw [he, hx] at hk ⊢
    simp only at hk ⊢
    obtain ⟨v, hr, hp⟩ := dn_exSh (shOf P 20 t) _ hk
    refine hp _ ?_
    split at hr
    · exact ⟨⟨fun j hj => by
        have := hr.1.out j hj
        have hj' : v.cells.toList[j]? = some v.cells.toList[j] := List.getElem?_eq_getElem hj
        rw [hj'] at this ⊢
        exact hb.out _ _ this⟩, hr.2⟩
    · exact hr.elim

theorem LdK.trans {o : Oper} {m1 m2 m3 : M} (h : LdK ops st o m1 m2) (k : LdK ops st o m2 m3) : LdK ops st o m1 m3 := by
  rcases h with h | ⟨t, x, ho, hf, h⟩
  · exact .inl h
  rcases k with k | ⟨t', x', ho', hf', h'⟩
  · exact .inl k
  rw [ho] at ho'
  cases ho'
  refine .inr ⟨t, x, ho, hf, ?_⟩
  rcases h with ⟨i, off, hx⟩ | ⟨b, off, hx, hb⟩
  · exact .inl ⟨i, off, hx⟩
  · rcases h' with ⟨i, off', hx'⟩ | ⟨b', off', hx', hb'⟩
    · rw [hx] at hx'; cases hx'
    · rw [hx] at hx'; cases hx'
      exact .inr ⟨b, off, hx, fun o v h => hb'.out o v (hb.out o v h), Nat.le_trans hb.sz hb'.sz⟩

theorem MLe.ldk {o : Oper} {m1 m2 m3 : M} (h : MLe m1 m2) (hw : Wf m1) (k : LdK ops st o m2 m3) : LdK ops st o m1 m3 := by
  rcases k with k | ⟨t', x', ho', hf', h'⟩
  · exact .inl k
  refine .inr ⟨t', x', ho', hf', ?_⟩
  rcases h' with ⟨i, off', hx'⟩ | ⟨b', off', hx', hb'⟩
  · exact .inl ⟨i, off', hx'⟩
  · exact .inr ⟨b', off', hx', fun o v hv => hb'.out o v (h.cell _ (hw.1 _ _ _ hv) o v hv), Nat.le_trans h.sz hb'.sz⟩

theorem LdK.mle {o : Oper} {m1 m2 m3 : M} (k : LdK ops st o m1 m2) (hw : Wf m1) (h : MLe m2 m3) : LdK ops st o m1 m3 := by
  rcases k with k | ⟨t', x', ho', hf', h'⟩
  · exact .inl k
  refine .inr ⟨t', x', ho', hf', ?_⟩
  rcases h' with ⟨i, off', hx'⟩ | ⟨b', off', hx', hb'⟩
  · exact .inl ⟨i, off', hx'⟩
  · exact .inr ⟨b', off', hx', fun o v hv => h.cell _ (Nat.lt_of_lt_of_le (hw.1 _ _ _ hv) hb'.sz) o v (hb'.out o v hv), Nat.le_trans hb'.sz h.sz⟩

/-- an operation that is done for the evaluator, and may yet be carried out -/
structure PendAt (P : Program) (ops : Array Oper) (base : Nat) (st : St) (ε : Nat → Eff) (D : Nat → Bool) (m : M) (j : Nat) : Prop where
  out : ∃ o Dj mj, ops[j]? = some o ∧ Cl st ops base ε Dj ∧ (∀ k, Dj k = true → D k = true) ∧ Dj j = false ∧ (∀ k, hasEdge o k = true → Dj k = true) ∧ Yld P ops base mj o j (R ops ε Dj st) (ε j) ∧ (MLe mj m ∨ memF2 o = true ∨ LdK ops st o mj m) ∧ Wf mj ∧ irr P o = false

theorem PendAt.step {ε ε' : Nat → Eff} {D D' : Nat → Bool} {m m' : M} {j : Nat} (h : PendAt P ops base st ε D m j) (hj : D j = true) (he : ∀ k, D k = true → D' k = true ∧ ε' k = ε k) (hl : ∀ o, ops[j]? = some o → irr P o = false → MLe m m' ∨ memF2 o = true ∨ LdK ops st o m m') : PendAt P ops base st ε' D' m' j := by
  obtain ⟨o, Dj, mj, h1, h2, h3, h4, h5, h6, h7, h8, h9⟩ := h.out
  refine ⟨o, Dj, mj, h1, h2.setE fun k hk => (he k (h3 k hk)).2, fun k hk => (he k (h3 k hk)).1, h4, h5, ?_, ?_, h8, h9⟩
  · rw [R_upd fun k hk => (he k (h3 k hk)).2, (he j hj).2]
    exact h6
  · rcases h7 with h7 | h7 | h7
    · rcases hl o h1 h9 with hl | hl | hl
      · exact .inl (h7.trans hl)
      · exact .inr (.inl hl)
      · exact .inr (.inr (h7.ldk h8 hl))
    · exact .inr (.inl h7)
    · rcases hl o h1 h9 with hl | hl | hl
      · exact .inr (.inr (h7.mle h8 hl))
      · exact .inr (.inl hl)
      · exact .inr (.inr (h7.trans hl))

theorem pass_elim {m : M} {Kp : St → List Nat → Prop} (F : Static ops base st) (h0 : ∀ t id o, st.tmps t = .own id o → id < base) (hwf : Wf m) :
    ∀ (l blk : List Nat) (ε : Nat → Eff) (D : Nat → Bool), pass P ops base m l blk (R ops ε D st) Kp → Cl st ops base ε D → (blk.reverse ++ l).Pairwise (· < ·) →
      (∀ k, k < ops.size → (D k = true ↔ k ∉ blk ∧ k ∉ l)) → (∀ i, i ∈ blk → ∀ o, ops[i]? = some o → (irr P o || isStore o) = true ∨ avail blk o = false) →
      ∃ ε' D' blk', Kp (R ops ε' D' st) blk' ∧ Cl st ops base ε' D' ∧ (∀ k, D k = true → D' k = true ∧ ε' k = ε k) ∧ (∀ k, k < ops.size → (D' k = true ↔ k ∉ blk')) ∧ blk'.reverse.Pairwise (· < ·) ∧
        (∀ i, i ∈ blk' → ∀ o, ops[i]? = some o → (irr P o || isStore o) = true ∨ avail blk' o = false) ∧ (∀ j, D' j = true → D j = false → PendAt P ops base st ε' D' m j)
  | [], blk, ε, D, h, C, hs, hp, hst => ⟨ε, D, blk, h, C, fun k hk => ⟨hk, rfl⟩, fun k hk => by simpa using hp k hk, by simpa using hs, hst, fun j h1 h2 => by rw [h1] at h2; cases h2⟩
  | i :: r, blk, ε, D, h, C, hs, hp, hst => by
    simp only [pass] at h
    split at h
    · rename_i o ho
      have hlt : i < ops.size := (Array.getElem?_eq_some_iff.1 ho).1
      have hsl : (i :: r).Pairwise (· < ·) := (List.pairwise_append.1 hs).2.1
      have hDi : D i = false := by
        cases hq : D i with
        | false => rfl
        | true => exact absurd (List.mem_cons_self) ((hp i hlt).1 hq).2
      split at h
      · rename_i hb
        simp only [Bool.and_eq_true, Bool.not_eq_true'] at hb
        have hpre : ∀ k, hasEdge o k = true → D k = true := fun k hk => by
          obtain ⟨ed, h1, h2, h3⟩ := hasEdge_elim hk
          have hki : k < i := by rw [← h3]; exact F.back i o ho ed h1 h2
          refine (hp k (by omega)).2 ⟨avail_elim hb.1.2 hk, fun hm => ?_⟩
          rcases List.mem_cons.1 hm with e | hm
          · omega
          · have := (List.pairwise_cons.1 hsl).1 k hm; omega
        -- whatever it does
        have go : ∀ e, RE o (base + i) (R ops ε D st) e → Yld P ops base m o i (R ops ε D st) e → pass P ops base m r blk ((R ops ε D st).app o.dst e) Kp →
            ∃ ε' D' blk', Kp (R ops ε' D' st) blk' ∧ Cl st ops base ε' D' ∧ (∀ k, D k = true → D' k = true ∧ ε' k = ε k) ∧ (∀ k, k < ops.size → (D' k = true ↔ k ∉ blk')) ∧ blk'.reverse.Pairwise (· < ·) ∧
              (∀ i, i ∈ blk' → ∀ o, ops[i]? = some o → (irr P o || isStore o) = true ∨ avail blk' o = false) ∧ (∀ j, D' j = true → D j = false → PendAt P ops base st ε' D' m j) := fun e hre hy hpass => by
          obtain ⟨C', hR⟩ := C.insert (L' := fun k => D k || decide (k = i)) F h0 ho hDi hpre hre (fun k => rfl)
          rw [← hR] at hpass
          obtain ⟨ε', D', blk', h1, h2, h3, h4, h5, h6, h7⟩ := pass_elim F h0 hwf r blk _ _ hpass C' (by
              refine hs.sublist ?_
              exact List.Sublist.append (List.Sublist.refl _) (List.sublist_cons_self _ _)) (fun k hk => by
              simp only [Bool.or_eq_true, decide_eq_true_eq]
              constructor
              · rintro (h | rfl)
                · exact ⟨((hp k hk).1 h).1, fun hm => ((hp k hk).1 h).2 (List.mem_cons_of_mem _ hm)⟩
                · refine ⟨fun hm => ?_, fun hm => ?_⟩
                  · have := (List.pairwise_append.1 hs).2.2 k (List.mem_reverse.2 hm) k List.mem_cons_self; omega
                  · have := (List.pairwise_cons.1 hsl).1 k hm; omega
              · rintro ⟨h1, h2⟩
                by_cases hki : k = i
                · exact .inr hki
                · exact .inl ((hp k hk).2 ⟨h1, fun hm => by rcases List.mem_cons.1 hm with e | e; exact hki e; exact h2 e⟩)) hst
          have hin : ∀ k, D k = true → D' k = true ∧ ε' k = ε k := fun k hk => by
            have h8 := h3 k (by simp [hk])
            exact ⟨h8.1, by rw [h8.2, upd_ne (fun e => by subst e; rw [hDi] at hk; cases hk)]⟩
          refine ⟨ε', D', blk', h1, h2, hin, h4, h5, h6, fun j hj hDj => ?_⟩
          by_cases hji : j = i
          · subst hji
            have h8 := (h3 j (by simp)).2
            rw [upd_at] at h8
            refine ⟨o, D, m, ho, C.setE fun k hk => (hin k hk).2, fun k hk => (hin k hk).1, hDi, hpre, ?_, (.inl (MLe.refl m)), hwf, hb.1.1⟩
            rw [R_upd fun k hk => (hin k hk).2, h8]
            exact hy
          · exact h7 j hj (by simp [hDj, hji])
        rcases guardK_goes h with ⟨G, hk⟩ | ⟨G, hk⟩
        · obtain ⟨e, hre, hpass, hΨ⟩ := opK_dn P o (base + i) _ m _ hk
          exact go e hre (.inl ⟨G, hΨ _ rfl, hre⟩) hpass
        · exact go (.put (.val undef)) (fun _ _ e => by cases e) (.inr ⟨G, rfl⟩) (by rw [← app_skip]; exact hk)
      · rename_i hb
        have hb' : (irr P o || isStore o) = true ∨ avail blk o = false := by
          cases h1 : irr P o with
          | true => exact .inl rfl
          | false =>
            cases h2 : avail blk o with
            | false => exact .inr rfl
            | true =>
              left
              simp [h1, h2] at hb
              unfold stV at hb
              unfold isStore
              cases ho' : o.op <;> simp_all
        obtain ⟨ε', D', blk', h1, h2, h3, h4, h5, h6, h7⟩ := pass_elim F h0 hwf r (i :: blk) ε D h C (by simpa using hs) (fun k hk => by
            rw [hp k hk]
            simp only [List.mem_cons, not_or]
            constructor
            · rintro ⟨a, b, c⟩; exact ⟨⟨b, a⟩, c⟩
            · rintro ⟨⟨a, b⟩, c⟩; exact ⟨b, a, c⟩) (fun j hj oj hoj => by
            rcases List.mem_cons.1 hj with rfl | hj
            · rw [ho] at hoj; cases hoj
              exact hb'.imp id (avail_mono fun k hk => List.mem_cons_of_mem _ hk)
            · exact (hst j hj oj hoj).imp id (avail_mono fun k hk => List.mem_cons_of_mem _ hk))
        exact ⟨ε', D', blk', h1, h2, h3, h4, h5, h6, h7⟩
    · exact h.elim

theorem brs_elim {T : Nat → Oper → Prop} {blk : List Nat} {i : Nat} {o : Oper} (ho : ops[i]? = some o) (ha : avail blk o = true) : ∀ {l : List Nat}, brs T ops blk l → i ∈ l → T i o
  | j :: r, h, hm => by
    simp only [brs] at h
    split at h
    · rename_i oj hoj
      rcases List.mem_cons.1 hm with rfl | hm
      · rw [ho] at hoj; cases hoj
        rw [ha] at h
        exact h.1
      · split at h
        · exact brs_elim ho ha h.2 hm
        · exact brs_elim ho ha h hm
    · exact h.elim

theorem ancs_in {i : Nat} {o : Oper} {L : Nat → Bool} {ε : Nat → Eff} (C : Cl st ops base ε L) (ho : ops[i]? = some o) (hpre : ∀ k, hasEdge o k = true → L k = true) :
    ∀ (k : Nat) (A : List Nat), (∀ x, x ∈ A → x = i ∨ L x = true) → ∀ x, x ∈ ancs ops k A → x = i ∨ L x = true
  | 0, A, hA, x, hx => hA x hx
  | k + 1, A, hA, x, hx => by
    simp only [ancs] at hx
    split at hx
    · rename_i hany
      refine ancs_in C ho hpre k (k :: A) (fun y hy => ?_) x hx
      rcases List.mem_cons.1 hy with rfl | hy
      · right
        simp only [List.any_eq_true] at hany
        obtain ⟨z, hz, he⟩ := hany
        split at he
        · rename_i oz hoz
          rcases hA z hz with rfl | hLz
          · rw [ho] at hoz; cases hoz; exact hpre _ he
          · exact C.closed z oz _ hoz hLz he
        · cases he
      · exact hA y hy
    · exact ancs_in C ho hpre k A hA x hx

theorem lastB_in {i : Nat} {o : Oper} {L : Nat → Bool} {ε : Nat → Eff} (C : Cl st ops base ε L) (ho : ops[i]? = some o) (hpre : ∀ k, hasEdge o k = true → L k = true) (h : lastB ops i = true) (k : Nat) (hk : k < ops.size) : k = i ∨ L k = true ∨ (∀ o, ops[k]? = some o → memF2 o = true) ∨ i ∈ ancs ops k [k] := by
  unfold lastB at h
  rw [List.all_eq_true] at h
  have h1 := h k (List.mem_range.2 hk)
  rw [Bool.or_eq_true, Bool.or_eq_true] at h1
  rcases h1 with (h1 | h1) | h1
  · rcases ancs_in C ho hpre i [i] (fun x hx => .inl (by simpa using hx)) k (inList_iff.1 h1) with h | h
    · exact .inl h
    · exact .inr (.inl h)
  · refine .inr (.inr (.inl fun o' ho' => ?_))
    rw [ho'] at h1
    exact memF_two h1
  · exact .inr (.inr (.inr (inList_iff.1 h1)))

theorem MLeW_in {ε : Nat → Eff} {D : Nat → Bool} {i j : Nat} {oj : Oper} {m m' : M} : ∀ {l : List Nat}, MLeW P ops (R ops ε D st) i m m' l → j ∈ l → ops[j]? = some oj → irr P oj = false → (¬ j ∈ ancs ops i [i]) → (¬ i ∈ ancs ops j [j]) → MLe m m' ∨ memF2 oj = true ∨ LdK ops st oj m m'
  | k :: r, h, hm, ho, hno, h1, h2 => by
    simp only [MLeW] at h
    rcases List.mem_cons.1 hm with rfl | hm
    · split at h
      · rename_i hs
        simp only [skipW, ho, Bool.or_eq_true, inList_iff] at hs
        rcases hs with (hs | (hs | hs) | hs) | hs
        · exact absurd hs h1
        · exact .inr (.inl hs)
        · rw [hno] at hs; cases hs
        · exact .inr (.inr (.inl hs))
        · exact absurd hs h2
      · obtain ⟨h, -⟩ := h
        rw [ho] at h
        simp only at h
        split at h
        · rename_i t x hop
          split at h
          · rename_i i off hf he
            rw [freeX_evO hf] at he
            exact .inr (.inr (.inr ⟨t, x, hop, hf, .inl ⟨i, off, he⟩⟩))
          · rename_i b off hf he
            rw [freeX_evO hf] at he
            exact .inr (.inr (.inr ⟨t, x, hop, hf, .inr ⟨b, off, he, h⟩⟩))
          · exact .inl h
        · exact .inl h
    · split at h
      · exact MLeW_in h hm ho hno h1 h2
      · exact MLeW_in h.2 hm ho hno h1 h2

theorem RE_congr {o : Oper} {id : Nat} {s s' : St} {e : Eff} (h : ∀ x, x ∈ o.op.operands.toList → evO s' x = evO s x) (hr : RE o id s e) : RE o id s' e := by
  cases e with
  | put x => exact fun i off he => by obtain ⟨hp, y, off', hy, h2⟩ := hr i off he; exact ⟨hp, y, off', hy, by rw [h y hy]; exact h2⟩
  | box i b => exact hr
  | wr i b => obtain ⟨⟨y, off', ha, hy, h2⟩, hs⟩ := hr; exact ⟨⟨y, off', ha, hy, by rw [h y hy]; exact h2⟩, hs⟩

/-- what the evaluator asks at a place of the game -/
structure Node (P : Program) (B : Nat) (S : Nat → Prop) (lo : Bool) (ops : Array Oper) (base : Nat) (K : St → M → Prop) (f : Nat) (st : St) (ε : Nat → Eff) (D : Nat → Bool) (m : M) (blk : List Nat) : Prop where
  cl : Cl st ops base ε D
  part : ∀ k, k < ops.size → (D k = true ↔ k ∉ blk)
  asc : blk.reverse.Pairwise (· < ·)
  stuck : ∀ i, i ∈ blk → ∀ o, ops[i]? = some o → (irr P o || isStore o) = true ∨ avail blk o = false
  nil : blk = [] → K (R ops ε D st) m
  cont : blk ≠ [] → brs (fun i o => guardK ops o (R ops ε D st)
        (fun st => opKD P B S o st m fun e m' => match lastB ops i with
          | true => tree P B S lo ops base f (without i blk.reverse) (st.app o.dst e) m' K
          | false => (match lo with | false => MLe m m' | true => MLeW P ops st i m m' (List.range ops.size)) ∧ tree P B S lo ops base f (without i blk.reverse) (st.app o.dst e) m' K)
        (fun st => tree P B S lo ops base f (without i blk.reverse) (st.putO o.dst (.val undef)) m K)) ops blk blk.reverse

theorem tree_node {B : Nat} {S : Nat → Prop} {lo : Bool} {K : St → M → Prop} (F : Static ops base st) (h0 : ∀ t id o, st.tmps t = .own id o → id < base) {f : Nat} {rem : List Nat} {ε : Nat → Eff} {D : Nat → Bool} {m : M} (hwf : Wf m)
    (h : tree P B S lo ops base f rem (R ops ε D st) m K) (C : Cl st ops base ε D) (hs : rem.Pairwise (· < ·)) (hp : ∀ k, k < ops.size → (D k = true ↔ k ∉ rem)) :
    ∃ f' ε' D' blk', Node P B S lo ops base K f' st ε' D' m blk' ∧ (∀ k, D k = true → D' k = true ∧ ε' k = ε k) ∧ (∀ j, D' j = true → D j = false → PendAt P ops base st ε' D' m j) := by
  cases f with
  | zero => exact h.elim
  | succ f =>
    simp only [tree] at h
    obtain ⟨ε', D', blk', h1, h2, h3, h4, h5, h6, h7⟩ := pass_elim F h0 hwf rem [] ε D h C (by simpa using hs) (fun k hk => by simpa using hp k hk) (fun i hi => by simp at hi)
    refine ⟨f, ε', D', blk', ⟨h2, h4, h5, h6, fun e => by subst e; exact h1, fun e => ?_⟩, h3, h7⟩
    cases blk' with
    | nil => exact absurd rfl e
    | cons x r => exact h1
end

section
variable {P : Program} {B : Nat} {S : Nat → Prop} {w0 : World} {m0 : M} {DF : List Deferred} {N n : Nat} {st : St} {m : M} {a : Act} {w : World} {ρ : Nat → Nat}

theorem Rep.lower {n' : Nat} (Rp : Rep B S w0 m0 DF N n' st m a w) (h1 : ∀ t i o, st.tmps t = .own i o → i < n) (h2 : ∀ i b, st.own i = some b → i < n) : Rep B S w0 m0 DF N n st m a w := by
  obtain ⟨ρ, Z, T, W⟩ := Rp
  exact ⟨ρ, Z, ⟨T.size, T.defers, T.slots, h1, h2⟩, W⟩

/-- a region whose operations may go in whatever order their edges allow -/
theorem draw_wp {f : Nat} {lo : Bool} {ops : Array Oper} {K : St → M → Prop} {Q : Exit → Act → World → Prop} (hm : P.follows .mixedOrders = true) (hB : drawB ops st.nx st = true)
    (hd : ∀ o, o ∈ ops.toList → ∀ d, o.dst = some d → d < N) (Rp : Rep B S w0 m0 DF N st.nx st m a w) (h : tree P B S lo ops st.nx f (List.range ops.size) st m K)
    (hQ : ∀ st' m' a' w', K st' m' → Rep B S w0 m0 DF N (st.nx + ops.size) st' m' a' w' → Q .normal a' w') : wpAny P .any ops Q ops.size (Array.replicate ops.size false) a { w with drawn := w.drawn + 1 } := by
  obtain ⟨ρ0, Z0, T0, W0⟩ := Rp
  obtain ⟨base, hbase⟩ : ∃ base, base = st.nx := ⟨_, rfl⟩
  rw [← hbase] at h hQ T0 hB
  have F := drawB_static hB
  have h0 : ∀ t id o, st.tmps t = .own id o → id < base := T0.fresh
  have h0' : ∀ id b, st.own id = some b → id < base := T0.ownfresh
  have runNone : ∀ (l : List (Oper × Eff)) (k : Nat) (s : St), run (fun _ => false) l k s = s := fun l => by
    induction l with
    | nil => intros; rfl
    | cons p r ih => intro i s; obtain ⟨o, e⟩ := p; simp only [run, cond_false]; exact ih _ _
  let Lo : Array Bool → Nat → Bool := fun l k => l.getD k false
  have main : ∀ (fuel : Nat) (listed : Array Bool) (a : Act) (w : World) (f : Nat) (ε : Nat → Eff) (D : Nat → Bool) (m : M) (blk : List Nat), listed.size = ops.size → ((List.range ops.size).countP fun k => !Lo listed k) ≤ fuel →
      Cl st ops base ε (Lo listed) → (∀ k, Lo listed k = true → D k = true) → Node P B S lo ops base K f st ε D m blk → (∀ j, D j = true → Lo listed j = false → PendAt P ops base st ε D m j) →
      Rep B S w0 m0 DF N (base + ops.size) (R ops ε (Lo listed) st) m a w → wpAny P .any ops Q fuel listed a w := by
    have done : ∀ (listed : Array Bool) (a : Act) (w : World) (f : Nat) (ε : Nat → Eff) (D : Nat → Bool) (m : M) (blk : List Nat), (∀ k, Lo listed k = true → D k = true) → Node P B S lo ops base K f st ε D m blk →
        Rep B S w0 m0 DF N (base + ops.size) (R ops ε (Lo listed) st) m a w → (∀ k, k < ops.size → Lo listed k = true) → Q .normal a w := fun listed a w f ε D m blk hLD nd Rp hall => by
      have hblk : blk = [] := by
        apply List.eq_nil_iff_forall_not_mem.2
        intro k hk
        by_cases hks : k < ops.size
        · exact (nd.part k hks).1 (hLD k (hall k hks)) hk
        · rcases Classical.em (∃ o, ops[k]? = some o) with ⟨o, ho⟩ | hn
          · exact hks (Array.getElem?_eq_some_iff.1 ho).1
          · -- numbers out of range never come here: every one of blk is looked up
            have hne : blk ≠ [] := fun e => by rw [e] at hk; cases hk
            have hc := nd.cont hne
            have : ∀ (T : Nat → Oper → Prop) (l : List Nat), k ∈ l → brs T ops blk l → False := fun T l => by
              induction l with
              | nil => intro h; cases h
              | cons y r ih =>
                intro hy hb
                simp only [brs] at hb
                split at hb
                · rename_i oy hoy
                  rcases List.mem_cons.1 hy with rfl | hy
                  · exact hn ⟨oy, hoy⟩
                  · split at hb
                    · exact ih hy hb.2
                    · exact ih hy hb
                · exact hb
            exact this _ _ (List.mem_reverse.2 hk) hc
      refine hQ _ m a w (nd.nil hblk) ?_
      have : R ops ε (Lo listed) st = R ops ε D st := by
        have hcg : ∀ j o e, (esOf ops ε)[j]? = some (o, e) → Lo listed (0 + j) = D (0 + j) := fun j o e hj => by
          obtain ⟨h1, -⟩ := esOf_get.1 hj
          have hlt := (Array.getElem?_eq_some_iff.1 h1).1
          rw [Nat.zero_add, hall j hlt, hLD j (hall j hlt)]
        exact St.ext' (fun t => run_tmps_congr _ 0 st st (fun j o e hj _ => hcg j o e hj) rfl) (fun id => run_own_congr _ 0 st st (fun j o e b hj _ => hcg j o e hj) rfl) (by unfold R; rw [run_nx, run_nx])
      rw [← this]; exact Rp
    have loGet : ∀ (listed : Array Bool) (k : Nat), listed.size = ops.size → k < ops.size → listed.getD k true = Lo listed k := fun listed k hsz hk => by
      simp only [Lo]; simp [hsz, hk]
    have noneReady : ∀ (listed : Array Bool), listed.size = ops.size → Region.ready .any ops listed = [] → ∀ k, k < ops.size → Lo listed k = true := fun listed hsz h0 k hk => by
      cases hq : Lo listed k with
      | true => rfl
      | false =>
        exfalso
        obtain ⟨k, ⟨hk, hl⟩, hmin⟩ := exists_least (p := fun k => k < ops.size ∧ Lo listed k = false) ⟨k, hk, hq⟩
        have : k ∈ Region.ready .any ops listed := mem_ready.2 ⟨by rw [loGet listed k hsz hk]; exact hl, ops[k], Array.getElem?_eq_getElem hk, fun e he hb => by
          have hlt := F.back k ops[k] (Array.getElem?_eq_getElem hk) e he hb
          cases hq : Lo listed e.on with
          | true => exact hq
          | false => have := hmin e.on ⟨by omega, hq⟩; omega⟩
        rw [h0] at this
        cases this
    intro fuel
    induction fuel with
    | zero =>
      intro listed a w f ε D m blk hsz hc CL hLD nd pend Rp
      have hall : ∀ k, k < ops.size → Lo listed k = true := fun k hk => by
        have h0 : ((List.range ops.size).countP fun k => !Lo listed k) = 0 := by omega
        rw [List.countP_eq_zero] at h0
        have := h0 k (List.mem_range.2 hk)
        simpa using this
      refine ⟨?_, done listed a w f ε D m blk hLD nd Rp hall⟩
      apply List.eq_nil_iff_forall_not_mem.2
      intro k hk
      obtain ⟨h1, o, ho, -⟩ := mem_ready.1 hk
      have hlt := (Array.getElem?_eq_some_iff.1 ho).1
      rw [loGet listed k hsz hlt, hall k hlt] at h1
      cases h1
    | succ fuel ih =>
      intro listed a w f ε D m blk hsz hc CL hLD nd pend Rp
      refine ⟨fun h0 => done listed a w f ε D m blk hLD nd Rp (noneReady listed hsz h0), fun i hi => ?_⟩
      obtain ⟨h1, o, ho, hpre⟩ := mem_ready.1 hi
      have hlt := (Array.getElem?_eq_some_iff.1 ho).1
      have hLi : Lo listed i = false := by rw [← loGet listed i hsz hlt]; exact h1
      have edgeIn : ∀ k, hasEdge o k = true → Lo listed k = true := fun k hk => by
        obtain ⟨ed, h1, h2, h3⟩ := hasEdge_elim hk
        rw [← h3]; exact hpre ed h1 h2
      let listed' := listed.setIfInBounds i true
      have hLo' : ∀ k, Lo listed' k = (Lo listed k || decide (k = i)) := fun k => by
        simp only [Lo, listed']
        by_cases hk : k = i
        · subst hk; simp [hsz, hlt]
        · have : ¬ i = k := fun e => hk e.symm
          simp [hk, this]
      have hsz' : listed'.size = ops.size := by simp [listed', hsz]
      have mono : ∀ k, Lo listed k = true → Lo listed' k = true := fun k hk => by rw [hLo', hk]; rfl
      have self : Lo listed' i = true := by rw [hLo']; simp
      have hcount : ((List.range ops.size).countP fun k => !Lo listed' k) ≤ fuel := by
        have := countP_lt (p := fun k => !Lo listed k) (q := fun k => !Lo listed' k) (List.range ops.size) i (fun y hy => by simp only [hLo'] at hy; cases h : Lo listed y <;> simp_all) (List.mem_range.2 hlt) (by simp [hLi]) (by simp [self])
        omega
      have hdo := hd o (by simpa using Array.mem_of_getElem? ho)
      have low : ∀ (ε : Nat → Eff) (L : Nat → Bool), Cl st ops base ε L → (∀ t i o, (R ops ε L st).tmps t = .own i o → i < base + ops.size) ∧ ∀ i b, (R ops ε L st).own i = some b → i < base + ops.size := fun ε L C =>
        ⟨fun t i o h => by rcases C.src h0 h with h | ⟨k, hk, h⟩; omega; have := C.dom k hk; omega, fun i b h => by rcases C.osrc h0' h with h | ⟨k, hk, h⟩; omega; have := C.dom k hk; omega⟩
      simp only [wpOp, ho]
      cases hDi : D i with
      | true =>
        obtain ⟨o', Dj, mj, ho', C1, sub, hDj, hpj, hy, hle, hwf, -⟩ := (pend i hDi hLi).out
        rw [ho] at ho'; cases ho'
        have hsl : ∀ t, inList t (opReads ops o) = true → (R ops ε (Lo listed) st).tmps t = (R ops ε Dj st).tmps t := fun t ht => Cl.slots F C1 CL ho hDj hLi hpj edgeIn ht
        have hop : ∀ x, x ∈ o.op.operands.toList → evO (R ops ε (Lo listed) st) x = evO (R ops ε Dj st) x := Cl.opnds F C1 CL ho hDj hLi hpj edgeIn
        obtain ⟨ρ, Z, T, W⟩ := Rp
        have fin : ∀ a' w', RE o (base + i) (R ops ε (Lo listed) st) (ε i) → Rep B S w0 m0 DF N (base + ops.size) ((R ops ε (Lo listed) st).app o.dst (ε i)) m a' w' → wpAny P .any ops Q fuel listed' a' w' := fun a' w' hr R' => by
          obtain ⟨C2, hR⟩ := CL.insert F h0 ho hLi edgeIn hr hLo'
          rw [upd_self] at C2 hR
          rw [← hR] at R'
          refine ih listed' a' w' f ε D m blk hsz' hcount C2 (fun k hk => ?_) nd (fun j hj hl => pend j hj ?_) R'
          · rw [hLo'] at hk
            simp only [Bool.or_eq_true, decide_eq_true_eq] at hk
            rcases hk with hk | rfl
            · exact hLD k hk
            · exact hDi
          · rw [hLo'] at hl
            simp only [Bool.or_eq_false_iff] at hl
            exact hl.1
        rcases hy with ⟨G, hopk, hr⟩ | ⟨G, heq⟩
        · have G' := G.congr hsl
          have hopk' := (by rcases hle with hle | hle | hle; exact opK_mono hwf hle (Cl.opK F C1 CL h0 ho hDj hLi hpj edgeIn hopk); exact opK_free hle (Cl.opK F C1 CL h0 ho hDj hLi hpj edgeIn hopk); exact opK_load (s := st) hle (Cl.opK F C1 CL h0 ho hDj hLi hpj edgeIn hopk) : opK P o (base + i) (R ops ε (Lo listed) st) m (· = ε i))
          rw [if_pos (G'.wanted T)]
          refine .inl (opK_wp' Z T W (Nat.le_refl _) (by omega) hdo (fun i' c h => ?_) (fun t i' o' h => ?_) hopk' fun e3 a' w' hk hsrc R' => ?_)
          · rcases CL.osrc h0' h with h | ⟨k, hk, h⟩
            · omega
            · intro hh
              have : k = i := by omega
              subst this; rw [hLi] at hk; cases hk
          · rcases CL.src h0 h with h | ⟨k, hk, h⟩
            · omega
            · intro hh
              have : k = i := by omega
              subst this; rw [hLi] at hk; cases hk
          · subst hk
            exact fin a' w' (RE_congr hop hr) R'
        · have G' := G.congr hsl
          rw [G'.wanted T]
          simp only [Bool.false_eq_true, if_false]
          refine fin _ w (by rw [heq]; exact fun i off e => by cases e) ?_
          rw [heq]
          exact ⟨ρ, by simpa only [St.app, putO_own] using Z, by simpa only [St.app] using T.putO hdo (x := .val undef) rfl (fun i off e => by cases e), by simpa only [St.app, putO_own] using W⟩
      | false =>
        have edgeD : ∀ k, hasEdge o k = true → D k = true := fun k hk => hLD k (edgeIn k hk)
        have hib : i ∈ blk := by
          rcases Classical.em (i ∈ blk) with h | h
          · exact h
          · rw [(nd.part i hlt).2 h] at hDi; cases hDi
        have hav : avail blk o = true := avail_intro fun k hk => (nd.part k (CL.dom k (edgeIn k hk))).1 (edgeD k hk)
        have hirr : (irr P o || isStore o) = true := by
          rcases nd.stuck i hib o ho with h | h
          · exact h
          · rw [hav] at h; cases h
        have hbr := brs_elim ho hav (nd.cont (fun e => by rw [e] at hib; cases hib)) (List.mem_reverse.2 hib)
        have hsl : ∀ t, inList t (opReads ops o) = true → (R ops ε (Lo listed) st).tmps t = (R ops ε D st).tmps t := fun t ht => Cl.slots F nd.cl CL ho hDi hLi edgeD edgeIn ht
        have hop : ∀ x, x ∈ o.op.operands.toList → evO (R ops ε (Lo listed) st) x = evO (R ops ε D st) x := Cl.opnds F nd.cl CL ho hDi hLi edgeD edgeIn
        have next : ∀ e m' a' w', (∃ v, e = .put (.val v)) → (∀ j, j < ops.size → j ≠ i → Lo listed j = false → D j = true → ∀ o, ops[j]? = some o → irr P o = false → MLe m m' ∨ memF2 o = true ∨ LdK ops st o m m') → Wf m' → tree P B S lo ops base f (without i blk.reverse) ((R ops ε D st).app o.dst e) m' K →
            Rep B S w0 m0 DF N (base + ops.size + 1) ((R ops ε (Lo listed) st).app o.dst e) m' a' w' → wpAny P .any ops Q fuel listed' a' w' := fun e m' a' w' ⟨v, he⟩ hml hwf' ht R' => by
          subst he
          obtain ⟨C2, hR⟩ := CL.insert F h0 ho hLi edgeIn (e := .put (.val v)) (fun _ _ e => by cases e) hLo'
          obtain ⟨C3, hR3⟩ := nd.cl.insert (L' := fun k => D k || decide (k = i)) F h0 ho hDi edgeD (e := .put (.val v)) (fun _ _ e => by cases e) (fun k => rfl)
          rw [← hR3] at ht
          rw [← hR] at R'
          obtain ⟨f', ε', D', blk', nd', hin, hpend⟩ := tree_node F h0 hwf' ht C3 (nd.asc.sublist (without_sub _)) (fun k hk => by
            rw [without_mem, List.mem_reverse]
            simp only [Bool.or_eq_true, decide_eq_true_eq, nd.part k hk]
            constructor
            · rintro (h | rfl)
              · exact fun h' => h h'.1
              · exact fun h' => h'.2 rfl
            · intro h
              by_cases hki : k = i
              · exact .inr hki
              · exact .inl fun h' => h ⟨h', hki⟩)
          have hL1 : ∀ k, Lo listed' k = true → (D k || decide (k = i)) = true := fun k hk => by
            rw [hLo'] at hk
            simp only [Bool.or_eq_true, decide_eq_true_eq] at hk ⊢
            exact hk.imp (hLD k) fun h => h
          refine ih listed' a' w' f' ε' D' m' blk' hsz' hcount (C2.setE fun k hk => (hin k (hL1 k hk)).2) (fun k hk => (hin k (hL1 k hk)).1) nd' (fun j hj hl => ?_) ?_
          · rw [hLo'] at hl
            simp only [Bool.or_eq_false_iff, decide_eq_false_iff_not] at hl
            cases hDj : D j with
            | true =>
              have hjs := nd.cl.dom j hDj
              refine (pend j hDj hl.1).step hDj (fun k hk => ?_) (hml j hjs hl.2 hl.1 hDj)
              have := hin k (by simp [hk])
              exact ⟨this.1, by rw [this.2, upd_ne (fun e => by subst e; rw [hDi] at hk; cases hk)]⟩
            | false => exact hpend j hj (by simp [hDj, hl.2])
          · rw [R_upd fun k hk => (hin k (hL1 k hk)).2]
            exact R'.lower (low _ _ C2).1 (low _ _ C2).2
        obtain ⟨ρ, Z, T, W⟩ := Rp
        rcases guardK_goes hbr with ⟨G, hk⟩ | ⟨G, hk⟩
        · have G' := G.congr hsl
          rw [if_pos (G'.wanted T)]
          have hkm := opKD_opKM (id := base + ops.size) hop hirr hk
          refine .inl (opKM_leads Z T W (Nat.le_refl _) hdo hkm _ _ fun e s m' a' w' ⟨hs, hv, hK⟩ R' => ?_)
          subst hs
          have hwf' : Wf m' := by obtain ⟨ρ, -, -, W'⟩ := R'; exact W'.ok.wf
          split at hK
          · rename_i hlast
            refine next e m' a' w' hv (fun j hj hji hLj hDj oj2 hoj2 _ => ?_) hwf' hK R'
            rcases lastB_in CL ho edgeIn hlast j hj with h | h | h | h
            · exact absurd h hji
            · rw [hLj] at h; cases h
            · exact .inr (.inl (h _ hoj2))
            · exfalso
              obtain ⟨oj, hoj⟩ : ∃ oj, ops[j]? = some oj := ⟨_, Array.getElem?_eq_getElem hj⟩
              rcases ancs_in nd.cl hoj (fun k hk => nd.cl.closed j oj k hoj hDj hk) j [j] (fun x hx => .inl (by simpa using hx)) i h with h | h
              · exact hji h.symm
              · rw [hDi] at h; cases h
          · refine next e m' a' w' hv (fun j hj hji hLj hDj oj hoj hno => ?_) hwf' hK.2 R'
            have hK1 := hK.1
            cases lo with
            | false => exact .inl hK1
            | true =>
              simp only at hK1
              refine MLeW_in hK1 (List.mem_range.2 hj) hoj hno (fun h => ?_) (fun h => ?_)
              · rcases ancs_in CL ho edgeIn i [i] (fun x hx => .inl (by simpa using hx)) j h with h | h
                · exact hji h
                · rw [hLj] at h; cases h
              · rcases ancs_in nd.cl hoj (fun k hk => nd.cl.closed j oj k hoj hDj hk) j [j] (fun x hx => .inl (by simpa using hx)) i h with h | h
                · exact hji h.symm
                · rw [hDi] at h; cases h
        · have G' := G.congr hsl
          rw [G'.wanted T]
          simp only [Bool.false_eq_true, if_false]
          refine next (.put (.val undef)) m _ w ⟨_, rfl⟩ (fun _ _ _ _ _ _ _ _ => .inl (MLe.refl m)) W.ok.wf (by rw [← app_skip]; exact hk) ?_
          exact ⟨ρ, by simpa only [St.app, putO_own] using Z, by simpa only [St.app] using (T.putO hdo (x := .val undef) rfl (fun i off e => by cases e)).mono (by omega), by simpa only [St.app, putO_own] using W⟩
  have hR0 : ∀ ε, R ops ε (fun _ => false) st = st := fun ε => runNone _ _ _
  have C0 : ∀ ε, Cl st ops base ε (fun _ => false) := fun ε => ⟨fun k h => (by cases h), fun _ _ _ _ h => (by cases h), fun _ _ _ h => (by cases h), fun _ _ _ h => (by cases h), fun _ _ _ h => (by cases h), fun _ _ _ h => (by cases h), fun _ _ _ _ _ h => (by cases h), fun _ _ _ _ _ h => (by cases h), fun _ _ _ _ _ h => (by cases h)⟩
  have hLo0 : Lo (Array.replicate ops.size false) = fun _ => false := by
    funext k; simp only [Lo]; by_cases h : k < ops.size <;> simp [h]
  obtain ⟨f', ε, D, blk, nd, hin, hpend⟩ := tree_node (ε := fun _ => .put .unk) (D := fun _ => false) F h0 W0.ok.wf (by rw [hR0]; exact h) (C0 _) (by exact List.pairwise_lt_range) (fun k hk => by simp [hk])
  refine (main ops.size _ a _ f' ε D m blk (by simp) (by have := List.countP_le_length (l := List.range ops.size) (p := fun k => !Lo (Array.replicate ops.size false) k); simpa using this) (by rw [hLo0]; exact C0 ε) (fun k hk => by rw [hLo0] at hk; cases hk) nd (fun j hj _ => hpend j hj rfl) ?_)
  rw [hLo0, hR0]
  have W1 := W0.grow (below_drawn w)
  exact ⟨ρ0, Z0, T0.mono (by omega), W1⟩
end
end Go.Vc
