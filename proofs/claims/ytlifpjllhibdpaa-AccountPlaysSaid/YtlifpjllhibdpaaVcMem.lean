/-
  One operation does what the evaluator asks: operations on memory. Nothing here is trusted: Lean checks it. It names no program.
-/
import Derived.Test.YtlifpjllhibdpaaVcSound
import Derived.Laws.CopyRow
import Derived.Laws.IdiomCopy
set_option linter.unusedVariables false
set_option linter.unusedSimpArgs false
namespace Go.Vc
open Go.RowKit

section
variable {P : Program} {B : Nat} {S : Nat → Prop} {w0 : World} {m0 : M} {DF : List Deferred} {N n : Nat} {st : St} {m : M} {a : Act} {w : World} {ρ : Nat → Nat}

theorem size_setCells (b : Nat) : ∀ (vs : List Value) (o : Nat) (w : World), (w.setCells b o vs).heap.size = w.heap.size
  | [], _, _ => rfl
  | v :: r, o, w => by rw [World.setCells, size_setCells b r]; simp [World.setCell]

theorem heap_setCell_ne (w : World) (a : Addr) (v : Value) (k : Nat) (h : k ≠ a.block) : (w.setCell a v).heap[k]? = w.heap[k]? := by
  have h' : ¬ a.block = k := fun e => h e.symm
  simp [World.setCell, Array.getElem?_modify, h']

theorem heap_setCells_ne (b : Nat) : ∀ (vs : List Value) (o : Nat) (w : World) (k : Nat), k ≠ b → (w.setCells b o vs).heap[k]? = w.heap[k]?
  | [], _, _, _, _ => rfl
  | v :: r, o, w, k, h => by rw [World.setCells, heap_setCells_ne b r _ _ k h, heap_setCell_ne _ _ _ _ h]

theorem heap_setCells_at (b : Nat) : ∀ (vs : List Value) (o : Nat) (w : World) (c : Array Value) (t : TypeId), w.heap[b]? = some (.cells c t (0, 0)) → ∃ c', (w.setCells b o vs).heap[b]? = some (.cells c' t (0, 0))
  | [], _, _, c, _, h => ⟨c, h⟩
  | v :: r, o, w, c, t, h => by
    rw [World.setCells]
    exact heap_setCells_at b r _ _ (c.setIfInBounds o v) t (by simp [World.setCell, Array.getElem?_modify, h])

theorem env_setCell (w : World) (a : Addr) (v : Value) : (w.setCell a v).os = w.os ∧ (w.setCell a v).tape = w.tape ∧ (w.setCell a v).output = w.output := ⟨rfl, rfl, rfl⟩
theorem env_setCells (b : Nat) : ∀ (vs : List Value) (o : Nat) (w : World), (w.setCells b o vs).os = w.os ∧ (w.setCells b o vs).tape = w.tape ∧ (w.setCells b o vs).output = w.output
  | [], _, _ => ⟨rfl, rfl, rfl⟩
  | v :: r, o, w => by rw [World.setCells]; exact env_setCells b r _ _

theorem cellIs (hm : m.ok w) {b o : Nat} {v : Value} (h : m.π b o = some v) : w.cell? ⟨b, o, none⟩ = some v := (hm.2.1 b o v h).2

theorem Wr.isSome (hm : m.ok w) {b o k : Nat} (h : Wr B S m b o k) : ∀ j, j < k → (w.cell? ⟨b, o + j, none⟩).isSome = true := fun j hj => by
  obtain ⟨v, hv⟩ := h.there j hj
  rw [cellIs hm hv]; rfl
theorem Wr.free (hm : m.ok w) {b o k : Nat} (h : Wr B S m b o k) : ∀ x : Nat, w.frozen? ⟨b, x, none⟩ = false := fun x => by
  obtain ⟨-, c, t, hc⟩ := hm.2.2 b h.uf
  simp [World.frozen?, hc]

theorem CellsAt.cell (hm : m.ok w) {b o : Nat} {cs : List Value} (h : CellsAt m b o cs) : ∀ j v, cs[j]? = some v → w.cell? ((⟨b, o, none⟩ : Addr).add j) = some v := fun j v hv => by
  have hj : j < cs.length := (List.getElem?_eq_some_iff.1 hv).1
  have hadd : (⟨b, o, none⟩ : Addr).add j = ⟨b, o + j, none⟩ := by unfold Addr.add; split <;> simp_all
  rw [hadd]
  exact cellIs hm (by rw [h.out j hj, hv])

theorem setCells_ok (hm : m.ok w) {b o : Nat} {cs : List Value} (h : Wr B S m b o cs.length) : (m.setCells b o cs).ok (w.setCells b o cs) := by
  obtain ⟨h1, h2, h3⟩ := hm
  have hm : m.ok w := ⟨h1, h2, h3⟩
  refine ⟨by rw [size_setCells]; exact h1, fun b' o' v hv => ?_, fun b' hu => ?_⟩
  · simp only [M.setCells] at hv
    split at hv
    · rename_i hc
      obtain ⟨rfl, hlo, hhi⟩ := hc
      refine ⟨?_, ?_⟩
      · exact (h3 _ h.uf).1
      · have := World.cell?_setCells_in b' cs o w (h.isSome hm) (o' - o) (by omega)
        rw [show o + (o' - o) = o' by omega] at this
        rw [this, ← hv, List.getElem?_eq_getElem (by omega)]
    · rename_i hc
      obtain ⟨hlt, hcell⟩ := h2 b' o' v hv
      refine ⟨hlt, ?_⟩
      rw [World.cell?_setCells_out b cs o w ⟨b', o', none⟩ (fun e _ => ?_)]
      · exact hcell
      · simp only at e
        subst e
        simp only
        by_cases hlo : o ≤ o'
        · by_cases hhi : o' < o + cs.length
          · exact absurd ⟨rfl, hlo, hhi⟩ hc
          · right; omega
        · left; omega
  · obtain ⟨hlt, c, t, hc⟩ := h3 b' hu
    refine ⟨hlt, ?_⟩
    by_cases e : b' = b
    · subst e
      obtain ⟨c', hc'⟩ := heap_setCells_at b' cs o w c t hc
      exact ⟨c', t, hc'⟩
    · exact ⟨c, t, by rw [heap_setCells_ne b cs o w b' e]; exact hc⟩

theorem setCells_agree (h : AgreeS B S m0 m) {b o : Nat} {cs : List Value} (hb : B ≤ b ∨ S b) : AgreeS B S m0 (m.setCells b o cs) := by
  refine ⟨fun b' hb' hs => ?_, h.2.1, h.2.2⟩
  rw [← h.1 b' hb' hs]
  funext o'
  simp only [M.setCells]
  rw [if_neg]
  rintro ⟨rfl, -, -⟩
  rcases hb with hb | hb
  · omega
  · exact hs hb

theorem setCells_belowS (h : BelowS B S w0 w) {b o : Nat} {cs : List Value} (hu : ∃ c t, w.heap[b]? = some (.cells c t (0, 0))) (hb : B ≤ b ∨ S b) : BelowS B S w0 (w.setCells b o cs) := by
  have he := env_setCells b cs o w
  refine h.trans ⟨he.1, he.2.1, he.2.2, by rw [size_setCells]; exact Nat.le_refl _, fun k hk hs => heap_setCells_ne b cs o w k ?_, fun k ob hk ho => ?_⟩
  · rintro rfl
    rcases hb with hb | hb
    · omega
    · exact hs hb
  · rw [heap_setCells_ne b cs o w k (fun e => ?_)]
    · exact hk
    · subst e
      obtain ⟨c, t, hc⟩ := hu
      rw [hc] at hk
      cases hk
      simp [Obj.isCells] at ho

theorem Rep.setCells (Z : SC B S m0 m st.own ρ) (W : WC B S w0 m st.own ρ w) {b o : Nat} {cs : List Value} (h : Wr B S m b o cs.length) :
    SC B S m0 (m.setCells b o cs) st.own ρ ∧ WC B S w0 (m.setCells b o cs) st.own ρ (w.setCells b o cs) := by
  have hne : ∀ i c, st.own i = some c → ρ i ≠ b := fun i c hi e => (Z.apart i c hi).2 (e ▸ h.uf)
  refine ⟨⟨setCells_agree Z.agree h.lo, Z.lo, fun i c hi => ⟨fun o' => ?_, (Z.apart i c hi).2⟩, Z.inj⟩, ⟨setCells_ok W.ok h, setCells_belowS W.below (W.ok.2.2 b h.uf).2 h.lo, by rw [size_setCells]; exact W.size, fun i c hi => ?_⟩⟩
  · simp only [M.setCells]
    rw [if_neg (fun e => hne i c hi e.1)]
    exact (Z.apart i c hi).1 o'
  · rw [heap_setCells_ne b cs o w _ (hne i c hi)]
    exact W.boxes i c hi

theorem newBlock_ok (hm : m.ok w) {cs : Array Value} {e : TypeId} : (m.newBlock w.heap.size cs.toList).ok (w.alloc (.cells cs e (0, 0))) := by
  have hb : Below w.heap.size w (w.alloc (.cells cs e (0, 0))) := (Below.refl _ _).alloc (Nat.le_refl _) _
  have hg := hm.grow hb
  have hnew : (w.alloc (.cells cs e (0, 0))).heap[w.heap.size]? = some (.cells cs e (0, 0)) := by
    show (w.heap.push _)[w.heap.size]? = _
    exact Array.getElem?_push_size
  refine ⟨?_, fun b o v hv => ?_, fun b hu => ?_⟩
  · have := hm.1
    show max m.sz (w.heap.size + 1) ≤ (w.heap.push _).size
    rw [Array.size_push]; omega
  · simp only [M.newBlock] at hv ⊢
    cases hbq : Nat.beq b w.heap.size with
    | true =>
      have := Nat.eq_of_beq_eq_true hbq
      subst this
      rw [hbq] at hv
      simp only [cond_true] at hv
      exact ⟨by omega, by unfold World.cell?; simp only; rw [hnew]; simpa using hv⟩
    | false =>
      rw [hbq] at hv
      have := hg.2.1 b o v hv
      exact ⟨by omega, this.2⟩
  · simp only [M.newBlock] at hu ⊢
    rcases hu with rfl | hu
    · exact ⟨by omega, cs, e, hnew⟩
    · obtain ⟨h1, h2⟩ := hg.2.2 b hu
      exact ⟨by omega, h2⟩

theorem newBlock_agree (h : AgreeS B S m0 m) {b : Nat} {cs : List Value} (hb : B ≤ b) : AgreeS B S m0 (m.newBlock b cs) := by
  have hne : ∀ b', b' < B → Nat.beq b' b = false := fun b' hb' => by
    cases hq : Nat.beq b' b with
    | false => rfl
    | true => have := Nat.eq_of_beq_eq_true hq; omega
  refine ⟨fun b' hb' hs => ?_, fun b' hb' hs => ?_, ?_⟩
  · rw [← h.1 b' hb' hs]
    funext o
    simp only [M.newBlock, hne b' hb', cond_false]
  · rw [← h.2.1 b' hb' hs]
    simp only [M.newBlock]
    constructor
    · rintro (rfl | h)
      · omega
      · exact h
    · exact .inr
  · have := h.2.2
    simp only [M.newBlock]; omega

theorem newBlock_apart {r : Nat} (h : (∀ o, m.π r o = none) ∧ ¬ m.uf r) {b : Nat} {cs : List Value} (hne : r ≠ b) : (∀ o, (m.newBlock b cs).π r o = none) ∧ ¬ (m.newBlock b cs).uf r := by
  have hq : Nat.beq r b = false := by
    cases hq : Nat.beq r b with
    | false => rfl
    | true => exact absurd (Nat.eq_of_beq_eq_true hq) hne
  refine ⟨fun o => by simp only [M.newBlock, hq, cond_false]; exact h.1 o, ?_⟩
  simp only [M.newBlock]
  rintro (e | hu)
  · exact hne e
  · exact h.2 hu

theorem Rep.newBlock (Z : SC B S m0 m st.own ρ) (W : WC B S w0 m st.own ρ w) {cs : Array Value} {e : TypeId} :
    SC B S m0 (m.newBlock w.heap.size cs.toList) st.own ρ ∧ WC B S w0 (m.newBlock w.heap.size cs.toList) st.own ρ (w.alloc (.cells cs e (0, 0))) := by
  have hb : Below w.heap.size w (w.alloc (.cells cs e (0, 0))) := (Below.refl _ _).alloc (Nat.le_refl _) _
  have W' := W.grow hb
  refine ⟨⟨newBlock_agree Z.agree W.size, Z.lo, fun i c hi => newBlock_apart (Z.apart i c hi) (Nat.ne_of_lt (look_lt (W.boxes i c hi))), Z.inj⟩, ⟨newBlock_ok W.ok, W'.below, W'.size, W'.boxes⟩⟩

theorem Rep.escape (Z : SC B S m0 m st.own ρ) (T : TC DF N n st ρ a) (W : WC B S w0 m st.own ρ w) {i : Nat} {bx : Bx} (hi : st.own i = some bx) :
    Fresh B m (ρ i) ∧ SC B S m0 (m.newBlock (ρ i) bx.cs) (escB st i (ρ i)).own ρ ∧ TC DF N n (escB st i (ρ i)) ρ a ∧ WC B S w0 (m.newBlock (ρ i) bx.cs) (escB st i (ρ i)).own ρ w := by
  have hr := W.boxes i bx hi
  have hown : ∀ j c, (escB st i (ρ i)).own j = some c → st.own j = some c ∧ j ≠ i := fun j c h => by
    simp only [escB] at h
    cases hq : Nat.beq j i with
    | true => rw [hq] at h; cases h
    | false => rw [hq] at h; exact ⟨h, Nat.ne_of_beq_eq_false hq⟩
  have hlt := look_lt hr
  refine ⟨⟨Z.lo i bx hi, (Z.apart i bx hi).1, (Z.apart i bx hi).2⟩, ⟨newBlock_agree Z.agree (Z.lo i bx hi), fun j c h => Z.lo j c (hown j c h).1, fun j c h => ?_, fun j k b c h1 h2 e => Z.inj j k b c (hown j b h1).1 (hown k c h2).1 e⟩, ⟨T.size, T.defers, fun t => ?_, fun t j o e => ?_, fun j c h => T.ownfresh j c (hown j c h).1⟩, ⟨?_, W.below, W.size, fun j c h => W.boxes j c (hown j c h).1⟩⟩
  · refine newBlock_apart (Z.apart j c (hown j c h).1) fun e => (hown j c h).2 (Z.inj j i c bx (hown j c h).1 hi e)
  · have hs := T.slots t
    simp only [escB]
    cases hx : st.tmps t with
    | val v => rw [hx] at hs; exact hs
    | unk => trivial
    | own j o =>
      rw [hx] at hs
      simp only
      cases hq : Nat.beq j i with
      | true => have := Nat.eq_of_beq_eq_true hq; subst this; exact hs
      | false => exact hs
  · simp only [escB] at e
    cases hx : st.tmps t with
    | val v => rw [hx] at e; cases e
    | unk => rw [hx] at e; cases e
    | own j' o' =>
      rw [hx] at e
      simp only at e
      cases hq : Nat.beq j' i with
      | true => rw [hq] at e; cases e
      | false => rw [hq] at e; cases e; exact T.fresh _ _ _ hx
  · obtain ⟨h1, h2, h3⟩ := W.ok
    refine ⟨by simp only [M.newBlock]; omega, fun b o v hv => ?_, fun b hu => ?_⟩
    · simp only [M.newBlock] at hv ⊢
      cases hbq : Nat.beq b (ρ i) with
      | true =>
        have := Nat.eq_of_beq_eq_true hbq
        subst this
        rw [hbq] at hv
        simp only [cond_true] at hv
        exact ⟨by omega, by unfold World.cell?; simp only; rw [hr]; simpa using hv⟩
      | false =>
        rw [hbq] at hv
        have := h2 b o v hv
        exact ⟨by omega, this.2⟩
    · simp only [M.newBlock] at hu ⊢
      rcases hu with rfl | hu
      · exact ⟨by omega, _, _, hr⟩
      · obtain ⟨h1, h2⟩ := h3 b hu
        exact ⟨by omega, h2⟩

theorem withValsE_elim {K : List Value → St → M → Prop} : ∀ (l : List Operand) (acc : List Value) (st : St) (m : M), SC B S m0 m st.own ρ → TC DF N n st ρ a → WC B S w0 m st.own ρ w → withValsE B l acc st m K →
    ∃ st' m', SC B S m0 m' st'.own ρ ∧ TC DF N n st' ρ a ∧ WC B S w0 m' st'.own ρ w ∧ st'.nx = st.nx ∧ K (acc ++ l.map a.eval) st' m'
  | [], acc, st, m, Z, T, W, h => ⟨st, m, Z, T, W, rfl, by simpa [withValsE] using h⟩
  | x :: r, acc, st, m, Z, T, W, h => by
    simp only [withValsE] at h
    split at h
    · rename_i v hv
      obtain ⟨st', m', Z', T', W', hn, hk⟩ := withValsE_elim r _ st m Z T W h
      rw [← evO_val T hv] at hk
      exact ⟨st', m', Z', T', W', hn, by simpa using hk⟩
    · rename_i i off hv
      split at h
      · rename_i bx hb
        obtain ⟨hf, Z1, T1, W1⟩ := Rep.escape Z T W hb
        obtain ⟨st', m', Z', T', W', hn, hk⟩ := withValsE_elim r _ _ _ Z1 T1 W1 (h (ρ i) hf)
        rw [← evO_own T hv] at hk
        exact ⟨st', m', Z', T', W', hn, by simpa using hk⟩
      · exact h.elim
    · exact h.elim

/-- where one operation leads: for whatever it leaves -/
def Leads (P : Program) (o : Oper) (a : Act) (w : World) (B : Nat) (S : Nat → Prop) (w0 : World) (m0 : M) (DF : List Deferred) (N n : Nat) (K : Eff → St → M → Prop) : Prop :=
  ∀ (next : Act → World → Prop) (Q : Exit → Act → World → Prop),
    (∀ e st' m' a' w', K e st' m' → Rep B S w0 m0 DF N n (st'.app o.dst e) m' a' w' → next a' w') → o.wp P a w next Q

variable {o : Oper} {K : Eff → St → M → Prop} {n' : Nat}

/-- a value is handed back, in a new world -/
theorem leads_val (hd : ∀ d, o.dst = some d → d < N) (hn : n ≤ n') {st' : St} {m' : M} {v : Value} {w' : World} (Z : SC B S m0 m' st'.own ρ) (T : TC DF N n st' ρ a) (W : WC B S w0 m' st'.own ρ w')
    (hk : K (.put (.val v)) st' m') (hr : (execOp a.eval o).run P w = .ok (.value v) w') : Leads P o a w B S w0 m0 DF N n' K := by
  intro next Q h
  unfold Oper.wp
  rw [hr]
  exact h _ _ _ _ _ hk ⟨ρ, by simpa only [St.app, putO_own] using Z, (T.putO hd (x := .val v) rfl (fun i off e => by cases e)).mono hn, by simpa only [St.app, putO_own] using W⟩

theorem leads_skip (hd : ∀ d, o.dst = some d → d < N) (hn : n ≤ n') {st' : St} {m' : M} {w' : World} (Z : SC B S m0 m' st'.own ρ) (T : TC DF N n st' ρ a) (W : WC B S w0 m' st'.own ρ w')
    (hk : K (.put (.val undef)) st' m') (hr : (execOp a.eval o).run P w = .ok .skip w') : Leads P o a w B S w0 m0 DF N n' K := by
  intro next Q h
  unfold Oper.wp
  rw [hr]
  exact h _ _ _ _ _ hk ⟨ρ, by simpa only [St.app, putO_own] using Z, (T.putO hd (x := .val undef) rfl (fun i off e => by cases e)).mono hn, by simpa only [St.app, putO_own] using W⟩

theorem elemInfo_elim {t e : TypeId} {i : TypeInfo} (h : elemInfo P t = some (e, i)) : P.underlying t = some (.slice e) ∧ P.info? e = some i := by
  unfold elemInfo at h
  split at h
  · rename_i e' hu
    split at h
    · rename_i i' hi
      simp only [Option.some.injEq, Prod.mk.injEq] at h
      obtain ⟨rfl, rfl⟩ := h
      exact ⟨hu, hi⟩
    · cases h
  · cases h

theorem leads_makeFunc (hd : ∀ d, o.dst = some d → d < N) (hn : n ≤ n') (Z : SC B S m0 m st.own ρ) (T : TC DF N n st ρ a) (W : WC B S w0 m st.own ρ w) {fn : Fn} {first caps : Array Operand} (ho : o.op = .makeFunc fn first caps)
    (h : withValsE B (first.toList ++ caps.toList) [] st m fun vs st m => pureK P (Instr.makeFunc fn (vs.take first.size).toArray (vs.drop first.size).toArray) fun v => K (.put (.val v)) st m) :
    Leads P o a w B S w0 m0 DF N n' K := by
  obtain ⟨st', m', Z', T', W', -, hk⟩ := withValsE_elim _ _ st m Z T W h
  obtain ⟨v, hr, hk⟩ := pureK_elim _ hk
  refine leads_val hd hn Z' T' W' hk ?_
  have e1 : (List.take first.size ([] ++ (first.toList ++ caps.toList).map a.eval)).toArray = first.map a.eval := by apply Array.ext'; simp
  have e2 : (List.drop first.size ([] ++ (first.toList ++ caps.toList).map a.eval)).toArray = caps.map a.eval := by apply Array.ext'; simp
  have := hr w
  rw [e1, e2] at this
  simp only [execOp, ho, Sem.run_bind, this, Result.andThen_ok, Sem.run_pure]

theorem leads_store (hd : ∀ d, o.dst = some d → d < N) (hn : n ≤ n') (Z : SC B S m0 m st.own ρ) (T : TC DF N n st ρ a) (W : WC B S w0 m st.own ρ w) {t : TypeId} {x y : Operand} (ho : o.op = .store t x y)
    {b off : Nat} {v : Value} (hx : a.eval x = .pointer (some ⟨b, off, none⟩)) (hy : a.eval y = v) (hs : v.cells.size = sizeT P t) (h1 : oneCells v.cells.toList = true) (hok : okT P t = true)
    (hw : Wr B S m b off v.cells.size) (hk : K (.put (.val undef)) st (m.setCells b off v.cells.toList)) : Leads P o a w B S w0 m0 DF N n' K := by
  have hw' : Wr B S m b off v.cells.toList.length := by simpa using hw
  obtain ⟨Z', W'⟩ := Rep.setCells Z W hw'
  obtain ⟨-, inf, hi⟩ := okT_elim hok
  refine leads_skip hd hn Z' T W' hk ?_
  have hst := run_storeCells_cells (P := P) b off v.cells.toList 0 w (fun j hj => by simpa using hw'.isSome W.ok j hj) (fun j _ => hw'.free W.ok _) (oneCells_all _ h1)
  simp only [Nat.add_zero] at hst
  have hsv : (storeVar t ⟨b, off, none⟩ v).run P w = .ok () (w.setCells b off v.cells.toList) := by
    simp only [storeVar, Sem.run_bind, run_sizeOf hi, Result.andThen_ok, hs, ne_eq, not_true_eq_false, if_false]
    exact hst
  simp [execOp, ho, hx, hy, Instr.storeAt, Instr.sureAddr, hsv]

theorem leads_makeSlice (hd : ∀ d, o.dst = some d → d < N) (hn : n ≤ n') (Z : SC B S m0 m st.own ρ) (T : TC DF N n st ρ a) (W : WC B S w0 m st.own ρ w) {t e : TypeId} {i : TypeInfo} {l c : Operand} (ho : o.op = .makeSlice t l c)
    (he : elemInfo P t = some (e, i)) {k1 k2 : IntKind} {ln cn : Int} {z : Value} (hl : a.eval l = .int k1 ln) (hc : a.eval c = .int k2 cn) (hz : i.zero = some z)
    (hb : 0 ≤ ln ∧ ln ≤ cn ∧ (i.bytes : Int) * cn ≤ 281474976710656 ∧ cn ≤ 9223372036854775807)
    (hk : ∀ b, m.sz ≤ b → K (.put (.val (.slice (some ⟨b, 0, none⟩) ln.toNat cn.toNat))) st (m.newBlock b (madeCells z.cells (cn.toNat * i.size)).toList)) : Leads P o a w B S w0 m0 DF N n' K := by
  obtain ⟨hu, hi⟩ := elemInfo_elim he
  obtain ⟨Z', W'⟩ := Rep.newBlock (cs := madeCells z.cells (cn.toNat * i.size)) (e := e) Z W
  refine leads_val hd hn Z' T W' (hk _ W.ok.1) ?_
  have := run_make (P := P) w t e i z hu hi hz k1 k2 ln cn hb.1 hb.2.1 hb.2.2.1 hb.2.2.2
  simp only [execOp, ho, hl, hc, Sem.run_bind, this, Result.andThen_ok, Sem.run_pure]

theorem run_buildSlice (w : World) {t e : TypeId} {i : TypeInfo} {z : Value} {len : Nat} {parts : Array (Nat × Value)} {cells : Array Value} (hu : P.underlying t = some (.slice e)) (hi : P.info? e = some i)
    (hz : i.zero = some z) (hb : len * i.size ≤ 16777216) (hf : Instr.fill (fun j => some (j * i.size, i.size)) (madeCells z.cells (len * i.size)) parts.toList = some cells) :
    (Instr.buildSlice t len parts).run P w = .ok (.slice (some ⟨w.heap.size, 0, none⟩) len len) (w.alloc (.cells cells e (0, 0))) := by
  have hnb : ¬ (len * i.size > 2 ^ 24) := by omega
  have hs : (sizeOf e).run P w = .ok i.size w := by simp [sizeOf, typeInfo, hi]
  have hzv : (zeroValue e).run P w = .ok z w := by simp [zeroValue, typeInfo, hi, hz]
  unfold madeCells at hf
  simp only [Instr.buildSlice, Sem.run_bind, run_underlying hu w, Result.andThen_ok, hs]
  rw [if_neg hnb]
  by_cases h0 : len * i.size = 0
  · simp only [h0] at hf ⊢
    have e0 : ∀ z : Array Value, (Array.range 0).map (z[· % z.size]!) = #[] := fun z => by simp
    rw [e0] at hf
    simp only [if_true, Sem.run_bind, Sem.run_pure, Result.andThen_ok, e0, hf, newRow, newObj, Sem.run, World.alloc]
  · simp only [h0, if_false, Sem.run_bind, hzv, Sem.run_pure, Result.andThen_ok, hf, newRow, newObj, Sem.run, World.alloc]

theorem leads_buildSlice (hd : ∀ d, o.dst = some d → d < N) (hn : n ≤ n') (Z : SC B S m0 m st.own ρ) (T : TC DF N n st ρ a) (W : WC B S w0 m st.own ρ w) {t e : TypeId} {i : TypeInfo} {len : Nat} {parts : Array (Nat × Operand)}
    (ho : o.op = .buildSlice t len parts) (he : elemInfo P t = some (e, i))
    (h : withVals st (parts.toList.map (·.2)) [] fun vs => match i.zero with
        | some z => match Instr.fill (fun j => some (j * i.size, i.size)) (madeCells z.cells (len * i.size)) ((parts.toList.map (·.1)).zip vs) with
          | some cells => (Nat.ble (len * i.size) 16777216) = true ∧ ∀ b, m.sz ≤ b → K (.put (.val (.slice (some ⟨b, 0, none⟩) len len))) st (m.newBlock b cells.toList)
          | none => False
        | none => False) : Leads P o a w B S w0 m0 DF N n' K := by
  obtain ⟨hu, hi⟩ := elemInfo_elim he
  have h := withVals_elim T _ _ h
  split at h
  · rename_i z hz
    split at h
    · rename_i cells hf
      obtain ⟨hb, hk⟩ := h
      have hb := Nat.le_of_ble_eq_true hb
      obtain ⟨Z', W'⟩ := Rep.newBlock (cs := cells) (e := e) Z W
      refine leads_val hd hn Z' T W' (hk _ W.ok.1) ?_
      have e1 : ((parts.toList.map (·.1)).zip ([] ++ (parts.toList.map (·.2)).map a.eval)) = (parts.map fun (i, x) => (i, a.eval x)).toList := by
        simp only [List.nil_append, List.map_map, Array.toList_map]
        generalize parts.toList = l
        induction l with
        | nil => rfl
        | cons p r ih => simp_all
      rw [e1] at hf
      have := run_buildSlice (P := P) w hu hi hz hb hf
      simp only [execOp, ho, Sem.run_bind, this, Result.andThen_ok, Sem.run_pure]
    · exact h.elim
  · exact h.elim

theorem run_first (hm : m.ok w) {size k c : Nat} {x : Option Addr} {cs : List Value} (h : RowAt m x cs) (hl : cs.length = k * size) :
    (Builtin.firstCells size k (.slice x k c)).run P w = .ok cs.toArray w := by
  rcases h with rfl | ⟨b, o, rfl, hc⟩
  · cases x with
    | none => simp [Builtin.firstCells]
    | some x =>
      have := run_loadCells_list (P := P) w x [] (by simp)
      simp only [List.length_nil] at hl this
      simp [Builtin.firstCells, ← hl, this]
  · have := run_loadCells_list (P := P) w ⟨b, o, none⟩ cs (hc.cell hm)
    rw [hl] at this
    simp [Builtin.firstCells, this]

theorem run_first' (hm : m.ok w) {size k c k' : Nat} {x : Option Addr} {cs : List Value} (h : RowAt m x cs) (hl : cs.length = k * size) :
    (Builtin.firstCells size k (.slice x k' c)).run P w = .ok cs.toArray w := by
  have := run_first (P := P) (c := c) hm h hl
  cases x <;> simpa [Builtin.firstCells] using this

theorem run_append_new {t ty e : TypeId} {i : TypeInfo} {z : Value} {x y : Option Addr} {len cap n c : Nat} {old src : List Value} (ht : P.underlying t = some (.slice e)) (hi : P.info? e = some i) (hz : i.zero = some z)
    (hfo : (Builtin.firstCells i.size len (.slice x len cap)).run P w.drew = .ok old.toArray w.drew) (hf : (Builtin.firstCells i.size n (.slice y n c)).run P w.drew = .ok src.toArray w.drew)
    (hg : cap < len + n) (h63 : len + n ≤ 140737488355328) (h47 : (len + n) * i.bytes ≤ 140737488355328) :
    (Builtin.append_ #[t, t] ty #[.slice x len cap, .slice y n c]).run P w =
      .ok (.slice (some ⟨w.heap.size, 0, none⟩) (len + n) (grownCap w (len + n) cap e))
        (w.drew.alloc (.cells (old.toArray ++ src.toArray ++ Builtin.zeroCells z.cells (grownCap w (len + n) cap e - (len + n))) e (0, 0))) := by
  have hn : ¬ (len + n ≤ cap) := by omega
  have h63' : ¬ (9223372036854775807 < ((len : Int) + (n : Int))) := by omega
  have hfit := growslice_fits (old := cap) hg h47
  have h48' : ¬ (281474976710656 < Builtin.nextslicecap (len + n) cap * i.bytes) := by omega
  simp [Builtin.append_, run_underlying ht, sizeOf, typeInfo, zeroValue, hi, hz, Builtin.lenOf, hn, h63', h48', Question.forced, hf, hfo, newRow, grownCap]
  congr 2
  apply Array.ext'
  simp

theorem leads_append (hd : ∀ d, o.dst = some d → d < N) (hn : n ≤ n') (Z : SC B S m0 m st.own ρ) (T : TC DF N n st ρ a) (W : WC B S w0 m st.own ρ w) {t e : TypeId} {i : TypeInfo} {z : Value} {args : Array Operand}
    {x y : Option Addr} {len cap k c : Nat} (ho : o.op = .call { callee := .builtin .append, args, argTypes := #[t, t] }) (he : elemInfo P t = some (e, i)) (hz : i.zero = some z)
    (ha : args.map a.eval = #[.slice x len cap, .slice y k c]) {old src : List Value} (hp : AppPre B S m i.size i.bytes x len cap y k old src)
    (hk : ∀ a' c' m', AppPost P e m i.size x len cap k old src a' c' m' → K (.put (.val (.slice a' (len + k) c'))) st m') : Leads P o a w B S w0 m0 DF N n' K := by
  obtain ⟨hu, hi⟩ := elemInfo_elim he
  by_cases hroom : len + k ≤ cap
  · have hf := run_first (P := P) (c := c) W.ok hp.hsrc hp.srcl
    by_cases h0 : k = 0
    · subst h0
      have hs : src = [] := by have := hp.srcl; simpa using this
      subst hs
      refine leads_val hd hn Z T W (hk x cap m (.inl ⟨hroom, rfl, rfl, .inl ⟨rfl, rfl⟩⟩)) ?_
      have hb : (Builtin.append_ #[t, t] o.type #[.slice x len cap, .slice y 0 c]).run P w = .ok (.slice x (len + 0) cap) w := by
        simp only [Nat.add_zero] at hroom
        cases x <;> simp [Builtin.append_, run_underlying hu, sizeOf, typeInfo, hi, Builtin.lenOf, hroom, hf, storeCells]
      simp only [execOp, ho, resolve, ha, Sem.run_bind, Sem.run_pure, Result.andThen_ok, invoke, builtin, hb]
    · obtain ⟨b, off, rfl, hw⟩ := hp.room h0 hroom
      have hw' : Wr B S m b (off + len * i.size) src.length := by rw [hp.srcl]; exact hw
      obtain ⟨Z', W'⟩ := Rep.setCells Z W hw'
      refine leads_val hd hn Z' T W' (hk (some ⟨b, off, none⟩) cap _ (.inl ⟨hroom, rfl, rfl, .inr ⟨b, off, rfl, rfl⟩⟩)) ?_
      have hst := run_storeCells_cells (P := P) b (off + len * i.size) src 0 w (fun j hj => by simpa using hw'.isSome W.ok j hj) (fun j _ => hw'.free W.ok _) (oneCells_all _ hp.one)
      simp only [Nat.add_zero] at hst
      have hadd : (⟨b, off, none⟩ : Addr).add (len * i.size) = ⟨b, off + len * i.size, none⟩ := by unfold Addr.add; split <;> simp_all
      have hb : (Builtin.append_ #[t, t] o.type #[.slice (some ⟨b, off, none⟩) len cap, .slice y k c]).run P w = .ok (.slice (some ⟨b, off, none⟩) (len + k) cap) (w.setCells b (off + len * i.size) src) := by
        simp [Builtin.append_, run_underlying hu, sizeOf, typeInfo, hi, Builtin.lenOf, hroom, hf, hadd, hst]
      simp only [execOp, ho, resolve, ha, Sem.run_bind, Sem.run_pure, Result.andThen_ok, invoke, builtin, hb]
  · have hlt : cap < len + k := by omega
    have hdrew : Below w.heap.size w w.drew := (Below.refl _ _).drew
    have Wd := W.grow hdrew
    have hf := run_first (P := P) (c := c) Wd.ok hp.hsrc hp.srcl
    have hfo := run_first (P := P) (c := cap) Wd.ok hp.hold hp.oldl
    have hr := run_append_new (P := P) (t := t) (ty := o.type) hu hi hz hfo hf hlt hp.bound.2 hp.bound.1
    obtain ⟨Z', W'⟩ := Rep.newBlock (cs := old.toArray ++ src.toArray ++ Builtin.zeroCells z.cells (grownCap w (len + k) cap e - (len + k))) (e := e) Z Wd
    refine leads_val hd hn Z' T W' (hk (some ⟨w.heap.size, 0, none⟩) (grownCap w (len + k) cap e) _ (.inr ⟨hlt, w.heap.size, W.ok.1, grownCap_ge w _ _ _, rfl, ?_⟩)) ?_
    · simp only [zeroRow, hi, hz]
      congr 1
      simp
    · simp only [execOp, ho, resolve, ha, Sem.run_bind, Sem.run_pure, Result.andThen_ok, invoke, builtin, hr]

theorem run_append_newZ {t t' ty e : TypeId} {i : TypeInfo} {z : Value} {x : Option Addr} {kk kn : IntKind} {len cap n : Nat} {old : List Value} (ht : P.underlying t = some (.slice e)) (ht' : P.underlying t' = some (.int kn)) (hi : P.info? e = some i) (hz : i.zero = some z) (hpos : 0 < i.size)
    (hfo : (Builtin.firstCells i.size len (.slice x len cap)).run P w.drew = .ok old.toArray w.drew)
    (hg : cap < len + n) (h63 : len + n ≤ 140737488355328) (h47 : (len + n) * i.bytes ≤ 140737488355328) :
    (Builtin.append_ #[t, t'] ty #[.slice x len cap, .int kk n]).run P w =
      .ok (.slice (some ⟨w.heap.size, 0, none⟩) (len + n) (grownCap w (len + n) cap e))
        (w.drew.alloc (.cells (old.toArray ++ Builtin.zeroCells z.cells n ++ Builtin.zeroCells z.cells (grownCap w (len + n) cap e - (len + n))) e (0, 0))) := by
  have hw : IntKind.i64.wrap (n : Int) = n := by rw [IntKind.wrap_i64]; omega
  have hneg : ¬ ((n : Int) < 0) := by omega
  have hn : ¬ (len + n ≤ cap) := by omega
  have h63' : ¬ (9223372036854775807 < ((len : Int) + (n : Int))) := by omega
  have hfit := growslice_fits (old := cap) hg h47
  have h48' : ¬ (281474976710656 < Builtin.nextslicecap (len + n) cap * i.bytes) := by omega
  have h48i : ¬ (281474976710656 < (n : Int) * (i.bytes : Int)) := by
    rw [← Int.natCast_mul]
    have : n * i.bytes ≤ (len + n) * i.bytes := Nat.mul_le_mul_right _ (by omega)
    omega
  by_cases h0 : n * i.size = 0
  · have hn0 : n = 0 := by
      rcases Nat.mul_eq_zero.1 h0 with h | h
      · exact h
      · omega
    subst hn0
    have hz0 : Builtin.zeroCells z.cells 0 = #[] := by simp [Builtin.zeroCells]
    simp only [Nat.add_zero] at hn hfit h48'
    have h63'' : ¬ (9223372036854775807 < (len : Int)) := by omega
    have hw0 : IntKind.i64.wrap 0 = 0 := by rw [IntKind.wrap_i64]; omega
    simp [Builtin.append_, run_underlying ht, run_underlying ht', sizeOf, typeInfo, zeroValue, hi, hz, asInt, asIntOf, hn, h63'', h48', hw0, Question.forced, hfo, newRow, grownCap, hz0]
  · simp [Builtin.append_, run_underlying ht, run_underlying ht', sizeOf, typeInfo, zeroValue, hi, hz, asInt, asIntOf, hw, hneg, hn, h0, h63', h48', h48i, Question.forced, hfo, newRow, grownCap]

theorem leads_appendZ (hd : ∀ d, o.dst = some d → d < N) (hn : n ≤ n') (Z : SC B S m0 m st.own ρ) (T : TC DF N n st ρ a) (W : WC B S w0 m st.own ρ w) {t t' e : TypeId} {i : TypeInfo} {z : Value} {args : Array Operand}
    {x : Option Addr} {kk : IntKind} {len cap k : Nat} (ho : o.op = .call { callee := .builtin .append, args, argTypes := #[t, t'] }) (he : elemInfo P t = some (e, i)) (ht' : isIntT P t' = true) (hz : i.zero = some z)
    (ha : args.map a.eval = #[.slice x len cap, .int kk k]) {old : List Value} (hp : AppPreZ P e B S m i.size i.bytes x len cap k old)
    (hk : ∀ a' c' m', AppPost P e m i.size x len cap k old (zeroRow P e k) a' c' m' → K (.put (.val (.slice a' (len + k) c'))) st m') : Leads P o a w B S w0 m0 DF N n' K := by
  obtain ⟨hu, hi⟩ := elemInfo_elim he
  obtain ⟨kn, hu'⟩ : ∃ kn, P.underlying t' = some (.int kn) := by
    unfold isIntT at ht'
    split at ht'
    · rename_i kn h; exact ⟨kn, h⟩
    · cases ht'
  have hzr : zeroRow P e k = (Builtin.zeroCells z.cells k).toList := by simp only [zeroRow, hi, hz]
  have hw : IntKind.i64.wrap (k : Int) = k := by have := hp.bound.2; rw [IntKind.wrap_i64]; omega
  have hneg : ¬ ((k : Int) < 0) := by omega
  have h48i : ¬ (281474976710656 < (k : Int) * (i.bytes : Int)) := by
    rw [← Int.natCast_mul]
    have : k * i.bytes ≤ (len + k) * i.bytes := Nat.mul_le_mul_right _ (by omega)
    have := hp.bound.1
    omega
  by_cases hroom : len + k ≤ cap
  · by_cases h0 : k = 0
    · subst h0
      have hs : zeroRow P e 0 = [] := by have := hp.srcl; simpa using this
      refine leads_val hd hn Z T W (hk x cap m (.inl ⟨hroom, rfl, rfl, .inl ⟨rfl, rfl⟩⟩)) ?_
      have hb : (Builtin.append_ #[t, t'] o.type #[.slice x len cap, .int kk (0 : Nat)]).run P w = .ok (.slice x (len + 0) cap) w := by
        simp only [Nat.add_zero] at hroom
        have hw0 : IntKind.i64.wrap 0 = 0 := by rw [IntKind.wrap_i64]; omega
        cases x <;> simp [Builtin.append_, run_underlying hu, run_underlying hu', sizeOf, typeInfo, hi, asInt, asIntOf, hw0, hroom, storeCells]
      simp only [execOp, ho, resolve, ha, Sem.run_bind, Sem.run_pure, Result.andThen_ok, invoke, builtin, hb]
    · obtain ⟨b, off, rfl, hwr⟩ := hp.room h0 hroom
      have hns : ¬ (k * i.size = 0) := Nat.mul_ne_zero h0 (by have := hp.pos; omega)
      have hw' : Wr B S m b (off + len * i.size) (zeroRow P e k).length := by rw [hp.srcl]; exact hwr
      obtain ⟨Z', W'⟩ := Rep.setCells Z W hw'
      refine leads_val hd hn Z' T W' (hk (some ⟨b, off, none⟩) cap _ (.inl ⟨hroom, rfl, rfl, .inr ⟨b, off, rfl, rfl⟩⟩)) ?_
      have hst := run_storeCells_cells (P := P) b (off + len * i.size) (zeroRow P e k) 0 w (fun j hj => by simpa using hw'.isSome W.ok j hj) (fun j _ => hw'.free W.ok _) (oneCells_all _ hp.one)
      simp only [Nat.add_zero] at hst
      have hadd : (⟨b, off, none⟩ : Addr).add (len * i.size) = ⟨b, off + len * i.size, none⟩ := by unfold Addr.add; split <;> simp_all
      rw [hzr] at hst ⊢
      have hb : (Builtin.append_ #[t, t'] o.type #[.slice (some ⟨b, off, none⟩) len cap, .int kk k]).run P w = .ok (.slice (some ⟨b, off, none⟩) (len + k) cap) (w.setCells b (off + len * i.size) (Builtin.zeroCells z.cells k).toList) := by
        simp [Builtin.append_, run_underlying hu, run_underlying hu', sizeOf, typeInfo, zeroValue, hi, hz, asInt, asIntOf, hw, hneg, h48i, hns, hroom, hadd, hst]
      simp only [execOp, ho, resolve, ha, Sem.run_bind, Sem.run_pure, Result.andThen_ok, invoke, builtin, hb]
  · have hlt : cap < len + k := by omega
    have hdrew : Below w.heap.size w w.drew := (Below.refl _ _).drew
    have Wd := W.grow hdrew
    have hfo := run_first (P := P) (c := cap) Wd.ok hp.hold hp.oldl
    have hr := run_append_newZ (P := P) (t := t) (t' := t') (ty := o.type) (kk := kk) hu hu' hi hz hp.pos hfo hlt hp.bound.2 hp.bound.1
    obtain ⟨Z', W'⟩ := Rep.newBlock (cs := old.toArray ++ Builtin.zeroCells z.cells k ++ Builtin.zeroCells z.cells (grownCap w (len + k) cap e - (len + k))) (e := e) Z Wd
    refine leads_val hd hn Z' T W' (hk (some ⟨w.heap.size, 0, none⟩) (grownCap w (len + k) cap e) _ (.inr ⟨hlt, w.heap.size, W.ok.1, grownCap_ge w _ _ _, rfl, ?_⟩)) ?_
    · simp only [zeroRow, hi, hz]
      congr 1
      simp
    · simp only [execOp, ho, resolve, ha, Sem.run_bind, Sem.run_pure, Result.andThen_ok, invoke, builtin, hr]

theorem leads_copy (hd : ∀ d, o.dst = some d → d < N) (hn : n ≤ n') (Z : SC B S m0 m st.own ρ) (T : TC DF N n st ρ a) (W : WC B S w0 m st.own ρ w) {t t' e : TypeId} {i : TypeInfo} {args : Array Operand}
    {x y : Option Addr} {len cap k c : Nat} (ho : o.op = .call { callee := .builtin .copy, args, argTypes := #[t, t'] }) (he : elemInfo P t = some (e, i))
    (ha : args.map a.eval = #[.slice x len cap, .slice y k c]) {src : List Value} (hp : CopyPre B S m i.size x len y k src)
    (hk : ∀ m', CopyPost m x src m' → K (.put (.val (goInt (Nat.min k len)))) st m') : Leads P o a w B S w0 m0 DF N n' K := by
  obtain ⟨hu, hi⟩ := elemInfo_elim he
  have hf := run_first' (P := P) (c := c) (k' := k) W.ok hp.hsrc hp.srcl
  have hmin : Nat.min k len = min k len := rfl
  by_cases h0 : src = []
  · subst h0
    refine leads_val hd hn Z T W (hk m (.inl ⟨rfl, rfl⟩)) ?_
    have hb : (Builtin.copy_ #[t, t'] o.type #[.slice x len cap, .slice y k c]).run P w = .ok (goInt (Nat.min k len)) w := by
      rw [← hmin] at hf
      cases x <;> simp [Builtin.copy_, run_underlying hu, sizeOf, typeInfo, hi, Builtin.lenOf, hf, storeCells]
    simp only [execOp, ho, resolve, ha, Sem.run_bind, Sem.run_pure, Result.andThen_ok, invoke, builtin, hb]
  · obtain ⟨b, off, rfl, hw⟩ := hp.wr h0
    obtain ⟨Z', W'⟩ := Rep.setCells Z W hw
    refine leads_val hd hn Z' T W' (hk _ (.inr ⟨b, off, rfl, rfl⟩)) ?_
    have hst := run_storeCells_cells (P := P) b off src 0 w (fun j hj => by simpa using hw.isSome W.ok j hj) (fun j _ => hw.free W.ok _) (oneCells_all _ hp.one)
    simp only [Nat.add_zero] at hst
    have hb : (Builtin.copy_ #[t, t'] o.type #[.slice (some ⟨b, off, none⟩) len cap, .slice y k c]).run P w = .ok (goInt (Nat.min k len)) (w.setCells b off src) := by
      rw [← hmin] at hf
      simp [Builtin.copy_, run_underlying hu, sizeOf, typeInfo, hi, Builtin.lenOf, hf, hst]
    simp only [execOp, ho, resolve, ha, Sem.run_bind, Sem.run_pure, Result.andThen_ok, invoke, builtin, hb]

theorem zeroCells_one {z : Array Value} (h : oneCells z.toList = true) (k : Nat) : ∀ v ∈ (Builtin.zeroCells z k).toList, v.oneCell' = true := by
  intro v hv
  simp only [Builtin.zeroCells, Array.toList_map, List.mem_map, Array.toList_range, List.mem_range] at hv
  obtain ⟨j, hj, rfl⟩ := hv
  by_cases h0 : z.size = 0
  · simp [h0] at hj
  · have : j % z.size < z.size := Nat.mod_lt _ (by omega)
    rw [getElem!_pos z _ this]
    exact oneCells_all _ h _ (by simp)

theorem leads_clear (hd : ∀ d, o.dst = some d → d < N) (hn : n ≤ n') (Z : SC B S m0 m st.own ρ) (T : TC DF N n st ρ a) (W : WC B S w0 m st.own ρ w) {t e : TypeId} {i : TypeInfo} {z : Value} {args : Array Operand}
    {x : Option Addr} {k c : Nat} (ho : o.op = .call { callee := .builtin .clear, args, argTypes := #[t] }) (he : elemInfo P t = some (e, i)) (hz : i.zero = some z) (h1 : oneCells z.cells.toList = true) (hs : z.cells.size = i.size)
    (ha : args.map a.eval = #[.slice x k c]) (hp : k ≠ 0 → ∃ b o, x = some ⟨b, o, none⟩ ∧ Wr B S m b o (k * i.size))
    (hk : ∀ m', CopyPost m x (zeroRow P e k) m' → K (.put (.val undef)) st m') : Leads P o a w B S w0 m0 DF N n' K := by
  obtain ⟨hu, hi⟩ := elemInfo_elim he
  have hzr : zeroRow P e k = (Builtin.zeroCells z.cells k).toList := by simp [zeroRow, hi, hz]
  by_cases h0 : k = 0
  · subst h0
    refine leads_val hd hn Z T W (hk m (.inl ⟨by rw [hzr]; simp [Builtin.zeroCells], rfl⟩)) ?_
    have hb : (Builtin.clear_ #[t] o.type #[.slice x 0 c]).run P w = .ok undef w := by
      cases x <;> simp [Builtin.clear_, run_underlying hu, undef]
    simp only [execOp, ho, resolve, ha, Sem.run_bind, Sem.run_pure, Result.andThen_ok, invoke, builtin, hb]
  · obtain ⟨b, off, rfl, hw⟩ := hp h0
    have hl : (zeroRow P e k).length = k * i.size := by rw [hzr]; simp [Builtin.zeroCells, hs]
    have hw' : Wr B S m b off (zeroRow P e k).length := by rw [hl]; exact hw
    obtain ⟨Z', W'⟩ := Rep.setCells Z W hw'
    refine leads_val hd hn Z' T W' (hk _ (.inr ⟨b, off, rfl, rfl⟩)) ?_
    have hst := run_storeCells_cells (P := P) b off (zeroRow P e k) 0 w (fun j hj => by simpa using hw'.isSome W.ok j hj) (fun j _ => hw'.free W.ok _) (by rw [hzr]; exact zeroCells_one h1 k)
    simp only [Nat.add_zero] at hst
    rw [hzr] at hst ⊢
    obtain ⟨k', rfl⟩ : ∃ k', k = k' + 1 := ⟨k - 1, by omega⟩
    have hb : (Builtin.clear_ #[t] o.type #[.slice (some ⟨b, off, none⟩) (k' + 1) c]).run P w = .ok undef (w.setCells b off (Builtin.zeroCells z.cells (k' + 1)).toList) := by
      simp [Builtin.clear_, run_underlying hu, zeroValue, typeInfo, hi, hz, hst, undef]
    simp only [execOp, ho, resolve, ha, Sem.run_bind, Sem.run_pure, Result.andThen_ok, invoke, builtin, hb]
end
end Go.Vc
