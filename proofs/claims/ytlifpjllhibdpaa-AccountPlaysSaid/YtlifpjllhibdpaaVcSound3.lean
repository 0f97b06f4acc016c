/-
  A whole function does what the evaluator asks. Nothing here is trusted: Lean checks it. It names no program.
-/
import Derived.Test.YtlifpjllhibdpaaVcIn
set_option linter.unusedVariables false
set_option linter.unusedSimpArgs false
namespace Go.Vc
open Go.RowKit

section
variable {P : Program} {B : Nat} {S : Nat → Prop} {w0 : World} {m0 : M} {DF : List Deferred} {N n : Nat} {st : St} {m : M} {a : Act} {w : World} {ρ : Nat → Nat}

theorem Rep.anynx {k : Nat} (R : Rep B S w0 m0 DF N n st m a w) : Rep B S w0 m0 DF N n { st with nx := k } m a w := by
  obtain ⟨ρ, Z, T, W⟩ := R
  exact ⟨ρ, Z, ⟨T.size, T.defers, T.slots, T.fresh, T.ownfresh⟩, W⟩


theorem region_wp {id nf : Nat} {r : Option Nat} {ops : Array Oper} {draw : Bool} {K : Exit → St → M → Prop} {Q : Exit → Act → World → Prop} (ann : Nat → Ann)
    (hd : ∀ o, o ∈ ops.toList → ∀ d, o.dst = some d → d < N) (hnd : ∀ o ∈ ops.toList, noDefer o = true) (R : Rep B S w0 m0 DF N st.nx st m a w) {ctx : List Nat} (h : vcCode P B S ann (.region id ops draw) ctx st m K)
    (hQ : ∀ e st' m' a' w', K e st' m' → Rep B S w0 m0 DF N st'.nx st' m' a' w' → Q e a' w') : (Code.region id ops draw).wpIn (FW r) nf P Q a w := by
  simp only [vcCode] at h
  obtain ⟨Q0, hQ0⟩ : ∃ Q0 : Exit → Act → World → Prop, Q0 = fun e a' w' => ∃ st' m', e = .normal ∧ K .normal st' m' ∧ Rep B S w0 m0 DF N st'.nx st' m' a' w' := ⟨_, rfl⟩
  have hn0 : ¬ LetsOut Q0 := by
    rintro ⟨a, w, hh⟩
    rw [hQ0] at hh
    obtain ⟨_, _, hh, -⟩ := hh
    cases hh
  have fin : ∀ e a' w', Q0 e a' w' → Q e a' w' := fun e a' w' hh => by
    rw [hQ0] at hh
    obtain ⟨st', m', rfl, hk, hR⟩ := hh
    exact hQ _ _ _ _ _ hk hR
  cases draw with
  | false =>
    refine wpIn_mono (wpIn_region_list (list_in hn0 _ a w hnd (vcOps_wp (Q := Q0) (K := fun st' m' => K .normal { st' with nx := st.nx + ops.size } m') (base := st.nx) hd (fun st' m' a' w' hk R' => ?_) ops.toList 0 st m a w (fun o h => h) (by simp) R h))) fin
    rw [hQ0]
    exact ⟨_, _, rfl, hk, R'.anynx⟩
  | true =>
    obtain ⟨hB, h⟩ := h
    simp only [Bool.and_eq_true] at hB
    refine wpIn_mono (wpIn_region_any hB.1 (any_in hn0 hnd _ _ _ _ (draw_wp (Q := Q0) (K := fun st' m' => K .normal { st' with nx := st.nx + ops.size } m') hB.1 hB.2 hd R h fun st' m' a' w' hk R' => ?_))) fin
    rw [hQ0]
    exact ⟨_, _, rfl, hk, R'.anynx⟩

theorem escAll_elim {K : St → M → Prop} : ∀ (l : List Nat) (st : St) (m : M), Rep B S w0 m0 DF N n st m a w → escAll B l st m K →
    ∃ st' m', Rep B S w0 m0 DF N n st' m' a w ∧ st'.nx = st.nx ∧ K st' m'
  | [], st, m, R, h => ⟨st, m, R, rfl, h⟩
  | i :: r, st, m, R, h => by
    simp only [escAll] at h
    split at h
    · rename_i bx hb
      obtain ⟨ρ, Z, T, W⟩ := R
      obtain ⟨hf, Z1, T1, W1⟩ := Rep.escape Z T W hb
      obtain ⟨st', m', R', hn, hk⟩ := escAll_elim r _ _ ⟨ρ, Z1, T1, W1⟩ (h (ρ i) hf)
      exact ⟨st', m', R', hn, hk⟩
    · exact escAll_elim r st m R h

theorem look_some : ∀ (l : List (Nat × SV)) (t : Nat) (nx : Nat), fitsT st nx l → look SV.unk l t = .unk ∨ (st.tmps t = look SV.unk l t ∧ svLt nx (look SV.unk l t) = true)
  | [], _, _, _ => .inl rfl
  | (k, x) :: r, t, nx, h => by
    simp only [fitsT] at h
    simp only [look]
    cases hb : Nat.beq t k with
    | true => have := Nat.eq_of_beq_eq_true hb; subst this; exact .inr h.1
    | false => exact look_some r t nx h.2

theorem look_own : ∀ (l : List (Nat × Bx)) (t : Nat) (nx : Nat) (b : Bx), fitsO st nx l → look none (l.map fun p => (p.1, some p.2)) t = some b → st.own t = some b ∧ t < nx
  | [], _, _, _, _, h => by cases h
  | (k, x) :: r, t, nx, b, h, hl => by
    simp only [fitsO] at h
    simp only [look, List.map_cons] at hl
    cases hb : Nat.beq t k with
    | true =>
      have := Nat.eq_of_beq_eq_true hb
      subst this
      rw [hb] at hl
      simp only [cond_true, Option.some.injEq] at hl
      subst hl
      exact ⟨h.1.1, by have := Nat.le_of_ble_eq_true h.1.2; omega⟩
    | false => rw [hb] at hl; exact look_own r t nx b h.2 hl

theorem Rep.fits {A : Ann} {x : A.A} {nx n' : Nat} (R : Rep B S w0 m0 DF N n' st m a w) (h : A.fits nx x st m) : A.inv x ∧ Rep B S w0 m0 DF N nx (A.state nx x) (A.m x) a w := by
  obtain ⟨hi, rfl, ht, ho⟩ := h
  obtain ⟨ρ, Z, T, W⟩ := R
  have hown : ∀ i b, (A.state nx x).own i = some b → st.own i = some b ∧ i < nx := fun i b h => look_own _ _ _ _ ho h
  refine ⟨hi, ρ, ⟨Z.agree, fun i b h => Z.lo i b (hown i b h).1, fun i b h => Z.apart i b (hown i b h).1, fun i j b c h1 h2 e => Z.inj i j b c (hown i b h1).1 (hown j c h2).1 e⟩,
    ⟨T.size, T.defers, fun t => ?_, fun t i o e => ?_, fun i b h => (hown i b h).2⟩, ⟨W.ok, W.below, W.size, fun i b h => W.boxes i b (hown i b h).1⟩⟩
  · have : (A.state nx x).tmps t = look SV.unk (A.st x) t := rfl
    rw [this]
    rcases look_some (A.st x) t nx ht with h | ⟨h, -⟩
    · rw [h]; trivial
    · rw [← h]; exact T.slots t
  · have h' : (A.state nx x).tmps t = look SV.unk (A.st x) t := rfl
    rw [h'] at e
    rcases look_some (A.st x) t nx ht with h | ⟨-, h⟩
    · rw [h] at e; cases e
    · rw [e] at h
      have := Nat.le_of_ble_eq_true h
      omega

/-- the loop's measure, on frames -/
theorem wp_loop_ghost {r : Option Nat} {nf : Nat} {c : Code} {Q : Exit → Act → World → Prop} {α : Type} (I : α → Act → World → Prop) (μ : α → Nat) (x : α) (h₀ : I x a w)
    (round : ∀ x a w, I x a w → c.wpIn (FW r) nf P (Exit.then (fun a' w' => ∃ y, I y a' w' ∧ μ y < μ x) Q) a w) : (Code.loop c).wpIn (FW r) nf P Q a w := by
  classical
  let least : Act → World → Nat := fun a w => if h : ∃ k, ∃ x, I x a w ∧ μ x = k then Classical.choose (exists_least h) else 0
  have hleast : ∀ x a w, I x a w → least a w ≤ μ x ∧ ∃ y, I y a w ∧ μ y = least a w := fun x a w hx => by
    have h : ∃ k, ∃ x, I x a w ∧ μ x = k := ⟨_, x, hx, rfl⟩
    simp only [least, dif_pos h]
    exact ⟨(Classical.choose_spec (exists_least h)).2 _ ⟨x, hx, rfl⟩, (Classical.choose_spec (exists_least h)).1⟩
  refine wpIn_loop (fun a w => ∃ x, I x a w) least ⟨x, h₀⟩ fun a w ⟨x, hx⟩ => ?_
  obtain ⟨-, y, hy, hm⟩ := hleast x a w hx
  refine wpIn_mono (round y a w hy) fun e a' w' hq => ?_
  cases e with
  | normal =>
    obtain ⟨z, hz, hlt⟩ := hq
    exact ⟨⟨z, hz⟩, by have := (hleast z a' w' hz).1; omega⟩
  | _ => exact hq

theorem dsts_seq {x y : Code} (h : dstsOk N (.seq x y) = true) : dstsOk N x = true ∧ dstsOk N y = true := by simpa [dstsOk] using h

theorem Rep.fitsL {A : Ann} {x : A.A} {ctx : List Nat} {nx n' : Nat} (R : Rep B S w0 m0 DF N n' st m a w) (h : A.fitsL ctx nx x st m) : A.invL ctx x ∧ Rep B S w0 m0 DF N nx (A.state nx x) (A.m x) a w := by
  unfold Ann.fitsL at h
  unfold Ann.invL
  split at h
  · exact R.fits h
  · exact ⟨⟨(R.fits h.1).1, h.2⟩, (R.fits h.1).2⟩

theorem vcCode_wp {r : Option Nat} {nf : Nat} {ann : Nat → Ann} : ∀ (c : Code) (ctx : List Nat) (st : St) (m : M) (K : Exit → St → M → Prop) (a : Act) (w : World) (Q : Exit → Act → World → Prop), dstsOk N c = true → noRF c = true →
    Rep B S w0 m0 DF N st.nx st m a w → vcCode P B S ann c ctx st m K → (∀ e st' m' a' w', K e st' m' → Rep B S w0 m0 DF N st'.nx st' m' a' w' → Q e a' w') → c.wpIn (FW r) nf P Q a w := by
  intro c
  induction c with
  | skip => exact fun ctx st m K a w Q _ _ R h hQ => wpIn_skip (hQ _ _ _ _ _ h R)
  | region id ops draw =>
    intro ctx st m K a w Q hd _ R h hQ
    simp only [dstsOk, List.all_eq_true, Bool.and_eq_true] at hd
    refine region_wp ann (fun o ho d hdst => ?_) (fun o ho => (hd o ho).2) R h hQ
    have := (hd o ho).1
    rw [hdst] at this
    exact Nat.le_of_ble_eq_true this
  | seq x y ihx ihy =>
    intro ctx st m K a w Q hd hnr R h hQ
    obtain ⟨hdx, hdy⟩ := dsts_seq hd
    obtain ⟨hrx, hry⟩ : noRF x = true ∧ noRF y = true := by simpa [noRF] using hnr
    simp only [vcCode] at h
    split at h
    · refine wpIn_seq (ihx ctx st m _ a w _ hdx hrx R h fun e st' m' a' w' hk R' => ?_)
      cases e with
      | normal => exact ihy ctx st' m' K a' w' Q hdy hry R' hk hQ
      | _ => exact hQ _ _ _ _ _ hk R'
    · obtain ⟨h1, h2⟩ := h
      generalize ann ((firstRegion y).getD 0) = A at h1 h2
      refine wpIn_seq (ihx ctx st m _ a w _ hdx hrx R h1 fun e st' m' a' w' hk R' => ?_)
      cases e with
      | normal =>
        obtain ⟨z, hz⟩ := hk
        obtain ⟨hi, R2⟩ := R'.fitsL hz
        exact ihy ctx _ _ K a' w' Q hdy hry R2 (h2 z hi) hQ
      | _ => exact hQ _ _ _ _ _ hk R'
  | cond c x y ihx ihy =>
    intro ctx st m K a w Q hd hnr R h hQ
    obtain ⟨hdx, hdy⟩ : dstsOk N x = true ∧ dstsOk N y = true := by simpa [dstsOk] using hd
    obtain ⟨hrx, hry⟩ : noRF x = true ∧ noRF y = true := by simpa [noRF] using hnr
    simp only [vcCode] at h
    split at h
    · rename_i d
      split at h
      · rename_i b hb
        obtain ⟨ρ, Z, T, W⟩ := R
        have hv : a.eval (.tmp d) = .bool b := evO_val T (x := .tmp d) hb
        rcases ifB_elim h with ⟨rfl, h⟩ | ⟨rfl, h⟩
        · exact wpIn_cond_true hv (ihx ctx (st.put d (.val (.bool true))) m K a w Q hdx hrx ⟨ρ, Z, T.putBool hb, W⟩ h hQ)
        · exact wpIn_cond_false hv (ihy ctx (st.put d (.val (.bool false))) m K a w Q hdy hry ⟨ρ, Z, T.putBool hb, W⟩ h hQ)
      · exact h.elim
    · rename_i b
      rcases ifB_elim h with ⟨rfl, h⟩ | ⟨rfl, h⟩
      · exact wpIn_cond_true rfl (ihx ctx _ m K a w Q hdx hrx R h hQ)
      · exact wpIn_cond_false rfl (ihy ctx _ m K a w Q hdy hry R h hQ)
    · exact h.elim
  | block id body ih =>
    intro ctx st m K a w Q hd hnr R h hQ
    refine wpIn_block (ih ctx st m _ a w _ hd hnr R h fun e st' m' a' w' hk R' => ?_)
    cases e with
    | exit j =>
      simp only at hk
      split at hk
      · rename_i hj
        have := Nat.eq_of_beq_eq_true hj
        subst this
        simp only [Exit.inBlock, if_true]
        exact hQ _ _ _ _ _ hk R'
      · rename_i hj
        have hne : ¬ j = id := Nat.ne_of_beq_eq_false hj
        simp only [Exit.inBlock, hne, if_false]
        exact hQ _ _ _ _ _ hk R'
    | _ => exact hQ _ _ _ _ _ hk R'
  | loop body ih =>
    intro ctx st m K a w Q hd hnr R h hQ
    obtain ⟨hd, -⟩ : dstsOk N body = true ∧ noRF body = true := by simpa [dstsOk] using hd
    simp only [vcCode] at h
    generalize ann ((firstRegion body).getD 0) = A at h
    obtain ⟨st1, m1, R1, -, ⟨x, hx⟩, hr⟩ := escAll_elim _ _ _ R h
    obtain ⟨hi, R0⟩ := R1.fitsL hx
    refine wp_loop_ghost (α := A.A) (fun x a w => A.invL ctx x ∧ Rep B S w0 m0 DF N st1.nx (A.state st1.nx x) (A.m x) a w) A.μ x ⟨hi, R0⟩ fun x a w ⟨hi, R⟩ => ?_
    refine ih (A.μ x :: ctx) (A.state st1.nx x) (A.m x) _ a w _ hd hnr R (hr x hi) fun e st' m' a' w' hk R' => ?_
    cases e with
    | normal =>
      obtain ⟨x', hf, hlt⟩ := hk
      exact ⟨x', R'.fitsL hf, hlt⟩
    | _ => exact hQ _ _ _ _ _ hk R'
  | ret => exact fun ctx st m K a w Q _ _ R h hQ => wpIn_ret (hQ _ _ _ _ _ h R)
  | exit id => exact fun ctx st m K a w Q _ _ R h hQ => wpIn_exit (hQ _ _ _ _ _ h R)
  | rangeFunc => exact fun ctx st m K a w Q _ hnr R h hQ => by simp [noRF] at hnr
  | scope => exact fun ctx st m K a w Q _ _ R h hQ => h.elim
  | label => exact fun ctx st m K a w Q _ _ R h hQ => h.elim
  | goto => exact fun ctx st m K a w Q _ _ R h hQ => h.elim
  | refuse => exact fun ctx st m K a w Q _ _ R h hQ => h.elim

end

/-! ### a range over a function -/
section
variable {P : Program} {B : Nat} {S : Nat → Prop} {w0 : World} {m0 : M} {DF : List Deferred} {N n : Nat} {st : St} {m : M} {a : Act} {w : World} {ρ : Nat → Nat}

def mark (k : Nat) : Deferred := { target := .collected k, args := #[] }

theorem M.ok.turn {W W' : World} {row : Option Nat} (h : m.ok W) (hg : W.grownBy W' row) (hr : ∀ r, row = some r → ∃ o : Obj, W.heap[r]? = some o ∧ o.isCells = false) : m.ok W' := by
  obtain ⟨h1, h2, h3⟩ := h
  refine ⟨Nat.le_trans h1 hg.size, fun b o v hv => ?_, fun b hu => ?_⟩
  · obtain ⟨hlt, hc⟩ := h2 b o v hv
    refine ⟨hlt, ?_⟩
    have hb : W'.heap[b]? = W.heap[b]? := hg.block b (by omega) fun e => by
      obtain ⟨ob, ho, hcl⟩ := hr b e.symm
      simp only [World.cell?, ho] at hc
      cases ob <;> simp_all [Obj.isCells]
    simp only [World.cell?] at hc ⊢
    rw [hb]; exact hc
  · obtain ⟨hlt, c, t, hc⟩ := h3 b hu
    refine ⟨hlt, c, t, ?_⟩
    rw [hg.block b (by omega) fun e => by
      obtain ⟨ob, ho, hcl⟩ := hr b e.symm
      rw [ho] at hc; cases hc; cases hcl]
    exact hc

theorem BelowS.turn {W W' : World} {row : Option Nat} (h : BelowS B S w W) (hg : W.grownBy W' row) (hB : B ≤ W.heap.size) (hr : ∀ r, row = some r → B ≤ r ∧ w.heap.size ≤ r) : BelowS B S w W' :=
  ⟨hg.os.trans h.os, hg.tape.trans h.tape, hg.output.trans h.output, Nat.le_trans h.size hg.size,
    fun k hk hs => (hg.block k (by omega) fun e => by have := (hr k e.symm).1; omega).trans (h.block k hk hs),
    fun k o hk ho => by
      have h1 := h.keeps k o hk ho
      exact (hg.block k (look_lt h1) fun e => by have := (hr k e.symm).2; have := look_lt hk; omega).trans h1⟩

theorem Rep.rebase {W : World} (R : Rep B S w0 m0 DF N n st m a W) : Rep B S W m0 DF N n st m a W := by
  obtain ⟨ρ, Z, T, W'⟩ := R
  exact ⟨ρ, Z, T, W'.ok, BelowS.refl _ _ _, W'.size, W'.boxes⟩

theorem Rep.turn {W W' : World} {row : Option Nat} (R : Rep B S w0 m0 DF N n st m a W) (hg : W.grownBy W' row) (hr : ∀ r, row = some r → (B ≤ r ∧ w0.heap.size ≤ r) ∧ ∃ o : Obj, W.heap[r]? = some o ∧ o.isCells = false) : Rep B S w0 m0 DF N n st m a W' := by
  obtain ⟨ρ, Z, T, X⟩ := R
  refine ⟨ρ, Z, T, X.ok.turn hg fun r e => (hr r e).2, X.below.turn hg X.size fun r e => (hr r e).1, Nat.le_trans X.size hg.size, fun i b hi => ?_⟩
  have h1 := X.boxes i b hi
  rw [hg.block _ (look_lt h1) fun e => by
    obtain ⟨-, o, ho, hc⟩ := hr _ e.symm
    rw [h1] at ho; cases ho; cases hc]
  exact h1

theorem putObj_grown (W : World) (l : Nat) (o : Obj) : W.grownBy (W.putObj l o) (some l) :=
  ⟨rfl, rfl, rfl, by simp, fun k _ hk => World.putObj_heap_other (fun e => hk (by rw [e]))⟩

/-- may turn what is not cells and was made from block B0 on -/
abbrev Turns {β : Type} (B0 : Nat) (I : β → World → Prop) : Prop := OwnFrom B0 I

theorem rangeFunc_law {nf : Nat} {E : Type} {g : Operand} {ps : Array Tmp} {assign body : Code} {Q : Exit → Act → World → Prop} {gf : Nat} {caps : List Value} {mi : M} {enc : E → List Value} {xs : List E}
    (hn : 4 ≤ nf) (hg : a.eval g = .func (.func gf) #[] caps.toArray) (eg : ∀ args w, (callFunc gf args).run P w = .ok (.enter gf args) w) (C : IterC P gf caps mi enc xs) (hps : ∀ e, (enc e).length = ps.size)
    (I Ix : List E → World → Prop) (hI : OwnFrom w.heap.size I) (hIx : OwnFrom w.heap.size Ix) (hok : ∀ pre W, I pre W → okc mi W) (h0 : I [] w)
    (hround : ∀ l pre e W, w.heap.size ≤ l → I pre W → pre ++ [e] <+: xs → (∃ r, W.heap[l]? = some (.loop r)) →
      assign.wpIn (FW (some l)) (nf - 1 - 1) P (Exit.then (fun a1 W1 => KeepsOthers W W1 ∧ ∀ W2, W1.grownBy W2 (some l) → body.wpIn (FW (some l)) (nf - 1 - 1) P (fun ex _ W' => KeepsOthers W2 W' ∧ match ex with | .normal => I (pre ++ [e]) W' | .ret => Ix (pre ++ [e]) W' | _ => False) a1 W2) (fun _ _ _ => False))
        { tmps := (ps.zip (enc e).toArray).foldl (fun t (p, v) => t.setIfInBounds p v) a.tmps, defers := [] } W)
    (hdone : ∀ W, I xs W → W.heap[w.heap.size]? = some (.deferred (some [])) → Q .normal { a with defers := mark w.heap.size :: a.defers } W)
    (hstop : ∀ W pre, Ix pre W → W.heap[w.heap.size]? = some (.deferred (some [])) → Q .ret { a with defers := mark w.heap.size :: a.defers } W) :
    (Code.rangeFunc g ps assign body).wpIn (FW none) nf P Q a w := by
  refine wpIn_rangeFunc ?_
  intro fn hfn
  obtain ⟨rec, hrec⟩ : ∃ rec : LoopState → Option Code → Loop, rec = fun s pe => { state := s, pending := pe, fn, tmps := a.tmps, params := ps, assign, body, defers := w.heap.size } := ⟨_, rfl⟩
  obtain ⟨W1, hW1⟩ : ∃ W1, (w.alloc (.deferred (some []))).alloc (.loop (rec .ready none)) = W1 := ⟨_, rfl⟩
  have hL1 : W1.heap[w.heap.size + 1]? = some (.loop (rec .ready none)) := by
    rw [← hW1]
    have := World.alloc_heap_new (w.alloc (.deferred (some []))) (.loop (rec .ready none))
    rwa [World.size_alloc] at this
  have hD1 : W1.heap[w.heap.size]? = some (.deferred (some [])) := by
    rw [← hW1]
    exact (Below.heap_alloc _ _ _ (by simp)).trans (World.alloc_heap_new w _)
  have hI1 : I [] W1 := by rw [← hW1]; exact hI.alloc _ (hI.alloc _ h0)
  refine ⟨w.heap.size + 1, [mark w.heap.size], W1, { target := .fn (.func gf) caps.toArray, args := #[.func (.yield (w.heap.size + 1)) #[] #[]] }, W1, gf,
    #[.func (.yield (w.heap.size + 1)) #[] #[]] ++ caps.toArray, W1, ?_, ?_, fun _ _ => trivial, ?_, fun _ => by omega, ?_⟩
  · rw [← hW1, hrec]; exact run_enterLoop_outer _ _ _ _ _
  · simp only [resolve, hg]
    simp [go_sem]
  · simp [invoke, go_sem, eg]
  · have hend : ∀ (jump : Option Code) (W3 : World), W3.heap[w.heap.size + 1]? = some (.loop (rec .busy none)) →
        (Instr.endRound (w.heap.size + 1) jump).run P W3 = .ok (.bool jump.isNone) (W3.putObj (w.heap.size + 1) (.loop (rec (if jump.isNone then .ready else .done) jump))) := fun jump W3 h3 => by
      have := run_endRound (P := P) jump h3
      rw [hrec] at this ⊢
      exact this
    have hfinal : ∀ (s : LoopState) (pe : Option Code) (W3 : World), s ≠ .busy → W3.heap[w.heap.size + 1]? = some (.loop (rec s pe)) →
        (Instr.endLoop (w.heap.size + 1)).run P W3 = .ok pe (W3.putObj (w.heap.size + 1) (.loop (rec .exhausted pe))) := fun s pe W3 hs h3 => by
      have := run_endLoop (P := P) h3 (by rw [hrec]; exact hs)
      rw [hrec] at this ⊢
      exact this
    have other : ∀ (W3 : World) (o : Obj), W3.heap[w.heap.size]? = some (.deferred (some [])) → (W3.putObj (w.heap.size + 1) o).heap[w.heap.size]? = some (.deferred (some [])) := fun W3 o h =>
      (World.putObj_heap_other (by omega)).trans h
    refine (C.out (nf - 1) (w.heap.size + 1) W1
      (fun pre W => I pre W ∧ W.heap[w.heap.size + 1]? = some (.loop (rec .ready none)) ∧ W.heap[w.heap.size]? = some (.deferred (some [])))
      (fun pre W => Ix pre W ∧ W.heap[w.heap.size + 1]? = some (.loop (rec .done (some .ret))) ∧ W.heap[w.heap.size]? = some (.deferred (some [])))
      (by omega) (fun pre W h => hok pre W h.1)
      (fun pre W W' h hgr => ⟨hI _ _ _ _ h.1 hgr (fun r e => by cases e), (hgr.block _ (look_lt h.2.1) (by simp)).trans h.2.1, (hgr.block _ (look_lt h.2.2) (by simp)).trans h.2.2⟩)
      (fun pre W W' h hgr => ⟨hIx _ _ _ _ h.1 hgr (fun r e => by cases e), (hgr.block _ (look_lt h.2.1) (by simp)).trans h.2.1, (hgr.block _ (look_lt h.2.2) (by simp)).trans h.2.2⟩)
      ?_ ⟨hI1, hL1, hD1⟩).mono ?_
    · rintro pre e W ⟨hi, hl, hd⟩ hpre
      have hy := run_yield (P := P) (args := (enc e).toArray) hl (by rw [hrec]; simpa using hps e)
      rw [hrec] at hy
      refine ⟨fn, _, assign, body, hy, roundIn_of_wpIn hfn (wpIn_mono (hround (w.heap.size + 1) pre e W (by omega) hi hpre ⟨_, hl⟩) ?_)⟩
      rintro ex a1 Wa hex
      cases ex with
      | normal =>
        obtain ⟨hka, hbody⟩ := hex
        have hla := hka.same _ _ hl rfl
        have hda := hka.same _ _ hd rfl
        refine ⟨_, run_beginRound hla (by rw [hrec]), ?_⟩
        have hl2 : (Wa.putObj (w.heap.size + 1) (.loop { rec .ready none with state := .busy })).heap[w.heap.size + 1]? = some (.loop (rec .busy none)) := by
          rw [World.putObj_heap_same (look_lt hla), hrec]
        refine wpIn_mono (hbody _ (putObj_grown _ _ _)) ?_
        rintro e3 a3 W3 ⟨hk3, hp⟩
        have hl3 := hk3.same _ _ hl2 rfl
        have hd3 := hk3.same _ _ (other _ (.loop { rec .ready none with state := .busy }) hda) rfl
        cases e3 with
        | normal => exact ⟨_, _, hend none W3 hl3, .inl ⟨rfl, hI.putObj _ hp (by omega) hl3 rfl, World.putObj_heap_same (look_lt hl3), other _ _ hd3⟩⟩
        | ret => exact ⟨_, _, hend (some .ret) W3 hl3, .inr ⟨rfl, hIx.putObj _ hp (by omega) hl3 rfl, World.putObj_heap_same (look_lt hl3), other _ _ hd3⟩⟩
        | _ => exact hp.elim
      | _ => exact hex.elim
    · rintro e W2 ⟨⟨v, rfl⟩, (⟨hi, hl, hd⟩ | ⟨pre, hi, hl, hd⟩)⟩
      · exact ⟨none, _, hfinal _ _ _ (by simp) hl, hdone _ (hI.putObj _ hi (by omega) hl rfl) (other _ _ hd)⟩
      · exact ⟨some .ret, _, hfinal _ _ _ (by simp) hl, wpIn_ret (hstop _ pre (hIx.putObj _ hi (by omega) hl rfl) (other _ _ hd))⟩

mutual
theorem ex_all : ∀ (s : Sh) {p q : Value → Prop}, exSh s p → allSh s q → ∃ v, p v ∧ q v
  | .int k, _, _, ⟨n, h⟩, h' => ⟨_, h, h' n⟩
  | .bool, _, _, ⟨n, h⟩, h' => ⟨_, h, h' n⟩
  | .str, _, _, ⟨n, h⟩, h' => ⟨_, h, h' n⟩
  | .sl, _, _, ⟨a, n, c, h⟩, h' => ⟨_, h, h' a n c⟩
  | .ptr, _, _, ⟨n, h⟩, h' => ⟨_, h, h' n⟩
  | .fn, _, _, ⟨f, c, h⟩, h' => ⟨_, h, h' f c⟩
  | .any, _, _, ⟨n, h1, h⟩, h' => ⟨_, h, h' n h1⟩
  | .agg l, _, _, h, h' => by
    simp only [exSh] at h
    simp only [allSh] at h'
    obtain ⟨cs, h1, h2⟩ := ex_allC l [] h h'
    exact ⟨_, h1, h2⟩
  | .tup l, _, _, h, h' => by
    simp only [exSh] at h
    simp only [allSh] at h'
    obtain ⟨cs, h1, h2⟩ := ex_allV l [] h h'
    exact ⟨_, h1, h2⟩
theorem ex_allC : ∀ (l : List Sh) (acc : List Value) {p q : List Value → Prop}, exCells l acc p → allCells l acc q → ∃ v, p v ∧ q v
  | [], acc, _, _, h, h' => ⟨_, h, h'⟩
  | s :: r, acc, _, _, h, h' => by
    simp only [exCells] at h
    simp only [allCells] at h'
    obtain ⟨v, h1, h2⟩ := ex_all s h h'
    exact ex_allC r _ h1 h2
theorem ex_allV : ∀ (l : List Sh) (acc : List Value) {p q : List Value → Prop}, exVals l acc p → allVals l acc q → ∃ v, p v ∧ q v
  | [], acc, _, _, h, h' => ⟨_, h, h'⟩
  | s :: r, acc, _, _, h, h' => by
    simp only [exVals] at h
    simp only [allVals] at h'
    obtain ⟨v, h1, h2⟩ := ex_all s h h'
    exact ex_allV r _ h1 h2
end

theorem TC.putPs (T : TC DF N n st ρ a) : ∀ (ps : List Nat) (vs : List Value) (st : St) (tmps : Array Value), (∀ p, p ∈ ps → p < N) → TC [] N n st ρ { tmps, defers := [] } →
    TC [] N n (putPs st ps vs) ρ { tmps := (ps.zip vs).foldl (fun t (p, v) => t.setIfInBounds p v) tmps, defers := [] }
  | [], vs, st, tmps, h, T => by simpa [Vc.putPs] using T
  | p :: ps, [], st, tmps, h, T => by simpa [Vc.putPs] using T
  | p :: ps, v :: vs, st, tmps, h, T' => by
    simp only [Vc.putPs, List.zip_cons_cons, List.foldl_cons]
    refine TC.putPs T ps vs _ _ (fun q hq => h q (by simp [hq])) ?_
    exact T'.putO (dst := some p) (fun d e => by cases e; exact h p (by simp)) (x := .val v) (v := v) rfl (fun _ _ e => by cases e)

theorem TC.drop {DF' : List Deferred} (T : TC DF N n st ρ a) : TC DF' N n (dropOwn st) ρ { a with defers := DF' } := by
  refine ⟨T.size, rfl, fun t => ?_, fun t i o h => ?_, fun i b h => by cases h⟩
  · have := T.slots t
    simp only [dropOwn]
    cases hs : st.tmps t with
    | val v => rw [hs] at this; exact this
    | own i o => trivial
    | unk => trivial
  · simp only [dropOwn] at h
    cases hs : st.tmps t <;> rw [hs] at h <;> cases h

/-- the marks on a frame's deferred calls, and their blocks -/
def Marks (B0 : Nat) : List Deferred → World → Prop
  | [], _ => True
  | d :: r, W => ∃ k, d = mark k ∧ B0 ≤ k ∧ W.heap[k]? = some (.deferred (some [])) ∧ (∀ d', d' ∈ r → d' ≠ d) ∧ Marks B0 r W

theorem Marks.keeps {B0 : Nat} {W W' : World} (hk : ∀ (k : Nat) (o : Obj), W.heap[k]? = some o → o.isCells = false → W'.heap[k]? = some o) : ∀ {l : List Deferred}, Marks B0 l W → Marks B0 l W'
  | [], _ => trivial
  | _ :: _, ⟨k, h1, h2, h3, h4, h5⟩ => ⟨k, h1, h2, hk _ _ h3 rfl, h4, Marks.keeps hk h5⟩

theorem Marks.lt {B0 : Nat} {W : World} : ∀ {l : List Deferred}, Marks B0 l W → ∀ d, d ∈ l → d ≠ mark W.heap.size
  | _ :: _, ⟨k, h1, h2, h3, h4, h5⟩, d, hd => by
    rcases List.mem_cons.1 hd with rfl | hd
    · subst h1
      intro e
      have := look_lt h3
      simp only [mark, Deferred.mk.injEq, Target.collected.injEq] at e
      omega
    · exact Marks.lt h5 d hd

theorem vcRange_wp {nf : Nat} {ann : Nat → Ann} {g : Operand} {ps : Array Tmp} {assign body : Code} {ctx : List Nat} {K : Exit → St → M → Prop} {Q : Exit → Act → World → Prop} (hn : 4 ≤ nf)
    (hd : dstsOk N (.rangeFunc g ps assign body) = true) (R : Rep B S w0 m0 DF N st.nx st m a w) (hM : Marks w0.heap.size DF w) (hB : B ≤ w0.heap.size) (h : vcCode P B S ann (.rangeFunc g ps assign body) ctx st m K)
    (hQ : ∀ e st' m' a' w' DF', K e st' m' → Rep B S w0 m0 DF' N st'.nx st' m' a' w' → Marks w0.heap.size DF' w' → Q e a' w') : (Code.rangeFunc g ps assign body).wpIn (FW none) nf P Q a w := by
  simp only [dstsOk, Bool.and_eq_true, List.all_eq_true] at hd
  obtain ⟨⟨hps, hda, hra⟩, hdb, hrb⟩ := hd
  simp only [vcCode] at h
  generalize ann ((firstRegion body).getD 0) = A at h
  obtain ⟨st, m, R, hnx, h⟩ := escAll_elim _ _ _ R h
  rw [← hnx] at R
  split at h
  case _ v hgv =>
    obtain ⟨gf, caps, rfl, E, enc, xs, mi, J, C, henc, ⟨x0, hx0, hmx⟩, hkn, hround, hend⟩ := h
    obtain ⟨ρ, Z, T, X⟩ := R
    have hsz : w0.heap.size ≤ w.heap.size := X.below.size
    have hag0 : ∀ x, m = A.m x → AgreeS B S m0 (A.m x) := fun x e => e ▸ Z.agree
    have hg : a.eval g = .func (.func gf) #[] caps.toArray := evO_val T hgv
    obtain ⟨I, hIe⟩ : ∃ I : List E → World → Prop, I = fun pre W => (∃ x, J pre x ∧ A.inv x ∧ (A.m x).ok W ∧ AgreeS B S m0 (A.m x)) ∧ BelowS B S w W ∧ B ≤ W.heap.size := ⟨_, rfl⟩
    obtain ⟨Ix, hIxe⟩ : ∃ Ix : List E → World → Prop, Ix = fun _ W => (∃ m2, K .ret (dropOwn st) m2 ∧ m2.ok W ∧ AgreeS B S m0 m2) ∧ BelowS B S w W ∧ B ≤ W.heap.size := ⟨_, rfl⟩
    have hI : OwnFrom w.heap.size I := by
      rw [hIe]
      rintro s X Y row ⟨⟨x, h1, h2, h3, h4⟩, h5, h6⟩ hgr hr
      exact ⟨⟨x, h1, h2, h3.turn hgr fun r e => (hr r e).2, h4⟩, h5.turn hgr h6 fun r e => ⟨by have := (hr r e).1; omega, (hr r e).1⟩, Nat.le_trans h6 hgr.size⟩
    have hIx : OwnFrom w.heap.size Ix := by
      rw [hIxe]
      rintro s X Y row ⟨⟨x, h1, h3, h4⟩, h5, h6⟩ hgr hr
      exact ⟨⟨x, h1, h3.turn hgr fun r e => (hr r e).2, h4⟩, h5.turn hgr h6 fun r e => ⟨by have := (hr r e).1; omega, (hr r e).1⟩, Nat.le_trans h6 hgr.size⟩
    have behind : ∀ e m' W, K e (dropOwn st) m' → m'.ok W → AgreeS B S m0 m' → BelowS B S w W → B ≤ W.heap.size → W.heap[w.heap.size]? = some (.deferred (some [])) →
        Q e { a with defers := mark w.heap.size :: a.defers } W := fun e m' W hk hok hag hbl hBW hD => by
      refine hQ e (dropOwn st) m' _ W (mark w.heap.size :: DF) hk ⟨ρ, ⟨hag, fun i b h => (by cases h), fun i b h => (by cases h), fun i j b c h => (by cases h)⟩, ?_, hok, X.below.trans hbl, hBW, fun i b h => (by cases h)⟩
        ⟨_, rfl, hsz, hD, fun d hd => hM.lt d hd, hM.keeps hbl.keeps⟩
      have := T.drop (DF' := mark w.heap.size :: DF)
      rw [T.defers]
      exact this
    refine rangeFunc_law (E := E) (caps := caps) (mi := mi) (enc := enc) (xs := xs) hn hg C.ent C (fun e => (henc e).1) I Ix hI hIx (fun pre W hi => ?_) ?_ ?_ ?_ ?_
    · rw [hIe] at hi
      obtain ⟨⟨x, h1, h2, h3, h4⟩, -⟩ := hi
      exact fun b o v hv => (h3.2.1 b o v (hkn _ x h1 h2 b o v hv)).2
    · rw [hIe]
      exact ⟨⟨x0, hx0.1, hx0.2, hmx ▸ X.ok, hmx ▸ Z.agree⟩, BelowS.refl _ _ _, X.size⟩
    · intro l pre e W hl hi hpre hrec
      rw [hIe] at hi
      obtain ⟨⟨x, h1, h2, h3, h4⟩, h5, h6⟩ := hi
      obtain ⟨vs, hvs, hh⟩ := ex_allV A.sh [] (henc e).2 (hround pre e x hpre h1 h2)
      have hh := hh hvs
      subst hvs
      have T0 := T.putPs ps.toList (enc e) (dropOwn st) a.tmps (fun p hp => Nat.le_of_ble_eq_true (hps p hp)) (T.drop (DF' := []))
      have hz : (ps.zip (enc e).toArray).foldl (fun t (p, v) => t.setIfInBounds p v) a.tmps = (ps.toList.zip (enc e)).foldl (fun t (p, v) => t.setIfInBounds p v) a.tmps := by
        rw [← Array.foldl_toList]; simp
      rw [hz]
      have hown : (putPs (dropOwn st) ps.toList (enc e)).own = fun _ => none := by
        have : ∀ (ps : List Nat) (vs : List Value) (s : St), (putPs s ps vs).own = s.own := by
          intro ps
          induction ps with
          | nil => intro vs s; rfl
          | cons p ps ih => intro vs s; cases vs with
            | nil => rfl
            | cons v vs => exact ih vs _
        rw [this]; rfl
      have hnx' : (putPs (dropOwn st) ps.toList (enc e)).nx = st.nx := by
        have : ∀ (ps : List Nat) (vs : List Value) (s : St), (putPs s ps vs).nx = s.nx := by
          intro ps
          induction ps with
          | nil => intro vs s; rfl
          | cons p ps ih => intro vs s; cases vs with
            | nil => rfl
            | cons v vs => exact ih vs _
        rw [this]; rfl
      have R0 : Rep B S W m0 [] N (putPs (dropOwn st) ps.toList (enc e)).nx (putPs (dropOwn st) ps.toList (enc e)) (A.m x) { tmps := (ps.toList.zip (enc e)).foldl (fun t (p, v) => t.setIfInBounds p v) a.tmps, defers := [] } W := by
        rw [hnx']
        refine ⟨ρ, ⟨h4, ?_, ?_, ?_⟩, T0, h3, BelowS.refl _ _ _, h6, ?_⟩
        all_goals (rw [hown]; first | (intro i j b c h; cases h) | (intro i b h; cases h))
      refine vcCode_wp assign ctx _ (A.m x) _ _ W _ hda hra R0 hh fun ex st1 m1 a1 W1 hk R1 => ?_
      cases ex with
      | normal =>
        have hb1 : BelowS B S W W1 := by obtain ⟨_, _, _, X1⟩ := R1; exact X1.below
        obtain ⟨r, hr⟩ := hrec
        refine ⟨⟨hb1.size, hb1.keeps⟩, fun W2 hgr => ?_⟩
        have hlW1 := hb1.keeps l _ hr rfl
        have hB1 : B ≤ W1.heap.size := Nat.le_trans h6 hb1.size
        have R2 : Rep B S W2 m0 [] N st1.nx st1 m1 a1 W2 := by
          refine Rep.rebase (w0 := w) (Rep.turn (W := W1) ?_ hgr fun r e => ?_)
          · obtain ⟨ρ1, Z1, T1, X1⟩ := R1
            exact ⟨ρ1, Z1, T1, X1.ok, h5.trans X1.below, X1.size, X1.boxes⟩
          · cases e
            exact ⟨⟨by omega, hl⟩, _, hlW1, rfl⟩
        have hb2 : BelowS B S w W2 := (h5.trans hb1).turn hgr hB1 fun r e => by cases e; exact ⟨by omega, hl⟩
        refine vcCode_wp body ctx st1 m1 _ a1 W2 _ hdb hrb R2 hk fun ex st3 m3 a3 W3 hk3 R3 => ?_
        obtain ⟨_, Z3, _, X3⟩ := R3
        refine ⟨⟨X3.below.size, X3.below.keeps⟩, ?_⟩
        cases ex with
        | normal =>
          obtain ⟨x', ⟨hx1, hx2⟩, hm3⟩ := hk3
          subst hm3
          rw [hIe]
          exact ⟨⟨x', hx1, hx2, X3.ok, Z3.agree⟩, hb2.trans X3.below, X3.size⟩
        | ret =>
          rw [hIxe]
          exact ⟨⟨m3, hk3, X3.ok, Z3.agree⟩, hb2.trans X3.below, X3.size⟩
        | _ => exact hk3.elim
      | _ => exact hk.elim
    · intro W hi hD
      rw [hIe] at hi
      obtain ⟨⟨x, h1, h2, h3, h4⟩, h5, h6⟩ := hi
      exact behind .normal _ W (hend x h1 h2) h3 h4 h5 h6 hD
    · intro W pre hi hD
      rw [hIxe] at hi
      obtain ⟨⟨m2, h1, h3, h4⟩, h5, h6⟩ := hi
      exact behind .ret _ W h1 h3 h4 h5 h6 hD
  · exact h.elim

theorem vcCode_wp0 {nf : Nat} {ann : Nat → Ann} {c : Code} {ctx : List Nat} {K : Exit → St → M → Prop} {Q : Exit → Act → World → Prop} (hd : dstsOk N c = true) (hr : noRF c = true)
    (R : Rep B S w0 m0 DF N st.nx st m a w) (hM : Marks w0.heap.size DF w) (h : vcCode P B S ann c ctx st m K)
    (hQ : ∀ e st' m' a' w' DF', K e st' m' → Rep B S w0 m0 DF' N st'.nx st' m' a' w' → Marks w0.heap.size DF' w' → Q e a' w') : c.wpIn (FW none) nf P Q a w := by
  have hb : BelowS B S w0 w := by obtain ⟨_, _, _, X⟩ := R; exact X.below
  refine vcCode_wp c ctx st m K a w Q hd hr R.rebase h fun e st' m' a' w' hk R' => ?_
  obtain ⟨ρ, Z, T, X⟩ := R'
  exact hQ e st' m' a' w' DF hk ⟨ρ, Z, T, X.ok, hb.trans X.below, X.size, X.boxes⟩ (hM.keeps X.below.keeps)

theorem vcCode_wp1 {nf : Nat} (hn : 4 ≤ nf) {ann : Nat → Ann} (hB : B ≤ w0.heap.size) : ∀ (c : Code) (ctx : List Nat) (st : St) (m : M) (K : Exit → St → M → Prop) (a : Act) (w : World) (Q : Exit → Act → World → Prop) (DF : List Deferred), dstsOk N c = true →
    Rep B S w0 m0 DF N st.nx st m a w → Marks w0.heap.size DF w → vcCode P B S ann c ctx st m K →
    (∀ e st' m' a' w' DF', K e st' m' → Rep B S w0 m0 DF' N st'.nx st' m' a' w' → Marks w0.heap.size DF' w' → Q e a' w') → c.wpIn (FW none) nf P Q a w := by
  intro c
  induction c with
  | seq x y ihx ihy =>
    intro ctx st m K a w Q DF hd R hM h hQ
    obtain ⟨hdx, hdy⟩ := dsts_seq hd
    simp only [vcCode] at h
    split at h
    · refine wpIn_seq (ihx ctx st m _ a w _ DF hdx R hM h fun e st' m' a' w' DF' hk R' hM' => ?_)
      cases e with
      | normal => exact ihy ctx st' m' K a' w' Q DF' hdy R' hM' hk hQ
      | _ => exact hQ _ _ _ _ _ _ hk R' hM'
    · obtain ⟨h1, h2⟩ := h
      generalize ann ((firstRegion y).getD 0) = A at h1 h2
      refine wpIn_seq (ihx ctx st m _ a w _ DF hdx R hM h1 fun e st' m' a' w' DF' hk R' hM' => ?_)
      cases e with
      | normal =>
        obtain ⟨z, hz⟩ := hk
        obtain ⟨hi, R2⟩ := R'.fitsL hz
        exact ihy ctx _ _ K a' w' Q DF' hdy R2 hM' (h2 z hi) hQ
      | _ => exact hQ _ _ _ _ _ _ hk R' hM'
  | cond c x y ihx ihy =>
    intro ctx st m K a w Q DF hd R hM h hQ
    obtain ⟨hdx, hdy⟩ : dstsOk N x = true ∧ dstsOk N y = true := by simpa [dstsOk] using hd
    simp only [vcCode] at h
    split at h
    · rename_i d
      split at h
      · rename_i b hb
        obtain ⟨ρ, Z, T, W⟩ := R
        have hv : a.eval (.tmp d) = .bool b := evO_val T (x := .tmp d) hb
        rcases ifB_elim h with ⟨rfl, h⟩ | ⟨rfl, h⟩
        · exact wpIn_cond_true hv (ihx ctx (st.put d (.val (.bool true))) m K a w Q DF hdx ⟨ρ, Z, T.putBool hb, W⟩ hM h hQ)
        · exact wpIn_cond_false hv (ihy ctx (st.put d (.val (.bool false))) m K a w Q DF hdy ⟨ρ, Z, T.putBool hb, W⟩ hM h hQ)
      · exact h.elim
    · rename_i b
      rcases ifB_elim h with ⟨rfl, h⟩ | ⟨rfl, h⟩
      · exact wpIn_cond_true rfl (ihx ctx _ m K a w Q DF hdx R hM h hQ)
      · exact wpIn_cond_false rfl (ihy ctx _ m K a w Q DF hdy R hM h hQ)
    · exact h.elim
  | block id body ih =>
    intro ctx st m K a w Q DF hd R hM h hQ
    refine wpIn_block (ih ctx st m _ a w _ DF hd R hM h fun e st' m' a' w' DF' hk R' hM' => ?_)
    cases e with
    | exit j =>
      simp only at hk
      split at hk
      · rename_i hj
        have := Nat.eq_of_beq_eq_true hj
        subst this
        simp only [Exit.inBlock, if_true]
        exact hQ _ _ _ _ _ _ hk R' hM'
      · rename_i hj
        have hne : ¬ j = id := Nat.ne_of_beq_eq_false hj
        simp only [Exit.inBlock, hne, if_false]
        exact hQ _ _ _ _ _ _ hk R' hM'
    | _ => exact hQ _ _ _ _ _ _ hk R' hM'
  | rangeFunc g ps assign body _ _ => exact fun ctx st m K a w Q DF hd R hM h hQ => vcRange_wp hn hd R hM hB h hQ
  | loop body _ => exact fun ctx st m K a w Q DF hd R hM h hQ => vcCode_wp0 hd (by simp only [dstsOk, Bool.and_eq_true] at hd; simpa [noRF] using hd.2) R hM h hQ
  | scope => exact fun ctx st m K a w Q DF _ _ _ h _ => h.elim
  | label => exact fun ctx st m K a w Q DF _ _ _ h _ => h.elim
  | goto => exact fun ctx st m K a w Q DF _ _ _ h _ => h.elim
  | refuse => exact fun ctx st m K a w Q DF _ _ _ h _ => h.elim
  | _ => exact fun ctx st m K a w Q DF hd R hM h hQ => vcCode_wp0 hd rfl R hM h hQ

/-- on the way out the marks' blocks are shut -/
theorem marks_leave {nf : Nat} {fn : Func} {tmps : Array Value} {R : Ending → World → Prop} {own : Nat → Option Bx} (hv : ∀ W, WC B S w0 m own ρ W → ∃ v, (results fn tmps).run P W = .ok v W ∧ R (.returned v) W) (hB : B ≤ w0.heap.size) :
    ∀ (l : List Deferred) (W : World), Marks w0.heap.size l W → WC B S w0 m own ρ W → LeavesInM (FW none) nf P fn tmps R l .returning W
  | [], W, _, X => hv W X
  | d :: r, W, hm, X => by
    obtain ⟨k, h1, h2, h3, h4, h5⟩ := hm
    have hg : W.grownBy (W.putObj k (.deferred none)) (some k) := putObj_grown _ _ _
    have hX : WC B S w0 m own ρ (W.putObj k (.deferred none)) := by
      have hr : ∀ j, some k = some j → (B ≤ j ∧ w0.heap.size ≤ j) ∧ ∃ o : Obj, W.heap[j]? = some o ∧ o.isCells = false := fun j e => by cases e; exact ⟨⟨by omega, h2⟩, _, h3, rfl⟩
      refine ⟨X.ok.turn hg fun j e => (hr j e).2, X.below.turn hg X.size fun j e => (hr j e).1, Nat.le_trans X.size hg.size, fun i b hi => ?_⟩
      have hb := X.boxes i b hi
      rw [World.putObj_heap_other fun e => by rw [e] at hb; rw [h3] at hb; cases hb]
      exact hb
    have hmr : ∀ {l : List Deferred}, (∀ d', d' ∈ l → d' ≠ d) → Marks w0.heap.size l W → Marks w0.heap.size l (W.putObj k (.deferred none)) := by
      intro l
      induction l with
      | nil => intro _ _; trivial
      | cons d' l ih =>
        rintro hne ⟨k', g1, g2, g3, g4, g5⟩
        refine ⟨k', g1, g2, ?_, g4, ih (fun x hx => hne x (by simp [hx])) g5⟩
        rw [World.putObj_heap_other fun e => ?_]
        · exact g3
        · exact hne d' (by simp) (by rw [g1, h1, e])
    refine ⟨by simp, .inl ⟨k, _, by rw [h1]; rfl, run_takeDeferred h3, marks_leave hv hB r _ (hmr h4 h5) hX⟩⟩

end

section
variable {P : Program} {B : Nat} {S : Nat → Prop} {w0 : World} {m0 : M} {DF : List Deferred} {N n : Nat} {st : St} {m : M} {a : Act} {w : World} {ρ : Nat → Nat}

theorem init_rep (args : List Value) (hl : args.length ≤ N) (w : World) (m : M) (hm : m.ok w) :
    Rep w.heap.size S w m [] N 0 (St.init args) m { tmps := args.toArray ++ Array.replicate (N - args.toArray.size) undef, defers := [] } w := by
  refine ⟨fun _ => 0, ⟨⟨fun _ _ _ => rfl, fun _ _ _ => Iff.rfl, Nat.le_refl _⟩, fun i b h => (by cases h), fun i b h => (by cases h), fun i j b c h => (by cases h)⟩,
    ⟨by simp; omega, rfl, fun t => ?_, fun t i o h => ?_, fun i b h => (by cases h)⟩, ⟨hm, BelowS.refl _ _ _, Nat.le_refl _, fun i b h => (by cases h)⟩⟩
  · simp only [St.init]
    cases ht : args[t]? with
    | some v =>
      have hlt : t < args.length := (List.getElem?_eq_some_iff.1 ht).1
      have : args[t] = v := (List.getElem?_eq_some_iff.1 ht).2
      simp [svR, Array.getD, hlt, this]
      intro hh; omega
    | none =>
      have hge : args.length ≤ t := by simpa using ht
      simp only [svR]
      by_cases hN : t < N
      · have : ¬ t < args.length := by omega
        simp [Array.getD, Array.getElem_append, this]
      · have : ¬ t < args.length + (N - args.length) := by omega
        simp [Array.getD, this]
  · simp only [St.init] at h
    split at h <;> cases h

def resF (tmps : Array Value) : ResultVar → Sem Value
  | .tmp t => pure (tmps.getD t undef)
  | .cell a t => do loadVar t (← asAddr (tmps.getD a undef))

theorem resK_elim (T : TC DF N n st ρ a) (W : WC B S w0 m st.own ρ w) {K : List Value → Prop} : ∀ (l : List ResultVar) (acc : List Value), resK P st m l acc K →
    ∃ vs, (l.mapM (resF a.tmps)).run P w = .ok vs w ∧ K (acc ++ vs)
  | [], acc, h => ⟨[], by simp, by simpa [resK] using h⟩
  | .tmp t :: r, acc, h => by
    simp only [resK] at h
    split at h
    · rename_i v hv
      obtain ⟨vs, h1, h2⟩ := resK_elim T W r _ h
      have : a.tmps.getD t undef = v := by have := T.slots t; rw [hv] at this; exact this
      exact ⟨v :: vs, by simp only [List.mapM_cons, resF, Sem.run_bind, Sem.run_pure, Result.andThen_ok, h1, this], by simpa using h2⟩
    · exact h.elim
  | .cell c t :: r, acc, h => by
    simp only [resK] at h
    split at h
    · rename_i i off hv
      split at h
      · rename_i b hb
        split at h
        · rename_i v hld
          obtain ⟨vs, h1, h2⟩ := resK_elim T W r _ h
          have : a.tmps.getD c undef = .pointer (some ⟨ρ i, off, none⟩) := by have := T.slots c; rw [hv] at this; exact this
          exact ⟨v :: vs, by simp only [List.mapM_cons, resF, this, asAddr, Sem.run_bind, Sem.run_pure, Result.andThen_ok, ldOwn_run hld (W.boxes i b hb), h1], by simpa using h2⟩
        · exact h.elim
      · exact h.elim
    · rename_i b off hv
      obtain ⟨v, h⟩ := exSh_elim _ h
      split at h
      · rename_i hc
        simp only [Bool.and_eq_true] at hc
        obtain ⟨hca, hk⟩ := h
        obtain ⟨vs, h1, h2⟩ := resK_elim T W r _ hk
        have : a.tmps.getD c undef = .pointer (some ⟨b, off, none⟩) := by have := T.slots c; rw [hv] at this; exact this
        have hl := run_loadVar_at (P := P) t b off v w hc.2 hc.1.1 (Nat.eq_of_beq_eq_true hc.1.2) fun j hj => by
          have := hca.out j hj
          have hj' : v.cells.toList[j]? = some v.cells.toList[j] := List.getElem?_eq_getElem hj
          rw [hj'] at this ⊢
          exact (W.ok.2.1 _ _ _ this).2
        exact ⟨v :: vs, by simp only [List.mapM_cons, resF, this, asAddr, Sem.run_bind, Sem.run_pure, Result.andThen_ok, hl, h1], by simpa using h2⟩
      · exact h.elim
    · exact h.elim

def pack : List Value → Value
  | [v] => v
  | vs => .tuple vs.toArray

theorem results_run {fn : Func} {vs : List Value} {tmps : Array Value} (h : (fn.results.toList.mapM (resF tmps)).run P w = .ok vs w) :
    (results fn tmps).run P w = .ok (pack vs) w := by
  unfold results
  have e : (fn.results.mapM fun x => match x with | .tmp t => pure (tmps.getD t undef) | .cell a t => do loadVar t (← asAddr (tmps.getD a undef))) = List.toArray <$> fn.results.toList.mapM (resF tmps) := by
    rw [Array.mapM_eq_mapM_toList]
    congr 2
  rw [Sem.run_bind]
  erw [e]
  rw [Sem.run_map, h]
  simp only [Result.andThen_ok]
  match vs with
  | [] => simp [pack]
  | [v] => simp [pack]
  | v :: u :: r => simp [pack]

theorem fun_calls {f : FuncId} {fn : Func} (hf : P.funcs[f]? = some fn) {ann : Nat → Ann} {args : List Value} {Post : Value → M → Prop} (hm : m.ok w) (hs : m.sz = w.heap.size)
    (h : vcFunW P S ann fn args m Post) :
    Calls P f args.toArray w fun e w' => ∃ v m', e = .returned v ∧ BelowS w.heap.size S w w' ∧ m'.ok w' ∧ AgreeS w.heap.size S m m' ∧ Post v m' := by
  unfold vcFunW at h
  split at h
  · rename_i c hc
    obtain ⟨hd, h⟩ := h
    simp only [Bool.and_eq_true] at hd
    rw [hs] at h
    refine (callsIn_wide (n := 4)).1 (callsIn_of_wp_marks hf hc trivial (vcCode_wp1 (Nat.le_refl 4) (N := fn.ntmps) (Nat.le_refl _) c [] _ m _ _ w _ [] hd.1 (init_rep args (Nat.le_of_ble_eq_true hd.2) w m hm) trivial h fun e st' m' a' w' DF' hk R hM => ?_))
    obtain ⟨ρ, Z, T, W⟩ := R
    have fin : ∀ (K : resK P st' m' fn.results.toList [] fun vs => match vs with | [v] => Done (Post v m') | vs => Done (Post (.tuple vs.toArray) m')),
        LeavesInM (FW none) 4 P fn a'.tmps (fun e w' => ∃ v m', e = .returned v ∧ BelowS w.heap.size S w w' ∧ m'.ok w' ∧ AgreeS w.heap.size S m m' ∧ Post v m') a'.defers .returning w' := fun K => by
      rw [T.defers]
      refine marks_leave (fun W' X => ?_) (Nat.le_refl _) DF' w' hM W
      obtain ⟨vs, h1, h2⟩ := resK_elim T X _ _ K
      refine ⟨_, results_run h1, _, m', rfl, X.below, X.ok, Z.agree, ?_⟩
      simp only [List.nil_append] at h2
      match vs, h2 with
      | [], h2 => exact h2.out
      | [v], h2 => exact h2.out
      | v :: u :: r, h2 => exact h2.out
    cases e with
    | normal => exact fin hk
    | ret => exact fin hk
    | _ => exact hk.elim
  · exact h.elim

theorem SpecW.of_vc {f : FuncId} {fn : Func} (hf : P.funcs[f]? = some fn) {ann : Nat → Ann} {args : List Value} {Post : Value → M → Prop} (h : vcFunW P S ann fn args m Post) : SpecW P f args m S Post :=
  ⟨fun w hm hs => by rw [hs]; exact fun_calls hf hm hs h⟩

theorem Spec.of_vc {f : FuncId} {fn : Func} (hf : P.funcs[f]? = some fn) {ann : Nat → Ann} {args : List Value} {Post : Value → M → Prop} (h : vcFun P ann fn args m Post) : Spec P f args m Post :=
  ⟨fun w hm hs => (fun_calls hf hm hs h).mono fun e w' hh => by
    obtain ⟨v, m', he, hb, hok, hag, hp⟩ := hh
    exact ⟨v, m', he, hb.below, hok, ⟨fun b hb => hag.1 b (hs ▸ hb) id, fun b hb => hag.2.1 b (hs ▸ hb) id, hag.2.2⟩, hp⟩⟩

theorem QSpec.of_vc {f : FuncId} {fn : Func} (hf : P.funcs[f]? = some fn) {ann : Nat → Nat → Ann} {args : List Value} {v : Value} (h : ∀ n, m.sz ≤ n → vcFun P (ann n) fn args { m with sz := n } fun u _ => u = v) : QSpec P f args m v :=
  ⟨fun w hm => (fun_calls (m := { m with sz := w.heap.size }) hf (hm.sz hm.1 (Nat.le_refl _)) rfl (h w.heap.size hm.1)).mono fun e w' hh => by
    obtain ⟨u, m', he, hb, -, -, hp⟩ := hh
    subst hp
    exact ⟨he, hb.below⟩⟩

theorem Spec.mono {f : FuncId} {args : List Value} {Post Post' : Value → M → Prop} (h : Spec P f args m Post) (hp : ∀ v m', Agree m.sz m m' → Post v m' → Post' v m') : Spec P f args m Post' :=
  ⟨fun w hm hs => (h.out w hm hs).mono fun e w' hh => by
    obtain ⟨v, m', he, hb, hok, hag, hpost⟩ := hh
    exact ⟨v, m', he, hb, hok, hag, hp v m' hag hpost⟩⟩

/-- a call that writes to nothing, as one that may write -/
theorem Spec.monoW {f : FuncId} {args : List Value} {Post Post' : Value → M → Prop} (h : Spec P f args m Post) (hp : ∀ v m', Agree m.sz m m' → Post v m' → Post' v m') : SpecW P f args m (fun _ => False) Post' :=
  ⟨fun w hm hs => (h.out w hm hs).mono fun e w' hh => by
    obtain ⟨v, m', he, hb, hok, hag, hpost⟩ := hh
    exact ⟨v, m', he, belowS_of hb, hok, agreeS_of hag, hp v m' hag hpost⟩⟩

theorem SpecW.mono {f : FuncId} {args : List Value} {S : Nat → Prop} {Post Post' : Value → M → Prop} (h : SpecW P f args m S Post) (hp : ∀ v m', AgreeS m.sz S m m' → Post v m' → Post' v m') : SpecW P f args m S Post' :=
  ⟨fun w hm hs => (h.out w hm hs).mono fun e w' hh => by
    obtain ⟨v, m', he, hb, hok, hag, hpost⟩ := hh
    exact ⟨v, m', he, hb, hok, hag, hp v m' hag hpost⟩⟩

/-- no block is written to -/
theorem noS {p : Nat → Prop} : ∀ b : Nat, (fun _ : Nat => False) b → p b := fun _ h => h.elim

/-- a call that makes no memory that matters, as one that does -/
theorem QSpec.spec {f : FuncId} {args : List Value} {v : Value} (h : QSpec P f args m v) : Spec P f args m fun u m' => u = v ∧ m'.π = m.π ∧ m'.uf = m.uf :=
  ⟨fun w hm hs => (h.out w hm).mono fun e w' hh => by
    obtain ⟨he, hb⟩ := hh
    exact ⟨v, { m with sz := w'.heap.size }, he, hb, (hm.grow hb).sz (hm.grow hb).1 (Nat.le_refl _), ⟨fun _ _ => rfl, fun _ _ => Iff.rfl, by have := hb.size; simp only; omega⟩, rfl, rfl, rfl⟩⟩

theorem vc_by {X Y : Prop} (e : X = Y) (h : X) : Y := e ▸ h
theorem ifB_intro {b : Bool} {X Y : Prop} (h1 : b = true → X) (h2 : b = false → Y) : ifB b X Y := by cases b <;> simp_all [ifB]
theorem ifB_true {X Y : Prop} (h : X) : ifB true X Y := h
theorem ifB_false {X Y : Prop} (h : Y) : ifB false X Y := h
end
end Go.Vc
