/-
  A whole function does what the evaluator asks. Nothing here is trusted: Lean checks it. It names no program.
-/
import Derived.Test.YtfkielfnceeedaaVcTree
set_option linter.unusedVariables false
set_option linter.unusedSimpArgs false
namespace Go.Vc
open Go.RowKit

section
variable {P : Program} {B : Nat} {S : Nat → Prop} {w0 : World} {m0 : M} {N n : Nat} {st : St} {m : M} {a : Act} {w : World} {ρ : Nat → Nat}

theorem Rep.anynx {k : Nat} (R : Rep B S w0 m0 N n st m a w) : Rep B S w0 m0 N n { st with nx := k } m a w := by
  obtain ⟨ρ, Z, T, W⟩ := R
  exact ⟨ρ, Z, ⟨T.size, T.defers, T.slots, T.fresh, T.ownfresh⟩, W⟩


theorem region_wp {id : Nat} {ops : Array Oper} {draw : Bool} {K : Exit → St → M → Prop} {Q : Exit → Act → World → Prop} (ann : Nat → Ann)
    (hd : ∀ o, o ∈ ops.toList → ∀ d, o.dst = some d → d < N) (R : Rep B S w0 m0 N st.nx st m a w) {ctx : List Nat} (h : vcCode P B S ann (.region id ops draw) ctx st m K)
    (hQ : ∀ e st' m' a' w', K e st' m' → Rep B S w0 m0 N st'.nx st' m' a' w' → Q e a' w') : (Code.region id ops draw).wp P Q a w := by
  simp only [vcCode] at h
  cases draw with
  | false =>
    refine wp_region_list (vcOps_wp (base := st.nx) hd (fun st' m' a' w' hk R' => ?_) ops.toList 0 st m a w (fun o h => h) (by simp) R h)
    exact hQ _ _ _ _ _ hk R'.anynx
  | true =>
    obtain ⟨hB, h⟩ := h
    simp only [Bool.and_eq_true] at hB
    exact draw_wp hB.1 hB.2 hd R h fun st' m' a' w' hk R' => hQ _ _ _ _ _ hk R'.anynx

theorem look_some : ∀ (l : List (Nat × SV)) (t : Nat) (nx : Nat), fitsT st nx l → look SV.unk l t = .unk ∨ (st.tmps t = look SV.unk l t ∧ svLt nx (look SV.unk l t) = true)
  | [], _, _, _ => .inl rfl
  | (k, x) :: r, t, nx, h => by
    simp only [fitsT] at h
    simp only [look]
    cases hb : Nat.beq t k with
    | true => have := Nat.eq_of_beq_eq_true hb; subst this; exact .inr h.1
    | false => exact look_some r t nx h.2

theorem look_own : ∀ (l : List (Nat × Bx)) (t : Nat) (nx : Nat) (b : Bx), fitsO st nx l → look none (l.map fun p => (p.1, some p.2)) t = some b → st.own t = some b ∧ t < nx
  | [], _, _, _, _, h => by cases h
  | (k, x) :: r, t, nx, b, h, hl => by
    simp only [fitsO] at h
    simp only [look, List.map_cons] at hl
    cases hb : Nat.beq t k with
    | true =>
      have := Nat.eq_of_beq_eq_true hb
      subst this
      rw [hb] at hl
      simp only [cond_true, Option.some.injEq] at hl
      subst hl
      exact ⟨h.1.1, by have := Nat.le_of_ble_eq_true h.1.2; omega⟩
    | false => rw [hb] at hl; exact look_own r t nx b h.2 hl

theorem Rep.fits {A : Ann} {x : A.A} {nx n' : Nat} (R : Rep B S w0 m0 N n' st m a w) (h : A.fits nx x st m) : A.inv x ∧ Rep B S w0 m0 N nx (A.state nx x) (A.m x) a w := by
  obtain ⟨hi, rfl, ht, ho⟩ := h
  obtain ⟨ρ, Z, T, W⟩ := R
  have hown : ∀ i b, (A.state nx x).own i = some b → st.own i = some b ∧ i < nx := fun i b h => look_own _ _ _ _ ho h
  refine ⟨hi, ρ, ⟨Z.agree, fun i b h => Z.lo i b (hown i b h).1, fun i b h => Z.apart i b (hown i b h).1, fun i j b c h1 h2 e => Z.inj i j b c (hown i b h1).1 (hown j c h2).1 e⟩,
    ⟨T.size, T.defers, fun t => ?_, fun t i o e => ?_, fun i b h => (hown i b h).2⟩, ⟨W.ok, W.below, W.size, fun i b h => W.boxes i b (hown i b h).1⟩⟩
  · have : (A.state nx x).tmps t = look SV.unk (A.st x) t := rfl
    rw [this]
    rcases look_some (A.st x) t nx ht with h | ⟨h, -⟩
    · rw [h]; trivial
    · rw [← h]; exact T.slots t
  · have h' : (A.state nx x).tmps t = look SV.unk (A.st x) t := rfl
    rw [h'] at e
    rcases look_some (A.st x) t nx ht with h | ⟨-, h⟩
    · rw [h] at e; cases e
    · rw [e] at h
      have := Nat.le_of_ble_eq_true h
      omega

/-- the loop's measure, on frames -/
theorem wp_loop_ghost {c : Code} {Q : Exit → Act → World → Prop} {α : Type} (I : α → Act → World → Prop) (μ : α → Nat) (x : α) (h₀ : I x a w)
    (round : ∀ x a w, I x a w → c.wp P (Exit.then (fun a' w' => ∃ y, I y a' w' ∧ μ y < μ x) Q) a w) : (Code.loop c).wp P Q a w := by
  classical
  let least : Act → World → Nat := fun a w => if h : ∃ k, ∃ x, I x a w ∧ μ x = k then Classical.choose (exists_least h) else 0
  have hleast : ∀ x a w, I x a w → least a w ≤ μ x ∧ ∃ y, I y a w ∧ μ y = least a w := fun x a w hx => by
    have h : ∃ k, ∃ x, I x a w ∧ μ x = k := ⟨_, x, hx, rfl⟩
    simp only [least, dif_pos h]
    exact ⟨(Classical.choose_spec (exists_least h)).2 _ ⟨x, hx, rfl⟩, (Classical.choose_spec (exists_least h)).1⟩
  refine wp_loop (fun a w => ∃ x, I x a w) least ⟨x, h₀⟩ fun a w ⟨x, hx⟩ => ?_
  obtain ⟨-, y, hy, hm⟩ := hleast x a w hx
  refine wp_mono (round y a w hy) fun e a' w' hq => ?_
  cases e with
  | normal =>
    obtain ⟨z, hz, hlt⟩ := hq
    exact ⟨⟨z, hz⟩, by have := (hleast z a' w' hz).1; omega⟩
  | _ => exact hq

theorem dsts_seq {x y : Code} (h : dstsOk N (.seq x y) = true) : dstsOk N x = true ∧ dstsOk N y = true := by simpa [dstsOk] using h

theorem Rep.fitsL {A : Ann} {x : A.A} {ctx : List Nat} {nx n' : Nat} (R : Rep B S w0 m0 N n' st m a w) (h : A.fitsL ctx nx x st m) : A.invL ctx x ∧ Rep B S w0 m0 N nx (A.state nx x) (A.m x) a w := by
  unfold Ann.fitsL at h
  unfold Ann.invL
  split at h
  · exact R.fits h
  · exact ⟨⟨(R.fits h.1).1, h.2⟩, (R.fits h.1).2⟩

theorem vcCode_wp {ann : Nat → Ann} : ∀ (c : Code) (ctx : List Nat) (st : St) (m : M) (K : Exit → St → M → Prop) (a : Act) (w : World) (Q : Exit → Act → World → Prop), dstsOk N c = true →
    Rep B S w0 m0 N st.nx st m a w → vcCode P B S ann c ctx st m K → (∀ e st' m' a' w', K e st' m' → Rep B S w0 m0 N st'.nx st' m' a' w' → Q e a' w') → c.wp P Q a w := by
  intro c
  induction c with
  | skip => exact fun ctx st m K a w Q _ R h hQ => wp_skip (hQ _ _ _ _ _ h R)
  | region id ops draw =>
    intro ctx st m K a w Q hd R h hQ
    refine region_wp ann (fun o ho d hdst => ?_) R h hQ
    simp only [dstsOk, List.all_eq_true] at hd
    have := hd o ho
    rw [hdst] at this
    exact Nat.le_of_ble_eq_true this
  | seq x y ihx ihy =>
    intro ctx st m K a w Q hd R h hQ
    obtain ⟨hdx, hdy⟩ := dsts_seq hd
    simp only [vcCode] at h
    split at h
    · refine wp_seq (ihx ctx st m _ a w _ hdx R h fun e st' m' a' w' hk R' => ?_)
      cases e with
      | normal => exact ihy ctx st' m' K a' w' Q hdy R' hk hQ
      | _ => exact hQ _ _ _ _ _ hk R'
    · obtain ⟨h1, h2⟩ := h
      generalize ann ((firstRegion y).getD 0) = A at h1 h2
      refine wp_seq (ihx ctx st m _ a w _ hdx R h1 fun e st' m' a' w' hk R' => ?_)
      cases e with
      | normal =>
        obtain ⟨z, hz⟩ := hk
        obtain ⟨hi, R2⟩ := R'.fitsL hz
        exact ihy ctx _ _ K a' w' Q hdy R2 (h2 z hi) hQ
      | _ => exact hQ _ _ _ _ _ hk R'
  | cond c x y ihx ihy =>
    intro ctx st m K a w Q hd R h hQ
    obtain ⟨hdx, hdy⟩ : dstsOk N x = true ∧ dstsOk N y = true := by simpa [dstsOk] using hd
    simp only [vcCode] at h
    split at h
    · rename_i d
      split at h
      · rename_i b hb
        obtain ⟨ρ, Z, T, W⟩ := R
        have hv : a.eval (.tmp d) = .bool b := evO_val T (x := .tmp d) hb
        rcases ifB_elim h with ⟨rfl, h⟩ | ⟨rfl, h⟩
        · exact wp_cond_true hv (ihx ctx (st.put d (.val (.bool true))) m K a w Q hdx ⟨ρ, Z, T.putBool hb, W⟩ h hQ)
        · exact wp_cond_false hv (ihy ctx (st.put d (.val (.bool false))) m K a w Q hdy ⟨ρ, Z, T.putBool hb, W⟩ h hQ)
      · exact h.elim
    · rename_i b
      rcases ifB_elim h with ⟨rfl, h⟩ | ⟨rfl, h⟩
      · exact wp_cond_true rfl (ihx ctx _ m K a w Q hdx R h hQ)
      · exact wp_cond_false rfl (ihy ctx _ m K a w Q hdy R h hQ)
    · exact h.elim
  | block id body ih =>
    intro ctx st m K a w Q hd R h hQ
    refine wp_block (ih ctx st m _ a w _ hd R h fun e st' m' a' w' hk R' => ?_)
    cases e with
    | exit j =>
      simp only at hk
      split at hk
      · rename_i hj
        have := Nat.eq_of_beq_eq_true hj
        subst this
        simp only [Exit.inBlock, if_true]
        exact hQ _ _ _ _ _ hk R'
      · rename_i hj
        have hne : ¬ j = id := Nat.ne_of_beq_eq_false hj
        simp only [Exit.inBlock, hne, if_false]
        exact hQ _ _ _ _ _ hk R'
    | _ => exact hQ _ _ _ _ _ hk R'
  | loop body ih =>
    intro ctx st m K a w Q hd R h hQ
    simp only [vcCode] at h
    generalize ann ((firstRegion body).getD 0) = A at h
    obtain ⟨⟨x, hx⟩, hr⟩ := h
    obtain ⟨hi, R0⟩ := R.fitsL hx
    refine wp_loop_ghost (α := A.A) (fun x a w => A.invL ctx x ∧ Rep B S w0 m0 N st.nx (A.state st.nx x) (A.m x) a w) A.μ x ⟨hi, R0⟩ fun x a w ⟨hi, R⟩ => ?_
    refine ih (A.μ x :: ctx) (A.state st.nx x) (A.m x) _ a w _ hd R (hr x hi) fun e st' m' a' w' hk R' => ?_
    cases e with
    | normal =>
      obtain ⟨x', hf, hlt⟩ := hk
      exact ⟨x', R'.fitsL hf, hlt⟩
    | _ => exact hQ _ _ _ _ _ hk R'
  | ret => exact fun ctx st m K a w Q _ R h hQ => wp_ret (hQ _ _ _ _ _ h R)
  | exit id => exact fun ctx st m K a w Q _ R h hQ => wp_exit (hQ _ _ _ _ _ h R)
  | rangeFunc => exact fun ctx st m K a w Q _ R h hQ => h.elim
  | scope => exact fun ctx st m K a w Q _ R h hQ => h.elim
  | label => exact fun ctx st m K a w Q _ R h hQ => h.elim
  | goto => exact fun ctx st m K a w Q _ R h hQ => h.elim
  | refuse => exact fun ctx st m K a w Q _ R h hQ => h.elim

end

section
variable {P : Program} {B : Nat} {S : Nat → Prop} {w0 : World} {m0 : M} {N n : Nat} {st : St} {m : M} {a : Act} {w : World} {ρ : Nat → Nat}

theorem init_rep (args : List Value) (hl : args.length ≤ N) (w : World) (m : M) (hm : m.ok w) :
    Rep w.heap.size S w m N 0 (St.init args) m { tmps := args.toArray ++ Array.replicate (N - args.toArray.size) undef, defers := [] } w := by
  refine ⟨fun _ => 0, ⟨⟨fun _ _ _ => rfl, fun _ _ _ => Iff.rfl, Nat.le_refl _⟩, fun i b h => (by cases h), fun i b h => (by cases h), fun i j b c h => (by cases h)⟩,
    ⟨by simp; omega, rfl, fun t => ?_, fun t i o h => ?_, fun i b h => (by cases h)⟩, ⟨hm, BelowS.refl _ _ _, Nat.le_refl _, fun i b h => (by cases h)⟩⟩
  · simp only [St.init]
    cases ht : args[t]? with
    | some v =>
      have hlt : t < args.length := (List.getElem?_eq_some_iff.1 ht).1
      have : args[t] = v := (List.getElem?_eq_some_iff.1 ht).2
      simp [svR, Array.getD, hlt, this]
      intro hh; omega
    | none =>
      have hge : args.length ≤ t := by simpa using ht
      simp only [svR]
      by_cases hN : t < N
      · have : ¬ t < args.length := by omega
        simp [Array.getD, Array.getElem_append, this]
      · have : ¬ t < args.length + (N - args.length) := by omega
        simp [Array.getD, this]
  · simp only [St.init] at h
    split at h <;> cases h

def resF (tmps : Array Value) : ResultVar → Sem Value
  | .tmp t => pure (tmps.getD t undef)
  | .cell a t => do loadVar t (← asAddr (tmps.getD a undef))

theorem resK_elim (T : TC N n st ρ a) (W : WC B S w0 m st.own ρ w) {K : List Value → Prop} : ∀ (l : List ResultVar) (acc : List Value), resK P st l acc K →
    ∃ vs, (l.mapM (resF a.tmps)).run P w = .ok vs w ∧ K (acc ++ vs)
  | [], acc, h => ⟨[], by simp, by simpa [resK] using h⟩
  | .tmp t :: r, acc, h => by
    simp only [resK] at h
    split at h
    · rename_i v hv
      obtain ⟨vs, h1, h2⟩ := resK_elim T W r _ h
      have : a.tmps.getD t undef = v := by have := T.slots t; rw [hv] at this; exact this
      exact ⟨v :: vs, by simp only [List.mapM_cons, resF, Sem.run_bind, Sem.run_pure, Result.andThen_ok, h1, this], by simpa using h2⟩
    · exact h.elim
  | .cell c t :: r, acc, h => by
    simp only [resK] at h
    split at h
    · rename_i i off hv
      split at h
      · rename_i b hb
        split at h
        · rename_i v hld
          obtain ⟨vs, h1, h2⟩ := resK_elim T W r _ h
          have : a.tmps.getD c undef = .pointer (some ⟨ρ i, off, none⟩) := by have := T.slots c; rw [hv] at this; exact this
          exact ⟨v :: vs, by simp only [List.mapM_cons, resF, this, asAddr, Sem.run_bind, Sem.run_pure, Result.andThen_ok, ldOwn_run hld (W.boxes i b hb), h1], by simpa using h2⟩
        · exact h.elim
      · exact h.elim
    · exact h.elim

def pack : List Value → Value
  | [v] => v
  | vs => .tuple vs.toArray

theorem results_run {fn : Func} {vs : List Value} {tmps : Array Value} (h : (fn.results.toList.mapM (resF tmps)).run P w = .ok vs w) :
    (results fn tmps).run P w = .ok (pack vs) w := by
  unfold results
  have e : (fn.results.mapM fun x => match x with | .tmp t => pure (tmps.getD t undef) | .cell a t => do loadVar t (← asAddr (tmps.getD a undef))) = List.toArray <$> fn.results.toList.mapM (resF tmps) := by
    rw [Array.mapM_eq_mapM_toList]
    congr 2
  rw [Sem.run_bind]
  erw [e]
  rw [Sem.run_map, h]
  simp only [Result.andThen_ok]
  match vs with
  | [] => simp [pack]
  | [v] => simp [pack]
  | v :: u :: r => simp [pack]

theorem fun_calls {f : FuncId} {fn : Func} (hf : P.funcs[f]? = some fn) {ann : Nat → Ann} {args : List Value} {Post : Value → M → Prop} (hm : m.ok w) (hs : m.sz = w.heap.size)
    (h : vcFunW P S ann fn args m Post) :
    Calls P f args.toArray w fun e w' => ∃ v m', e = .returned v ∧ BelowS w.heap.size S w w' ∧ m'.ok w' ∧ AgreeS w.heap.size S m m' ∧ Post v m' := by
  unfold vcFunW at h
  split at h
  · rename_i c hc
    obtain ⟨hd, h⟩ := h
    simp only [Bool.and_eq_true] at hd
    rw [hs] at h
    refine calls_of_wp hf hc (vcCode_wp (N := fn.ntmps) c [] _ m _ _ w _ hd.1 (init_rep args (Nat.le_of_ble_eq_true hd.2) w m hm) h fun e st' m' a' w' hk R => ?_)
    obtain ⟨ρ, Z, T, W⟩ := R
    have fin : ∀ (K : resK P st' fn.results.toList [] fun vs => match vs with | [v] => Done (Post v m') | vs => Done (Post (.tuple vs.toArray) m')),
        a'.defers = [] ∧ ∃ v, (results fn a'.tmps).run P w' = .ok v w' ∧ ∃ v_1 m'_1, Ending.returned v = .returned v_1 ∧ BelowS w.heap.size S w w' ∧ m'_1.ok w' ∧ AgreeS w.heap.size S m m'_1 ∧ Post v_1 m'_1 := fun K => by
      obtain ⟨vs, h1, h2⟩ := resK_elim T W _ _ K
      refine ⟨T.defers, _, results_run h1, _, m', rfl, W.below, W.ok, Z.agree, ?_⟩
      simp only [List.nil_append] at h2
      match vs, h2 with
      | [], h2 => exact h2.out
      | [v], h2 => exact h2.out
      | v :: u :: r, h2 => exact h2.out
    cases e with
    | normal => exact fin hk
    | ret => exact fin hk
    | _ => exact hk.elim
  · exact h.elim

theorem SpecW.of_vc {f : FuncId} {fn : Func} (hf : P.funcs[f]? = some fn) {ann : Nat → Ann} {args : List Value} {Post : Value → M → Prop} (h : vcFunW P S ann fn args m Post) : SpecW P f args m S Post :=
  ⟨fun w hm hs => by rw [hs]; exact fun_calls hf hm hs h⟩

theorem Spec.of_vc {f : FuncId} {fn : Func} (hf : P.funcs[f]? = some fn) {ann : Nat → Ann} {args : List Value} {Post : Value → M → Prop} (h : vcFun P ann fn args m Post) : Spec P f args m Post :=
  ⟨fun w hm hs => (fun_calls hf hm hs h).mono fun e w' hh => by
    obtain ⟨v, m', he, hb, hok, hag, hp⟩ := hh
    exact ⟨v, m', he, hb.below, hok, ⟨fun b hb => hag.1 b (hs ▸ hb) id, fun b hb => hag.2.1 b (hs ▸ hb) id, hag.2.2⟩, hp⟩⟩

theorem QSpec.of_vc {f : FuncId} {fn : Func} (hf : P.funcs[f]? = some fn) {ann : Nat → Nat → Ann} {args : List Value} {v : Value} (h : ∀ n, m.sz ≤ n → vcFun P (ann n) fn args { m with sz := n } fun u _ => u = v) : QSpec P f args m v :=
  ⟨fun w hm => (fun_calls (m := { m with sz := w.heap.size }) hf (hm.sz hm.1 (Nat.le_refl _)) rfl (h w.heap.size hm.1)).mono fun e w' hh => by
    obtain ⟨u, m', he, hb, -, -, hp⟩ := hh
    subst hp
    exact ⟨he, hb.below⟩⟩

theorem Spec.mono {f : FuncId} {args : List Value} {Post Post' : Value → M → Prop} (h : Spec P f args m Post) (hp : ∀ v m', Agree m.sz m m' → Post v m' → Post' v m') : Spec P f args m Post' :=
  ⟨fun w hm hs => (h.out w hm hs).mono fun e w' hh => by
    obtain ⟨v, m', he, hb, hok, hag, hpost⟩ := hh
    exact ⟨v, m', he, hb, hok, hag, hp v m' hag hpost⟩⟩

/-- a call that writes to nothing, as one that may write -/
theorem Spec.monoW {f : FuncId} {args : List Value} {Post Post' : Value → M → Prop} (h : Spec P f args m Post) (hp : ∀ v m', Agree m.sz m m' → Post v m' → Post' v m') : SpecW P f args m (fun _ => False) Post' :=
  ⟨fun w hm hs => (h.out w hm hs).mono fun e w' hh => by
    obtain ⟨v, m', he, hb, hok, hag, hpost⟩ := hh
    exact ⟨v, m', he, belowS_of hb, hok, agreeS_of hag, hp v m' hag hpost⟩⟩

theorem SpecW.mono {f : FuncId} {args : List Value} {S : Nat → Prop} {Post Post' : Value → M → Prop} (h : SpecW P f args m S Post) (hp : ∀ v m', AgreeS m.sz S m m' → Post v m' → Post' v m') : SpecW P f args m S Post' :=
  ⟨fun w hm hs => (h.out w hm hs).mono fun e w' hh => by
    obtain ⟨v, m', he, hb, hok, hag, hpost⟩ := hh
    exact ⟨v, m', he, hb, hok, hag, hp v m' hag hpost⟩⟩

/-- no block is written to -/
theorem noS {p : Nat → Prop} : ∀ b : Nat, (fun _ : Nat => False) b → p b := fun _ h => h.elim

/-- a call that makes no memory that matters, as one that does -/
theorem QSpec.spec {f : FuncId} {args : List Value} {v : Value} (h : QSpec P f args m v) : Spec P f args m fun u m' => u = v ∧ m'.π = m.π ∧ m'.uf = m.uf :=
  ⟨fun w hm hs => (h.out w hm).mono fun e w' hh => by
    obtain ⟨he, hb⟩ := hh
    exact ⟨v, { m with sz := w'.heap.size }, he, hb, (hm.grow hb).sz (hm.grow hb).1 (Nat.le_refl _), ⟨fun _ _ => rfl, fun _ _ => Iff.rfl, by have := hb.size; simp only; omega⟩, rfl, rfl, rfl⟩⟩

theorem vc_by {X Y : Prop} (e : X = Y) (h : X) : Y := e ▸ h
theorem ifB_intro {b : Bool} {X Y : Prop} (h1 : b = true → X) (h2 : b = false → Y) : ifB b X Y := by cases b <;> simp_all [ifB]
theorem ifB_true {X Y : Prop} (h : X) : ifB true X Y := h
theorem ifB_false {X Y : Prop} (h : Y) : ifB false X Y := h
end
end Go.Vc
