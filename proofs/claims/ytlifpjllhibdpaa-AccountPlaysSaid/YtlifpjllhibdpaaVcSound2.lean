/-
  A list of operations does what the evaluator asks. Nothing here is trusted: Lean checks it. It names no program.
-/
import Derived.Test.YtlifpjllhibdpaaVcMem
set_option linter.unusedVariables false
set_option linter.unusedSimpArgs false
namespace Go.Vc
open Go.RowKit

section
variable {P : Program} {B : Nat} {S : Nat → Prop} {w0 : World} {m0 : M} {DF : List Deferred} {N n : Nat} {st : St} {m : M} {a : Act} {w : World} {ρ : Nat → Nat}

theorem TC.putBool (T : TC DF N n st ρ a) {d : Nat} {b : Bool} (h : st.tmps d = .val (.bool b)) : TC DF N n (st.put d (.val (.bool b))) ρ a := by
  refine ⟨T.size, T.defers, fun t => ?_, fun t i o e => ?_, T.ownfresh⟩
  · simp only [St.put]
    cases hb : Nat.beq t d with
    | true => have := Nat.eq_of_beq_eq_true hb; subst this; have := T.slots t; rw [h] at this; exact this
    | false => exact T.slots t
  · simp only [St.put] at e
    cases hb : Nat.beq t d with
    | true => rw [hb] at e; cases e
    | false => rw [hb] at e; exact T.fresh _ _ _ e

theorem tmps_of_slot (T : TC DF N n st ρ a) {d : Nat} {b : Bool} (h : st.tmps d = .val (.bool b)) : a.tmps[d]? = some (.bool b) := by
  have := T.slots d
  rw [h] at this
  have this : a.tmps.getD d undef = .bool b := this
  rcases Nat.lt_or_ge d a.tmps.size with hd | hd
  · simp [hd] at this; simp [hd, this]
  · simp [hd, undef] at this

/-- the guard is decided, and the state still stands for the frame -/
theorem guardK_elim (T : TC DF N n st ρ a) {ops : Array Oper} {o : Oper} {run skip : St → Prop} (h : guardK ops o st run skip) :
    (Region.wanted o (yielded ops a.tmps) = true ∧ ∃ st', st'.own = st.own ∧ st'.nx = st.nx ∧ TC DF N n st' ρ a ∧ run st') ∨
    (Region.wanted o (yielded ops a.tmps) = false ∧ ∃ st', st'.own = st.own ∧ st'.nx = st.nx ∧ TC DF N n st' ρ a ∧ skip st') := by
  unfold guardK at h
  split at h
  · rename_i hg
    exact .inl ⟨by simp [Region.wanted, hg], st, rfl, rfl, T, h⟩
  · rename_i j want hg
    split at h
    · rename_i d hd
      split at h
      · rename_i b hb
        have ht := tmps_of_slot T hb
        have hy : yielded ops a.tmps j = some b := by simp [yielded, hd, ht]
        have hw : Region.wanted o (yielded ops a.tmps) = (b == want) := by
          simp only [Region.wanted, hg, hy]
          cases b <;> cases want <;> rfl
        rcases ifB_elim h with ⟨rfl, h⟩ | ⟨rfl, h⟩
        · cases want
          · exact .inr ⟨by rw [hw]; rfl, st.put d (.val (.bool true)), rfl, rfl, T.putBool hb, h⟩
          · exact .inl ⟨by rw [hw]; rfl, st.put d (.val (.bool true)), rfl, rfl, T.putBool hb, h⟩
        · cases want
          · exact .inl ⟨by rw [hw]; rfl, st.put d (.val (.bool false)), rfl, rfl, T.putBool hb, h⟩
          · exact .inr ⟨by rw [hw]; rfl, st.put d (.val (.bool false)), rfl, rfl, T.putBool hb, h⟩
      · rename_i v hv hnb
        refine .inr ⟨?_, st, rfl, rfl, T, h⟩
        have hs := T.slots d
        rw [hnb] at hs
        have hs : a.tmps.getD d undef = v := hs
        have hy : yielded ops a.tmps j = none := by
          simp only [yielded, hd, Option.bind_some]
          cases ht : a.tmps[d]? with
          | none => rfl
          | some u =>
            have : u = v := by rw [← hs]; simp [Array.getD, Array.getElem?_eq_some_iff] at ht ⊢; obtain ⟨h1, h2⟩ := ht; simp [h1, h2]
            subst this
            cases u <;> first | rfl | exact absurd rfl (hv _)
        simp [Region.wanted, hg, hy]
      · exact h.elim
    · rename_i hd
      refine .inr ⟨?_, st, rfl, rfl, T, h⟩
      have hy : yielded ops a.tmps j = none := by simp [yielded, hd]
      simp [Region.wanted, hg, hy]

theorem Rep.of_own {st' : St} (h : st'.own = st.own) (Z : SC B S m0 m st.own ρ) (T : TC DF N n st' ρ a) (W : WC B S w0 m st.own ρ w) : Rep B S w0 m0 DF N n st' m a w :=
  ⟨ρ, by rw [h]; exact Z, T, by rw [h]; exact W⟩

theorem app_nx (dst : Option Nat) (e : Eff) : (st.app dst e).nx = st.nx := by cases e <;> cases dst <;> rfl
theorem putO_nx (dst : Option Nat) (x : SV) : (st.putO dst x).nx = st.nx := by cases dst <;> rfl

/-- one operation that keeps what is known of memory -/
theorem opK_wp {o : Oper} {id : Nat} {K : Eff → Prop} (Z : SC B S m0 m st.own ρ) (T : TC DF N n st ρ a) (W : WC B S w0 m st.own ρ w) (hid : n ≤ id) (hd : ∀ d, o.dst = some d → d < N)
    (h : opK P o id st m K) {next : Act → World → Prop} {Q : Exit → Act → World → Prop}
    (hn : ∀ e a' w', K e → Rep B S w0 m0 DF N (id + 1) (st.app o.dst e) m a' w' → next a' w') : o.wp P a w next Q := by
  rcases opK_alt (B := B) (S := S) (w0 := w0) T h with ⟨x, v, hk, hx, hf, hq⟩ | ⟨b, hk, hr⟩ | ⟨i, b, b', hi, ht, hk, hr⟩
  · have hq := hq w W
    unfold Oper.quietAt at hq
    unfold Oper.wp
    have fin : ∀ w', WC B S w0 m st.own ρ w' → next (a.put o.dst v) w' := fun w' hw' =>
      hn _ _ _ hk ⟨ρ, by simpa only [St.app, putO_own] using Z, (T.putO hd hx (fun i off e => by obtain ⟨t, o', h⟩ := hf i off e; exact T.fresh t i o' h)).mono (by omega), by simpa only [St.app, putO_own] using hw'⟩
    generalize (execOp a.eval o).run P w = r at *
    cases r with
    | ok nx w' =>
      cases nx <;> simp only [Oper.quietUpon] at hq <;> simp only [Oper.upon]
      case value u => obtain ⟨rfl, rfl⟩ := hq; exact fin _ W
      case skip => obtain ⟨rfl, rfl⟩ := hq; exact fin _ W
      case enter f args => obtain ⟨rfl, hq⟩ := hq; exact hq.mono fun e w'' ⟨he, hw''⟩ => by subst he; exact fin _ hw''
    | halt x w' => simp only [Oper.quietUpon] at hq
  · unfold Oper.wp
    rw [hr w]
    exact hn _ _ _ hk (Rep.box Z T W hd (fun i c h => by have := T.ownfresh i c h; omega) (fun t i o h => by have := T.fresh t i o h; omega) (by omega) (by omega) b)
  · unfold Oper.wp
    rw [hr w W]
    obtain ⟨ρ', Z', T', W'⟩ := Rep.wr Z T W (dst := o.dst) hd hi ht
    exact hn _ _ _ hk ⟨ρ', Z', T'.mono (by omega), W'⟩

theorem memCall_elim {o : Oper} {g : FuncId} {first caps : List Value} {args : List Operand} {sh : Sh} {p : Bool} (T : TC DF N n st ρ a) (h : memCall P st o = some (g, first, caps, args, sh, p)) :
    ∀ w, ∀ vs, args.map a.eval = vs → (execOp a.eval o).run P w = .ok (.enter g (first ++ vs ++ caps).toArray) w := by
  unfold memCall at h
  split at h
  · rename_i c hc
    split at h
    · rename_i f hg
      split at h
      · rename_i g' first' caps' hev
        split at h
        · rename_i fn hf
          split at h
          · rename_i hb
            simp only [Bool.and_eq_true] at hb
            simp only [Option.some.injEq, Prod.mk.injEq] at h
            obtain ⟨rfl, rfl, rfl, rfl, rfl, rfl⟩ := h
            intro w vs hvs
            subst hvs
            have hargs : first' ++ c.args.map a.eval ++ caps' = (first'.toList ++ (c.args.toList.map a.eval) ++ caps'.toList).toArray := by apply Array.ext'; simp
            simp only [execOp, hc, resolve, hg, evO_val T hev, Deferred.ofValue, Sem.run_bind, Sem.run_pure, Result.andThen_ok, invoke, callFunc_run hf hb.1.1 hb.1.2, hargs]
          · cases h
        · cases h
      · cases h
    · cases h
  · cases h

theorem M.ok.sz {n' : Nat} (h : m.ok w) (h1 : m.sz ≤ n') (h2 : n' ≤ w.heap.size) : M.ok { m with sz := n' } w :=
  ⟨h2, fun b o v hv => ⟨Nat.lt_of_lt_of_le (h.2.1 b o v hv).1 h1, (h.2.1 b o v hv).2⟩, fun b hu => ⟨Nat.lt_of_lt_of_le (h.2.2 b hu).1 h1, (h.2.2 b hu).2⟩⟩

/-- behind a call that may have written to the blocks of S' -/
theorem after_call {S' : Nat → Prop} {m' : M} {w' : World} (Z : SC B S m0 m st.own ρ) (W : WC B S w0 m st.own ρ w) (hS : ∀ b, S' b → m.uf b ∧ (B ≤ b ∨ S b))
    (hbl : BelowS w.heap.size S' w w') (hok : m'.ok w') (hag : AgreeS w.heap.size S' { m with sz := w.heap.size } m') :
    SC B S m0 m' st.own ρ ∧ WC B S w0 m' st.own ρ w' := by
  have hlt : ∀ i c, st.own i = some c → ρ i < w.heap.size := fun i c h => look_lt (W.boxes i c h)
  have hns : ∀ i c, st.own i = some c → ¬ S' (ρ i) := fun i c h hs => (Z.apart i c h).2 (hS _ hs).1
  have hB : ∀ b, b < B → ¬ S b → ¬ S' b := fun b hb hs h' => by rcases (hS b h').2 with h | h; omega; exact hs h
  refine ⟨⟨⟨fun b hb hs => ?_, fun b hb hs => ?_, ?_⟩, Z.lo, fun i c h => ?_, Z.inj⟩, ⟨hok, ?_, Nat.le_trans W.size hbl.size, fun i c h => ?_⟩⟩
  · rw [hag.1 b (Nat.lt_of_lt_of_le hb W.size) (hB b hb hs)]; exact Z.agree.1 b hb hs
  · exact (hag.2.1 b (Nat.lt_of_lt_of_le hb W.size) (hB b hb hs)).trans (Z.agree.2.1 b hb hs)
  · have h1 := Z.agree.2.2
    have h2 := hag.2.2
    have h3 := W.ok.1
    simp only at h2
    omega
  · have h1 := hag.1 (ρ i) (hlt i c h) (hns i c h)
    have h2 := hag.2.1 (ρ i) (hlt i c h) (hns i c h)
    have h3 := Z.apart i c h
    exact ⟨fun o => by rw [h1]; exact h3.1 o, fun hu => h3.2 (h2.1 hu)⟩
  · exact W.below.trans ⟨hbl.os, hbl.tape, hbl.output, hbl.size, fun k hk hs => hbl.block k (Nat.lt_of_lt_of_le hk W.size) (hB k hk hs), hbl.keeps⟩
  · rw [hbl.block _ (hlt i c h) (hns i c h)]; exact W.boxes i c h

theorem belowS_of {w w' : World} (h : Below w.heap.size w w') : BelowS w.heap.size (fun _ => False) w w' := ⟨h.os, h.tape, h.output, h.size, fun k hk _ => h.block k hk, fun k o hk _ => (h.block k (look_lt hk)).trans hk⟩
theorem agreeS_of {B : Nat} {m m' : M} (h : Agree B m m') : AgreeS B (fun _ => False) m m' := ⟨fun b hb _ => h.1 b hb, fun b hb _ => h.2.1 b hb, h.2.2⟩

theorem opKM_leads {o : Oper} {id : Nat} {K : Eff → St → M → Prop} (Z : SC B S m0 m st.own ρ) (T : TC DF N n st ρ a) (W : WC B S w0 m st.own ρ w) (hid : n ≤ id) (hd : ∀ d, o.dst = some d → d < N)
    (h : opKM P B S o id st m K) : Leads P o a w B S w0 m0 DF N (id + 1) K := by
  have hn : n ≤ id + 1 := by omega
  have fall : (opK P o id st m fun e => K e st m) → Leads P o a w B S w0 m0 DF N (id + 1) K := fun h next Q hnext =>
    opK_wp Z T W hid hd h fun e a' w' hk R => hnext e st m a' w' hk R
  unfold opKM at h
  split at h
  · rename_i g first caps args sh hmc
    obtain ⟨st', m', Z', T', W', -, S', hS, h⟩ := withValsE_elim _ _ st m Z T W h
    have hq := (h w.heap.size W'.ok.1).out w (W'.ok.sz W'.ok.1 (Nat.le_refl _)) rfl
    simp only [List.nil_append] at hq
    intro next Q hnext
    unfold Oper.wp
    rw [memCall_elim T hmc w _ rfl]
    simp only [Oper.upon]
    refine hq.mono fun e w' hh => ?_
    obtain ⟨v, m'', he, hbl, hok, hag, hp⟩ := hh
    subst he
    obtain ⟨u, hu, hk⟩ := exSh_elim sh hp
    subst hu
    obtain ⟨Z2, W2⟩ := after_call Z' W' hS hbl hok hag
    exact hnext _ _ _ _ _ hk ⟨ρ, by simpa only [St.app, putO_own] using Z2, (T'.putO hd (x := .val v) rfl (fun i off e => by cases e)).mono hn, by simpa only [St.app, putO_own] using W2⟩
  · rename_i g first caps args sh hmc
    have h := withVals_elim T _ _ h
    have hq := (h w.heap.size W.ok.1).out w (W.ok.sz W.ok.1 (Nat.le_refl _)) rfl
    simp only [List.nil_append] at hq
    intro next Q hnext
    unfold Oper.wp
    rw [memCall_elim T hmc w _ rfl]
    simp only [Oper.upon]
    refine hq.mono fun e w' hh => ?_
    obtain ⟨v, m'', he, hbl, hok, hag, hp⟩ := hh
    subst he
    obtain ⟨u, hu, hk⟩ := exSh_elim sh hp
    subst hu
    obtain ⟨Z2, W2⟩ := after_call (S' := fun _ => False) Z W (fun _ h => h.elim) (belowS_of hbl) hok (agreeS_of hag)
    exact hnext _ _ _ _ _ hk ⟨ρ, by simpa only [St.app, putO_own] using Z2, (T.putO hd (x := .val v) rfl (fun i off e => by cases e)).mono hn, by simpa only [St.app, putO_own] using W2⟩
  · split at h
    · rename_i fn first caps ho
      exact leads_makeFunc hd hn Z T W ho h
    · rename_i t len parts ho
      split at h
      · rename_i e i he
        exact leads_buildSlice hd hn Z T W ho he h
      · exact h.elim
    · rename_i t l c ho
      split at h
      · rename_i e i he
        obtain ⟨lv, hl, h1⟩ := withVal_elim h
        clear h
        obtain ⟨cv, hc, h2⟩ := withVal_elim h1
        clear h1
        split at h2
        · rename_i hz
          exact leads_makeSlice hd hn Z T W ho he (evO_val T hl) (evO_val T hc) hz h2.1 h2.2
        · exact h2.elim
      · exact h.elim
    · rename_i t x y ho
      split at h
      · rename_i b off v hx hy
        split at h
        · rename_i hc
          simp only [Bool.and_eq_true] at hc
          exact leads_store hd hn Z T W ho (evO_val T hx) (evO_val T hy) (Nat.eq_of_beq_eq_true hc.1.1) hc.1.2 hc.2 h.1 h.2
        · exact h.elim
      · exact fall h
    · rename_i c ho
      obtain ⟨callee, args, argTypes⟩ := c
      have hargs : args.map a.eval = (args.toList.map a.eval).toArray := by apply Array.ext'; simp
      have hat : ∀ l, argTypes.toList = l → argTypes = l.toArray := fun l h => by rw [← h]
      split at h
      · rename_i hcal
        simp only at hcal
        subst hcal
        have h := withVals_elim T _ _ h
        simp only [List.nil_append] at h
        split at h
        · rename_i x len cap y k c t t' hvs hts
          split at h
          · rename_i e i he htt
            have := Nat.eq_of_beq_eq_true htt
            subst this
            split at h
            · rename_i z hz
              obtain ⟨old, src, hp, hk⟩ := h
              exact leads_append hd hn Z T W (by rw [ho, hat _ hts]) he hz (by rw [hargs, hvs]) hp hk
            · exact h.elim
          · exact h.elim
        · rename_i x len cap kk k t t' hvs hts
          split at h
          · rename_i e i he htt
            split at h
            · rename_i z hz
              obtain ⟨old, ⟨h0, hp⟩, hk⟩ := h
              obtain ⟨k, rfl⟩ := Int.eq_ofNat_of_zero_le h0
              simp only [Int.toNat_natCast] at hp hk
              exact leads_appendZ hd hn Z T W (by rw [ho, hat _ hts]) he htt hz (by rw [hargs, hvs]) hp hk
            · exact h.elim
          · exact h.elim
        · exact h.elim
      · rename_i hcal
        simp only at hcal
        subst hcal
        have h := withVals_elim T _ _ h
        simp only [List.nil_append] at h
        split at h
        · rename_i x len cap y k c t t' hvs hts
          split at h
          · rename_i e i he
            obtain ⟨src, hp, hk⟩ := h
            exact leads_copy hd hn Z T W (by rw [ho, hat _ hts]) he (by rw [hargs, hvs]) hp hk
          · exact h.elim
        · exact h.elim
      · rename_i hcal
        simp only at hcal
        subst hcal
        have h := withVals_elim T _ _ h
        simp only [List.nil_append] at h
        split at h
        · rename_i x k c t hvs hts
          split at h
          · rename_i e i he
            split at h
            · rename_i z hz
              simp only [Bool.and_eq_true] at h
              exact leads_clear hd hn Z T W (by rw [ho, hat _ hts]) he hz h.1.1 (Nat.eq_of_beq_eq_true h.1.2) (by rw [hargs, hvs]) h.2.1 h.2.2
            · exact h.elim
          · exact h.elim
        · exact h.elim
      · exact fall h
    · exact fall h

theorem vcOps_wp {ops : Array Oper} {base : Nat} {K : St → M → Prop} {Q : Exit → Act → World → Prop} (hd : ∀ o, o ∈ ops.toList → ∀ d, o.dst = some d → d < N)
    (hQ : ∀ st' m' a' w', K st' m' → Rep B S w0 m0 DF N (base + ops.size) st' m' a' w' → Q .normal a' w') :
    ∀ (l : List Oper) (i : Nat) (st : St) (m : M) (a : Act) (w : World), (∀ o, o ∈ l → o ∈ ops.toList) → i + l.length = ops.size →
      Rep B S w0 m0 DF N (base + i) st m a w → vcOps P B S ops base l i st m K → wpList P ops Q l a w
  | [], i, st, m, a, w, _, hi, R, h => wpList_nil (hQ st m a w h (by simpa using (show base + i = base + ops.size by simp at hi; omega) ▸ R))
  | o :: r, i, st, m, a, w, hl, hi, R, h => by
    obtain ⟨ρ, Z, T, W⟩ := R
    simp only [vcOps] at h
    have hdo := hd o (hl o (by simp))
    have hlr : ∀ x, x ∈ r → x ∈ ops.toList := fun x hx => hl x (by simp [hx])
    have hir : i + 1 + r.length = ops.size := by simp at hi; omega
    unfold wpList
    rcases guardK_elim T h with ⟨hw, st', ho, hn', T', h⟩ | ⟨hw, st', ho, hn', T', h⟩
    · rw [if_pos hw]
      refine .inl (opKM_leads (st := st') (by rw [ho]; exact Z) T' (by rw [ho]; exact W) (Nat.le_refl _) hdo h _ _ fun e st2 m' a' w' hk R' => ?_)
      exact vcOps_wp hd hQ r (i + 1) _ m' a' w' hlr hir R' hk
    · rw [hw]
      simp only [Bool.false_eq_true, if_false]
      refine vcOps_wp hd hQ r (i + 1) _ m _ w hlr hir ?_ h
      exact ⟨ρ, by rw [putO_own, ho]; exact Z, (T'.putO hdo (x := .val undef) rfl (fun i off e => by cases e)).mono (by omega), by rw [putO_own, ho]; exact W⟩
end
end Go.Vc
