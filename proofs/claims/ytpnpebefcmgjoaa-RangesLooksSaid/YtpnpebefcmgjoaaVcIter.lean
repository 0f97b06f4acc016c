/-
  A function that hands elements on to a yield. Nothing here is trusted: Lean checks it. It names no program.
-/
import Derived.Test.YtpnpebefcmgjoaaVcSound3
import Derived.Test.YtpnpebefcmgjoaaVcLem
set_option linter.unusedVariables false
set_option linter.unusedSimpArgs false
namespace Go.Vc
open Go.RowKit
section
variable {P : Program} {B : Nat} {S : Nat → Prop} {w0 : World} {m0 : M} {DF : List Deferred} {N nf : Nat} {st : St} {m : M} {a : Act} {w : World} {ops ops0 : Array Oper} {Q Q0 : Exit → Act → World → Prop} {r : Option Nat}

theorem op_in2 {o : Oper} {next : Act → World → Prop} (hd : noDefer o = true) (hn : ∀ e a w, Q0 e a w → e = .normal) (h : o.wp P a w next Q0) : o.wpIn (FW r) nf P a w next Q := by
  unfold Oper.wp at h
  refine ⟨fun _ _ => trivial, ?_⟩
  rw [Oper.semAt_eq _ _ _ (fun c hc => by simp [noDefer, hc] at hd)]
  generalize (execOp a.eval o).run P w = res at h
  have hL : ¬ LetsOut Q0 := fun ⟨a, w, hh⟩ => by cases hn _ _ _ hh
  cases res with
  | ok x w' =>
    cases x with
    | value v => exact h
    | skip => exact h
    | defer d => exact h
    | enter f args =>
      refine ⟨fun hh => by simp [Fence.wide] at hh, (callsIn_wide (n := nf - 1)).2 (Calls.mono h ?_)⟩
      intro e w' hh
      cases e with
      | returned v => exact hh
      | panicked ch => cases hn _ _ _ hh
      | outgrown => exact absurd hh hL
    | row row args => exact ⟨fun hh => by simp [Fence.wide] at hh, rows_in h⟩
    | _ => exact h.elim
  | halt x w' => cases x <;> first | exact h.elim | (cases hn _ _ _ h)

/-- the first operations of a region, and what follows when all are done -/
theorem any_cut {k : Nat} (hpre : ∀ i, i < k → ops[i]? = ops0[i]?) (hsz : ops0.size = k) (hplain : ∀ o ∈ ops0.toList, ∀ y, Region.wanted o y = true) (hd : ∀ o ∈ ops0.toList, noDefer o = true) (hn : ∀ e a w, Q0 e a w → e = .normal)
    (C : Array Bool → Bool) (hstep : ∀ l : Array Bool, l.size = k → C l = true → ∀ i ∈ Region.ready .any ops0 l, C (l.setIfInBounds i true) = true)
    (hready : ∀ l : Array Bool, l.size = k → C l = true → l = Array.replicate k true ∨ (Region.ready .any ops (l ++ #[false, false]) = Region.ready .any ops0 l ∧ Region.ready .any ops0 l ≠ []))
    (hall : Region.ready .any ops0 (Array.replicate k true) = [])
    (hG : ∀ a w f, Q0 .normal a w → wpAnyIn (FW r) nf P .any ops Q (f + 2) (Array.replicate k true ++ #[false, false]) a w) :
    ∀ (f : Nat) (l : Array Bool) (a : Act) (w : World), l.size = k → C l = true → wpAny P .any ops0 Q0 f l a w → wpAnyIn (FW r) nf P .any ops Q (f + 2) (l ++ #[false, false]) a w
  | 0, l, a, w, hl, hC, h => by
    rcases hready l hl hC with rfl | ⟨-, h2⟩
    · exact hG _ _ 0 h.2
    · exact absurd h.1 h2
  | f + 1, l, a, w, hl, hC, h => by
    rcases hready l hl hC with rfl | ⟨h1, h2⟩
    · exact hG _ _ (f + 1) (h.1 hall)
    · refine ⟨fun e => absurd (h1 ▸ e) h2, fun i hi => ?_⟩
      rw [h1] at hi
      have hik : i < k := by
        simp only [Region.ready, List.mem_filter, List.mem_range] at hi
        omega
      have hh := h.2 i hi
      unfold wpOp at hh
      unfold wpOpIn
      rw [hpre i hik]
      cases ho : ops0[i]? with
      | none =>
        have := (Array.getElem?_eq_none_iff.1 ho)
        omega
      | some o =>
        rw [ho] at hh
        simp only at hh ⊢
        have hm : o ∈ ops0.toList := by
          obtain ⟨hlt, e⟩ := Array.getElem?_eq_some_iff.1 ho
          rw [← e]; exact Array.getElem_mem_toList hlt
        rw [if_pos (hplain o hm _)] at hh ⊢
        have hset : (l ++ #[false, false]).setIfInBounds i true = l.setIfInBounds i true ++ #[false, false] := by
          rw [Array.setIfInBounds_append_left (by omega)]
        rw [hset]
        rcases hh with hh | ⟨-, a', w', hh⟩
        · exact op_in2 (hd o hm) hn (Oper.wp_mono (fun a w h3 => any_cut hpre hsz hplain hd hn C hstep hready hall hG f _ a w (by simpa using hl) (hstep l hl hC i hi) h3) hh)
        · cases hn _ _ _ hh

/-- behind the first operations: the yield, and the test of its answer -/
theorem any_yield {k f : Nat} {oy oz : Oper} {c : Call} {ty : Nat} {x1 x2 : Operand} {v1 v2 : Value} {l : Nat} {op : UnOp} {tt : TypeId} {dy dz : Nat}
    (hy : ops[k]? = some oy) (hz : ops[k + 1]? = some oz) (hoy : oy.op = .call c) (hc : c.callee = .value (.tmp ty)) (hargs : c.args = #[x1, x2]) (hdy : oy.dst = some dy) (hoz : oz.op = .unOp op tt (.tmp dy)) (hdz : oz.dst = some dz)
    (hwy : ∀ y, Region.wanted oy y = true) (hwz : ∀ y, Region.wanted oz y = true) (hop : ∀ b w, (Op.unary op (.bool b)).run P w = .ok (.bool !b) w)
    (r1 : Region.ready .any ops (Array.replicate k true ++ #[false, false]) = [k]) (r2 : Region.ready .any ops (Array.replicate k true ++ #[true, false]) = [k + 1]) (r3 : Region.ready .any ops (Array.replicate k true ++ #[true, true]) = [])
    (hf : a.tmps.getD ty undef = .func (.yield l) #[] #[]) (h1 : a.eval x1 = v1) (h2 : a.eval x2 = v2) (hlt : dy < a.tmps.size)
    (hY : YieldAt (FW none) (nf - 1) P l #[v1, v2] w fun e w' => ∃ b, e = .returned (.bool b) ∧ Q .normal ((a.put (some dy) (.bool b)).put (some dz) (.bool !b)) w') :
    wpAnyIn (FW none) nf P .any ops Q (f + 2) (Array.replicate k true ++ #[false, false]) a w := by
  refine ⟨fun e => (by rw [r1] at e; cases e), fun i hi => ?_⟩
  rw [r1] at hi
  obtain rfl : i = k := by simpa using hi
  unfold wpOpIn
  rw [hy]
  simp only [hwy, if_true]
  obtain ⟨fn, tmps, assign, body, hrun, hR⟩ := hY
  have hs1 : (Array.replicate i true ++ #[false, false]).setIfInBounds i true = Array.replicate i true ++ #[true, false] := by
    rw [Array.setIfInBounds_append_right (by simp)]; simp
  have hs2 : (Array.replicate i true ++ #[true, false]).setIfInBounds (i + 1) true = Array.replicate i true ++ #[true, true] := by
    rw [Array.setIfInBounds_append_right (by simp)]; simp
  refine ⟨fun _ _ => trivial, ?_⟩
  rw [Oper.semAt_none]
  have hx : (execOp a.eval oy).run P w = .ok (.round l fn tmps assign body) w := by
    have e1 : a.eval (.tmp ty) = .func (.yield l) #[] #[] := hf
    simp only [execOp, hoy, resolve, hc, hargs, e1, List.map_toArray, List.map_cons, List.map_nil, h1, h2]
    simp [Deferred.ofValue, Sem.run_bind, Result.andThen, invoke, hrun]
  rw [hx, Oper.uponIn_round]
  refine ⟨fun hh => by simp [Fence.wide] at hh, hR.mono fun e w' hh => ?_⟩
  obtain ⟨b, rfl, hq⟩ := hh
  simp only
  rw [hs1]
  refine ⟨fun e => (by rw [r2] at e; cases e), fun j hj => ?_⟩
  rw [r2] at hj
  obtain rfl : j = i + 1 := by simpa using hj
  unfold wpOpIn
  rw [hz]
  simp only [hwz, if_true]
  refine ⟨fun _ _ => trivial, ?_⟩
  rw [Oper.semAt_none]
  have e2 : (a.put oy.dst (.bool b)).eval (.tmp dy) = .bool b := by
    simp [hdy, Act.put, Act.eval, hlt]
  have hx2 : (execOp (a.put oy.dst (.bool b)).eval oz).run P w' = .ok (.value (.bool !b)) w' := by
    simp only [execOp, hoz, e2, Sem.run_bind, hop, Result.andThen, Sem.run_pure]
  rw [hx2, Oper.uponIn_value, hs2, hdy, hdz]
  cases f with
  | zero => exact ⟨r3, hq⟩
  | succ f => exact ⟨fun _ => hq, fun i hi => by rw [r3] at hi; cases hi⟩

def allL : Nat → (List Bool → Bool) → Bool
  | 0, f => f []
  | k + 1, f => allL k (fun l => f (true :: l)) && allL k (fun l => f (false :: l))
theorem allL_spec : ∀ (k : Nat) (f : List Bool → Bool), allL k f = true → ∀ l, l.length = k → f l = true
  | 0, f, h, [], _ => h
  | k + 1, f, h, b :: l, hl => by
    simp only [allL, Bool.and_eq_true] at h
    cases b with
    | true => exact allL_spec k _ h.1 l (by simpa using hl)
    | false => exact allL_spec k _ h.2 l (by simpa using hl)

def closedB (ops0 : Array Oper) (k : Nat) (l : Array Bool) : Bool :=
  (List.range k).all fun i => !l.getD i false || (match ops0[i]? with | some o => o.after.toList.all fun e => !Region.binds .any e || l.getD e.on false | none => true)

def readyB (ops ops0 : Array Oper) (k : Nat) : Bool :=
  closedB ops0 k (Array.replicate k false) && (allL k fun l => !closedB ops0 k l.toArray || ((Region.ready .any ops0 l.toArray).all fun i => closedB ops0 k (l.toArray.setIfInBounds i true))) &&
  allL k fun l => !closedB ops0 k l.toArray || (l == List.replicate k true) || (Region.ready .any ops (l ++ [false, false]).toArray == Region.ready .any ops0 l.toArray && Region.ready .any ops0 l.toArray != [])

def yieldB (N : Nat) (ops : Array Oper) (k : Nat) : Bool :=
  Nat.beq ops.size (k + 2) && (ops.toList.all fun o => o.guard.isNone && noDefer o && (match o.dst with | some d => Nat.ble (d + 1) N | none => true)) &&
    readyB ops (ops.toList.take k).toArray k && Region.ready .any (ops.toList.take k).toArray (Array.replicate k true) == [] &&
    Region.ready .any ops (Array.replicate k true ++ #[false, false]) == [k] && Region.ready .any ops (Array.replicate k true ++ #[true, false]) == [k + 1] && Region.ready .any ops (Array.replicate k true ++ #[true, true]) == []

/-- a region without a fixed order, whose last operations are a yield and the test of its answer -/
theorem region_yield {id id0 k : Nat} {ann : Nat → Ann} {ctx : List Nat} {K : Exit → St → M → Prop} {oy oz : Oper} {c : Call} {ty : Nat} {x1 x2 : Operand} {v1 v2 : Value} {l : Nat} {op : UnOp} {tt : TypeId} {dy dz : Nat}
    (hs : yieldB N ops k = true) (R : Rep B S w0 m0 [] N st.nx st m a w) (h : vcCode P B S ann (.region id0 (ops.toList.take k).toArray true) ctx st m K)
    (hy : ops[k]? = some oy) (hz : ops[k + 1]? = some oz) (hoy : oy.op = .call c) (hc : c.callee = .value (.tmp ty)) (hargs : c.args = #[x1, x2]) (hdy : oy.dst = some dy) (hoz : oz.op = .unOp op tt (.tmp dy)) (hdz : oz.dst = some dz)
    (hop : ∀ b w, (Op.unary op (.bool b)).run P w = .ok (.bool !b) w)
    (hQ : ∀ st' m' a' w', K .normal st' m' → Rep B S w0 m0 [] N st'.nx st' m' a' w' →
      (a'.tmps.getD ty undef = .func (.yield l) #[] #[] ∧ a'.eval x1 = v1 ∧ a'.eval x2 = v2) ∧ YieldAt (FW none) (nf - 1) P l #[v1, v2] w' fun e w'' => ∃ b, e = .returned (.bool b) ∧ Q .normal ((a'.put (some dy) (.bool b)).put (some dz) (.bool !b)) w'') :
    (Code.region id ops true).wpIn (FW none) nf P Q a w := by
  simp only [yieldB, Bool.and_eq_true, List.all_eq_true, beq_iff_eq] at hs
  obtain ⟨⟨⟨⟨⟨⟨s1, s2⟩, s3⟩, s4⟩, s5⟩, s6⟩, s7⟩ := hs
  have s1 := Nat.eq_of_beq_eq_true s1
  simp only [vcCode] at h
  obtain ⟨hB, h⟩ := h
  simp only [Bool.and_eq_true] at hB
  obtain ⟨ops0, hops0⟩ : ∃ ops0, ops0 = (ops.toList.take k).toArray := ⟨_, rfl⟩
  rw [← hops0] at h hB s3 s4
  have hsz : ops0.size = k := by rw [hops0]; simp; omega
  have hmem : ∀ o, o ∈ ops0.toList → o ∈ ops.toList := fun o ho => by
    rw [hops0] at ho
    exact List.mem_of_mem_take (by simpa using ho)
  have hpl : ∀ o ∈ ops.toList, ∀ y, Region.wanted o y = true := fun o ho y => by
    have := (s2 o ho).1.1
    simp only [Region.wanted, Option.isNone_iff_eq_none.1 this]
  have hget : ∀ {i : Nat} {o : Oper}, ops[i]? = some o → o ∈ ops.toList := fun hi => by
    obtain ⟨hlt, e⟩ := Array.getElem?_eq_some_iff.1 hi
    rw [← e]; exact Array.getElem_mem_toList hlt
  obtain ⟨Q0, hQ0⟩ : ∃ Q0 : Exit → Act → World → Prop, Q0 = fun e a' w' => e = .normal ∧ ∃ st' m', K .normal st' m' ∧ Rep B S w0 m0 [] N st'.nx st' m' a' w' := ⟨_, rfl⟩
  refine wpIn_region_any hB.1 ?_
  rw [s1]
  have hrep : Array.replicate (k + 2) false = Array.replicate k false ++ #[false, false] := by
    rw [Array.replicate_succ, Array.replicate_succ]
    apply Array.ext'
    simp
  rw [hrep]
  simp only [readyB, Bool.and_eq_true] at s3
  obtain ⟨⟨sc, st1⟩, s3⟩ := s3
  refine any_cut (Q0 := Q0) (ops0 := ops0) (k := k) (fun i hi => ?_) hsz (fun o ho => hpl o (hmem o ho)) (fun o ho => (s2 o (hmem o ho)).1.2) (fun e a w hh => by rw [hQ0] at hh; exact hh.1) (closedB ops0 k) (fun l hl hC i hi => ?_) (fun l hl hC => ?_) s4 (fun a' w' f hh => ?_) k _ a _ (by simp) sc ?_
  · rw [hops0]
    simp [List.getElem?_take, hi]
  · have := allL_spec k _ st1 l.toList (by simpa using hl)
    simp only [Array.toArray_toList, hC, Bool.not_true, Bool.false_or, List.all_eq_true] at this
    exact this i hi
  · have := allL_spec k _ s3 l.toList (by simpa using hl)
    simp only [Array.toArray_toList, hC, Bool.not_true, Bool.false_or] at this
    simp only [Bool.or_eq_true, beq_iff_eq, Bool.and_eq_true, bne_iff_ne, ne_eq] at this
    rcases this with h1 | ⟨h1, h2⟩
    · left
      apply Array.ext'
      rw [h1]; simp
    · right
      rw [← List.append_toArray] at h1
      simp only [Array.toArray_toList] at h1 h2
      exact ⟨h1, h2⟩
  · rw [hQ0] at hh
    obtain ⟨-, st', m', hk, hR⟩ := hh
    obtain ⟨⟨h1, h2, h3⟩, hY⟩ := hQ st' m' a' w' hk hR
    have hlt : dy < a'.tmps.size := by
      have := (s2 oy (hget hy)).2
      rw [hdy] at this
      obtain ⟨_, _, T, _⟩ := hR
      rw [T.size]
      exact Nat.le_of_ble_eq_true this
    exact any_yield hy hz hoy hc hargs hdy hoz hdz (hpl _ (hget hy)) (hpl _ (hget hz)) hop s5 s6 s7 h1 h2 h3 hlt hY
  · have hd : ∀ o, o ∈ ops0.toList → ∀ d, o.dst = some d → d < N := fun o ho d hdst => by
      have := (s2 o (hmem o ho)).2
      rw [hdst] at this
      exact Nat.le_of_ble_eq_true this
    have := draw_wp (Q := Q0) (K := fun st' m' => K .normal { st' with nx := st.nx + ops0.size } m') hB.1 hB.2 hd R h fun st' m' a' w' hk R' => ?_
    · rw [hsz] at this
      exact this
    · rw [hQ0]
      exact ⟨rfl, _, _, hk, R'.anynx⟩

/-! ### a frame of which some slots are known -/
def stOf (l : List (Nat × Value)) : St := { tmps := look .unk (l.map fun p => (p.1, .val p.2)), own := fun _ => none, nx := 0 }
structure Slots (N : Nat) (l : List (Nat × Value)) (a : Act) : Prop where
  size : a.tmps.size = N
  defers : a.defers = []
  slots : ∀ t v, look .unk (l.map fun p => (p.1, SV.val p.2)) t = .val v → a.tmps.getD t undef = v
abbrev mW (mi : M) (n : Nat) : M := { π := mi.π, sz := n, uf := fun _ => False }
abbrev noB : Nat → Prop := fun _ => False

theorem look_val : ∀ (l : List (Nat × Value)) (t : Nat), look SV.unk (l.map fun p => (p.1, SV.val p.2)) t = .unk ∨ ∃ v, look SV.unk (l.map fun p => (p.1, SV.val p.2)) t = .val v
  | [], t => .inl rfl
  | (k, x) :: r, t => by
    simp only [List.map_cons, look]
    cases Nat.beq t k with
    | true => exact .inr ⟨x, rfl⟩
    | false => exact look_val r t

theorem okc.ok {mi : M} (h : okc mi w) : (mW mi w.heap.size).ok w := by
  refine ⟨Nat.le_refl _, fun b o v hv => ⟨?_, h b o v hv⟩, fun b hb => hb.elim⟩
  have := h b o v hv
  simp only [World.cell?] at this
  cases hb : w.heap[b]? with
  | none => simp [hb] at this
  | some x => exact look_lt hb

theorem Slots.rep {mi : M} {l : List (Nat × Value)} (h : Slots N l a) (hok : okc mi w) : Rep w.heap.size noB w (mW mi w.heap.size) [] N (stOf l).nx (stOf l) (mW mi w.heap.size) a w := by
  refine ⟨fun _ => 0, ⟨⟨fun _ _ _ => rfl, fun _ _ _ => Iff.rfl, Nat.le_refl _⟩, fun i b h => (by cases h), fun i b h => (by cases h), fun i j b c h => (by cases h)⟩,
    ⟨h.size, h.defers, fun t => ?_, fun t i o e => ?_, fun i b h => (by cases h)⟩, ⟨hok.ok, BelowS.refl _ _ _, Nat.le_refl _, fun i b h => (by cases h)⟩⟩
  · rcases look_val l t with e | ⟨v, e⟩
    · simp only [stOf, e]; trivial
    · simp only [stOf, e]; exact h.slots t v e
  · rcases look_val l t with e' | ⟨v, e'⟩ <;> (simp only [stOf, e'] at e; cases e)

theorem Rep.slots {n : Nat} {l : List (Nat × Value)} (R : Rep B S w0 m0 [] N n st m a w) (h : fitsT st 0 (l.map fun p => (p.1, SV.val p.2))) : Slots N l a := by
  obtain ⟨ρ, Z, T, X⟩ := R
  refine ⟨T.size, T.defers, fun t v e => ?_⟩
  rcases look_some _ t 0 h with h1 | ⟨h1, -⟩
  · rw [h1] at e; cases e
  · have := T.slots t
    rw [h1, e] at this
    exact this

theorem Rep.grown {n : Nat} (R : Rep w0.heap.size noB w0 m0 DF N n st m a w) : w0.grownBy w none := by
  obtain ⟨ρ, Z, T, X⟩ := R
  exact ⟨X.below.os, X.below.tape, X.below.output, X.below.size, fun k hk _ => X.below.block k hk id⟩

/-- a piece of code, from known slots -/
theorem piece_wp {ann : Nat → Ann} {c : Code} {l : List (Nat × Value)} {mi : M} {K : Exit → St → M → Prop} {Q : Exit → Act → World → Prop} (hd : dstsOk N c = true) (hr : noRF c = true) (h : Slots N l a) (hok : okc mi w)
    (hv : vcCode P w.heap.size noB ann c [] (stOf l) (mW mi w.heap.size) K)
    (hQ : ∀ e st' m' a' w', K e st' m' → Rep w.heap.size noB w (mW mi w.heap.size) [] N st'.nx st' m' a' w' → w.grownBy w' none → Q e a' w') : c.wpIn (FW r) nf P Q a w :=
  vcCode_wp c [] _ _ K a w Q hd hr (h.rep hok) hv fun e st' m' a' w' hk R => hQ e st' m' a' w' hk R R.grown

theorem okc.grown {mi : M} {w' : World} (h : okc mi w) (hg : w.grownBy w' none) : okc mi w' := fun b o v hv => by
  have h1 := h b o v hv
  have hb : b < w.heap.size := by
    simp only [World.cell?] at h1
    cases hb : w.heap[b]? with
    | none => simp [hb] at h1
    | some x => exact look_lt hb
  simp only [World.cell?] at h1 ⊢
  rw [hg.block b hb (by simp)]
  exact h1

/-- a piece of code at a function's start -/
theorem start_wp {ann : Nat → Ann} {c : Code} {args : List Value} {mi : M} {K : Exit → St → M → Prop} {Q : Exit → Act → World → Prop} (hd : dstsOk N c = true) (hr : noRF c = true) (hl : args.length ≤ N) (hok : okc mi w)
    (hv : vcCode P w.heap.size noB ann c [] (St.init args) (mW mi w.heap.size) K)
    (hQ : ∀ e st' m' a' w', K e st' m' → Rep w.heap.size noB w (mW mi w.heap.size) [] N st'.nx st' m' a' w' → w.grownBy w' none → Q e a' w') :
    c.wpIn (FW r) nf P Q { tmps := args.toArray ++ Array.replicate (N - args.toArray.size) undef, defers := [] } w :=
  vcCode_wp c [] _ _ K _ w Q hd hr (init_rep args hl w _ hok.ok) hv fun e st' m' a' w' hk R => hQ e st' m' a' w' hk R R.grown
theorem grown_trans {w1 w2 : World} (h : w.grownBy w1 none) (k : w1.grownBy w2 none) : w.grownBy w2 none :=
  ⟨k.os.trans h.os, k.tape.trans h.tape, k.output.trans h.output, Nat.le_trans h.size k.size, fun i hi hr => (k.block i (Nat.lt_of_lt_of_le hi h.size) hr).trans (h.block i hi hr)⟩
/-- a frame's slots behind a yield -/
theorem Rep.putN {n d1 d2 : Nat} {u1 u2 : Value} {l : List (Nat × Value)} (R : Rep B S w0 m0 [] N n st m a w) (h : fitsT st 0 (l.map fun p => (p.1, SV.val p.2))) (h1 : d1 < N) (h2 : d2 < N) (hn : l.all fun p => !Nat.beq p.1 d1 && !Nat.beq p.1 d2) (hne : d1 ≠ d2) :
    Slots N ((d2, u2) :: l) ((a.put (some d1) u1).put (some d2) u2) := by
  have hs := R.slots h
  refine ⟨by simp [Act.put, hs.size], hs.defers, fun t v e => ?_⟩
  simp only [List.map_cons, look] at e
  simp only [Act.put]
  rw [getD_set (by simp [hs.size]; exact h2), getD_set (by rw [hs.size]; exact h1)]
  cases hb : Nat.beq t d2 with
  | true =>
    rw [hb] at e
    cases e
    rw [if_pos (Nat.eq_of_beq_eq_true hb)]
  | false =>
    rw [hb] at e
    rw [if_neg (Nat.ne_of_beq_eq_false hb)]
    have hl : ∀ (l : List (Nat × Value)), (l.all fun p => !Nat.beq p.1 d1 && !Nat.beq p.1 d2) = true → look SV.unk (l.map fun p => (p.1, SV.val p.2)) d1 = .unk := by
      intro l
      induction l with
      | nil => intro _; rfl
      | cons p l ih =>
        intro hh
        simp only [List.all_cons, Bool.and_eq_true, Bool.not_eq_true'] at hh
        simp only [List.map_cons, look]
        rw [show Nat.beq d1 p.1 = false by
          cases hq : Nat.beq d1 p.1 with
          | false => rfl
          | true => rw [Nat.eq_of_beq_eq_true hq] at hh; simp at hh]
        exact ih (by simpa using hh.2)
    by_cases ht : t = d1
    · subst ht
      have := hl l hn
      simp only [cond_false] at e
      rw [this] at e
      cases e
    · rw [if_neg ht]
      exact hs.slots t v e

theorem vc_seq {x y : Code} {ctx : List Nat} {K : Exit → St → M → Prop} (h : vcCode P B S noAnn (.seq x y) ctx st m K) : vcCode P B S noAnn x ctx st m fun e st m => match e with | .normal => vcCode P B S noAnn y ctx st m K | e => K e st m := h
theorem Row.mW {mi : M} {a : Option Addr} {cs : List Value} {W : World} (h : Row mi a cs) (hk : okc mi W) : Row (Vc.mW mi W.heap.size) a cs := by
  by_cases he : cs = []
  · subst he; exact .nil _
  · obtain ⟨b, o, rfl, hc⟩ := h.cells (by intro e; exact he (List.eq_nil_of_length_eq_zero e))
    have h1 := hc.out 0 (by cases cs with | nil => exact absurd rfl he | cons x r => simp)
    obtain ⟨v, hv⟩ : ∃ v, cs[0]? = some v := by cases cs with | nil => exact absurd rfl he | cons x r => exact ⟨x, rfl⟩
    rw [hv] at h1
    exact .at b o cs ((hk.ok).2.1 b _ v h1).1 ⟨hc.out⟩


theorem Slots.tail {k : Nat} {u : Value} {l : List (Nat × Value)} (h : Slots N ((k, u) :: l) a) (hk : look SV.unk (l.map fun p => (p.1, SV.val p.2)) k = .unk) : Slots N l a :=
  ⟨h.size, h.defers, fun t v e => h.slots t v (by
    simp only [List.map_cons, look]
    cases hq : Nat.beq t k with
    | false => exact e
    | true => rw [Nat.eq_of_beq_eq_true hq, hk] at e; cases e)⟩
end
end Go.Vc
