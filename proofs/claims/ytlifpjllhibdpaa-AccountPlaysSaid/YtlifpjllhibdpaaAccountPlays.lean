/-
  Rows.AccountPlaysSaid: the law 'AccountPlays' returns true for every argument that the statement allows, and leaves memory as it was. The law's own proof lies in the modules imported here; this text is the step from it to the statement.
-/
import Derived.Test.YtlifpjllhibdpaaPart3
import Derived.ProofKit
import Derived.OpenShut
import Derived.Below
import Derived.Carry
import Derived.JoinedCond
import Derived.SizedLaws
namespace Go.Proofs.Ytlifpjllhibdpaa.accountPlays
open Go.ChangeShapes Go.WideShapes Go.ChangeAt Go.RowKit Go.Vc
set_option linter.unusedVariables false
set_option maxRecDepth 100000

theorem own : ownKnob Try.prog.godebug = none := by kernel_rfl
theorem laidOut : laidOutB Try.prog = true := by kernel_rfl

/-- a list that the form reads is no longer than its room, and its room's bytes are within the form's reach -/
theorem cap_of {H : Type} {enc : TypeId × Value → H} {P : Program} {W : World} {t e : TypeId} {a : Option Addr} {fuel n c k : Nat} {x : DataW H × List MemPlace} (hu : P.underlying t = some (.slice e))
    (hf : DataW.trod enc P W 0 (fun _ => true) true fuel t [.slice a n c] = some x) (hw : ∀ w ∈ x.1.weights P t, w ≤ reachBytes) (hk : k ≤ P.bytesOf e) : n ≤ c ∧ c * k ≤ 140737488351232 := by
  rcases DataW.trod_slice hu hf with ⟨h1, h2⟩ | ⟨a', len, cap, elems, rest, m, -, h1, h2, -, hl, -, hel, -, hsp, -⟩
  · simp at h1
    obtain ⟨-, rfl, rfl⟩ := h1
    simp
  · simp at h1
    obtain ⟨-, rfl, rfl⟩ := h1
    have hr := (hsp rfl).1
    have hd : x.1 = .slice (elems.map (·.1)) (rest.map (·.1)) := congrArg Prod.fst h2
    have := hw ((elems.length + rest.length) * P.bytesOf e) (by rw [hd]; simp [DataW.weights, hu])
    rw [hel, hr, show n + (c - n) = c by omega] at this
    exact ⟨hl, Nat.le_trans (Nat.mul_le_mul_left c hk) (by simpa [reachBytes] using this)⟩

theorem trod_cap {H : Type} {enc : TypeId × Value → H} {P : Program} {W : World} {t e : TypeId} {a : Option Addr} {n c k : Nat} {d : DataW H} {p : List MemPlace} (hu : P.underlying t = some (.slice e))
    (h : DataW.Trod enc P W 0 (fun _ => true) true t (.slice a n c) d p) (hw : ∀ w ∈ d.weights P t, w ≤ reachBytes) (hk : k ≤ P.bytesOf e) : n ≤ c ∧ c * k ≤ 140737488351232 := by
  obtain ⟨fuel, hf⟩ := h
  exact cap_of hu hf hw hk

/-- the same of a list in a struct's field -/
theorem trod_part {H : Type} {enc : TypeId × Value → H} {P : Program} {W : World} {t e : TypeId} {fs : Array Field} {j : Nat} {f : Field} {cs : Array Value} {a : Option Addr} {n c k : Nat} {d : DataW H} {p : List MemPlace} (hu : P.underlying t = some (.struct fs))
    (hj : fs[j]? = some f) (he : P.underlying f.type = some (.slice e)) (h : DataW.Trod enc P W 0 (fun _ => true) true t (.agg cs) d p) (hw : ∀ w ∈ d.weights P t, w ≤ reachBytes)
    (hc : (cs.toList.drop f.offset).take (P.cellsOf f.type) = [.slice a n c]) (hk : k ≤ P.bytesOf e) : n ≤ c ∧ c * k ≤ 140737488351232 := by
  obtain ⟨fuel, hf⟩ := h
  obtain ⟨xs, n', -, hx, -, hsz, hel⟩ := DataW.trod_struct hu hf
  have h1 := hel j f hj
  rw [show (Value.agg cs).cells.toList = cs.toList from rfl, hc] at h1
  have hjs : j < fs.size := (Array.getElem?_eq_some_iff.1 hj).1
  rw [List.getElem?_eq_getElem (by omega)] at h1
  have hd : d = .agg (xs.map (·.1)) := congrArg Prod.fst hx
  subst hd
  refine cap_of he h1 (fun w hw' => hw w ?_) hk
  have ht : (fs.toList.map (·.type))[j]? = some f.type := by simp [hj]
  have := DataW.weights_mem_each (P := P) ht (show (xs.map (·.1))[j]? = some (xs[j]'(by omega)).1 by simp [List.getElem?_eq_getElem (show j < xs.length by omega)]) w hw'
  simpa [DataW.weights, hu] using this

theorem contract (H : Type) (enc : TypeId × Value → H) (W : World) (base : Nat) (args : Array Value) (ds gs : List (DataW H)) (before : List MemPlace)
    (hval : ∀ (j : Nat) t v, Try.f8.params[j]? = some t → args[j]? = some v → Value.okWide Try.prog W .any base t v)
    (hW : DataW.Whole enc Try.prog Try.f8.params.toList Rows.accountPlaysSpec.vars false W args.toList ds gs before) (hz : (DataW.weightsEach Try.prog (Try.f8.params.toList ++ Rows.accountPlaysSpec.plain.varTypes Try.prog) (ds ++ gs)).all (· ≤ reachBytes) = true) :
    Calls Try.prog 8 args W fun e W' => ∃ v, e = .returned v ∧ Rows.accountPlaysSpec.post enc Try.prog Try.f8 false true false false W args v W' := by
  have hW' := hW
  obtain ⟨p, q, hA0, hV, rfl, hfz, hnd⟩ := hW
  have hA : DataW.TrodAll enc Try.prog W 0 (fun _ => true) true Try.f8.params.toList args.toList ds p := hA0
  rw [Try.params8] at hA hval hz
  obtain ⟨v0, vs0, d0, ds0, p0, q0, hargs, rfl, rfl, h0, r0⟩ := trodAll_cons hA
  obtain ⟨v1, vs1, d1, ds1, p1, q1, rfl, rfl, rfl, h1, r1⟩ := trodAll_cons r0
  obtain ⟨v2, vs2, d2, ds2, p2, q2, rfl, rfl, rfl, h2, r2⟩ := trodAll_cons r1
  obtain ⟨rfl, rfl, rfl⟩ := trodAll_nil r2
  obtain rfl : args = #[v0, v1, v2] := by cases args; simp_all
  obtain ⟨rfl, rfl⟩ := trodVars_none hV
  have k0 := h0
  have lt0 : ∀ x ∈ p0, x.block < W.heap.size := by obtain ⟨m, hm⟩ := k0; exact DataW.trod_lt m _ _ _ hm
  have k1 := h1
  have lt1 : ∀ x ∈ p1, x.block < W.heap.size := by obtain ⟨m, hm⟩ := k1; exact DataW.trod_lt m _ _ _ hm
  have k2 := h2
  have lt2 : ∀ x ∈ p2, x.block < W.heap.size := by obtain ⟨m, hm⟩ := k2; exact DataW.trod_lt m _ _ _ hm
  obtain ⟨x0, a0, c0, rfl, wx0, lx0, zx0, rx0⟩ := open_acc (bound_any H) (by decide) (hval 0 28 v0 rfl rfl) h0 trivial
  have sz0_0 := trod_part (j := 4) (k := 32) Try.underlying28 rfl Try.underlying24 h0 (fun w hw => by have := List.all_eq_true.1 hz w (DataW.weights_mem_each (j := 0) rfl rfl w hw); simpa using this) rfl (of_decide_eq_true (by kernel_rfl))
  obtain ⟨o1, rfl, wo1⟩ := open_op (hval 1 65 v1 rfl rfl) h1
  obtain ⟨i2, rfl, wi2⟩ := open_i (hval 2 3 v2 rfl rfl) h2
  clear hA0
  refine ((accountplays x0 a0 c0 o1 i2 wx0 wo1 (by omega) (M.all W) rx0).all).mono fun e W' ⟨he, bel⟩ => ?_
  subst he
  exact ⟨_, rfl, _, _, _, [], _, [], hW', trodAll_mk1 (shut_bool Try.underlying4 _), (trodAll_cons_mk (Below.trod laidOut (by kernel_rfl) (of_decide_eq_true (by kernel_rfl)) k0 bel lt0) (trodAll_cons_mk (Below.trod laidOut (by kernel_rfl) (of_decide_eq_true (by kernel_rfl)) k1 bel lt1) (trodAll_cons_mk (Below.trod laidOut (by kernel_rfl) (of_decide_eq_true (by kernel_rfl)) k2 bel lt2) trodAll_mk0))), rfl, bel.frame _, fun h => by cases h⟩

theorem lifted (os : Os) (started : os.Started) (H : Type) (enc : TypeId × Value → H) :
    ReturnsInHanded {} Try.checked os 8 .any (Rows.accountPlaysSpec.pre6 enc Try.prog Try.f8 Rows.accountPlaysRow.domain false) (Rows.accountPlaysSpec.post enc Try.prog Try.f8 false true false false) := by
  refine returnsInHanded_of_change_sized (s := Rows.accountPlaysSpec) (C := Try.checked) own started (by kernel_rfl) Try.func8
    (ChangeSpec.witness6 (enc := enc) (C := Try.checked) false ⟨#[], #[.agg #[.string .empty, .int .i64 0, .int .i64 0, .int .i64 0, .int .i64 0, .slice none 0 0, .int .i64 0, .int .i64 0, .int .i64 0, .int .i64 0], .agg #[.int .i64 0, .int .i64 0, .int .i64 0, .int .i64 0, .int .i64 0, .int .i64 0, .int .i64 0, .int .i64 0, .int .i64 0, .int .i64 0, .int .i64 0, .bool false], .int .i64 0], []⟩ 8 (by kernel_rfl) (by kernel_rfl) (by kernel_rfl) (by kernel_rfl)) ?_
  intro W base args ds gs before hval hW hcnd hz _
  exact contract H enc W base args ds gs before hval hW hz

theorem over : Rows.accountPlaysRow.holds Try.pinned (OpenSpec.ofChange Rows.accountPlaysSpec) :=
  OpenClaim.holds_of_wide 8 Try.f8 rfl rfl rfl rfl rfl rfl rfl ⟨rfl, rfl, rfl, rfl, rfl⟩ rfl rfl rfl rfl rfl (by kernel_rfl) Try.func8 (by kernel_rfl)
    (of_decide_eq_true (by kernel_rfl)) (by unfold Func.isWrapper; first | (rw [if_pos (by decide +kernel)]; kernel_rfl) | (rw [if_neg (by decide +kernel)]; exact ⟨rfl, rfl⟩))
    (fun os started H enc _ => lifted os started H enc)

theorem proved : Rows.AccountPlaysSaid :=
  over
#print axioms proved
end Go.Proofs.Ytlifpjllhibdpaa.accountPlays
