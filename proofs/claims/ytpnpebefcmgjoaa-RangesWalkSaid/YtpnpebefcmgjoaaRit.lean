/-
  Contracts of functions of this seat: what each hands back, and what it leaves of memory (rit). Nothing here is trusted: Lean checks it.
-/
import Derived.Test.YtpnpebefcmgjoaaLpl
import Derived.Test.YtpnpebefcmgjoaaVcIter
set_option linter.unusedVariables false
set_option linter.unusedSimpArgs false
namespace Go.Proofs.Ytpnpebefcmgjoaa
open Go.Vc Go.RowKit
set_option maxRecDepth 100000

/-! the iterator of ranges.All -/
def cL : Code → Code | .seq a _ => a | c => c

def cR : Code → Code | .seq _ b => b | c => c

def cB : Code → Code | .block _ b => b | .loop b => b | c => c

def cOps : Code → Array Oper | .region _ ops _ => ops | _ => #[]

noncomputable def itC : Code := Try.f37.body.getD .skip

noncomputable def itB : Code := cB (cB (cR itC))

noncomputable def itX : Code := cB (cL (cR (cR itB)))

noncomputable def itO : Array Oper := cOps (cL (cR itX))

theorem it_eq : Try.f37.body = some (.seq (cL itC) (.block 0 (.loop (.seq (cL itB) (.seq (.cond (.tmp 8) .skip (.exit 0)) (.seq (.block 1 (.seq (cL itX) (.seq (.region 3 itO true) (.cond (.tmp 18) .ret .skip)))) (cR (cR (cR itB))))))))) := by kernel_rfl

/-- where the place of number i ends -/
def endP (l : List Pl) (i : Nat) : ByteArray := match l[i + 1]? with | some x => x.fr | none => .empty

def endI (l : List Pl) (i : Int) : ByteArray := if 0 ≤ i then endP l i.toNat else .empty

theorem pl_end (l : List Pl) (a : Option Addr) (c : Nat) (i : Int) (hi : In64 i) (hn : l.length ≤ 9223372036854775807) (m : M) (h : Row m a (pls l)) :
    QSpec Try.prog 18 [.slice a l.length c, I i] m (.string (endI l i)) := by
  refine QSpec.of_vc Try.func18 (ann := fun _ => noAnn) fun n hn => ?_
  refine vc_by (X :=
      true = true ∧
      ifB (decide (i < (0 : Int))) (Done (Value.string { data := #[] : ByteArray } = Value.string (endI l i)))
      (ifB (decide (i ≥ IntKind.i64.wrap ((↑l.length : Int) - (1 : Int)))) (Done (Value.string { data := #[] : ByteArray } = Value.string (endI l i)))
      (∃ (b : Nat),
      ∃ (off : Nat),
      a = some { block := b, off := off : Addr } ∧
      ((0 : Int) ≤ IntKind.i64.wrap (i + (1 : Int)) ∧ IntKind.i64.wrap (i + (1 : Int)) < (↑l.length : Int)) ∧
      ∃ (s : ByteArray),
      CellsAt { π := m.π, sz := n, uf := m.uf : M } b (off + (IntKind.i64.wrap (i + (1 : Int))).toNat * (3 : Nat) + (1 : Nat)) [Value.string s] ∧
      Done (Value.string s = Value.string (endI l i))))) (by kernel_rfl) ?_
  have h' := h.sz hn
  have w0 : IntKind.i64.wrap ((l.length : Int) - 1) = (l.length : Int) - 1 := by rw [IntKind.wrap_i64]; omega
  rw [w0]
  refine ⟨rfl, ifB_intro (fun h1 => ⟨?_⟩) (fun h1 => ifB_intro (fun h2 => ⟨?_⟩) (fun h2 => ?_))⟩
  · have : i < 0 := by simpa using h1
    simp [endI, show ¬ 0 ≤ i by omega]; rfl
  · have h1 : 0 ≤ i := by simpa using h1
    have h2 : (l.length : Int) - 1 ≤ i := by simpa using h2
    simp [endI, h1, endP, show l[i.toNat + 1]? = none by rw [List.getElem?_eq_none_iff]; omega]; rfl
  · have h1 : 0 ≤ i := by simpa using h1
    have h2 : i < (l.length : Int) - 1 := by simpa using h2
    have w1 : IntKind.i64.wrap (i + 1) = ((i.toNat + 1 : Nat) : Int) := by rw [IntKind.wrap_i64]; omega
    have hlt : i.toNat + 1 < l.length := by omega
    rw [w1]
    obtain ⟨b, o, rfl, hc⟩ := h'.cells (by rw [pl_len]; omega)
    refine ⟨b, o, rfl, by omega, l[i.toNat + 1].fr, ?_, ⟨by simp [endI, h1, endP, hlt]⟩⟩
    have := pl_at hc hlt
    simp only [Int.toNat_natCast]
    exact ⟨fun j hj => by
      have hj : j = 0 := by simpa using hj
      subst hj
      have := this.out 1 (by simp [encPl])
      simpa [encPl] using this⟩

/-- what ranges.All tells -/
def endsL (l : List Pl) : List (ByteArray × Pl) := l.mapIdx fun i x => (endP l i, x)

theorem ends_take {l : List Pl} {i : Nat} (h : i < l.length) : (endsL l).take (i + 1) = (endsL l).take i ++ [(endP l i, l[i])] := by
  rw [List.take_succ_eq_append_getElem (by simpa [endsL] using h)]
  simp [endsL]

abbrev itL (l kb : Nat) (a : Option Addr) (n c : Nat) (i : Nat) : List (Nat × Value) := [(7, I i), (6, I n), (5, .slice a n c), (0, .func (.yield l) #[] #[]), (1, .pointer (some ⟨kb, 0, none⟩))]

theorem it_r0 {l kb : Nat} {a : Option Addr} {c n k : Nat} {mi : M} (hb : mi.π kb 0 = some (.slice a n c)) :
    vcCode Try.prog k noB noAnn (cL itC) [] (St.init [.func (.yield l) #[] #[], .pointer (some ⟨kb, 0, none⟩)]) (Vc.mW mi k) fun e st _ => match e with | .normal => fitsT st 0 [(7, .val (I 0)), (6, .val (I n)), (5, .val (.slice a n c)), (0, .val (.func (.yield l) #[] #[])), (1, .val (.pointer (some ⟨kb, 0, none⟩)))] | _ => False := by
  refine vc_by (X :=
      ∃ (a_1 : Option Addr),
      ∃ (n_1 : Nat),
      ∃ (c_1 : Nat),
      CellsAt (mW mi k) kb (0 : Nat) [Value.slice a_1 n_1 c_1] ∧
      (SV.val (Value.int IntKind.i64 (0 : Int)) = SV.val (Value.int IntKind.i64 (0 : Int)) ∧ true = true) ∧
      (SV.val (Value.int IntKind.i64 (↑n_1 : Int)) = SV.val (Value.int IntKind.i64 (↑n : Int)) ∧ true = true) ∧
      (SV.val (Value.slice a_1 n_1 c_1) = SV.val (Value.slice a n c) ∧ true = true) ∧
      (SV.val (Value.func (Fn.yield l) #[] #[]) = SV.val (Value.func (Fn.yield l) #[] #[]) ∧ true = true) ∧
      (SV.val (Value.pointer (some { block := kb, off := (0 : Nat) : Addr })) = SV.val (Value.pointer (some { block := kb, off := (0 : Nat) : Addr })) ∧ true = true) ∧
      True) (by kernel_rfl) ?_
  refine ⟨a, n, c, ⟨fun j hj => ?_⟩, ?_⟩
  · have hj : j = 0 := by simpa using hj
    subst hj
    exact hb
  · simp

theorem it_r1 {l kb : Nat} {a : Option Addr} {c n k i : Nat} {mi : M} (hi : i ≤ n) :
    vcCode Try.prog k noB noAnn (cL itB) [] (stOf (itL l kb a n c i)) (Vc.mW mi k) fun e st _ => match e with | .normal => fitsT st 0 [(8, .val (.bool (decide ((i : Int) < n)))), (7, .val (I i)), (6, .val (I n)), (5, .val (.slice a n c)), (0, .val (.func (.yield l) #[] #[])), (1, .val (.pointer (some ⟨kb, 0, none⟩)))] | _ => False := by
  refine vc_by (X :=
      (SV.val (Value.bool (decide ((↑i : Int) < (↑n : Int)))) = SV.val (Value.bool (decide ((↑i : Int) < (↑n : Int)))) ∧ true = true) ∧
      (SV.val (Value.int IntKind.i64 (↑i : Int)) = SV.val (Value.int IntKind.i64 (↑i : Int)) ∧ true = true) ∧
      (SV.val (Value.int IntKind.i64 (↑n : Int)) = SV.val (Value.int IntKind.i64 (↑n : Int)) ∧ true = true) ∧
      (SV.val (Value.slice a n c) = SV.val (Value.slice a n c) ∧ true = true) ∧
      (SV.val (Value.func (Fn.yield l) #[] #[]) = SV.val (Value.func (Fn.yield l) #[] #[]) ∧ true = true) ∧
      (SV.val (Value.pointer (some { block := kb, off := (0 : Nat) : Addr })) = SV.val (Value.pointer (some { block := kb, off := (0 : Nat) : Addr })) ∧ true = true) ∧ True) (by kernel_rfl) ?_
  trivial

theorem it_r4 {l kb : Nat} {a : Option Addr} {c n k i : Nat} {mi : M} (hn : n ≤ 4611686018427387904) (hi : i < n) :
    vcCode Try.prog k noB noAnn (cR (cR (cR itB))) [] (stOf (itL l kb a n c i)) (Vc.mW mi k) fun e st _ => match e with | .normal => fitsT st 0 [(7, .val (I ((i + 1 : Nat) : Int))), (6, .val (I n)), (5, .val (.slice a n c)), (0, .val (.func (.yield l) #[] #[])), (1, .val (.pointer (some ⟨kb, 0, none⟩)))] | _ => False := by
  refine vc_by (X :=
      (SV.val (Value.int IntKind.i64 (IntKind.i64.wrap ((↑i : Int) + (1 : Int)))) = SV.val (Value.int IntKind.i64 (↑(i + (1 : Nat)) : Int)) ∧ true = true) ∧
      (SV.val (Value.int IntKind.i64 (↑n : Int)) = SV.val (Value.int IntKind.i64 (↑n : Int)) ∧ true = true) ∧
      (SV.val (Value.slice a n c) = SV.val (Value.slice a n c) ∧ true = true) ∧
      (SV.val (Value.func (Fn.yield l) #[] #[]) = SV.val (Value.func (Fn.yield l) #[] #[]) ∧ true = true) ∧
      (SV.val (Value.pointer (some { block := kb, off := (0 : Nat) : Addr })) = SV.val (Value.pointer (some { block := kb, off := (0 : Nat) : Addr })) ∧ true = true) ∧ True) (by kernel_rfl) ?_
  have w1 : IntKind.i64.wrap ((i : Int) + 1) = ((i + 1 : Nat) : Int) := by rw [IntKind.wrap_i64]; omega
  rw [w1]
  simp

theorem it_r23 {l kb : Nat} {a : Option Addr} {c k i : Nat} {mi : M} {xs : List Pl} (hn : xs.length ≤ 4611686018427387904) (hi : i < xs.length) (hb : mi.π kb 0 = some (.slice a xs.length c)) (hr : Row (Vc.mW mi k) a (pls xs)) :
    vcCode Try.prog k noB noAnn (.seq (cL itX) (.region 3 (itO.toList.take 5).toArray true)) [] (stOf (itL l kb a xs.length c i)) (Vc.mW mi k) fun e st _ => match e with | .normal => fitsT st 0 [(12, .val (.func (.yield l) #[] #[])), (15, .val (.string (endP xs i))), (16, .val (plv xs[i])), (7, .val (I i)), (6, .val (I xs.length)), (5, .val (.slice a xs.length c)), (0, .val (.func (.yield l) #[] #[])), (1, .val (.pointer (some ⟨kb, 0, none⟩)))] | _ => False := by
  refine vc_by (X :=
      ∃ (b : Nat),
      ∃ (off : Nat),
      a = some { block := b, off := off : Addr } ∧
      ((0 : Int) ≤ (↑i : Int) ∧ (↑i : Int) < (↑xs.length : Int)) ∧
      ∃ (n : Int),
      ∃ (s : ByteArray),
      ∃ (n_1 : Int),
      CellsAt (mW mi k) b (off + (↑i : Int).toNat * (3 : Nat)) [Value.int IntKind.i64 n, Value.string s, Value.int IntKind.i64 n_1] ∧
      true = true ∧
      ∃ (a_1 : Option Addr),
      ∃ (n_2 : Nat),
      ∃ (c_1 : Nat),
      CellsAt (mW mi k) kb (0 : Nat) [Value.slice a_1 n_2 c_1] ∧
      ∃ (s_1 : ByteArray),
      QSpec Try.prog (18 : Nat) [Value.slice a_1 n_2 c_1, Value.int IntKind.i64 (↑i : Int)] (mW mi k) (Value.string s_1) ∧
      (SV.val (Value.func (Fn.yield l) #[] #[]) = SV.val (Value.func (Fn.yield l) #[] #[]) ∧ true = true) ∧
      (SV.val (Value.string s_1) = SV.val (Value.string (endP xs i)) ∧ true = true) ∧
      (SV.val (Value.agg #[Value.int IntKind.i64 n, Value.string s, Value.int IntKind.i64 n_1]) =
      SV.val (Value.agg #[Value.int IntKind.i64 xs[i].gr, Value.string xs[i].fr, Value.int IntKind.i64 xs[i].ep]) ∧
      true = true) ∧
      (SV.val (Value.int IntKind.i64 (↑i : Int)) = SV.val (Value.int IntKind.i64 (↑i : Int)) ∧ true = true) ∧
      (SV.val (Value.int IntKind.i64 (↑xs.length : Int)) = SV.val (Value.int IntKind.i64 (↑xs.length : Int)) ∧ true = true) ∧
      (SV.val (Value.slice a xs.length c) = SV.val (Value.slice a xs.length c) ∧ true = true) ∧
      (SV.val (Value.func (Fn.yield l) #[] #[]) = SV.val (Value.func (Fn.yield l) #[] #[]) ∧ true = true) ∧
      (SV.val (Value.pointer (some { block := kb, off := (0 : Nat) : Addr })) =
      SV.val (Value.pointer (some { block := kb, off := (0 : Nat) : Addr })) ∧
      true = true) ∧
      True) (by kernel_rfl) ?_
  obtain ⟨b, o, rfl, hc⟩ := hr.cells (by rw [pl_len]; omega)
  have he : endI xs (i : Int) = endP xs i := by simp [endI]
  refine ⟨b, o, rfl, by omega, xs[i].gr, xs[i].fr, xs[i].ep, ?_, rfl, some ⟨b, o, none⟩, xs.length, c, ⟨fun j hj => ?_⟩, endP xs i, ?_, ?_⟩
  · have := pl_at hc hi
    simp only [Int.toNat_natCast]
    exact ⟨this.out⟩
  · have hj : j = 0 := by simpa using hj
    subst hj
    exact hb
  · rw [← he]
    exact pl_end xs _ c i ⟨by omega, by omega⟩ (by omega) _ hr
  · simp

theorem all_it {kb : Nat} {a : Option Addr} {c : Nat} {mi : M} (xs : List Pl) (hn : xs.length ≤ 4611686018427387904) (hb : mi.π kb 0 = some (.slice a xs.length c)) (hr : Row mi a (pls xs)) :
    IterC Try.prog 37 [.pointer (some ⟨kb, 0, none⟩)] mi (fun e : ByteArray × Pl => [.string e.1, plv e.2]) (endsL xs) := ⟨fun args w => callFunc_run Try.func37 (by kernel_rfl) (by kernel_rfl) args w, fun n l w J Jx h2n hok hJ hJx hY h0 => by
  have hlen : (endsL xs).length = xs.length := by simp [endsL]
  refine callsIn_of_wp Try.func37 it_eq trivial ?_ rfl
  refine wpIn_seq (start_wp (N := 20) (r := none) (args := [.func (.yield l) #[] #[], .pointer (some ⟨kb, 0, none⟩)]) (mi := mi) (ann := noAnn) (by kernel_rfl) (by kernel_rfl) (by simp) (hok _ _ h0) (it_r0 hb) fun e st' m' a' w' hk R hg => ?_)
  cases e with
  | normal =>
    have h0' := hJ _ _ _ h0 hg
    have S0 : Slots 20 (itL l kb a xs.length c 0) a' := R.slots hk
    clear hk R hg h0 w
    refine wpIn_block (wp_loop_ghost (r := none) (fun i a1 w1 => i ≤ xs.length ∧ Slots 20 (itL l kb a xs.length c i) a1 ∧ J ((endsL xs).take i) w1) (fun i => xs.length - i) 0 ⟨by omega, S0, by simpa using h0'⟩ fun i a1 w1 ⟨hi, hs, hj⟩ => ?_)
    refine wpIn_seq (piece_wp (r := none) (ann := noAnn) (by kernel_rfl) (by kernel_rfl) hs (hok _ _ hj) (it_r1 hi) fun e st2 m2 a2 w2 hk R2 hg2 => ?_)
    cases e with
    | normal =>
      have hj2 := hJ _ _ _ hj hg2
      have S2 := R2.slots (l := (8, .bool (decide ((i : Int) < xs.length))) :: itL l kb a xs.length c i) hk
      have h8 : a2.eval (.tmp 8) = .bool (decide ((i : Int) < xs.length)) := S2.slots 8 _ rfl
      have S2' : Slots 20 (itL l kb a xs.length c i) a2 := R2.slots (l := itL l kb a xs.length c i) hk.2
      refine wpIn_seq ?_
      by_cases hlt : i < xs.length
      · have h8t : a2.eval (.tmp 8) = .bool true := by rw [h8]; simp; omega
        refine wpIn_cond_true h8t (wpIn_skip ?_)
        show Code.wpIn _ _ _ _ _ _ _
        refine wpIn_seq (wpIn_block (wpIn_seq ?_))
        refine vcCode_wp (r := none) (cL itX) [] _ _ _ a2 w2 _ (by kernel_rfl) (by kernel_rfl) (S2'.rep (hok _ _ hj2)) (vc_seq (it_r23 (l := l) (k := w2.heap.size) hn hlt hb (hr.mW (hok _ _ hj2)))) fun e st3 m3 a3 w3 hk3 R3 => ?_
        cases e with
        | normal =>
          refine wpIn_seq (region_yield (l := l) (v1 := .string (endP xs i)) (v2 := plv xs[i]) (ty := 12) (x1 := .tmp 15) (x2 := .tmp 16) (dy := 17) (dz := 18) (by kernel_rfl) R3 hk3 rfl rfl rfl rfl rfl rfl rfl rfl (fun _ _ => rfl) fun st4 m4 a4 w4 hk4 R4 => ?_)
          have hg4 := R4.grown
          have hj4 := hJ _ _ _ hj2 hg4
          have S4 := R4.slots (l := (12, .func (.yield l) #[] #[]) :: (15, .string (endP xs i)) :: (16, plv xs[i]) :: itL l kb a xs.length c i) hk4
          refine ⟨⟨S4.slots 12 _ rfl, S4.slots 15 _ rfl, S4.slots 16 _ rfl⟩, ?_⟩
          have hp : (endsL xs).take i ++ [(endP xs i, xs[i])] <+: endsL xs := by
            rw [← ends_take hlt]; exact List.take_prefix _ _
          obtain ⟨fn, tmps, assign, body, hrun, hR⟩ := hY _ _ _ hj4 hp
          refine ⟨fn, tmps, assign, body, hrun, hR.mono ?_⟩
          rintro e5 w5 (⟨rfl, hj5⟩ | ⟨rfl, hj5⟩)
          · refine ⟨true, rfl, ?_⟩
            have S5 : Slots 20 ((18, .bool (!true)) :: itL l kb a xs.length c i) _ := R4.putN (d1 := 17) (d2 := 18) (u1 := .bool true) (u2 := .bool (!true)) (l := itL l kb a xs.length c i) hk4.2.2.2 (by omega) (by omega) rfl (by omega)
            have h18 := S5.slots 18 _ rfl
            refine wpIn_cond_false h18 (wpIn_skip ?_)
            show Code.wpIn _ _ _ _ _ _ _
            have S6 : Slots 20 (itL l kb a xs.length c i) _ := S5.tail rfl
            rw [← ends_take hlt] at hj5
            refine piece_wp (r := none) (ann := noAnn) (by kernel_rfl) (by kernel_rfl) S6 (hok _ _ hj5) (it_r4 hn hlt) fun e st7 m7 a7 w7 hk7 R7 hg7 => ?_
            cases e with
            | normal => exact ⟨i + 1, ⟨hlt, R7.slots hk7, hJ _ _ _ hj5 hg7⟩, by omega⟩
            | _ => exact hk7.elim
          · refine ⟨false, rfl, ?_⟩
            have S5 : Slots 20 ((18, .bool (!false)) :: itL l kb a xs.length c i) _ := R4.putN (d1 := 17) (d2 := 18) (u1 := .bool false) (u2 := .bool (!false)) (l := itL l kb a xs.length c i) hk4.2.2.2 (by omega) (by omega) rfl (by omega)
            have h18 := S5.slots 18 _ rfl
            refine wpIn_cond_true h18 (wpIn_ret ?_)
            exact ⟨S5.defers, _, results_none rfl _ _ _, ⟨_, rfl⟩, .inr ⟨_, hj5⟩⟩
        | _ => exact hk3.elim
      · have h8f : a2.eval (.tmp 8) = .bool false := by rw [h8]; simp; omega
        refine wpIn_cond_false h8f (wpIn_exit ?_)
        obtain rfl : i = xs.length := by omega
        rw [← hlen, List.take_length] at hj2
        exact ⟨S2'.defers, _, results_none rfl _ _ _, ⟨_, rfl⟩, .inl hj2⟩
    | _ => exact hk.elim
  | _ => exact hk.elim⟩

end Go.Proofs.Ytpnpebefcmgjoaa
