/-
  Contracts of functions of this seat: what each hands back, and what it leaves of memory (led10). Nothing here is trusted: Lean checks it.
-/
import Derived.Test.YtfkielfnceeedaaLed7
import Derived.Test.YtfkielfnceeedaaAcc13
import Derived.Test.YtfkielfnceeedaaAcc8
import Derived.Test.YtfkielfnceeedaaVcList
set_option linter.unusedVariables false
set_option linter.unusedSimpArgs false
namespace Go.Proofs.Ytfkielfnceeedaa
open Go.Vc Go.RowKit Go.ChangeShapes Go.WideShapes Go.ChangeAt
set_option maxRecDepth 100000

/-- an account where its holders stand -/
structure Ax where
  x : Ac
  a : Option Addr
  c : Nat

abbrev encAx (y : Ax) : List Value := acc y.x y.a y.c

abbrev axs (l : List Ax) : List Value := l.flatMap encAx

theorem ax_k (y : Ax) : (encAx y).length = 10 := rfl

theorem axs_len (l : List Ax) : (axs l).length = l.length * 10 := flat_len ax_k l

theorem ax_at {m : M} {b o i : Nat} {l : List Ax} (h : CellsAt m b o (axs l)) (hi : i < l.length) : CellsAt m b (o + i * 10) (encAx l[i]) := CellsAt.elem ax_k l o i hi h

theorem ax_zr (k : Nat) : (zeroRow Try.prog 46 k).length = k * 10 := zrLen (by kernel_rfl) k

/-- accounts that are known -/
structure AxR (m : M) (a : Option Addr) (z : List Ax) : Prop where
  row : Row m a (axs z)
  hs : ∀ y ∈ z, Row m y.a (hds y.x.hs)

theorem AxR.of {m m' : M} {a : Option Addr} {z : List Ax} (h : AxR m a z) (e : ∀ a cs, Row m a cs → Row m' a cs) : AxR m' a z := ⟨e _ _ h.row, fun y hy => e _ _ (h.hs y hy)⟩

theorem AxR.sz {m : M} {a : Option Addr} {z : List Ax} (h : AxR m a z) {n : Nat} (hn : m.sz ≤ n) : AxR { m with sz := n } a z := h.of fun _ _ r => r.sz hn

theorem AxR.agree {m m' : M} {a : Option Addr} {z : List Ax} (h : AxR m a z) (hag : Agree m.sz m m') : AxR m' a z := h.of fun _ _ r => r.agree hag

theorem open_axs {H : Type} {enc : TypeId × Value → H} {W : World} {r : Reach} {b0 : Nat} {v : Value} {d : DataW H} {p : List MemPlace} {N : Nat} {Bd : DataW H → Prop} (B : Bound N Bd) (hN : N ≤ 9223372036854775807) (hv : Value.okWide Try.prog W r b0 35 v) (h : DataW.Trod enc Try.prog W 0 (fun _ => true) true 35 v d p) (hb : Bd d) :
    ∃ (a : Option Addr) (c : Nat) (z : List Ax), v = .slice a z.length c ∧ z.length ≤ N ∧ (∀ y ∈ z, y.x.wf ∧ y.x.hs.length ≤ N) ∧ (a = none → z = []) ∧ AxR (M.all W) a z := by
  obtain ⟨a, len, cap, rfl⟩ := okWide_slice Try.underlying35 hv
  obtain ⟨fuel, hf⟩ := h
  have hr := rd_of_trod B 5 fuel 35 _ _ hf hb
  rw [Rd] at hr
  simp only [Try.underlying35] at hr
  obtain ⟨a', cap', rows, hcs, h1, h2, h3, h4, h5⟩ := hr
  obtain ⟨z, hz, he, hi⟩ := rows_list (α := Ax) (e := encAx) (p := fun y => y.x.wf ∧ y.x.hs.length ≤ N ∧ Row (M.all W) y.a (hds y.x.hs)) rows fun r hr => by
    obtain ⟨x, a, c, he, hw, g1, g2, g3, g4, g5⟩ := rd_acc (d := 0) (h4 r hr).2 hN
    exact ⟨⟨x, a, c⟩, he, hw, g1, g5⟩
  simp [Value.cells] at hcs
  obtain ⟨rfl, rfl, rfl⟩ := hcs
  rw [he] at h5
  exact ⟨a, cap, z, by rw [hz], by omega, fun y hy => ⟨(hi y hy).1, (hi y hy).2.1⟩, fun e => List.eq_nil_of_length_eq_zero (by have := h3 e; omega), ⟨h5, fun y hy => (hi y hy).2.2⟩⟩

/-- no list of holders stands in the block in which the accounts stand -/
def ApH (a : Option Addr) (z : List Ax) : Prop := ∀ y ∈ z, ∀ b o b' o', a = some ⟨b, o, none⟩ → y.a = some ⟨b', o', none⟩ → y.x.hs ≠ [] → b' ≠ b

theorem newr_lt {B : Nat} {S : Nat → Prop} {m : M} {size len cap : Nat} {a : Option Addr} {cs : List Value} (h : NewR B S m size a len cap cs) {b o : Nat} (e : a = some ⟨b, o, none⟩) (hc : len < cap) : b < m.sz := by
  cases h with
  | nil => omega
  | own q => exact q.lt e

structure CaX where
  k : Nat
  z : List Ax
  a : Option Addr
  c : Nat
  m : M

structure CaI (z : List Ax) (m : M) (y : CaX) : Prop where
  k : y.k ≤ z.length
  xs : y.z.map (·.x) = (z.take y.k).map (·.x)
  own : NewR m.sz (fun _ => False) y.m 10 y.a y.z.length y.c (axs y.z)
  hs : ∀ w ∈ y.z, Row y.m w.a (hds w.x.hs)
  ap : ApH y.a y.z
  ag : Agree m.sz m y.m

theorem ccopies_s (a : Option Addr) (c : Nat) (z : List Ax) (hn : z.length ≤ 1048576) (hz : ∀ y ∈ z, y.x.hs.length ≤ 1048576) (m : M) (h : AxR m a z) :
    Vc.Spec Try.prog 19 [.slice a z.length c] m fun v m' => ∃ a' c' z', v = .slice a' z.length c' ∧ z'.map (·.x) = z.map (·.x) ∧ AxR m' a' z' := by
  refine Vc.Spec.of_vc Try.func19 (ann := fun _ => { A := CaX, inv := CaI z m, st := fun y => [(4, .val (I y.k)), (0, .val (.slice a z.length c)), (3, .val (.slice y.a y.k y.c))], own := fun _ => [], m := fun y => y.m, μ := fun y => z.length - y.k }) ?_
  refine vc_by (X :=
      true = true ∧
      (∃ (a_1 : CaX),
      CaI z m a_1 ∧
      m = a_1.m ∧
      ((SV.val (Value.int IntKind.i64 (0 : Int)) = SV.val (Value.int IntKind.i64 (↑a_1.k : Int)) ∧ true = true) ∧
      (SV.val (Value.slice a z.length c) = SV.val (Value.slice a z.length c) ∧ true = true) ∧
      (SV.val (Value.slice none (0 : Nat) (0 : Nat)) = SV.val (Value.slice a_1.a a_1.k a_1.c) ∧ true = true) ∧ True) ∧
      True) ∧
      ∀ (a_1 : CaX),
      CaI z m a_1 →
      ifB (decide ((↑a_1.k : Int) < (↑z.length : Int)))
      (∃ (b : Nat),
      ∃ (off : Nat),
      a = some { block := b, off := off : Addr } ∧
      ((0 : Int) ≤ (↑a_1.k : Int) ∧ (↑a_1.k : Int) < (↑z.length : Int)) ∧
      ∃ (s : ByteArray),
      ∃ (n : Int),
      ∃ (n_1 : Int),
      ∃ (n_2 : Int),
      ∃ (n_3 : Int),
      ∃ (a_3 : Option Addr),
      ∃ (n_4 : Nat),
      ∃ (c_1 : Nat),
      ∃ (n_5 : Int),
      ∃ (n_6 : Int),
      ∃ (n_7 : Int),
      ∃ (n_8 : Int),
      CellsAt a_1.m b (off + (↑a_1.k : Int).toNat * (10 : Nat))
      [Value.string s, Value.int IntKind.i64 n, Value.int IntKind.i64 n_1, Value.int IntKind.i64 n_2, Value.int IntKind.i64 n_3,
      Value.slice a_3 n_4 c_1, Value.int IntKind.i64 n_5, Value.int IntKind.i64 n_6, Value.int IntKind.i64 n_7,
      Value.int IntKind.i64 n_8] ∧
      ∀ (n_9 : Nat),
      a_1.m.sz ≤ n_9 →
      Vc.Spec Try.prog (23 : Nat)
      [Value.agg
      #[Value.string s, Value.int IntKind.i64 n, Value.int IntKind.i64 n_1, Value.int IntKind.i64 n_2, Value.int IntKind.i64 n_3,
      Value.slice a_3 n_4 c_1, Value.int IntKind.i64 n_5, Value.int IntKind.i64 n_6, Value.int IntKind.i64 n_7,
      Value.int IntKind.i64 n_8]]
      { π := a_1.m.π, sz := n_9, uf := a_1.m.uf : M } fun (v : Value) (m' : M) =>
      ∃ (s : ByteArray),
      ∃ (n : Int),
      ∃ (n_10 : Int),
      ∃ (n_11 : Int),
      ∃ (n_12 : Int),
      ∃ (a_5 : Option Addr),
      ∃ (n_13 : Nat),
      ∃ (c_2 : Nat),
      ∃ (n_14 : Int),
      ∃ (n_15 : Int),
      ∃ (n_16 : Int),
      ∃ (n_17 : Int),
      v =
      Value.agg
      #[Value.string s, Value.int IntKind.i64 n, Value.int IntKind.i64 n_10, Value.int IntKind.i64 n_11,
      Value.int IntKind.i64 n_12, Value.slice a_5 n_13 c_2, Value.int IntKind.i64 n_14,
      Value.int IntKind.i64 n_15, Value.int IntKind.i64 n_16, Value.int IntKind.i64 n_17] ∧
      true = true ∧
      ∀ (b : Nat),
      m'.sz ≤ b →
      ∃ (old : List Value),
      ∃ (src : List Value),
      AppPre m.sz (fun (x : Nat) => False)
      (m'.newBlock b
      [Value.string s, Value.int IntKind.i64 n, Value.int IntKind.i64 n_10,
      Value.int IntKind.i64 n_11, Value.int IntKind.i64 n_12, Value.slice a_5 n_13 c_2,
      Value.int IntKind.i64 n_14, Value.int IntKind.i64 n_15, Value.int IntKind.i64 n_16,
      Value.int IntKind.i64 n_17])
      (10 : Nat) (104 : Nat) a_1.a a_1.k a_1.c (some { block := b, off := (0 : Nat) : Addr })
      (1 : Nat) old src ∧
      ∀ (a' : Option Addr) (c' : Nat) (m'_1 : M),
      AppPost Try.prog (46 : Nat)
      (m'.newBlock b
      [Value.string s, Value.int IntKind.i64 n, Value.int IntKind.i64 n_10,
      Value.int IntKind.i64 n_11, Value.int IntKind.i64 n_12, Value.slice a_5 n_13 c_2,
      Value.int IntKind.i64 n_14, Value.int IntKind.i64 n_15,
      Value.int IntKind.i64 n_16, Value.int IntKind.i64 n_17])
      (10 : Nat) a_1.a a_1.k a_1.c (1 : Nat) old src a' c' m'_1 →
      ∃ (a'_1 : CaX),
      (CaI z m a'_1 ∧
      m'_1 = a'_1.m ∧
      ((SV.val
      (Value.int IntKind.i64
      (IntKind.i64.wrap ((↑a_1.k : Int) + (1 : Int)))) =
      SV.val (Value.int IntKind.i64 (↑a'_1.k : Int)) ∧
      true = true) ∧
      (SV.val (Value.slice a z.length c) = SV.val (Value.slice a z.length c) ∧
      true = true) ∧
      (SV.val (Value.slice a' (a_1.k + (1 : Nat)) c') =
      SV.val (Value.slice a'_1.a a'_1.k a'_1.c) ∧
      true = true) ∧
      True) ∧
      True) ∧
      z.length - a'_1.k < z.length - a_1.k)
      (Done
      (∃ (a' : Option Addr),
      ∃ (c' : Nat),
      ∃ (z' : List Ax),
      Value.slice a_1.a a_1.k a_1.c = Value.slice a' z.length c' ∧ List.map (fun (x : Ax) => x.x) z' = List.map (fun (x : Ax) => x.x) z ∧ AxR a_1.m a' z'))) (by kernel_rfl) ?_
  refine ⟨rfl, ⟨⟨0, [], none, 0, m⟩, ⟨Nat.zero_le _, rfl, .nil _, fun _ hw => by simp at hw, fun _ hw => by simp at hw, Agree.refl _ _⟩, rfl, by simp⟩, fun y Y => ifB_intro (fun hb => ?_) (fun hb => ⟨?_⟩)⟩
  · have hk2 : y.k < z.length := by simpa using hb
    obtain ⟨b, o, rfl, hc⟩ := (h.row.agree Y.ag).cells (by rw [axs_len]; omega)
    have w1 : IntKind.i64.wrap ((y.k : Int) + 1) = ((y.k + 1 : Nat) : Int) := by simp [IntKind.wrap_i64]; omega
    have hzl : y.z.length = y.k := by have := congrArg List.length Y.xs; simp at this; omega
    have hm := List.getElem_mem hk2
    refine ⟨b, o, rfl, by omega, _, _, _, _, _, _, _, _, _, _, _, _, by simpa using ax_at hc hk2, fun N1 hN1 => ?_⟩
    refine (ccopy_q z[y.k].x z[y.k].a z[y.k].c (hz _ hm) _ (((h.hs _ hm).agree Y.ag).sz hN1)).mono fun v1 m1 ag1 ⟨a5, c5, e1, r5⟩ => ⟨_, _, _, _, _, _, _, _, _, _, _, _, e1, rfl, fun b4 hb4 => ?_⟩
    have A1 : Agree m.sz m m1 := Y.ag.trans ((Agree.szl (B := m.sz) (m := y.m) hN1).trans (ag1.mono (Nat.le_trans Y.ag.2.2 hN1)))
    have o1 := (Y.own.sz hN1).agree ag1
    have hs1 : N1 ≤ m1.sz := ag1.2.2
    obtain ⟨g1, g2⟩ := o1.push (P := Try.prog) (e := 46) (bytes := 104) (src := acc z[y.k].x a5 c5) hb4 A1.2.2 rfl rfl (by omega) ax_zr
    rw [hzl] at g1 g2
    refine ⟨_, _, g1, fun a' c' m' hp => ?_⟩
    obtain ⟨g3, g4⟩ := g2 a' c' m' hp
    have hrow : ∀ w ∈ y.z, Row m1 w.a (hds w.x.hs) := fun w hw => ((Y.hs w hw).sz hN1).agree ag1
    have lt1 : ∀ b o, y.a = some ⟨b, o, none⟩ → y.k + 1 ≤ y.c → b < y.m.sz := fun b o e hc => by
      exact newr_lt Y.own e (by omega)
    have lt5 : ∀ b o, a5 = some ⟨b, o, none⟩ → z[y.k].x.hs ≠ [] → N1 ≤ b ∧ b < m1.sz := fun b o e hne => by
      have q := r5.toOwn (fun e => hne (List.eq_nil_of_length_eq_zero e))
      exact ⟨(q.lo e).resolve_right id, q.lt e⟩
    have ltw : ∀ w ∈ y.z, ∀ b o, w.a = some ⟨b, o, none⟩ → w.x.hs ≠ [] → b < y.m.sz := fun w hw b o e hne => (Y.hs w hw).lt (fun e => hne (by have := congrArg List.length e; rw [hds_len] at this; exact List.eq_nil_of_length_eq_zero (by simp at this; omega))) e
    have nb : (m1.newBlock b4 (acc z[y.k].x a5 c5)).sz = max m1.sz (b4 + 1) := rfl
    have kp : ∀ (aw : Option Addr) (l : List Hd), Row m1 aw (hds l) → (l ≠ [] → ∀ b o, aw = some ⟨b, o, none⟩ → ∀ b' o', y.a = some ⟨b', o', none⟩ → y.k + 1 ≤ y.c → b ≠ b') → Row m' aw (hds l) := fun aw l hr hap => by
      by_cases hl : l = []
      · subst hl; exact .nil _
      · refine (hr.newBlock hb4).of hp.sz fun b o e hb => ?_
        rcases hp with ⟨hle, -, -, ⟨-, rfl⟩ | ⟨b', o', e2, rfl⟩⟩ | ⟨-, b', hb', -, -, rfl⟩
        · rfl
        · exact setCells_other (hap hl b o e b' o' e2 hle)
        · exact newBlock_other (by omega)
    have hr' : ∀ w ∈ y.z, Row m' w.a (hds w.x.hs) := fun w hw => kp _ _ (hrow w hw) fun hne b o e b' o' e2 hle e3 => Y.ap w hw b' o' b o e2 e hne e3
    have hr5 : Row m' a5 (hds z[y.k].x.hs) := kp _ _ r5.row fun hne b o e b' o' e2 hle e3 => by
      have h1 := lt5 b o e hne
      have h2 := lt1 b' o' e2 hle
      omega
    have ap' : ApH a' (y.z ++ [⟨z[y.k].x, a5, c5⟩]) := fun w hw b o b' o' e1 e2 hne e3 => by
      rcases hp with ⟨hle, rfl, -, -⟩ | ⟨-, bn, hbn, -, rfl, -⟩
      · rcases List.mem_append.1 hw with hw | hw
        · exact Y.ap w hw b o b' o' e1 e2 hne e3
        · have hw : w = ⟨z[y.k].x, a5, c5⟩ := by simpa using hw
          subst hw
          have h1 := lt5 b' o' e2 hne
          have h2 := lt1 b o e1 hle
          omega
      · cases e1
        have hbn2 : max m1.sz (b4 + 1) ≤ b := hbn
        rcases List.mem_append.1 hw with hw | hw
        · have := ltw w hw b' o' e2 hne; omega
        · have hw : w = ⟨z[y.k].x, a5, c5⟩ := by simpa using hw
          subst hw
          have h1 := lt5 b' o' e2 hne
          omega
    refine ⟨⟨y.k + 1, y.z ++ [⟨z[y.k].x, a5, c5⟩], a', c', m'⟩, ⟨⟨hk2, ?_, ?_, fun w hw => ?_, ap', A1.trans g4⟩, rfl, by simp [w1]⟩, by simp only; omega⟩
    · simp only [List.map_append, List.take_succ_eq_append_getElem hk2, Y.xs]; rfl
    · have : axs (y.z ++ [⟨z[y.k].x, a5, c5⟩]) = axs y.z ++ acc z[y.k].x a5 c5 := by simp [axs]
      simp only [this, List.length_append, hzl]
      exact g3
    · rcases List.mem_append.1 hw with hw | hw
      · exact hr' w hw
      · have hw : w = ⟨z[y.k].x, a5, c5⟩ := by simpa using hw
        subst hw
        exact hr5
  · have hk : y.k = z.length := by have := Y.k; simp at hb; omega
    have hx := Y.xs
    rw [hk, List.take_length] at hx
    exact ⟨y.a, y.c, y.z, by rw [hk], hx, ⟨Y.own.row, Y.hs⟩⟩

end Go.Proofs.Ytfkielfnceeedaa
