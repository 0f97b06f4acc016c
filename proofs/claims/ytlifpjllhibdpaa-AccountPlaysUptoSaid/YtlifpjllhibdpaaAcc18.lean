/-
  Contracts of functions of this seat: what each hands back, and what it leaves of memory (acc18). Nothing here is trusted: Lean checks it.
-/
import Derived.Test.YtlifpjllhibdpaaAcc16
set_option linter.unusedVariables false
set_option linter.unusedSimpArgs false
namespace Go.Proofs.Ytlifpjllhibdpaa
open Go.Vc Go.RowKit
set_option maxRecDepth 100000

theorem aTake_ok {x : Ac} {k : Lk} (h : (aTake x k).2 = 0) : rightB x = true ∧ keeperB k = true ∧ x.lk.cl = 0 ∧ x.hs = [] ∧ fitsB x k = true ∧ aTake x k = ({ x with lk := k }, 0) := by
  unfold aTake at h ⊢
  split at h
  · simp at h
  split at h
  · simp at h
  split at h
  · rename_i h3; exact absurd h h3
  split at h
  · simp at h
  rename_i h1 h2 h3 h4
  have h1 : rightB x = true := by simpa using h1
  have h3 : knownE x = 0 := Classical.byContradiction h3
  have ht : totB x = true := by
    cases ht : totB x
    · simp [knownE, h1, ht] at h3
    · rfl
  simp only [totB, Bool.and_eq_true, decide_eq_true_eq, List.isEmpty_iff] at ht
  have h2' : keeperB k = true := by simpa using h2
  have h4' : fitsB x k = true := by simpa using h4
  exact ⟨h1, h2', ht.1.2, ht.2, h4', by simp [h1, h2', h3, h4']⟩

theorem aTake_err {x : Ac} {k : Lk} (h : (aTake x k).2 ≠ 0) : aTake x k = (ac0, (aTake x k).2) := by
  unfold aTake at h ⊢
  repeat' split
  all_goals simp_all

theorem take_right {x : Ac} {k : Lk} (hx : x.wf) (hk : k.wf) (hr : rightB x = true) (h1 : keeperB k = true) (h2 : x.lk.cl = 0) (h3 : x.hs = []) (h4 : fitsB x k = true) : rightB { x with lk := k } = true ∧ ({ x with lk := k } : Ac).wf ∧ k.cl ≠ 0 := by
  have hp := (right_iff x).1 hr
  have hc : k.cl ≠ 0 := by simp [keeperB] at h1; omega
  refine ⟨(right_iff _).2 ⟨hp.key, hp.has, hp.round, hp.hold, hp.up, hp.dn, ?_⟩, ⟨hx.key, hx.lo, hx.hi, hx.base, hx.round, hx.hs, hx.len, hk⟩, hc⟩
  have hf : fitsB { x with lk := k } k = true := h4
  show (if k.cl = 0 then lkZ k else keeperB k && x.hs.isEmpty && fitsB { x with lk := k } k) = true
  rw [if_neg hc, h1, hf, h3]
  rfl

theorem lk0_wf : lk0.wf := ⟨by decide, by decide, by decide, by decide⟩

theorem free_right {x : Ac} {b : Bool} (hx : x.wf) (hr : rightB x = true) (hc : x.lk.cl ≠ 0) :
    rightB { x with base := if b then x.base + x.lk.n else x.base, lk := lk0 } = true ∧ ({ x with base := if b then x.base + x.lk.n else x.base, lk := lk0 } : Ac).wf := by
  have hp := (right_iff x).1 hr
  have hl := hp.lock
  simp only [lockB] at hl
  rw [if_neg hc] at hl
  simp only [Bool.and_eq_true, List.isEmpty_iff, fitsB, hasB, decide_eq_true_eq] at hl
  obtain ⟨⟨h1, h2⟩, h3⟩ := hl
  have hh := hp.has
  have hlo := hx.lo
  have hhi := hx.hi
  have hb : x.lo ≤ (if b then x.base + x.lk.n else x.base) ∧ (if b then x.base + x.lk.n else x.base) ≤ x.hi := by cases b <;> simp <;> omega
  refine ⟨(right_iff _).2 ⟨hp.key, hb, hp.round, hp.hold, ?_, ?_, ?_⟩, ⟨hx.key, hx.lo, hx.hi, ?_, hx.round, hx.hs, hx.len, lk0_wf⟩⟩
  · simp only [upsL, h2, List.map_nil, sumI_cons]; simp only [sumI, List.foldl_nil]; omega
  · simp only [dnsL, h2, List.map_nil, sumI_cons]; simp only [sumI, List.foldl_nil]; omega
  · simp [lockB, lk0, lkZ]
  · simp only; unfold In64 at *; omega

theorem accountlocks (x : Ac) (a : Option Addr) (c : Nat) (k : Lk) (n : Int) (lo hi : Int) (b : Bool) (hx : x.wf) (hk : k.wf) (hn : In64 n) (h0 : a = none → x.hs = []) (m : M) (h : Row m a (hds x.hs)) :
    QSpec Try.prog 7 [acv x a c, .agg #[I k.cl, I k.sq, I k.hm, I k.n], I n, sp lo hi, .bool b] m (.bool true) := by
  refine QSpec.of_vc Try.func7 (ann := fun _ => noAnn) fun N hN => ?_
  refine vc_by (X :=
      true = true ∧
      ∃ (b_1 : Bool),
      QSpec Try.prog (21 : Nat) [] { π := m.π, sz := N, uf := m.uf : M } (Value.bool b_1) ∧
      ifB (!b_1) (Done (Value.bool false = Value.bool true))
      (∀ (n_1 : Nat),
      N ≤ n_1 →
      Vc.Spec Try.prog (34 : Nat)
      [Value.agg
      #[Value.string x.key, Value.int IntKind.i64 x.lo, Value.int IntKind.i64 x.hi, Value.int IntKind.i64 x.base, Value.int IntKind.i64 x.round,
      Value.slice a x.hs.length c, Value.int IntKind.i64 x.lk.cl, Value.int IntKind.i64 x.lk.sq, Value.int IntKind.i64 x.lk.hm, Value.int IntKind.i64 x.lk.n],
      Value.agg #[Value.int IntKind.i64 k.cl, Value.int IntKind.i64 k.sq, Value.int IntKind.i64 k.hm, Value.int IntKind.i64 k.n]]
      { π := m.π, sz := n_1, uf := m.uf : M } fun (v : Value) (m' : M) =>
      ∃ (s : ByteArray),
      ∃ (n_2 : Int),
      ∃ (n_3 : Int),
      ∃ (n_4 : Int),
      ∃ (n_5 : Int),
      ∃ (a_2 : Option Addr),
      ∃ (n_6 : Nat),
      ∃ (c_1 : Nat),
      ∃ (n_7 : Int),
      ∃ (n_8 : Int),
      ∃ (n_9 : Int),
      ∃ (n_10 : Int),
      ∃ (n_11 : Int),
      v =
      Value.tuple
      #[Value.agg
      #[Value.string s, Value.int IntKind.i64 n_2, Value.int IntKind.i64 n_3, Value.int IntKind.i64 n_4, Value.int IntKind.i64 n_5,
      Value.slice a_2 n_6 c_1, Value.int IntKind.i64 n_7, Value.int IntKind.i64 n_8, Value.int IntKind.i64 n_9,
      Value.int IntKind.i64 n_10],
      Value.int IntKind.i64 n_11] ∧
      ifB (n_11 != (0 : Int))
      (∃ (b : Bool),
      QSpec Try.prog (23 : Nat)
      [Value.agg
      #[Value.string s, Value.int IntKind.i64 n_2, Value.int IntKind.i64 n_3, Value.int IntKind.i64 n_4, Value.int IntKind.i64 n_5,
      Value.slice a_2 n_6 c_1, Value.int IntKind.i64 n_7, Value.int IntKind.i64 n_8, Value.int IntKind.i64 n_9,
      Value.int IntKind.i64 n_10],
      Value.agg
      #[Value.string { data := #[] : ByteArray }, Value.int IntKind.i64 (0 : Int), Value.int IntKind.i64 (0 : Int),
      Value.int IntKind.i64 (0 : Int), Value.int IntKind.i64 (0 : Int), Value.slice none (0 : Nat) (0 : Nat),
      Value.int IntKind.i64 (0 : Int), Value.int IntKind.i64 (0 : Int), Value.int IntKind.i64 (0 : Int),
      Value.int IntKind.i64 (0 : Int)]]
      m' (Value.bool b) ∧
      Done (Value.bool b = Value.bool true))
      (∀ (n_12 : Nat),
      m'.sz ≤ n_12 →
      Vc.Spec Try.prog (27 : Nat)
      [Value.agg
      #[Value.string s, Value.int IntKind.i64 n_2, Value.int IntKind.i64 n_3, Value.int IntKind.i64 n_4, Value.int IntKind.i64 n_5,
      Value.slice a_2 n_6 c_1, Value.int IntKind.i64 n_7, Value.int IntKind.i64 n_8, Value.int IntKind.i64 n_9,
      Value.int IntKind.i64 n_10],
      Value.int IntKind.i64 n]
      { π := m'.π, sz := n_12, uf := m'.uf : M } fun (v : Value) (m' : M) =>
      ∃ (s_1 : ByteArray),
      ∃ (n : Int),
      ∃ (n_13 : Int),
      ∃ (n_14 : Int),
      ∃ (n_15 : Int),
      ∃ (a_4 : Option Addr),
      ∃ (n_16 : Nat),
      ∃ (c_2 : Nat),
      ∃ (n_17 : Int),
      ∃ (n_18 : Int),
      ∃ (n_19 : Int),
      ∃ (n_20 : Int),
      ∃ (n_21 : Int),
      v =
      Value.tuple
      #[Value.agg
      #[Value.string s_1, Value.int IntKind.i64 n, Value.int IntKind.i64 n_13,
      Value.int IntKind.i64 n_14, Value.int IntKind.i64 n_15, Value.slice a_4 n_16 c_2,
      Value.int IntKind.i64 n_17, Value.int IntKind.i64 n_18, Value.int IntKind.i64 n_19,
      Value.int IntKind.i64 n_20],
      Value.int IntKind.i64 n_21] ∧
      ∀ (n : Nat),
      m'.sz ≤ n →
      Vc.Spec Try.prog (35 : Nat)
      [Value.agg
      #[Value.string s, Value.int IntKind.i64 n_2, Value.int IntKind.i64 n_3,
      Value.int IntKind.i64 n_4, Value.int IntKind.i64 n_5, Value.slice a_2 n_6 c_1,
      Value.int IntKind.i64 n_7, Value.int IntKind.i64 n_8, Value.int IntKind.i64 n_9,
      Value.int IntKind.i64 n_10],
      Value.agg #[Value.int IntKind.i64 lo, Value.int IntKind.i64 hi]]
      { π := m'.π, sz := n, uf := m'.uf : M } fun (v : Value) (m' : M) =>
      ∃ (s_2 : ByteArray),
      ∃ (n : Int),
      ∃ (n_22 : Int),
      ∃ (n_23 : Int),
      ∃ (n_24 : Int),
      ∃ (a_6 : Option Addr),
      ∃ (n_25 : Nat),
      ∃ (c_3 : Nat),
      ∃ (n_26 : Int),
      ∃ (n_27 : Int),
      ∃ (n_28 : Int),
      ∃ (n_29 : Int),
      ∃ (n_30 : Int),
      v =
      Value.tuple
      #[Value.agg
      #[Value.string s_2, Value.int IntKind.i64 n,
      Value.int IntKind.i64 n_22, Value.int IntKind.i64 n_23,
      Value.int IntKind.i64 n_24, Value.slice a_6 n_25 c_3,
      Value.int IntKind.i64 n_26, Value.int IntKind.i64 n_27,
      Value.int IntKind.i64 n_28, Value.int IntKind.i64 n_29],
      Value.int IntKind.i64 n_30] ∧
      ∀ (n : Nat),
      m'.sz ≤ n →
      Vc.Spec Try.prog (34 : Nat)
      [Value.agg
      #[Value.string s, Value.int IntKind.i64 n_2,
      Value.int IntKind.i64 n_3, Value.int IntKind.i64 n_4,
      Value.int IntKind.i64 n_5, Value.slice a_2 n_6 c_1,
      Value.int IntKind.i64 n_7, Value.int IntKind.i64 n_8,
      Value.int IntKind.i64 n_9, Value.int IntKind.i64 n_10],
      Value.agg
      #[Value.int IntKind.i64 k.cl, Value.int IntKind.i64 k.sq,
      Value.int IntKind.i64 k.hm, Value.int IntKind.i64 k.n]]
      { π := m'.π, sz := n, uf := m'.uf : M }
      fun (v : Value) (m' : M) =>
      ∃ (s_3 : ByteArray),
      ∃ (n : Int),
      ∃ (n_31 : Int),
      ∃ (n_32 : Int),
      ∃ (n_33 : Int),
      ∃ (a_8 : Option Addr),
      ∃ (n_34 : Nat),
      ∃ (c_4 : Nat),
      ∃ (n_35 : Int),
      ∃ (n_36 : Int),
      ∃ (n_37 : Int),
      ∃ (n_38 : Int),
      ∃ (n_39 : Int),
      v =
      Value.tuple
      #[Value.agg
      #[Value.string s_3,
      Value.int IntKind.i64 n,
      Value.int IntKind.i64
      n_31,
      Value.int IntKind.i64
      n_32,
      Value.int IntKind.i64
      n_33,
      Value.slice a_8 n_34
      c_4,
      Value.int IntKind.i64
      n_35,
      Value.int IntKind.i64
      n_36,
      Value.int IntKind.i64
      n_37,
      Value.int IntKind.i64
      n_38],
      Value.int IntKind.i64
      n_39] ∧
      ∀ (n : Nat),
      m'.sz ≤ n →
      Vc.Spec Try.prog (33 : Nat)
      [Value.agg
      #[Value.string s,
      Value.int IntKind.i64
      n_2,
      Value.int IntKind.i64
      n_3,
      Value.int IntKind.i64
      n_4,
      Value.int IntKind.i64
      n_5,
      Value.slice a_2 n_6
      c_1,
      Value.int IntKind.i64
      n_7,
      Value.int IntKind.i64
      n_8,
      Value.int IntKind.i64
      n_9,
      Value.int IntKind.i64
      n_10],
      Value.int IntKind.i64
      (1 : Int),
      Value.int IntKind.i64
      (1 : Int),
      Value.int IntKind.i64
      (1 : Int)]
      { π := m'.π, sz := n, uf := m'.uf : M }
      fun (v : Value) (m' : M) =>
      ∃ (s_4 : ByteArray),
      ∃ (n : Int),
      ∃ (n_40 : Int),
      ∃ (n_41 : Int),
      ∃ (n_42 : Int),
      ∃ (a_10 :
      Option Addr),
      ∃ (n_43 : Nat),
      ∃ (c_5 : Nat),
      ∃ (n_44 :
      Int),
      ∃ (n_45 :
      Int),
      ∃ (n_46
      :
      Int),
      ∃
      (n_47
      :
      Int),
      ∃
      (n_48
      :
      Int),
      v =
      Value.tuple
      #[Value.agg
      #[Value.string
      s_4,
      Value.int
      IntKind.i64
      n,
      Value.int
      IntKind.i64
      n_40,
      Value.int
      IntKind.i64
      n_41,
      Value.int
      IntKind.i64
      n_42,
      Value.slice
      a_10
      n_43
      c_5,
      Value.int
      IntKind.i64
      n_44,
      Value.int
      IntKind.i64
      n_45,
      Value.int
      IntKind.i64
      n_46,
      Value.int
      IntKind.i64
      n_47],
      Value.int
      IntKind.i64
      n_48] ∧
      ∀
      (n :
      Nat),
      m'.sz ≤
      n →
      Vc.Spec
      Try.prog
      (36 :
      Nat)
      [Value.agg
      #[Value.string
      s,
      Value.int
      IntKind.i64
      n_2,
      Value.int
      IntKind.i64
      n_3,
      Value.int
      IntKind.i64
      n_4,
      Value.int
      IntKind.i64
      n_5,
      Value.slice
      a_2
      n_6
      c_1,
      Value.int
      IntKind.i64
      n_7,
      Value.int
      IntKind.i64
      n_8,
      Value.int
      IntKind.i64
      n_9,
      Value.int
      IntKind.i64
      n_10],
      Value.bool
      b]
      { π := m'.π, sz := n, uf := m'.uf : M }
      fun
      (v :
      Value)
      (m' :
      M) =>
      ∃
      (s
      :
      ByteArray),
      ∃
      (n
      :
      Int),
      ∃
      (n_49
      :
      Int),
      ∃
      (n_50
      :
      Int),
      ∃
      (n_51
      :
      Int),
      ∃
      (a_12
      :
      Option
      Addr),
      ∃
      (n_52
      :
      Nat),
      ∃
      (c_6
      :
      Nat),
      ∃
      (n_53
      :
      Int),
      ∃
      (n_54
      :
      Int),
      ∃
      (n_55
      :
      Int),
      ∃
      (n_56
      :
      Int),
      ∃
      (n_57
      :
      Int),
      v =
      Value.tuple
      #[Value.agg
      #[Value.string
      s,
      Value.int
      IntKind.i64
      n,
      Value.int
      IntKind.i64
      n_49,
      Value.int
      IntKind.i64
      n_50,
      Value.int
      IntKind.i64
      n_51,
      Value.slice
      a_12
      n_52
      c_6,
      Value.int
      IntKind.i64
      n_53,
      Value.int
      IntKind.i64
      n_54,
      Value.int
      IntKind.i64
      n_55,
      Value.int
      IntKind.i64
      n_56],
      Value.int
      IntKind.i64
      n_57] ∧
      ∀
      (n_58 :
      Nat),
      m'.sz ≤
      n_58 →
      Vc.Spec
      Try.prog
      (36 :
      Nat)
      [Value.agg
      #[Value.string
      s,
      Value.int
      IntKind.i64
      n,
      Value.int
      IntKind.i64
      n_49,
      Value.int
      IntKind.i64
      n_50,
      Value.int
      IntKind.i64
      n_51,
      Value.slice
      a_12
      n_52
      c_6,
      Value.int
      IntKind.i64
      n_53,
      Value.int
      IntKind.i64
      n_54,
      Value.int
      IntKind.i64
      n_55,
      Value.int
      IntKind.i64
      n_56],
      Value.bool
      b]
      { π := m'.π, sz := n_58, uf := m'.uf : M }
      fun
      (v :
      Value)
      (m' :
      M) =>
      ∃
      (s_5
      :
      ByteArray),
      ∃
      (n_59
      :
      Int),
      ∃
      (n_60
      :
      Int),
      ∃
      (n_61
      :
      Int),
      ∃
      (n_62
      :
      Int),
      ∃
      (a_14
      :
      Option
      Addr),
      ∃
      (n_63
      :
      Nat),
      ∃
      (c_7
      :
      Nat),
      ∃
      (n_64
      :
      Int),
      ∃
      (n_65
      :
      Int),
      ∃
      (n_66
      :
      Int),
      ∃
      (n_67
      :
      Int),
      ∃
      (n_68
      :
      Int),
      v =
      Value.tuple
      #[Value.agg
      #[Value.string
      s_5,
      Value.int
      IntKind.i64
      n_59,
      Value.int
      IntKind.i64
      n_60,
      Value.int
      IntKind.i64
      n_61,
      Value.int
      IntKind.i64
      n_62,
      Value.slice
      a_14
      n_63
      c_7,
      Value.int
      IntKind.i64
      n_64,
      Value.int
      IntKind.i64
      n_65,
      Value.int
      IntKind.i64
      n_66,
      Value.int
      IntKind.i64
      n_67],
      Value.int
      IntKind.i64
      n_68] ∧
      ifB
      (n_21 ==
      (0 :
      Int))
      (Done
      (Value.bool
      false =
      Value.bool
      true))
      (ifB
      (n_30 ==
      (0 :
      Int))
      (Done
      (Value.bool
      false =
      Value.bool
      true))
      (ifB
      (n_39 ==
      (0 :
      Int))
      (Done
      (Value.bool
      false =
      Value.bool
      true))
      (ifB
      (n_48 ==
      (0 :
      Int))
      (Done
      (Value.bool
      false =
      Value.bool
      true))
      (ifB
      (n_57 !=
      (0 :
      Int))
      (Done
      (Value.bool
      false =
      Value.bool
      true))
      (ifB
      (n_68 !=
      (60 :
      Int))
      (Done
      (Value.bool
      false =
      Value.bool
      true))
      (ifB
      (n_4 !=
      x.base)
      (Done
      (Value.bool
      false =
      Value.bool
      true))
      (ifB
      b
      (∃
      (b
      :
      Bool),
      QSpec
      Try.prog
      (23 :
      Nat)
      [Value.agg
      #[Value.string
      s,
      Value.int
      IntKind.i64
      n,
      Value.int
      IntKind.i64
      n_49,
      Value.int
      IntKind.i64
      n_50,
      Value.int
      IntKind.i64
      n_51,
      Value.slice
      a_12
      n_52
      c_6,
      Value.int
      IntKind.i64
      n_53,
      Value.int
      IntKind.i64
      n_54,
      Value.int
      IntKind.i64
      n_55,
      Value.int
      IntKind.i64
      n_56],
      Value.agg
      #[Value.string
      x.key,
      Value.int
      IntKind.i64
      x.lo,
      Value.int
      IntKind.i64
      x.hi,
      Value.int
      IntKind.i64
      (IntKind.i64.wrap
      (x.base +
      k.n)),
      Value.int
      IntKind.i64
      x.round,
      Value.slice
      a
      x.hs.length
      c,
      Value.int
      IntKind.i64
      (0 :
      Int),
      Value.int
      IntKind.i64
      (0 :
      Int),
      Value.int
      IntKind.i64
      (0 :
      Int),
      Value.int
      IntKind.i64
      (0 :
      Int)]]
      m'
      (Value.bool
      b) ∧
      Done
      (Value.bool
      b =
      Value.bool
      true))
      (∃
      (b
      :
      Bool),
      QSpec
      Try.prog
      (23 :
      Nat)
      [Value.agg
      #[Value.string
      s,
      Value.int
      IntKind.i64
      n,
      Value.int
      IntKind.i64
      n_49,
      Value.int
      IntKind.i64
      n_50,
      Value.int
      IntKind.i64
      n_51,
      Value.slice
      a_12
      n_52
      c_6,
      Value.int
      IntKind.i64
      n_53,
      Value.int
      IntKind.i64
      n_54,
      Value.int
      IntKind.i64
      n_55,
      Value.int
      IntKind.i64
      n_56],
      Value.agg
      #[Value.string
      x.key,
      Value.int
      IntKind.i64
      x.lo,
      Value.int
      IntKind.i64
      x.hi,
      Value.int
      IntKind.i64
      x.base,
      Value.int
      IntKind.i64
      x.round,
      Value.slice
      a
      x.hs.length
      c,
      Value.int
      IntKind.i64
      (0 :
      Int),
      Value.int
      IntKind.i64
      (0 :
      Int),
      Value.int
      IntKind.i64
      (0 :
      Int),
      Value.int
      IntKind.i64
      (0 :
      Int)]]
      m'
      (Value.bool
      b) ∧
      Done
      (Value.bool
      b =
      Value.bool
      true)))))))))))) (by kernel_rfl) ?_
  refine ⟨rfl, _, awake_q _, ifB_false fun N1 hN1 => (atake_s x a c k hx hk h0 _ (h.sz (Nat.le_trans hN hN1))).mono fun v m' hag ⟨a', c', hv, hr⟩ => ⟨_, _, _, _, _, _, _, _, _, _, _, _, _, hv, ?_⟩⟩
  by_cases he : (aTake x k).2 = 0
  · obtain ⟨h1, h2, h3, h4, h5, h6⟩ := aTake_ok he
    obtain ⟨g1, g2, g3⟩ := take_right hx hk h1 h2 h3 h4 h5
    rw [h6] at hr ⊢
    have rx : Row m' a (hds x.hs) := (h.sz (Nat.le_trans hN hN1)).agree hag
    have z0 : a' = none → ({ x with lk := k } : Ac).hs = [] := fun _ => h4
    have r0 : ∀ M1 : M, Row M1 a' (hds ({ x with lk := k } : Ac).hs) := fun M1 => by
      show Row M1 a' (hds x.hs)
      rw [h4]; exact .nil _
    have hk0 : knownE { x with lk := k } = 152 := by simp [knownE, g1, totB, g3]
    have e1 : (aAdd { x with lk := k } n).2 ≠ 0 := by
      by_cases hn0 : n = 0
      · simp [aAdd, g1, hn0]
      · simp [aAdd, g1, hn0, g3]
    have e2 : (aBounds { x with lk := k } lo hi).2 ≠ 0 := by simp [aBounds, hk0]
    have e3 : (aTake { x with lk := k } k).2 ≠ 0 := by simp [aTake, g1, h2, hk0]
    have e4 : (aGrant { x with lk := k } 1 1 1).2 ≠ 0 := by simp [aGrant, g1, g3]
    have e5 : aFree { x with lk := k } b = ({ x with base := if b then x.base + k.n else x.base, lk := lk0 }, 0) := by simp [aFree, g1, g3]
    obtain ⟨g5, g6⟩ := free_right (b := b) g2 g1 g3
    have e6 : aFree { x with base := if b then x.base + k.n else x.base, lk := lk0 } b = (ac0, 60) := by
      have g5 : rightB { x with base := if b then x.base + k.n else x.base, lk := lk0 } = true := g5
      unfold aFree
      rw [if_neg (by rw [g5]; simp)]
      exact if_pos rfl
    refine ifB_false fun N2 hN2 => (aadd_s { x with lk := k } a' c' n g2 hn z0 _ (r0 _)).mono fun v1 m1 hag1 ⟨a1, c1, hv1, _⟩ => ⟨_, _, _, _, _, _, _, _, _, _, _, _, _, hv1, fun N3 hN3 => ?_⟩
    refine (abounds_s { x with lk := k } a' c' lo hi g2 z0 _ (r0 _)).mono fun v2 m2 hag2 ⟨a2, c2, hv2, _⟩ => ⟨_, _, _, _, _, _, _, _, _, _, _, _, _, hv2, fun N4 hN4 => ?_⟩
    refine (atake_s { x with lk := k } a' c' k g2 hk z0 _ (r0 _)).mono fun v3 m3 hag3 ⟨a3, c3, hv3, _⟩ => ⟨_, _, _, _, _, _, _, _, _, _, _, _, _, hv3, fun N5 hN5 => ?_⟩
    refine (agrant_s { x with lk := k } a' c' 1 1 1 g2 z0 _ (r0 _)).mono fun v4 m4 hag4 ⟨a4, c4, hv4, _⟩ => ⟨_, _, _, _, _, _, _, _, _, _, _, _, _, hv4, fun N6 hN6 => ?_⟩
    refine (afree_s { x with lk := k } a' c' b g2 z0 _ (r0 _)).mono fun v5 m5 hag5 ⟨a5, c5, hv5, hr5⟩ => ⟨_, _, _, _, _, _, _, _, _, _, _, _, _, hv5, fun N7 hN7 => ?_⟩
    rw [e5] at hr5 ⊢
    have r5 : ∀ (M1 : M) (a9 : Option Addr), Row M1 a9 (hds ({ x with base := if b then x.base + k.n else x.base, lk := lk0 } : Ac).hs) := fun M1 a9 => by
      show Row M1 a9 (hds x.hs)
      rw [h4]; exact .nil _
    refine (afree_s { x with base := if b then x.base + k.n else x.base, lk := lk0 } a5 c5 b g6 (fun _ => h4) _ (r5 _ _)).mono fun v6 m6 hag6 ⟨a6, c6, hv6, hr6⟩ => ⟨_, _, _, _, _, _, _, _, _, _, _, _, _, hv6, ?_⟩
    rw [e6]
    have t1 : ((aAdd { x with lk := k } n).2 == 0) = false := by simpa using e1
    have t2 : ((aBounds { x with lk := k } lo hi).2 == 0) = false := by simpa using e2
    have t3 : ((aTake { x with lk := k } k).2 == 0) = false := by simpa using e3
    have t4 : ((aGrant { x with lk := k } 1 1 1).2 == 0) = false := by simpa using e4
    rw [t1, t2, t3, t4]
    refine ifB_false (ifB_false (ifB_false (ifB_false (ifB_false (ifB_false ?_)))))
    rw [show ((({ x with lk := k } : Ac), (0 : Int)).1.base != x.base) = false by simp]
    have hf : fitsB x k = true := h5
    simp only [fitsB, hasB, Bool.and_eq_true, decide_eq_true_eq] at hf
    have hlo := hx.lo
    have hhi := hx.hi
    have w1 : IntKind.i64.wrap (x.base + k.n) = x.base + k.n := by unfold In64 at *; simp [IntKind.wrap_i64]; omega
    refine ifB_false ?_
    cases b
    · exact ifB_false ⟨_, saccount_q _ { x with lk := lk0 } a5 a c5 c g6 ⟨hx.key, hx.lo, hx.hi, hx.base, hx.round, hx.hs, hx.len, lk0_wf⟩ m6 (r5 _ _) (by show Row m6 a (hds x.hs); rw [h4]; exact .nil _), ⟨by simp⟩⟩
    · rw [w1]
      exact ifB_true ⟨_, saccount_q _ { x with base := x.base + k.n, lk := lk0 } a5 a c5 c g6 ⟨hx.key, hx.lo, hx.hi, (by simpa using g6.base), hx.round, hx.hs, hx.len, lk0_wf⟩ m6 (r5 _ _) (by show Row m6 a (hds x.hs); rw [h4]; exact .nil _), ⟨by simp⟩⟩
  · have hb : ((aTake x k).2 != 0) = true := by simpa using he
    rw [hb]
    have e := aTake_err he
    rw [e] at hr ⊢
    refine ifB_true ⟨_, saccount_q ac0 ac0 a' none c' 0 (wf_key _ (by decide)) (wf_key _ (by decide)) m' hr.row (.nil _), ⟨by simp⟩⟩

end Go.Proofs.Ytlifpjllhibdpaa
