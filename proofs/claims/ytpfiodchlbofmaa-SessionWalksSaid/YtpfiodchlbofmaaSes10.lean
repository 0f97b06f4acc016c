/-
  Contracts of functions of this seat: what each hands back, and what it leaves of memory (ses10). Nothing here is trusted: Lean checks it.
-/
import Derived.Test.YtpfiodchlbofmaaSes9
set_option linter.unusedVariables false
set_option linter.unusedSimpArgs false
namespace Go.Proofs.Ytpfiodchlbofmaa
open Go.Vc Go.RowKit
set_option maxRecDepth 100000

structure SlX where
  k : Nat
  ab : Option Addr
  cab : Nat
  ba : Option Addr
  cba : Nat
  m : M

def sameA (x y : Mk) : Bool := decide (x.an_er = y.an_er) && decide (x.an_va = y.an_va) && decide (x.an_le = y.an_le) && decide (x.an_mo = y.an_mo)

def noC (lb : List Mk) (x : Mk) : Prop := ∀ y, ofM lb x.cl = some y → y.sq = x.sq → y.op = false → x.op = false → sameA y x = true

structure SlI (a b : Option Addr) (la lb : List Mk) (y : SlX) : Prop where
  k : y.k ≤ la.length
  rs : Rs y.m [(y.ab, mks (foldM la lb)), (y.ba, mks (foldM lb la)), (a, mks la), (b, mks lb)]
  nc : ∀ x ∈ la.take y.k, noC lb x

theorem comm_law {la lb : List Mk} (ha : tabB 0 la = true) (hb : tabB 0 lb = true) (h : ∀ x ∈ la, noC lb x) : foldM la lb = foldM lb la := by
  refine tab_ext (fold_ok ha hb) (fold_ok hb ha) fun c => ?_
  rw [fold_at ha hb, fold_at hb ha]
  cases h1 : ofM la c with
  | none => cases ofM lb c <;> rfl
  | some x =>
    cases h2 : ofM lb c with
    | none => rfl
    | some y =>
      obtain ⟨-, x1, x2⟩ := ofM_ok ha h1
      obtain ⟨-, y1, y2⟩ := ofM_ok hb h2
      by_cases e : x.sq = y.sq ∧ x.op = false ∧ y.op = false
      · have := h x (ofM_some h1).1 y (by rw [x2]; exact h2) e.1.symm e.2.2 e.2.1
        have hxy : x = y := by
          simp [sameA] at this
          rw [mk_ext]; simp [e, x2, y2, this]
        subst hxy; rfl
      · refine joinO_comm e (fun h => ?_) (fun h => ?_) (by omega)
        · simp [mkB, h] at x1; exact x1.2.2
        · simp [mkB, h] at y1; exact y1.2.2

set_option maxHeartbeats 2000000 in
theorem sessionlattice (a b c : Option Addr) (ca cb cc : Nat) (la lb lc : List Mk) (hla : la.length ≤ 9223372036854775807) (hlb : lb.length ≤ 9223372036854775807) (hlc : lc.length ≤ 9223372036854775807) (m : M) (ha : Row m a (mks la)) (hb : Row m b (mks lb)) (hc : Row m c (mks lc)) :
    QSpec Try.prog 4 [.slice a la.length ca, .slice b lb.length cb, .slice c lc.length cc] m (.bool true) := by
  refine QSpec.of_vc Try.func4 (ann := fun n _ => { A := SlX, inv := fun y => SlI a b la lb y ∧ n ≤ y.m.sz, st := fun y => [(19, .val (I y.k)), (0, .val (.slice a la.length ca)), (1, .val (.slice b lb.length cb)), (9, .val (.slice y.ab (foldM la lb).length y.cab)), (11, .val (.slice y.ba (foldM lb la).length y.cba))], own := fun _ => [], m := fun y => y.m, μ := fun y => la.length - y.k }) fun N hN => ?_
  refine vc_by (X :=
      true = true ∧
      ∃ (b_1 : Bool),
      QSpec Try.prog (13 : Nat) [] { π := m.π, sz := N, uf := m.uf : M } (Value.bool b_1) ∧
      ifB (!b_1) (Done (Value.bool false = Value.bool true))
      (∃ (b_2 : Bool),
      QSpec Try.prog (16 : Nat) [Value.slice a la.length ca] { π := m.π, sz := N, uf := m.uf : M } (Value.bool b_2) ∧
      ifB (!b_2) (Done (Value.bool true = Value.bool true))
      (∃ (b_3 : Bool),
      QSpec Try.prog (16 : Nat) [Value.slice b lb.length cb] { π := m.π, sz := N, uf := m.uf : M } (Value.bool b_3) ∧
      ifB (!b_3) (Done (Value.bool true = Value.bool true))
      (∃ (b_4 : Bool),
      QSpec Try.prog (16 : Nat) [Value.slice c lc.length cc] { π := m.π, sz := N, uf := m.uf : M } (Value.bool b_4) ∧
      ifB (!b_4) (Done (Value.bool true = Value.bool true))
      (∃ (S' : Nat → Prop),
      (∀ (b : Nat), S' b → m.uf b ∧ (N ≤ b ∨ False)) ∧
      ∀ (n : Nat),
      N ≤ n →
      SpecW Try.prog (10 : Nat) [Value.slice a la.length ca] { π := m.π, sz := n, uf := m.uf : M } S' fun (v : Value) (m' : M) =>
      ∃ (a_2 : Option Addr),
      ∃ (n : Nat),
      ∃ (c_1 : Nat),
      v = Value.slice a_2 n c_1 ∧
      ∃ (S' : Nat → Prop),
      (∀ (b : Nat), S' b → m'.uf b ∧ (N ≤ b ∨ False)) ∧
      ∀ (n_1 : Nat),
      m'.sz ≤ n_1 →
      SpecW Try.prog (10 : Nat) [Value.slice a la.length ca] { π := m'.π, sz := n_1, uf := m'.uf : M } S' fun (v : Value) (m' : M) =>
      ∃ (a_4 : Option Addr),
      ∃ (n_2 : Nat),
      ∃ (c_2 : Nat),
      v = Value.slice a_4 n_2 c_2 ∧
      ∃ (S' : Nat → Prop),
      (∀ (b : Nat), S' b → m'.uf b ∧ (N ≤ b ∨ False)) ∧
      ∀ (n_3 : Nat),
      m'.sz ≤ n_3 →
      SpecW Try.prog (11 : Nat) [Value.slice a_2 n c_1, Value.slice a_4 n_2 c_2]
      { π := m'.π, sz := n_3, uf := m'.uf : M } S' fun (v : Value) (m' : M) =>
      ∃ (a_6 : Option Addr),
      ∃ (n : Nat),
      ∃ (c_3 : Nat),
      ∃ (n_4 : Int),
      v = Value.tuple #[Value.slice a_6 n c_3, Value.int IntKind.i64 n_4] ∧
      ∃ (S' : Nat → Prop),
      (∀ (b : Nat), S' b → m'.uf b ∧ (N ≤ b ∨ False)) ∧
      ∀ (n_5 : Nat),
      m'.sz ≤ n_5 →
      SpecW Try.prog (10 : Nat) [Value.slice a la.length ca]
      { π := m'.π, sz := n_5, uf := m'.uf : M } S' fun (v : Value) (m' : M) =>
      ∃ (a_8 : Option Addr),
      ∃ (n_6 : Nat),
      ∃ (c_4 : Nat),
      v = Value.slice a_8 n_6 c_4 ∧
      ∃ (S' : Nat → Prop),
      (∀ (b : Nat), S' b → m'.uf b ∧ (N ≤ b ∨ False)) ∧
      ∀ (n_7 : Nat),
      m'.sz ≤ n_7 →
      SpecW Try.prog (10 : Nat) [Value.slice b lb.length cb]
      { π := m'.π, sz := n_7, uf := m'.uf : M } S'
      fun (v : Value) (m' : M) =>
      ∃ (a_10 : Option Addr),
      ∃ (n_8 : Nat),
      ∃ (c_5 : Nat),
      v = Value.slice a_10 n_8 c_5 ∧
      ∃ (S' : Nat → Prop),
      (∀ (b : Nat), S' b → m'.uf b ∧ (N ≤ b ∨ False)) ∧
      ∀ (n_9 : Nat),
      m'.sz ≤ n_9 →
      SpecW Try.prog (11 : Nat)
      [Value.slice a_8 n_6 c_4, Value.slice a_10 n_8 c_5]
      { π := m'.π, sz := n_9, uf := m'.uf : M } S'
      fun (v : Value) (m' : M) =>
      ∃ (a_12 : Option Addr),
      ∃ (n_10 : Nat),
      ∃ (c_6 : Nat),
      ∃ (n_11 : Int),
      v =
      Value.tuple
      #[Value.slice a_12 n_10 c_6,
      Value.int IntKind.i64 n_11] ∧
      ∃ (S' : Nat → Prop),
      (∀ (b : Nat),
      S' b → m'.uf b ∧ (N ≤ b ∨ False)) ∧
      ∀ (n_12 : Nat),
      m'.sz ≤ n_12 →
      SpecW Try.prog (10 : Nat)
      [Value.slice b lb.length cb]
      { π := m'.π, sz := n_12, uf := m'.uf : M }
      S' fun (v : Value) (m' : M) =>
      ∃ (a_14 : Option Addr),
      ∃ (n_13 : Nat),
      ∃ (c_7 : Nat),
      v =
      Value.slice a_14 n_13
      c_7 ∧
      ∃ (S' : Nat → Prop),
      (∀ (b : Nat),
      S' b →
      m'.uf b ∧
      (N ≤ b ∨
      False)) ∧
      ∀ (n_14 : Nat),
      m'.sz ≤ n_14 →
      SpecW Try.prog
      (10 : Nat)
      [Value.slice a
      la.length
      ca]
      { π := m'.π, sz := n_14, uf := m'.uf : M }
      S'
      fun
      (v : Value)
      (m' : M) =>
      ∃ (a_16 :
      Option
      Addr),
      ∃ (n_15 :
      Nat),
      ∃ (c_8 :
      Nat),
      v =
      Value.slice
      a_16
      n_15
      c_8 ∧
      ∃ (S'
      :
      Nat →
      Prop),
      (∀
      (b :
      Nat),
      S'
      b →
      m'.uf
      b ∧
      (N ≤
      b ∨
      False)) ∧
      ∀
      (n_16 :
      Nat),
      m'.sz ≤
      n_16 →
      SpecW
      Try.prog
      (11 :
      Nat)
      [Value.slice
      a_14
      n_13
      c_7,
      Value.slice
      a_16
      n_15
      c_8]
      { π := m'.π, sz := n_16, uf := m'.uf : M }
      S'
      fun
      (v :
      Value)
      (m' :
      M) =>
      ∃
      (a_18
      :
      Option
      Addr),
      ∃
      (n_17
      :
      Nat),
      ∃
      (c_9
      :
      Nat),
      ∃
      (n_18
      :
      Int),
      v =
      Value.tuple
      #[Value.slice
      a_18
      n_17
      c_9,
      Value.int
      IntKind.i64
      n_18] ∧
      ∃
      (S'
      :
      Nat →
      Prop),
      (∀
      (b :
      Nat),
      S'
      b →
      m'.uf
      b ∧
      (N ≤
      b ∨
      False)) ∧
      ∀
      (n_19 :
      Nat),
      m'.sz ≤
      n_19 →
      SpecW
      Try.prog
      (10 :
      Nat)
      [Value.slice
      b
      lb.length
      cb]
      { π := m'.π, sz := n_19, uf := m'.uf : M }
      S'
      fun
      (v :
      Value)
      (m' :
      M) =>
      ∃
      (a_20
      :
      Option
      Addr),
      ∃
      (n_20
      :
      Nat),
      ∃
      (c_10
      :
      Nat),
      v =
      Value.slice
      a_20
      n_20
      c_10 ∧
      ∃
      (S'
      :
      Nat →
      Prop),
      (∀
      (b :
      Nat),
      S'
      b →
      m'.uf
      b ∧
      (N ≤
      b ∨
      False)) ∧
      ∀
      (n_21 :
      Nat),
      m'.sz ≤
      n_21 →
      SpecW
      Try.prog
      (10 :
      Nat)
      [Value.slice
      c
      lc.length
      cc]
      { π := m'.π, sz := n_21, uf := m'.uf : M }
      S'
      fun
      (v :
      Value)
      (m' :
      M) =>
      ∃
      (a_22
      :
      Option
      Addr),
      ∃
      (n_22
      :
      Nat),
      ∃
      (c_11
      :
      Nat),
      v =
      Value.slice
      a_22
      n_22
      c_11 ∧
      ∃
      (S'
      :
      Nat →
      Prop),
      (∀
      (b :
      Nat),
      S'
      b →
      m'.uf
      b ∧
      (N ≤
      b ∨
      False)) ∧
      ∀
      (n_23 :
      Nat),
      m'.sz ≤
      n_23 →
      SpecW
      Try.prog
      (11 :
      Nat)
      [Value.slice
      a_20
      n_20
      c_10,
      Value.slice
      a_22
      n_22
      c_11]
      { π := m'.π, sz := n_23, uf := m'.uf : M }
      S'
      fun
      (v :
      Value)
      (m' :
      M) =>
      ∃
      (a_24
      :
      Option
      Addr),
      ∃
      (n_24
      :
      Nat),
      ∃
      (c_12
      :
      Nat),
      ∃
      (n_25
      :
      Int),
      v =
      Value.tuple
      #[Value.slice
      a_24
      n_24
      c_12,
      Value.int
      IntKind.i64
      n_25] ∧
      ∃
      (S'
      :
      Nat →
      Prop),
      (∀
      (b :
      Nat),
      S'
      b →
      m'.uf
      b ∧
      (N ≤
      b ∨
      False)) ∧
      ∀
      (n_26 :
      Nat),
      m'.sz ≤
      n_26 →
      SpecW
      Try.prog
      (10 :
      Nat)
      [Value.slice
      c
      lc.length
      cc]
      { π := m'.π, sz := n_26, uf := m'.uf : M }
      S'
      fun
      (v :
      Value)
      (m' :
      M) =>
      ∃
      (a_26
      :
      Option
      Addr),
      ∃
      (n_27
      :
      Nat),
      ∃
      (c
      :
      Nat),
      v =
      Value.slice
      a_26
      n_27
      c ∧
      ∃
      (S'
      :
      Nat →
      Prop),
      (∀
      (b :
      Nat),
      S'
      b →
      m'.uf
      b ∧
      (N ≤
      b ∨
      False)) ∧
      ∀
      (n_28 :
      Nat),
      m'.sz ≤
      n_28 →
      SpecW
      Try.prog
      (11 :
      Nat)
      [Value.slice
      a_12
      n_10
      c_6,
      Value.slice
      a_26
      n_27
      c]
      { π := m'.π, sz := n_28, uf := m'.uf : M }
      S'
      fun
      (v :
      Value)
      (m' :
      M) =>
      ∃
      (a_28
      :
      Option
      Addr),
      ∃
      (n_29
      :
      Nat),
      ∃
      (c
      :
      Nat),
      ∃
      (n_30
      :
      Int),
      v =
      Value.tuple
      #[Value.slice
      a_28
      n_29
      c,
      Value.int
      IntKind.i64
      n_30] ∧
      ∃
      (S'
      :
      Nat →
      Prop),
      (∀
      (b :
      Nat),
      S'
      b →
      m'.uf
      b ∧
      (N ≤
      b ∨
      False)) ∧
      ∀
      (n_31 :
      Nat),
      m'.sz ≤
      n_31 →
      SpecW
      Try.prog
      (10 :
      Nat)
      [Value.slice
      a
      la.length
      ca]
      { π := m'.π, sz := n_31, uf := m'.uf : M }
      S'
      fun
      (v :
      Value)
      (m' :
      M) =>
      ∃
      (a_30
      :
      Option
      Addr),
      ∃
      (n_32
      :
      Nat),
      ∃
      (c_13
      :
      Nat),
      v =
      Value.slice
      a_30
      n_32
      c_13 ∧
      ∃
      (S'
      :
      Nat →
      Prop),
      (∀
      (b :
      Nat),
      S'
      b →
      m'.uf
      b ∧
      (N ≤
      b ∨
      False)) ∧
      ∀
      (n_33 :
      Nat),
      m'.sz ≤
      n_33 →
      SpecW
      Try.prog
      (11 :
      Nat)
      [Value.slice
      a_30
      n_32
      c_13,
      Value.slice
      a_24
      n_24
      c_12]
      { π := m'.π, sz := n_33, uf := m'.uf : M }
      S'
      fun
      (v :
      Value)
      (m' :
      M) =>
      ∃
      (a_32
      :
      Option
      Addr),
      ∃
      (n_34
      :
      Nat),
      ∃
      (c_14
      :
      Nat),
      ∃
      (n_35
      :
      Int),
      v =
      Value.tuple
      #[Value.slice
      a_32
      n_34
      c_14,
      Value.int
      IntKind.i64
      n_35] ∧
      ifB
      (n_4 !=
      (0 :
      Int))
      (Done
      (Value.bool
      false =
      Value.bool
      true))
      (ifB
      (n_11 !=
      n_4)
      (Done
      (Value.bool
      false =
      Value.bool
      true))
      (ifB
      (n_18 !=
      n_4)
      (Done
      (Value.bool
      false =
      Value.bool
      true))
      (ifB
      (n_25 !=
      n_4)
      (Done
      (Value.bool
      false =
      Value.bool
      true))
      (ifB
      (n_30 !=
      n_4)
      (Done
      (Value.bool
      false =
      Value.bool
      true))
      (ifB
      (n_35 !=
      n_4)
      (Done
      (Value.bool
      false =
      Value.bool
      true))
      (∃
      (b_5
      :
      Bool),
      QSpec
      Try.prog
      (14 :
      Nat)
      [Value.slice
      a_6
      n
      c_3,
      Value.slice
      a
      la.length
      ca]
      m'
      (Value.bool
      b_5) ∧
      ifB
      (!b_5)
      (Done
      (Value.bool
      false =
      Value.bool
      true))
      (∃
      (b_6
      :
      Bool),
      QSpec
      Try.prog
      (14 :
      Nat)
      [Value.slice
      a_28
      n_29
      c,
      Value.slice
      a_32
      n_34
      c_14]
      m'
      (Value.bool
      b_6) ∧
      ifB
      (!b_6)
      (Done
      (Value.bool
      false =
      Value.bool
      true))
      ((∃
      (a_33
      :
      SlX),
      (SlI
      a
      b
      la
      lb
      a_33 ∧
      N ≤
      a_33.m.sz) ∧
      m' =
      a_33.m ∧
      ((SV.val
      (Value.int
      IntKind.i64
      (0 :
      Int)) =
      SV.val
      (Value.int
      IntKind.i64
      (↑a_33.k :
      Int)) ∧
      true =
      true) ∧
      (SV.val
      (Value.slice
      a
      la.length
      ca) =
      SV.val
      (Value.slice
      a
      la.length
      ca) ∧
      true =
      true) ∧
      (SV.val
      (Value.slice
      b
      lb.length
      cb) =
      SV.val
      (Value.slice
      b
      lb.length
      cb) ∧
      true =
      true) ∧
      (SV.val
      (Value.slice
      a_12
      n_10
      c_6) =
      SV.val
      (Value.slice
      a_33.ab
      (foldM
      la
      lb).length
      a_33.cab) ∧
      true =
      true) ∧
      (SV.val
      (Value.slice
      a_18
      n_17
      c_9) =
      SV.val
      (Value.slice
      a_33.ba
      (foldM
      lb
      la).length
      a_33.cba) ∧
      true =
      true) ∧
      True) ∧
      True) ∧
      ∀
      (a_33 :
      SlX),
      SlI
      a
      b
      la
      lb
      a_33 ∧
      N ≤
      a_33.m.sz →
      ifB
      (decide
      ((↑a_33.k :
      Int) <
      (↑la.length :
      Int)))
      (true =
      true ∧
      ∃
      (b_7
      :
      Nat),
      ∃
      (off
      :
      Nat),
      a =
      some
      { block := b_7, off := off : Addr } ∧
      ((0 :
      Int) ≤
      (↑a_33.k :
      Int) ∧
      (↑a_33.k :
      Int) <
      (↑la.length :
      Int)) ∧
      ∃
      (n
      :
      Int),
      CellsAt
      a_33.m
      b_7
      (off +
      (↑a_33.k :
      Int).toNat *
      (7 :
      Nat) +
      (0 :
      Nat))
      [Value.int
      IntKind.i64
      n] ∧
      (∃
      (S'
      :
      Nat →
      Prop),
      (∀
      (b :
      Nat),
      S'
      b →
      a_33.m.uf
      b ∧
      (N ≤
      b ∨
      False)) ∧
      ∀
      (n_36 :
      Nat),
      a_33.m.sz ≤
      n_36 →
      SpecW
      Try.prog
      (10 :
      Nat)
      [Value.slice
      b
      lb.length
      cb]
      { π := a_33.m.π, sz := n_36, uf := a_33.m.uf : M }
      S'
      fun
      (v :
      Value)
      (m' :
      M) =>
      ∃
      (a_36
      :
      Option
      Addr),
      ∃
      (n_37
      :
      Nat),
      ∃
      (c
      :
      Nat),
      v =
      Value.slice
      a_36
      n_37
      c ∧
      MLe
      a_33.m
      m' ∧
      ∃
      (n_38
      :
      Int),
      ∃
      (n_39
      :
      Int),
      ∃
      (b_8
      :
      Bool),
      ∃
      (n_40
      :
      Int),
      ∃
      (n_41
      :
      Int),
      ∃
      (n_42
      :
      Int),
      ∃
      (n_43
      :
      Int),
      ∃
      (b_9
      :
      Bool),
      QSpec
      Try.prog
      (17 :
      Nat)
      [Value.slice
      a_36
      n_37
      c,
      Value.int
      IntKind.i64
      n]
      m'
      (Value.tuple
      #[Value.agg
      #[Value.int
      IntKind.i64
      n_38,
      Value.int
      IntKind.i64
      n_39,
      Value.bool
      b_8,
      Value.int
      IntKind.i64
      n_40,
      Value.int
      IntKind.i64
      n_41,
      Value.int
      IntKind.i64
      n_42,
      Value.int
      IntKind.i64
      n_43],
      Value.bool
      b_9]) ∧
      true =
      true ∧
      ifB
      b_9
      (∃
      (b_10
      :
      Nat),
      ∃
      (off
      :
      Nat),
      a =
      some
      { block := b_10, off := off : Addr } ∧
      ((0 :
      Int) ≤
      (↑a_33.k :
      Int) ∧
      (↑a_33.k :
      Int) <
      (↑la.length :
      Int)) ∧
      ∃
      (n
      :
      Int),
      CellsAt
      m'
      b_10
      (off +
      (↑a_33.k :
      Int).toNat *
      (7 :
      Nat) +
      (1 :
      Nat))
      [Value.int
      IntKind.i64
      n] ∧
      ifB
      (n_39 ==
      n)
      (ifB
      (!b_8)
      (∃
      (b_11
      :
      Nat),
      ∃
      (off
      :
      Nat),
      a =
      some
      { block := b_11, off := off : Addr } ∧
      ((0 :
      Int) ≤
      (↑a_33.k :
      Int) ∧
      (↑a_33.k :
      Int) <
      (↑la.length :
      Int)) ∧
      ∃
      (b_12
      :
      Bool),
      CellsAt
      m'
      b_11
      (off +
      (↑a_33.k :
      Int).toNat *
      (7 :
      Nat) +
      (2 :
      Nat))
      [Value.bool
      b_12] ∧
      ifB
      (!b_12)
      (∃
      (b_13
      :
      Nat),
      ∃
      (off
      :
      Nat),
      a =
      some
      { block := b_13, off := off : Addr } ∧
      ((0 :
      Int) ≤
      (↑a_33.k :
      Int) ∧
      (↑a_33.k :
      Int) <
      (↑la.length :
      Int)) ∧
      ∃
      (n
      :
      Int),
      ∃
      (n_44
      :
      Int),
      ∃
      (n_45
      :
      Int),
      ∃
      (n_46
      :
      Int),
      CellsAt
      m'
      b_13
      (off +
      (↑a_33.k :
      Int).toNat *
      (7 :
      Nat) +
      (3 :
      Nat))
      [Value.int
      IntKind.i64
      n,
      Value.int
      IntKind.i64
      n_44,
      Value.int
      IntKind.i64
      n_45,
      Value.int
      IntKind.i64
      n_46] ∧
      ifB
      (!(n_40 ==
      n &&
      (n_41 ==
      n_44 &&
      (n_42 ==
      n_45 &&
      (n_43 ==
      n_46 &&
      true)))))
      (Done
      (Value.bool
      true =
      Value.bool
      true))
      (∃
      (a'
      :
      SlX),
      ((SlI
      a
      b
      la
      lb
      a' ∧
      N ≤
      a'.m.sz) ∧
      m' =
      a'.m ∧
      ((SV.val
      (Value.int
      IntKind.i64
      (IntKind.i64.wrap
      ((↑a_33.k :
      Int) +
      (1 :
      Int)))) =
      SV.val
      (Value.int
      IntKind.i64
      (↑a'.k :
      Int)) ∧
      true =
      true) ∧
      (SV.val
      (Value.slice
      a
      la.length
      ca) =
      SV.val
      (Value.slice
      a
      la.length
      ca) ∧
      true =
      true) ∧
      (SV.val
      (Value.slice
      b
      lb.length
      cb) =
      SV.val
      (Value.slice
      b
      lb.length
      cb) ∧
      true =
      true) ∧
      (SV.val
      (Value.slice
      a_33.ab
      (foldM
      la
      lb).length
      a_33.cab) =
      SV.val
      (Value.slice
      a'.ab
      (foldM
      la
      lb).length
      a'.cab) ∧
      true =
      true) ∧
      (SV.val
      (Value.slice
      a_33.ba
      (foldM
      lb
      la).length
      a_33.cba) =
      SV.val
      (Value.slice
      a'.ba
      (foldM
      lb
      la).length
      a'.cba) ∧
      true =
      true) ∧
      True) ∧
      True) ∧
      la.length -
      a'.k <
      la.length -
      a_33.k))
      (∃
      (a'
      :
      SlX),
      ((SlI
      a
      b
      la
      lb
      a' ∧
      N ≤
      a'.m.sz) ∧
      m' =
      a'.m ∧
      ((SV.val
      (Value.int
      IntKind.i64
      (IntKind.i64.wrap
      ((↑a_33.k :
      Int) +
      (1 :
      Int)))) =
      SV.val
      (Value.int
      IntKind.i64
      (↑a'.k :
      Int)) ∧
      true =
      true) ∧
      (SV.val
      (Value.slice
      a
      la.length
      ca) =
      SV.val
      (Value.slice
      a
      la.length
      ca) ∧
      true =
      true) ∧
      (SV.val
      (Value.slice
      b
      lb.length
      cb) =
      SV.val
      (Value.slice
      b
      lb.length
      cb) ∧
      true =
      true) ∧
      (SV.val
      (Value.slice
      a_33.ab
      (foldM
      la
      lb).length
      a_33.cab) =
      SV.val
      (Value.slice
      a'.ab
      (foldM
      la
      lb).length
      a'.cab) ∧
      true =
      true) ∧
      (SV.val
      (Value.slice
      a_33.ba
      (foldM
      lb
      la).length
      a_33.cba) =
      SV.val
      (Value.slice
      a'.ba
      (foldM
      lb
      la).length
      a'.cba) ∧
      true =
      true) ∧
      True) ∧
      True) ∧
      la.length -
      a'.k <
      la.length -
      a_33.k))
      (∃
      (a'
      :
      SlX),
      ((SlI
      a
      b
      la
      lb
      a' ∧
      N ≤
      a'.m.sz) ∧
      m' =
      a'.m ∧
      ((SV.val
      (Value.int
      IntKind.i64
      (IntKind.i64.wrap
      ((↑a_33.k :
      Int) +
      (1 :
      Int)))) =
      SV.val
      (Value.int
      IntKind.i64
      (↑a'.k :
      Int)) ∧
      true =
      true) ∧
      (SV.val
      (Value.slice
      a
      la.length
      ca) =
      SV.val
      (Value.slice
      a
      la.length
      ca) ∧
      true =
      true) ∧
      (SV.val
      (Value.slice
      b
      lb.length
      cb) =
      SV.val
      (Value.slice
      b
      lb.length
      cb) ∧
      true =
      true) ∧
      (SV.val
      (Value.slice
      a_33.ab
      (foldM
      la
      lb).length
      a_33.cab) =
      SV.val
      (Value.slice
      a'.ab
      (foldM
      la
      lb).length
      a'.cab) ∧
      true =
      true) ∧
      (SV.val
      (Value.slice
      a_33.ba
      (foldM
      lb
      la).length
      a_33.cba) =
      SV.val
      (Value.slice
      a'.ba
      (foldM
      lb
      la).length
      a'.cba) ∧
      true =
      true) ∧
      True) ∧
      True) ∧
      la.length -
      a'.k <
      la.length -
      a_33.k))
      (∃
      (a'
      :
      SlX),
      ((SlI
      a
      b
      la
      lb
      a' ∧
      N ≤
      a'.m.sz) ∧
      m' =
      a'.m ∧
      ((SV.val
      (Value.int
      IntKind.i64
      (IntKind.i64.wrap
      ((↑a_33.k :
      Int) +
      (1 :
      Int)))) =
      SV.val
      (Value.int
      IntKind.i64
      (↑a'.k :
      Int)) ∧
      true =
      true) ∧
      (SV.val
      (Value.slice
      a
      la.length
      ca) =
      SV.val
      (Value.slice
      a
      la.length
      ca) ∧
      true =
      true) ∧
      (SV.val
      (Value.slice
      b
      lb.length
      cb) =
      SV.val
      (Value.slice
      b
      lb.length
      cb) ∧
      true =
      true) ∧
      (SV.val
      (Value.slice
      a_33.ab
      (foldM
      la
      lb).length
      a_33.cab) =
      SV.val
      (Value.slice
      a'.ab
      (foldM
      la
      lb).length
      a'.cab) ∧
      true =
      true) ∧
      (SV.val
      (Value.slice
      a_33.ba
      (foldM
      lb
      la).length
      a_33.cba) =
      SV.val
      (Value.slice
      a'.ba
      (foldM
      lb
      la).length
      a'.cba) ∧
      true =
      true) ∧
      True) ∧
      True) ∧
      la.length -
      a'.k <
      la.length -
      a_33.k))
      (∃
      (a'
      :
      SlX),
      ((SlI
      a
      b
      la
      lb
      a' ∧
      N ≤
      a'.m.sz) ∧
      m' =
      a'.m ∧
      ((SV.val
      (Value.int
      IntKind.i64
      (IntKind.i64.wrap
      ((↑a_33.k :
      Int) +
      (1 :
      Int)))) =
      SV.val
      (Value.int
      IntKind.i64
      (↑a'.k :
      Int)) ∧
      true =
      true) ∧
      (SV.val
      (Value.slice
      a
      la.length
      ca) =
      SV.val
      (Value.slice
      a
      la.length
      ca) ∧
      true =
      true) ∧
      (SV.val
      (Value.slice
      b
      lb.length
      cb) =
      SV.val
      (Value.slice
      b
      lb.length
      cb) ∧
      true =
      true) ∧
      (SV.val
      (Value.slice
      a_33.ab
      (foldM
      la
      lb).length
      a_33.cab) =
      SV.val
      (Value.slice
      a'.ab
      (foldM
      la
      lb).length
      a'.cab) ∧
      true =
      true) ∧
      (SV.val
      (Value.slice
      a_33.ba
      (foldM
      lb
      la).length
      a_33.cba) =
      SV.val
      (Value.slice
      a'.ba
      (foldM
      lb
      la).length
      a'.cba) ∧
      true =
      true) ∧
      True) ∧
      True) ∧
      la.length -
      a'.k <
      la.length -
      a_33.k)) ∧
      True)
      (∃
      (b
      :
      Bool),
      QSpec
      Try.prog
      (14 :
      Nat)
      [Value.slice
      a_33.ab
      (foldM
      la
      lb).length
      a_33.cab,
      Value.slice
      a_33.ba
      (foldM
      lb
      la).length
      a_33.cba]
      a_33.m
      (Value.bool
      b) ∧
      Done
      (Value.bool
      b =
      Value.bool
      true))))))))))))))) (by kernel_rfl) ?_
  have R : Rs { m with sz := N } [(a, mks la), (b, mks lb), (c, mks lc)] := ⟨ha.sz hN, hb.sz hN, hc.sz hN, trivial⟩
  refine ⟨rfl, _, awake_q _, ifB_false ⟨_, rright_q a ca la hla _ R.1, ?_⟩⟩
  cases ea : tabB 0 la
  · exact ifB_true ⟨rfl⟩
  refine ifB_false ⟨_, rright_q b cb lb hlb _ R.2.1, ?_⟩
  cases eb : tabB 0 lb
  · exact ifB_true ⟨rfl⟩
  refine ifB_false ⟨_, rright_q c cc lc hlc _ R.2.2.1, ?_⟩
  cases ec : tabB 0 lc
  · exact ifB_true ⟨rfl⟩
  have na := tab8 ea
  have nb := tab8 eb
  have nc := tab8 ec
  have j1 : joinM la la = (foldM la la, 0) := by simp [joinM, ea]
  have j2 : joinM la lb = (foldM la lb, 0) := by simp [joinM, ea, eb]
  have j3 : joinM lb la = (foldM lb la, 0) := by simp [joinM, ea, eb]
  have j4 : joinM lb lc = (foldM lb lc, 0) := by simp [joinM, eb, ec]
  have eab := fold_ok ea eb
  have ebc := fold_ok eb ec
  have nab := tab8 eab
  have nbc := tab8 ebc
  have j5 : joinM (foldM la lb) lc = (foldM (foldM la lb) lc, 0) := by simp [joinM, eab, ec]
  have j6 : joinM la (foldM lb lc) = (foldM la (foldM lb lc), 0) := by simp [joinM, ea, ebc]
  have s1 : foldM la la = la := tab_ext (fold_ok ea ea) ea fun c => by rw [fold_at ea ea, joinO_self]
  have s2 : foldM (foldM la lb) lc = foldM la (foldM lb lc) := tab_ext (fold_ok eab ec) (fold_ok ea ebc) fun c => by rw [fold_at eab ec, fold_at ea eb, fold_at ea ebc, fold_at eb ec, joinO_assoc]
  refine ifB_false ?_
  refine ⟨_, noS, fun N1 hN1 => (own_s _ _ la (by omega) _ ((R.sz hN1).1)).monoW fun v1 m1 ag1 q1 => ?_⟩
  obtain ⟨b1, e1, r1⟩ := q1
  refine ⟨_, _, _, e1, ?_⟩
  have R1 := Rs.cons r1 (Rs.step R hN1 ag1)
  refine ⟨_, noS, fun N2 hN2 => (own_s _ _ la (by omega) _ ((R1.sz hN2).2.1)).monoW fun v2 m2 ag2 q2 => ?_⟩
  obtain ⟨b2, e2, r2⟩ := q2
  refine ⟨_, _, _, e2, ?_⟩
  have R2 := Rs.cons r2 (Rs.step R1 hN2 ag2)
  refine ⟨_, noS, fun N3 hN3 => (sjoin_s _ _ _ _ la la (by omega) (by omega) _ ((R2.sz hN3).2.1.take) ((R2.sz hN3).1.take)).monoW fun v3 m3 ag3 q3 => ?_⟩
  obtain ⟨x3, y3, e3, r3⟩ := q3
  refine ⟨_, _, _, _, e3, ?_⟩
  have R3 := Rs.cons r3 (Rs.step R2 hN3 ag3)
  rw [j1] at R3 ⊢
  refine ⟨_, noS, fun N4 hN4 => (own_s _ _ la (by omega) _ ((R3.sz hN4).2.2.2.1)).monoW fun v4 m4 ag4 q4 => ?_⟩
  obtain ⟨b4, e4, r4⟩ := q4
  refine ⟨_, _, _, e4, ?_⟩
  have R4 := Rs.cons r4 (Rs.step R3 hN4 ag4)
  refine ⟨_, noS, fun N5 hN5 => (own_s _ _ lb (by omega) _ ((R4.sz hN5).2.2.2.2.2.1)).monoW fun v5 m5 ag5 q5 => ?_⟩
  obtain ⟨b5, e5, r5⟩ := q5
  refine ⟨_, _, _, e5, ?_⟩
  have R5 := Rs.cons r5 (Rs.step R4 hN5 ag5)
  refine ⟨_, noS, fun N6 hN6 => (sjoin_s _ _ _ _ la lb (by omega) (by omega) _ ((R5.sz hN6).2.1.take) ((R5.sz hN6).1.take)).monoW fun v6 m6 ag6 q6 => ?_⟩
  obtain ⟨x6, y6, e6, r6⟩ := q6
  refine ⟨_, _, _, _, e6, ?_⟩
  have R6 := Rs.cons r6 (Rs.step R5 hN6 ag6)
  rw [j2] at R6 ⊢
  refine ⟨_, noS, fun N7 hN7 => (own_s _ _ lb (by omega) _ ((R6.sz hN7).2.2.2.2.2.2.2.1)).monoW fun v7 m7 ag7 q7 => ?_⟩
  obtain ⟨b7, e7, r7⟩ := q7
  refine ⟨_, _, _, e7, ?_⟩
  have R7 := Rs.cons r7 (Rs.step R6 hN7 ag7)
  refine ⟨_, noS, fun N8 hN8 => (own_s _ _ la (by omega) _ ((R7.sz hN8).2.2.2.2.2.2.2.1)).monoW fun v8 m8 ag8 q8 => ?_⟩
  obtain ⟨b8, e8, r8⟩ := q8
  refine ⟨_, _, _, e8, ?_⟩
  have R8 := Rs.cons r8 (Rs.step R7 hN8 ag8)
  refine ⟨_, noS, fun N9 hN9 => (sjoin_s _ _ _ _ lb la (by omega) (by omega) _ ((R8.sz hN9).2.1.take) ((R8.sz hN9).1.take)).monoW fun v9 m9 ag9 q9 => ?_⟩
  obtain ⟨x9, y9, e9, r9⟩ := q9
  refine ⟨_, _, _, _, e9, ?_⟩
  have R9 := Rs.cons r9 (Rs.step R8 hN9 ag9)
  rw [j3] at R9 ⊢
  refine ⟨_, noS, fun N10 hN10 => (own_s _ _ lb (by omega) _ ((R9.sz hN10).2.2.2.2.2.2.2.2.2.2.1)).monoW fun v10 m10 ag10 q10 => ?_⟩
  obtain ⟨b10, e10, r10⟩ := q10
  refine ⟨_, _, _, e10, ?_⟩
  have R10 := Rs.cons r10 (Rs.step R9 hN10 ag10)
  refine ⟨_, noS, fun N11 hN11 => (own_s _ _ lc (by omega) _ ((R10.sz hN11).2.2.2.2.2.2.2.2.2.2.2.2.1)).monoW fun v11 m11 ag11 q11 => ?_⟩
  obtain ⟨b11, e11, r11⟩ := q11
  refine ⟨_, _, _, e11, ?_⟩
  have R11 := Rs.cons r11 (Rs.step R10 hN11 ag11)
  refine ⟨_, noS, fun N12 hN12 => (sjoin_s _ _ _ _ lb lc (by omega) (by omega) _ ((R11.sz hN12).2.1.take) ((R11.sz hN12).1.take)).monoW fun v12 m12 ag12 q12 => ?_⟩
  obtain ⟨x12, y12, e12, r12⟩ := q12
  refine ⟨_, _, _, _, e12, ?_⟩
  have R12 := Rs.cons r12 (Rs.step R11 hN12 ag12)
  rw [j4] at R12 ⊢
  refine ⟨_, noS, fun N13 hN13 => (own_s _ _ lc (by omega) _ ((R12.sz hN13).2.2.2.2.2.2.2.2.2.2.2.2.2.2.1)).monoW fun v13 m13 ag13 q13 => ?_⟩
  obtain ⟨b13, e13, r13⟩ := q13
  refine ⟨_, _, _, e13, ?_⟩
  have R13 := Rs.cons r13 (Rs.step R12 hN13 ag13)
  refine ⟨_, noS, fun N14 hN14 => (sjoin_s _ _ _ _ (foldM la lb) lc (by omega) (by omega) _ ((R13.sz hN14).2.2.2.2.2.2.2.1) ((R13.sz hN14).1.take)).monoW fun v14 m14 ag14 q14 => ?_⟩
  obtain ⟨x14, y14, e14, r14⟩ := q14
  refine ⟨_, _, _, _, e14, ?_⟩
  have R14 := Rs.cons r14 (Rs.step R13 hN14 ag14)
  rw [j5] at R14 ⊢
  refine ⟨_, noS, fun N15 hN15 => (own_s _ _ la (by omega) _ ((R14.sz hN15).2.2.2.2.2.2.2.2.2.2.2.2.2.2.1)).monoW fun v15 m15 ag15 q15 => ?_⟩
  obtain ⟨b15, e15, r15⟩ := q15
  refine ⟨_, _, _, e15, ?_⟩
  have R15 := Rs.cons r15 (Rs.step R14 hN15 ag15)
  refine ⟨_, noS, fun N16 hN16 => (sjoin_s _ _ _ _ la (foldM lb lc) (by omega) (by omega) _ ((R15.sz hN16).1.take) ((R15.sz hN16).2.2.2.1)).monoW fun v16 m16 ag16 q16 => ?_⟩
  obtain ⟨x16, y16, e16, r16⟩ := q16
  refine ⟨_, _, _, _, e16, ?_⟩
  have R16 := Rs.cons r16 (Rs.step R15 hN16 ag16)
  rw [j6] at R16 ⊢
  rw [s1, s2]
  rw [s1, s2] at R16
  simp only [bne_self_eq_false, beq_self_eq_true, Bool.not_true, Bool.not_false, Bool.and_self, Bool.and_true, decide_true]
  refine ifB_false (ifB_false (ifB_false (ifB_false (ifB_false (ifB_false ⟨_, mk_plain _ _ _ _ _ _ (by omega) _ (R16.2.2.2.2.2.2.2.2.2.2.2.2.2.1) (R16.2.2.2.2.2.2.2.2.2.2.2.2.2.2.2.2.1), ?_⟩)))))
  simp only [bne_self_eq_false, beq_self_eq_true, Bool.not_true, Bool.not_false, Bool.and_self, Bool.and_true, decide_true]
  refine ifB_false ⟨_, mk_plain _ _ _ _ _ _ (by have := tab8 (fold_ok ea ebc); omega) _ (R16.2.2.1) (R16.1), ?_⟩
  simp only [bne_self_eq_false, beq_self_eq_true, Bool.not_true, Bool.not_false, Bool.and_self, Bool.and_true, decide_true]
  refine ifB_false ?_
  have fit : SlI a b la lb ⟨0, x6, y6, x9, y9, m16⟩ := ⟨Nat.zero_le _, ⟨(R16.2.2.2.2.2.2.2.2.2.2.1), (R16.2.2.2.2.2.2.2.1), (R16.2.2.2.2.2.2.2.2.2.2.2.2.2.2.2.2.1), (R16.2.2.2.2.2.2.2.2.2.2.2.2.2.2.2.2.2.1), trivial⟩, fun x hx => (by simp at hx)⟩
  refine ⟨⟨⟨0, x6, y6, x9, y9, m16⟩, ⟨fit, ?_⟩, rfl, by simp⟩, fun y ⟨Y, hy⟩ => ifB_intro (fun h1 => ?_) (fun h1 => ?_)⟩
  · simp only; (have : N1 ≤ m1.sz := ag1.2.2; have : N ≤ N1 := hN1; have : N2 ≤ m2.sz := ag2.2.2; have : m1.sz ≤ N2 := hN2; have : N3 ≤ m3.sz := ag3.2.2; have : m2.sz ≤ N3 := hN3; have : N4 ≤ m4.sz := ag4.2.2; have : m3.sz ≤ N4 := hN4; have : N5 ≤ m5.sz := ag5.2.2; have : m4.sz ≤ N5 := hN5; have : N6 ≤ m6.sz := ag6.2.2; have : m5.sz ≤ N6 := hN6; have : N7 ≤ m7.sz := ag7.2.2; have : m6.sz ≤ N7 := hN7; have : N8 ≤ m8.sz := ag8.2.2; have : m7.sz ≤ N8 := hN8; have : N9 ≤ m9.sz := ag9.2.2; have : m8.sz ≤ N9 := hN9; have : N10 ≤ m10.sz := ag10.2.2; have : m9.sz ≤ N10 := hN10; have : N11 ≤ m11.sz := ag11.2.2; have : m10.sz ≤ N11 := hN11; have : N12 ≤ m12.sz := ag12.2.2; have : m11.sz ≤ N12 := hN12; have : N13 ≤ m13.sz := ag13.2.2; have : m12.sz ≤ N13 := hN13; have : N14 ≤ m14.sz := ag14.2.2; have : m13.sz ≤ N14 := hN14; have : N15 ≤ m15.sz := ag15.2.2; have : m14.sz ≤ N15 := hN15; have : N16 ≤ m16.sz := ag16.2.2; have : m15.sz ≤ N16 := hN16; omega)
  · have hk2 : y.k < la.length := by simpa using h1
    obtain ⟨b1, o, rfl, hcc⟩ := Y.rs.2.2.1.cells (by rw [mk_len]; omega)
    have w1 : IntKind.i64.wrap ((y.k : Int) + 1) = ((y.k + 1 : Nat) : Int) := by simp [IntKind.wrap_i64]; omega
    have f0 := CellsAt.field mk_k hcc hk2 (p := []) (old := [I la[y.k].cl]) (q := [I la[y.k].sq, .bool la[y.k].op, I la[y.k].an_er, I la[y.k].an_va, I la[y.k].an_le, I la[y.k].an_mo]) rfl
    have hf : findO lb la[y.k].cl = ofM lb la[y.k].cl := by simp [findO, eb]
    refine ⟨trivial, b1, o, rfl, by omega, _, by simpa using f0, ⟨_, noS, fun N2 hN2 => (own_s b cb lb (by omega) _ (Y.rs.sz hN2).2.2.2.1).monoW fun v2 m2 ag2 q2 => ?_⟩, ?_⟩
    · obtain ⟨b2, e2, r2⟩ := q2
      refine ⟨_, _, _, e2, MLe.ofAgree hN2 ag2, ?_⟩
      have R2 := Y.rs.step hN2 ag2
      have hsz : N2 ≤ m2.sz := ag2.2.2
      have hsz2 : y.m.sz ≤ N2 := hN2
      obtain ⟨b1', o', e1', hcc⟩ := R2.2.2.1.cells (by rw [mk_len]; omega)
      cases e1'
      have nxt : noC lb la[y.k] → SlI (some ⟨b1, o, none⟩) b la lb ⟨y.k + 1, y.ab, y.cab, y.ba, y.cba, m2⟩ := fun hc => ⟨hk2, R2, fun x hx => by
        rw [List.take_succ_eq_append_getElem hk2, List.mem_append] at hx
        rcases hx with hx | hx
        · exact Y.nc x hx
        · have hx : x = la[y.k] := by simpa using hx
          subst hx; exact hc⟩
      have f1 := CellsAt.field mk_k hcc hk2 (p := [I la[y.k].cl]) (old := [I la[y.k].sq]) (q := [.bool la[y.k].op, I la[y.k].an_er, I la[y.k].an_va, I la[y.k].an_le, I la[y.k].an_mo]) rfl
      have f2 := CellsAt.field mk_k hcc hk2 (p := [I la[y.k].cl, I la[y.k].sq]) (old := [.bool la[y.k].op]) (q := [I la[y.k].an_er, I la[y.k].an_va, I la[y.k].an_le, I la[y.k].an_mo]) rfl
      have f3 := CellsAt.field mk_k hcc hk2 (p := [I la[y.k].cl, I la[y.k].sq, .bool la[y.k].op]) (old := [I la[y.k].an_er, I la[y.k].an_va, I la[y.k].an_le, I la[y.k].an_mo]) (q := []) rfl
      refine ⟨_, _, _, _, _, _, _, _, find_q _ _ lb la[y.k].cl (by omega) _ r2.take, ?_⟩
      rw [hf]
      cases ho : ofM lb la[y.k].cl with
      | none =>
        refine ⟨trivial, ifB_false ?_⟩
        exact ⟨⟨y.k + 1, y.ab, y.cab, y.ba, y.cba, m2⟩, ⟨⟨nxt fun z hz => (by rw [ho] at hz; cases hz), by simp only; omega⟩, rfl, by simp [w1]⟩, by simp only; omega⟩
      | some z =>
        refine ⟨trivial, ifB_true ⟨b1, o, rfl, by omega, _, by simpa using f1, ifB_intro (fun q1 => ifB_intro (fun q2 => ⟨b1, o, rfl, by omega, _, by simpa using f2, ifB_intro (fun q3 => ⟨b1, o, rfl, by omega, _, _, _, _, by simpa using f3, ifB_intro (fun q4 => ⟨trivial⟩) (fun q4 => ?n1)⟩) (fun q3 => ?n2)⟩) (fun q2 => ?n3)) (fun q1 => ?n4)⟩⟩
        case n1 | n2 | n3 | n4 =>
          refine ⟨⟨y.k + 1, y.ab, y.cab, y.ba, y.cba, m2⟩, ⟨⟨nxt fun z' hz c1 c2 c3 => ?_, by simp only; omega⟩, rfl, by simp [w1]⟩, by simp only; omega⟩
          rw [ho] at hz; cases hz
          first
            | (simp [c1] at q1; done)
            | (simp [c2] at q2; done)
            | (simp [c3] at q3; done)
            | (simp at q4; simp [sameA, q4])
    · trivial
  · have hk : y.k = la.length := by have := Y.k; simp at h1; omega
    have hnc := Y.nc
    rw [hk, List.take_length] at hnc
    have e := comm_law ea eb hnc
    refine ⟨_, mk_plain _ _ _ _ _ _ (by omega) _ Y.rs.1 Y.rs.2.1, ⟨?_⟩⟩
    simp [e]

end Go.Proofs.Ytpfiodchlbofmaa
