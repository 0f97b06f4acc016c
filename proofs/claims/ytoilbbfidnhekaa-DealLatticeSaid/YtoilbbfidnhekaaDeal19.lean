/-
  Contracts of functions of this seat: what each hands back, and what it leaves of memory (deal19). Nothing here is trusted: Lean checks it.
-/
import Derived.Test.YtoilbbfidnhekaaDeal18
set_option linter.unusedVariables false
set_option linter.unusedSimpArgs false
namespace Go.Proofs.Ytoilbbfidnhekaa
open Go.Vc Go.RowKit
set_option maxRecDepth 100000

structure LaX where
  k : Nat
  ab : Option Addr
  cb : Nat
  ar : Option Addr
  cr : Nat
  m : M

structure LaI (a b : List En) (c s : Int) (m : M) (y : LaX) : Prop where
  k : y.k ≤ a.length
  ab : Row y.m y.ab (ens (foldE a b))
  ar : Row y.m y.ar (ens (raiseE a c s).1)
  ag : Agree m.sz m y.m

def laAnn (a : Option Addr) (cp : Nat) (la lb : List En) (c s : Int) (m : M) : Nat → Ann
  | 16 => {
    A := LaX
    inv := fun y => LaI la lb c s m y ∧ y.k = 0
    st := fun y => [(0, .val (.slice a la.length cp)), (11, .val (.slice y.ab (foldE la lb).length y.cb)), (24, .val (I (raiseE la c s).2)), (23, .val (.slice y.ar (raiseE la c s).1.length y.cr))]
    own := fun _ => []
    m := fun y => y.m
    μ := fun _ => 0
    cut := true }
  | _ => {
    A := LaX
    inv := LaI la lb c s m
    st := fun y => [(25, .val (I y.k)), (0, .val (.slice a la.length cp)), (11, .val (.slice y.ab (foldE la lb).length y.cb)), (24, .val (I (raiseE la c s).2)), (23, .val (.slice y.ar (raiseE la c s).1.length y.cr))]
    own := fun _ => []
    m := fun y => y.m
    μ := fun y => la.length - y.k }

set_option maxHeartbeats 1000000 in
theorem deallattice (a b c : Option Addr) (ca cb cc : Nat) (la lb lc : List En) (cl s : Int) (hla : la.length ≤ 9223372036854775807) (hlb : lb.length ≤ 9223372036854775807) (hlc : lc.length ≤ 9223372036854775807) (m : M) (ha : Row m a (ens la)) (hb : Row m b (ens lb)) (hc : Row m c (ens lc)) :
    QSpec Try.prog 7 [.slice a la.length ca, .slice b lb.length cb, .slice c lc.length cc, I cl, I s] m (.bool true) := by
  refine QSpec.of_vc Try.func7 (ann := fun n => laAnn a ca la lb cl s { m with sz := n }) fun N hN => ?_
  refine vc_by (X :=
      true = true ∧
      ∃ (b_1 : Bool),
      QSpec Try.prog (15 : Nat) [] { π := m.π, sz := N, uf := m.uf : M } (Value.bool b_1) ∧
      ifB (!b_1) (Done (Value.bool false = Value.bool true))
      (∃ (b_2 : Bool),
      QSpec Try.prog (26 : Nat) [Value.slice a la.length ca] { π := m.π, sz := N, uf := m.uf : M } (Value.bool b_2) ∧
      ifB (!b_2) (Done (Value.bool true = Value.bool true))
      (∃ (b_3 : Bool),
      QSpec Try.prog (26 : Nat) [Value.slice b lb.length cb] { π := m.π, sz := N, uf := m.uf : M } (Value.bool b_3) ∧
      ifB (!b_3) (Done (Value.bool true = Value.bool true))
      (∃ (b_4 : Bool),
      QSpec Try.prog (26 : Nat) [Value.slice c lc.length cc] { π := m.π, sz := N, uf := m.uf : M } (Value.bool b_4) ∧
      ifB (!b_4) (Done (Value.bool true = Value.bool true))
      (∃ (S' : Nat → Prop),
      (∀ (b : Nat), S' b → m.uf b ∧ (N ≤ b ∨ False)) ∧
      ∀ (n : Nat),
      N ≤ n →
      SpecW Try.prog (29 : Nat) [Value.slice a la.length ca, Value.slice b lb.length cb] { π := m.π, sz := n, uf := m.uf : M } S'
      fun (v : Value) (m' : M) =>
      ∃ (a_2 : Option Addr),
      ∃ (n : Nat),
      ∃ (c_1 : Nat),
      ∃ (n_1 : Int),
      v = Value.tuple #[Value.slice a_2 n c_1, Value.int IntKind.i64 n_1] ∧
      ∃ (S' : Nat → Prop),
      (∀ (b : Nat), S' b → m'.uf b ∧ (N ≤ b ∨ False)) ∧
      ∀ (n_2 : Nat),
      m'.sz ≤ n_2 →
      SpecW Try.prog (29 : Nat) [Value.slice b lb.length cb, Value.slice a la.length ca] { π := m'.π, sz := n_2, uf := m'.uf : M }
      S' fun (v : Value) (m' : M) =>
      ∃ (a_4 : Option Addr),
      ∃ (n_3 : Nat),
      ∃ (c_2 : Nat),
      ∃ (n_4 : Int),
      v = Value.tuple #[Value.slice a_4 n_3 c_2, Value.int IntKind.i64 n_4] ∧
      ∃ (S' : Nat → Prop),
      (∀ (b : Nat), S' b → m'.uf b ∧ (N ≤ b ∨ False)) ∧
      ∀ (n_5 : Nat),
      m'.sz ≤ n_5 →
      SpecW Try.prog (29 : Nat) [Value.slice a la.length ca, Value.slice a la.length ca]
      { π := m'.π, sz := n_5, uf := m'.uf : M } S' fun (v : Value) (m' : M) =>
      ∃ (a_6 : Option Addr),
      ∃ (n_6 : Nat),
      ∃ (c_3 : Nat),
      ∃ (n_7 : Int),
      v = Value.tuple #[Value.slice a_6 n_6 c_3, Value.int IntKind.i64 n_7] ∧
      ∃ (S' : Nat → Prop),
      (∀ (b : Nat), S' b → m'.uf b ∧ (N ≤ b ∨ False)) ∧
      ∀ (n_8 : Nat),
      m'.sz ≤ n_8 →
      SpecW Try.prog (29 : Nat) [Value.slice b lb.length cb, Value.slice c lc.length cc]
      { π := m'.π, sz := n_8, uf := m'.uf : M } S' fun (v : Value) (m' : M) =>
      ∃ (a_8 : Option Addr),
      ∃ (n_9 : Nat),
      ∃ (c_4 : Nat),
      ∃ (n_10 : Int),
      v = Value.tuple #[Value.slice a_8 n_9 c_4, Value.int IntKind.i64 n_10] ∧
      ∃ (S' : Nat → Prop),
      (∀ (b : Nat), S' b → m'.uf b ∧ (N ≤ b ∨ False)) ∧
      ∀ (n_11 : Nat),
      m'.sz ≤ n_11 →
      SpecW Try.prog (29 : Nat)
      [Value.slice a_2 n c_1, Value.slice c lc.length cc]
      { π := m'.π, sz := n_11, uf := m'.uf : M } S'
      fun (v : Value) (m' : M) =>
      ∃ (a_10 : Option Addr),
      ∃ (n_12 : Nat),
      ∃ (c : Nat),
      ∃ (n_13 : Int),
      v =
      Value.tuple
      #[Value.slice a_10 n_12 c,
      Value.int IntKind.i64 n_13] ∧
      ∃ (S' : Nat → Prop),
      (∀ (b : Nat), S' b → m'.uf b ∧ (N ≤ b ∨ False)) ∧
      ∀ (n_14 : Nat),
      m'.sz ≤ n_14 →
      SpecW Try.prog (29 : Nat)
      [Value.slice a la.length ca,
      Value.slice a_8 n_9 c_4]
      { π := m'.π, sz := n_14, uf := m'.uf : M }
      S' fun (v : Value) (m' : M) =>
      ∃ (a_12 : Option Addr),
      ∃ (n_15 : Nat),
      ∃ (c_5 : Nat),
      ∃ (n_16 : Int),
      v =
      Value.tuple
      #[Value.slice a_12 n_15 c_5,
      Value.int IntKind.i64
      n_16] ∧
      ∃ (S' : Nat → Prop),
      (∀ (b : Nat),
      S' b →
      m'.uf b ∧
      (N ≤ b ∨ False)) ∧
      ∀ (n_17 : Nat),
      m'.sz ≤ n_17 →
      SpecW Try.prog (27 : Nat)
      [Value.slice a la.length
      ca,
      Value.int IntKind.i64
      cl,
      Value.int IntKind.i64
      s]
      { π := m'.π, sz := n_17, uf := m'.uf : M }
      S'
      fun (v : Value)
      (m' : M) =>
      ∃ (a_14 : Option Addr),
      ∃ (n_18 : Nat),
      ∃ (c_6 : Nat),
      ∃ (n_19 : Int),
      v =
      Value.tuple
      #[Value.slice
      a_14
      n_18
      c_6,
      Value.int
      IntKind.i64
      n_19] ∧
      ifB
      (n_1 !=
      (0 : Int))
      (Done
      (Value.bool
      false =
      Value.bool
      true))
      (ifB
      (n_4 !=
      n_1)
      (Done
      (Value.bool
      false =
      Value.bool
      true))
      (ifB
      (n_7 !=
      n_1)
      (Done
      (Value.bool
      false =
      Value.bool
      true))
      (ifB
      (n_10 !=
      n_1)
      (Done
      (Value.bool
      false =
      Value.bool
      true))
      (ifB
      (n_13 !=
      n_1)
      (Done
      (Value.bool
      false =
      Value.bool
      true))
      (ifB
      (n_16 !=
      n_1)
      (Done
      (Value.bool
      false =
      Value.bool
      true))
      (∃
      (b
      :
      Bool),
      QSpec
      Try.prog
      (32 :
      Nat)
      [Value.slice
      a_2
      n
      c_1,
      Value.slice
      a_4
      n_3
      c_2]
      m'
      (Value.bool
      b) ∧
      ifB
      (!b)
      (Done
      (Value.bool
      false =
      Value.bool
      true))
      (∃
      (b
      :
      Bool),
      QSpec
      Try.prog
      (32 :
      Nat)
      [Value.slice
      a_6
      n_6
      c_3,
      Value.slice
      a
      la.length
      ca]
      m'
      (Value.bool
      b) ∧
      ifB
      (!b)
      (Done
      (Value.bool
      false =
      Value.bool
      true))
      (∃
      (b
      :
      Bool),
      QSpec
      Try.prog
      (32 :
      Nat)
      [Value.slice
      a_10
      n_12
      c,
      Value.slice
      a_12
      n_15
      c_5]
      m'
      (Value.bool
      b) ∧
      ifB
      (!b)
      (Done
      (Value.bool
      false =
      Value.bool
      true))
      (ifB
      (n_19 ==
      (0 :
      Int))
      (∃
      (b
      :
      Bool),
      QSpec
      Try.prog
      (33 :
      Nat)
      [Value.slice
      a_14
      n_18
      c_6,
      Value.int
      IntKind.i64
      cl,
      Value.int
      IntKind.i64
      s]
      m'
      (Value.bool
      b) ∧
      ifB
      (!b)
      (Done
      (Value.bool
      false =
      Value.bool
      true))
      (∃
      (b
      :
      Bool),
      QSpec
      Try.prog
      (33 :
      Nat)
      [Value.slice
      a
      la.length
      ca,
      Value.int
      IntKind.i64
      cl,
      Value.int
      IntKind.i64
      s]
      m'
      (Value.bool
      b) ∧
      ifB
      b
      (∃
      (b
      :
      Bool),
      QSpec
      Try.prog
      (33 :
      Nat)
      [Value.slice
      a_2
      n
      c_1,
      Value.int
      IntKind.i64
      cl,
      Value.int
      IntKind.i64
      s]
      m'
      (Value.bool
      b) ∧
      ifB
      (!b)
      (Done
      (Value.bool
      false =
      Value.bool
      true))
      (∃
      (x
      :
      LaX),
      (LaI
      la
      lb
      cl
      s
      { π := m.π, sz := N, uf := m.uf : M }
      x ∧
      x.k =
      (0 :
      Nat)) ∧
      m' =
      x.m ∧
      ((SV.val
      (Value.slice
      a
      la.length
      ca) =
      SV.val
      (Value.slice
      a
      la.length
      ca) ∧
      true =
      true) ∧
      (SV.val
      (Value.slice
      a_2
      n
      c_1) =
      SV.val
      (Value.slice
      x.ab
      (foldE
      la
      lb).length
      x.cb) ∧
      true =
      true) ∧
      (SV.val
      (Value.int
      IntKind.i64
      n_19) =
      SV.val
      (Value.int
      IntKind.i64
      (raiseE
      la
      cl
      s).snd) ∧
      true =
      true) ∧
      (SV.val
      (Value.slice
      a_14
      n_18
      c_6) =
      SV.val
      (Value.slice
      x.ar
      (raiseE
      la
      cl
      s).fst.length
      x.cr) ∧
      true =
      true) ∧
      True) ∧
      True))
      (∃
      (x
      :
      LaX),
      (LaI
      la
      lb
      cl
      s
      { π := m.π, sz := N, uf := m.uf : M }
      x ∧
      x.k =
      (0 :
      Nat)) ∧
      m' =
      x.m ∧
      ((SV.val
      (Value.slice
      a
      la.length
      ca) =
      SV.val
      (Value.slice
      a
      la.length
      ca) ∧
      true =
      true) ∧
      (SV.val
      (Value.slice
      a_2
      n
      c_1) =
      SV.val
      (Value.slice
      x.ab
      (foldE
      la
      lb).length
      x.cb) ∧
      true =
      true) ∧
      (SV.val
      (Value.int
      IntKind.i64
      n_19) =
      SV.val
      (Value.int
      IntKind.i64
      (raiseE
      la
      cl
      s).snd) ∧
      true =
      true) ∧
      (SV.val
      (Value.slice
      a_14
      n_18
      c_6) =
      SV.val
      (Value.slice
      x.ar
      (raiseE
      la
      cl
      s).fst.length
      x.cr) ∧
      true =
      true) ∧
      True) ∧
      True)))
      (∃
      (b
      :
      Bool),
      QSpec
      Try.prog
      (33 :
      Nat)
      [Value.slice
      a
      la.length
      ca,
      Value.int
      IntKind.i64
      cl,
      Value.int
      IntKind.i64
      s]
      m'
      (Value.bool
      b) ∧
      ifB
      b
      (∃
      (b
      :
      Bool),
      QSpec
      Try.prog
      (33 :
      Nat)
      [Value.slice
      a_2
      n
      c_1,
      Value.int
      IntKind.i64
      cl,
      Value.int
      IntKind.i64
      s]
      m'
      (Value.bool
      b) ∧
      ifB
      (!b)
      (Done
      (Value.bool
      false =
      Value.bool
      true))
      (∃
      (x
      :
      LaX),
      (LaI
      la
      lb
      cl
      s
      { π := m.π, sz := N, uf := m.uf : M }
      x ∧
      x.k =
      (0 :
      Nat)) ∧
      m' =
      x.m ∧
      ((SV.val
      (Value.slice
      a
      la.length
      ca) =
      SV.val
      (Value.slice
      a
      la.length
      ca) ∧
      true =
      true) ∧
      (SV.val
      (Value.slice
      a_2
      n
      c_1) =
      SV.val
      (Value.slice
      x.ab
      (foldE
      la
      lb).length
      x.cb) ∧
      true =
      true) ∧
      (SV.val
      (Value.int
      IntKind.i64
      n_19) =
      SV.val
      (Value.int
      IntKind.i64
      (raiseE
      la
      cl
      s).snd) ∧
      true =
      true) ∧
      (SV.val
      (Value.slice
      a_14
      n_18
      c_6) =
      SV.val
      (Value.slice
      x.ar
      (raiseE
      la
      cl
      s).fst.length
      x.cr) ∧
      true =
      true) ∧
      True) ∧
      True))
      (∃
      (x
      :
      LaX),
      (LaI
      la
      lb
      cl
      s
      { π := m.π, sz := N, uf := m.uf : M }
      x ∧
      x.k =
      (0 :
      Nat)) ∧
      m' =
      x.m ∧
      ((SV.val
      (Value.slice
      a
      la.length
      ca) =
      SV.val
      (Value.slice
      a
      la.length
      ca) ∧
      true =
      true) ∧
      (SV.val
      (Value.slice
      a_2
      n
      c_1) =
      SV.val
      (Value.slice
      x.ab
      (foldE
      la
      lb).length
      x.cb) ∧
      true =
      true) ∧
      (SV.val
      (Value.int
      IntKind.i64
      n_19) =
      SV.val
      (Value.int
      IntKind.i64
      (raiseE
      la
      cl
      s).snd) ∧
      true =
      true) ∧
      (SV.val
      (Value.slice
      a_14
      n_18
      c_6) =
      SV.val
      (Value.slice
      x.ar
      (raiseE
      la
      cl
      s).fst.length
      x.cr) ∧
      true =
      true) ∧
      True) ∧
      True)) ∧
      ∀
      (x :
      LaX),
      LaI
      la
      lb
      cl
      s
      { π := m.π, sz := N, uf := m.uf : M }
      x ∧
      x.k =
      (0 :
      Nat) →
      (∃
      (a_16
      :
      LaX),
      LaI
      la
      lb
      cl
      s
      { π := m.π, sz := N, uf := m.uf : M }
      a_16 ∧
      x.m =
      a_16.m ∧
      ((SV.val
      (Value.int
      IntKind.i64
      (0 :
      Int)) =
      SV.val
      (Value.int
      IntKind.i64
      (↑a_16.k :
      Int)) ∧
      true =
      true) ∧
      (SV.val
      (Value.slice
      a
      la.length
      ca) =
      SV.val
      (Value.slice
      a
      la.length
      ca) ∧
      true =
      true) ∧
      (SV.val
      (Value.slice
      x.ab
      (foldE
      la
      lb).length
      x.cb) =
      SV.val
      (Value.slice
      a_16.ab
      (foldE
      la
      lb).length
      a_16.cb) ∧
      true =
      true) ∧
      (SV.val
      (Value.int
      IntKind.i64
      (raiseE
      la
      cl
      s).snd) =
      SV.val
      (Value.int
      IntKind.i64
      (raiseE
      la
      cl
      s).snd) ∧
      true =
      true) ∧
      (SV.val
      (Value.slice
      x.ar
      (raiseE
      la
      cl
      s).fst.length
      x.cr) =
      SV.val
      (Value.slice
      a_16.ar
      (raiseE
      la
      cl
      s).fst.length
      a_16.cr) ∧
      true =
      true) ∧
      True) ∧
      True) ∧
      ∀
      (a_16 :
      LaX),
      LaI
      la
      lb
      cl
      s
      { π := m.π, sz := N, uf := m.uf : M }
      a_16 →
      ifB
      (decide
      ((↑a_16.k :
      Int) <
      (↑la.length :
      Int)))
      (true =
      true ∧
      ∃
      (b
      :
      Nat),
      ∃
      (off
      :
      Nat),
      a =
      some
      { block := b, off := off : Addr } ∧
      ((0 :
      Int) ≤
      (↑a_16.k :
      Int) ∧
      (↑a_16.k :
      Int) <
      (↑la.length :
      Int)) ∧
      ∃
      (n
      :
      Int),
      CellsAt
      a_16.m
      b
      (off +
      (↑a_16.k :
      Int).toNat *
      (2 :
      Nat) +
      (0 :
      Nat))
      [Value.int
      IntKind.i64
      n] ∧
      ∃
      (b
      :
      Nat),
      ∃
      (off
      :
      Nat),
      a =
      some
      { block := b, off := off : Addr } ∧
      ((0 :
      Int) ≤
      (↑a_16.k :
      Int) ∧
      (↑a_16.k :
      Int) <
      (↑la.length :
      Int)) ∧
      ∃
      (n_20
      :
      Int),
      CellsAt
      a_16.m
      b
      (off +
      (↑a_16.k :
      Int).toNat *
      (2 :
      Nat) +
      (1 :
      Nat))
      [Value.int
      IntKind.i64
      n_20] ∧
      ∃
      (b
      :
      Bool),
      QSpec
      Try.prog
      (33 :
      Nat)
      [Value.slice
      a_16.ab
      (foldE
      la
      lb).length
      a_16.cb,
      Value.int
      IntKind.i64
      n,
      Value.int
      IntKind.i64
      n_20]
      a_16.m
      (Value.bool
      b) ∧
      ifB
      (!b)
      (Done
      (Value.bool
      false =
      Value.bool
      true))
      (ifB
      ((raiseE
      la
      cl
      s).snd ==
      (0 :
      Int))
      (∃
      (b
      :
      Nat),
      ∃
      (off
      :
      Nat),
      a =
      some
      { block := b, off := off : Addr } ∧
      ((0 :
      Int) ≤
      (↑a_16.k :
      Int) ∧
      (↑a_16.k :
      Int) <
      (↑la.length :
      Int)) ∧
      ∃
      (n
      :
      Int),
      CellsAt
      a_16.m
      b
      (off +
      (↑a_16.k :
      Int).toNat *
      (2 :
      Nat) +
      (0 :
      Nat))
      [Value.int
      IntKind.i64
      n] ∧
      ∃
      (b
      :
      Nat),
      ∃
      (off
      :
      Nat),
      a =
      some
      { block := b, off := off : Addr } ∧
      ((0 :
      Int) ≤
      (↑a_16.k :
      Int) ∧
      (↑a_16.k :
      Int) <
      (↑la.length :
      Int)) ∧
      ∃
      (n_21
      :
      Int),
      CellsAt
      a_16.m
      b
      (off +
      (↑a_16.k :
      Int).toNat *
      (2 :
      Nat) +
      (1 :
      Nat))
      [Value.int
      IntKind.i64
      n_21] ∧
      ∃
      (b
      :
      Bool),
      QSpec
      Try.prog
      (33 :
      Nat)
      [Value.slice
      a_16.ar
      (raiseE
      la
      cl
      s).fst.length
      a_16.cr,
      Value.int
      IntKind.i64
      n,
      Value.int
      IntKind.i64
      n_21]
      a_16.m
      (Value.bool
      b) ∧
      ifB
      (!b)
      (Done
      (Value.bool
      false =
      Value.bool
      true))
      (∃
      (a'
      :
      LaX),
      (LaI
      la
      lb
      cl
      s
      { π := m.π, sz := N, uf := m.uf : M }
      a' ∧
      a_16.m =
      a'.m ∧
      ((SV.val
      (Value.int
      IntKind.i64
      (IntKind.i64.wrap
      ((↑a_16.k :
      Int) +
      (1 :
      Int)))) =
      SV.val
      (Value.int
      IntKind.i64
      (↑a'.k :
      Int)) ∧
      true =
      true) ∧
      (SV.val
      (Value.slice
      a
      la.length
      ca) =
      SV.val
      (Value.slice
      a
      la.length
      ca) ∧
      true =
      true) ∧
      (SV.val
      (Value.slice
      a_16.ab
      (foldE
      la
      lb).length
      a_16.cb) =
      SV.val
      (Value.slice
      a'.ab
      (foldE
      la
      lb).length
      a'.cb) ∧
      true =
      true) ∧
      (SV.val
      (Value.int
      IntKind.i64
      (raiseE
      la
      cl
      s).snd) =
      SV.val
      (Value.int
      IntKind.i64
      (raiseE
      la
      cl
      s).snd) ∧
      true =
      true) ∧
      (SV.val
      (Value.slice
      a_16.ar
      (raiseE
      la
      cl
      s).fst.length
      a_16.cr) =
      SV.val
      (Value.slice
      a'.ar
      (raiseE
      la
      cl
      s).fst.length
      a'.cr) ∧
      true =
      true) ∧
      True) ∧
      True) ∧
      la.length -
      a'.k <
      la.length -
      a_16.k))
      (∃
      (a'
      :
      LaX),
      (LaI
      la
      lb
      cl
      s
      { π := m.π, sz := N, uf := m.uf : M }
      a' ∧
      a_16.m =
      a'.m ∧
      ((SV.val
      (Value.int
      IntKind.i64
      (IntKind.i64.wrap
      ((↑a_16.k :
      Int) +
      (1 :
      Int)))) =
      SV.val
      (Value.int
      IntKind.i64
      (↑a'.k :
      Int)) ∧
      true =
      true) ∧
      (SV.val
      (Value.slice
      a
      la.length
      ca) =
      SV.val
      (Value.slice
      a
      la.length
      ca) ∧
      true =
      true) ∧
      (SV.val
      (Value.slice
      a_16.ab
      (foldE
      la
      lb).length
      a_16.cb) =
      SV.val
      (Value.slice
      a'.ab
      (foldE
      la
      lb).length
      a'.cb) ∧
      true =
      true) ∧
      (SV.val
      (Value.int
      IntKind.i64
      (raiseE
      la
      cl
      s).snd) =
      SV.val
      (Value.int
      IntKind.i64
      (raiseE
      la
      cl
      s).snd) ∧
      true =
      true) ∧
      (SV.val
      (Value.slice
      a_16.ar
      (raiseE
      la
      cl
      s).fst.length
      a_16.cr) =
      SV.val
      (Value.slice
      a'.ar
      (raiseE
      la
      cl
      s).fst.length
      a'.cr) ∧
      true =
      true) ∧
      True) ∧
      True) ∧
      la.length -
      a'.k <
      la.length -
      a_16.k)))
      (Done
      (Value.bool
      true =
      Value.bool
      true)))))))))))))))) (by kernel_rfl) ?_
  refine ⟨rfl, _, awake_q _, ifB_false ⟨_, rends_q a ca la hla _ (ha.sz hN), ?_⟩⟩
  cases ea : endsB 0 la
  · exact ifB_true ⟨rfl⟩
  refine ifB_false ⟨_, rends_q b cb lb hlb _ (hb.sz hN), ?_⟩
  cases eb : endsB 0 lb
  · exact ifB_true ⟨rfl⟩
  refine ifB_false ⟨_, rends_q c cc lc hlc _ (hc.sz hN), ?_⟩
  cases ec : endsB 0 lc
  · exact ifB_true ⟨rfl⟩
  have na := ends8 ea
  have nb := ends8 eb
  have nc := ends8 ec
  have j1 : joinE la lb = (foldE la lb, 0) := by simp [joinE, ea, eb]
  have j2 : joinE lb la = (foldE lb la, 0) := by simp [joinE, ea, eb]
  have j3 : joinE la la = (foldE la la, 0) := by simp [joinE, ea]
  have j4 : joinE lb lc = (foldE lb lc, 0) := by simp [joinE, eb, ec]
  have eab := fold_ok ea eb
  have ebc := fold_ok eb ec
  have nab := ends8 eab
  have nbc := ends8 ebc
  have j5 : joinE (foldE la lb) lc = (foldE (foldE la lb) lc, 0) := by simp [joinE, eab, ec]
  have j6 : joinE la (foldE lb lc) = (foldE la (foldE lb lc), 0) := by simp [joinE, ea, ebc]
  have ha := ha.sz hN
  have hb := hb.sz hN
  have hc := hc.sz hN
  have A0 : Agree N { m with sz := N } { m with sz := N } := Agree.refl _ _
  have a0 := ha
  have b0 := hb
  have c0 := hc
  refine ifB_false ⟨_, noS, fun N1 hN1 => (join_s _ _ _ _ la lb (by omega) (by omega) (en_none a0) _ (a0.sz hN1) (b0.sz hN1)).monoW fun v1 m1 ag1 q1 => ?_⟩
  obtain ⟨x1, y1, e1, r1⟩ := q1
  rw [j1] at e1 r1
  refine ⟨_, _, _, _, e1, ?_⟩
  have A1 := A0.trans ((Agree.szl (B := N) (m := ({ m with sz := N } : M)) hN1).trans (ag1.mono (Nat.le_trans A0.2.2 hN1)))
  have s1_1 := r1.row
  have a1 := (a0.sz hN1).agree ag1
  have b1 := (b0.sz hN1).agree ag1
  have c1 := (c0.sz hN1).agree ag1
  refine ⟨_, noS, fun N2 hN2 => (join_s _ _ _ _ lb la (by omega) (by omega) (en_none b1) _ (b1.sz hN2) (a1.sz hN2)).monoW fun v2 m2 ag2 q2 => ?_⟩
  obtain ⟨x2, y2, e2, r2⟩ := q2
  rw [j2] at e2 r2
  refine ⟨_, _, _, _, e2, ?_⟩
  have A2 := A1.trans ((Agree.szl (B := N) (m := m1) hN2).trans (ag2.mono (Nat.le_trans A1.2.2 hN2)))
  have s2_2 := r2.row
  have s1_2 := (s1_1.sz hN2).agree ag2
  have a2 := (a1.sz hN2).agree ag2
  have b2 := (b1.sz hN2).agree ag2
  have c2 := (c1.sz hN2).agree ag2
  refine ⟨_, noS, fun N3 hN3 => (join_s _ _ _ _ la la (by omega) (by omega) (en_none a2) _ (a2.sz hN3) (a2.sz hN3)).monoW fun v3 m3 ag3 q3 => ?_⟩
  obtain ⟨x3, y3, e3, r3⟩ := q3
  rw [j3] at e3 r3
  refine ⟨_, _, _, _, e3, ?_⟩
  have A3 := A2.trans ((Agree.szl (B := N) (m := m2) hN3).trans (ag3.mono (Nat.le_trans A2.2.2 hN3)))
  have s3_3 := r3.row
  have s1_3 := (s1_2.sz hN3).agree ag3
  have s2_3 := (s2_2.sz hN3).agree ag3
  have a3 := (a2.sz hN3).agree ag3
  have b3 := (b2.sz hN3).agree ag3
  have c3 := (c2.sz hN3).agree ag3
  refine ⟨_, noS, fun N4 hN4 => (join_s _ _ _ _ lb lc (by omega) (by omega) (en_none b3) _ (b3.sz hN4) (c3.sz hN4)).monoW fun v4 m4 ag4 q4 => ?_⟩
  obtain ⟨x4, y4, e4, r4⟩ := q4
  rw [j4] at e4 r4
  refine ⟨_, _, _, _, e4, ?_⟩
  have A4 := A3.trans ((Agree.szl (B := N) (m := m3) hN4).trans (ag4.mono (Nat.le_trans A3.2.2 hN4)))
  have s4_4 := r4.row
  have s1_4 := (s1_3.sz hN4).agree ag4
  have s2_4 := (s2_3.sz hN4).agree ag4
  have s3_4 := (s3_3.sz hN4).agree ag4
  have a4 := (a3.sz hN4).agree ag4
  have b4 := (b3.sz hN4).agree ag4
  have c4 := (c3.sz hN4).agree ag4
  refine ⟨_, noS, fun N5 hN5 => (join_s _ _ _ _ (foldE la lb) lc (by omega) (by omega) (en_none s1_4) _ (s1_4.sz hN5) (c4.sz hN5)).monoW fun v5 m5 ag5 q5 => ?_⟩
  obtain ⟨x5, y5, e5, r5⟩ := q5
  rw [j5] at e5 r5
  refine ⟨_, _, _, _, e5, ?_⟩
  have A5 := A4.trans ((Agree.szl (B := N) (m := m4) hN5).trans (ag5.mono (Nat.le_trans A4.2.2 hN5)))
  have s5_5 := r5.row
  have s1_5 := (s1_4.sz hN5).agree ag5
  have s2_5 := (s2_4.sz hN5).agree ag5
  have s3_5 := (s3_4.sz hN5).agree ag5
  have s4_5 := (s4_4.sz hN5).agree ag5
  have a5 := (a4.sz hN5).agree ag5
  have b5 := (b4.sz hN5).agree ag5
  have c5 := (c4.sz hN5).agree ag5
  refine ⟨_, noS, fun N6 hN6 => (join_s _ _ _ _ la (foldE lb lc) (by omega) (by omega) (en_none a5) _ (a5.sz hN6) (s4_5.sz hN6)).monoW fun v6 m6 ag6 q6 => ?_⟩
  obtain ⟨x6, y6, e6, r6⟩ := q6
  rw [j6] at e6 r6
  refine ⟨_, _, _, _, e6, ?_⟩
  have A6 := A5.trans ((Agree.szl (B := N) (m := m5) hN6).trans (ag6.mono (Nat.le_trans A5.2.2 hN6)))
  have s6_6 := r6.row
  have s1_6 := (s1_5.sz hN6).agree ag6
  have s2_6 := (s2_5.sz hN6).agree ag6
  have s3_6 := (s3_5.sz hN6).agree ag6
  have s4_6 := (s4_5.sz hN6).agree ag6
  have s5_6 := (s5_5.sz hN6).agree ag6
  have a6 := (a5.sz hN6).agree ag6
  have b6 := (b5.sz hN6).agree ag6
  have c6 := (c5.sz hN6).agree ag6
  refine ⟨_, noS, fun N7 hN7 => (raise_s _ _ la cl s (by omega) (en_none a6) _ (a6.sz hN7)).monoW fun v7 m7 ag7 q7 => ?_⟩
  obtain ⟨x7, y7, e7, r7⟩ := q7
  refine ⟨_, _, _, _, e7, ?_⟩
  have A7 := A6.trans ((Agree.szl (B := N) (m := m6) hN7).trans (ag7.mono (Nat.le_trans A6.2.2 hN7)))
  have s7_7 := r7.row
  have s1_7 := (s1_6.sz hN7).agree ag7
  have s2_7 := (s2_6.sz hN7).agree ag7
  have s3_7 := (s3_6.sz hN7).agree ag7
  have s4_7 := (s4_6.sz hN7).agree ag7
  have s5_7 := (s5_6.sz hN7).agree ag7
  have s6_7 := (s6_6.sz hN7).agree ag7
  have a7 := (a6.sz hN7).agree ag7
  have b7 := (b6.sz hN7).agree ag7
  have c7 := (c6.sz hN7).agree ag7
  have hl7 := raise_len la cl s
  simp only [bne_self_eq_false]
  refine ifB_false (ifB_false (ifB_false (ifB_false (ifB_false (ifB_false ⟨_, en_plain _ _ _ _ _ _ (by omega) _ s1_7 s2_7, ?_⟩)))))
  rw [fold_comm eb ea]
  simp only [decide_true, Bool.not_true]
  refine ifB_false ⟨_, en_plain _ _ _ _ _ _ (by rw [fold_self ea]; omega) _ s3_7 a7, ?_⟩
  rw [fold_self ea]
  simp only [decide_true, Bool.not_true]
  refine ifB_false ⟨_, en_plain _ _ _ _ _ _ (by have := ends8 (fold_ok eab ec); omega) _ s5_7 s6_7, ?_⟩
  rw [fold_assoc ea eb ec]
  simp only [decide_true, Bool.not_true]
  have hr : (raiseE la cl s).2 = 0 → whoseB cl s = true ∧ raiseE la cl s = (raised la cl s, 0) := fun h => by
    cases hw : whoseB cl s
    · simp [raiseE, ea, hw] at h
    · exact ⟨rfl, by simp [raiseE, ea, hw]⟩
  have hrp : ∀ {c' s' : Int}, (raiseE la cl s).2 = 0 → pastB la c' s' = true → pastB (raiseE la cl s).1 c' s' = true := fun h hp => by
    obtain ⟨h1, h2⟩ := hr h
    have h0 : 0 < cl := by simp [whoseB] at h1; omega
    rw [h2]
    exact past_up ea (by rw [raised_eq]; exact ins_ends h1 h0 ea) (raise_up ea h1) hp
  have hq : (raiseE la cl s).2 = 0 → pastB (raiseE la cl s).1 cl s = true := fun h => by
    obtain ⟨h1, h2⟩ := hr h
    rw [h2]; exact raise_past ea h1
  have hfp : ∀ {c' s' : Int}, pastB la c' s' = true → pastB (foldE la lb) c' s' = true := fun hp => past_up ea eab (fold_up ea eb) hp
  have fit : LaI la lb cl s { m with sz := N } ⟨0, x1, y1, x7, y7, m7⟩ ∧ (⟨0, x1, y1, x7, y7, m7⟩ : LaX).k = 0 := ⟨⟨Nat.zero_le _, s1_7, s7_7, A7⟩, rfl⟩
  refine ifB_false ⟨?_, fun x ⟨X, X0⟩ => ⟨⟨⟨0, x.ab, x.cb, x.ar, x.cr, x.m⟩, ⟨Nat.zero_le _, X.ab, X.ar, X.ag⟩, by simp⟩, fun y Y => ifB_intro (fun h1 => ?_) (fun h1 => ⟨by trivial⟩)⟩⟩
  · refine ifB_intro (fun h1 => ⟨_, past_q _ _ _ cl s (by omega) _ s7_7, ?_⟩) (fun h1 => ⟨_, past_q _ _ la cl s hla _ a7, ?_⟩)
    · have h1 : (raiseE la cl s).2 = 0 := by simpa using h1
      rw [hq h1]
      refine ifB_false ⟨_, past_q _ _ la cl s hla _ a7, ifB_intro (fun h2 => ⟨_, past_q _ _ _ cl s (by omega) _ s1_7, ?_⟩) (fun h2 => ⟨_, fit, rfl, by simp⟩)⟩
      rw [hfp h2]
      exact ifB_false ⟨_, fit, rfl, by simp⟩
    · refine ifB_intro (fun h2 => ⟨_, past_q _ _ _ cl s (by omega) _ s1_7, ?_⟩) (fun h2 => ⟨_, fit, rfl, by simp⟩)
      rw [hfp h2]
      exact ifB_false ⟨_, fit, rfl, by simp⟩
  · have hk2 : y.k < la.length := by simpa using h1
    obtain ⟨b1, o, rfl, hcc⟩ := (ha.agree Y.ag).cells (by rw [en_len]; omega)
    have w1 : IntKind.i64.wrap ((y.k : Int) + 1) = ((y.k + 1 : Nat) : Int) := by simp [IntKind.wrap_i64]; omega
    have f0 := CellsAt.field en_k hcc hk2 (p := []) (old := [I la[y.k].cl]) (q := [I la[y.k].sq]) rfl
    have f1 := CellsAt.field en_k hcc hk2 (p := [I la[y.k].cl]) (old := [I la[y.k].sq]) (q := []) rfl
    have hp := mem_past ea (List.getElem_mem hk2)
    refine ⟨trivial, b1, o, rfl, by omega, _, by simpa using f0, b1, o, rfl, by omega, _, by simpa using f1, _, past_q _ _ _ la[y.k].cl la[y.k].sq (by omega) _ Y.ab, ?_⟩
    rw [hfp hp]
    refine ifB_false (ifB_intro (fun h2 => ⟨b1, o, rfl, by omega, _, by simpa using f0, b1, o, rfl, by omega, _, by simpa using f1, _, past_q _ _ _ la[y.k].cl la[y.k].sq (by omega) _ Y.ar, ?_⟩) (fun h2 => ⟨⟨y.k + 1, y.ab, y.cb, y.ar, y.cr, y.m⟩, ⟨⟨hk2, Y.ab, Y.ar, Y.ag⟩, rfl, by simp [w1]⟩, by simp only; omega⟩))
    have h2 : (raiseE la cl s).2 = 0 := by simpa using h2
    rw [hrp h2 hp]
    exact ifB_false ⟨⟨y.k + 1, y.ab, y.cb, y.ar, y.cr, y.m⟩, ⟨⟨hk2, Y.ab, Y.ar, Y.ag⟩, rfl, by simp [w1]⟩, by simp only; omega⟩

end Go.Proofs.Ytoilbbfidnhekaa
