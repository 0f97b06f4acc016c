/-
  Contracts of functions of this seat: what each hands back, and what it leaves of memory (acc7). Nothing here is trusted: Lean checks it.
-/
import Derived.Test.YtlifpjllhibdpaaAcc6
namespace Go.Proofs.Ytlifpjllhibdpaa
open Go.Vc Go.RowKit

structure LookX where
  b : Nat
  m : M

def mkH : Hd := ⟨71, 0, 0, 0⟩

structure LookI (x : Ac) (m : M) (y : LookX) : Prop where
  lt : y.b < y.m.sz
  cells : CellsAt y.m y.b 0 (hds x.hs ++ (encH mkH ++ encH mkH))
  ag : Agree m.sz m y.m

def looksAnn (x : Ac) (a : Option Addr) (c : Nat) (key : ByteArray) (nd : Int) (m : M) : Nat → Ann
  | 6 => {
    A := LookX
    inv y := LookI x m y
    st _ := [(1, .val (.string key)), (7, .own 3 0), (3, .own 0 0), (2, .val (I nd)), (8, .val (I (if rightB x then 0 else 21)))]
    own y := [(0, ⟨28, acc x a c⟩), (3, ⟨28, acc x (some ⟨y.b, 0, none⟩) (x.hs.length + 2)⟩)]
    m y := y.m
    μ _ := 0
    cut := true }
  | _ => noAnn 0

theorem accountlooks (x : Ac) (a : Option Addr) (c : Nat) (key : ByteArray) (nd : Int) (hx : x.wf) (hlen : x.hs.length ≤ 1048576) (m : M) (h : Row m a (hds x.hs)) : QSpec Try.prog 3 [acv x a c, .string key, I nd] m (.bool true) := by
  refine QSpec.of_vc Try.func3 (ann := fun n => looksAnn x a c key nd { m with sz := n }) fun n hn => ?_
  refine vc_by (X :=
      true = true ∧
        ∃ (S' : Nat → Prop),
          (∀ (b : Nat), S' b → m.uf b ∧ (n ≤ b ∨ False)) ∧
            ∀ (n_1 : Nat),
              n ≤ n_1 →
                SpecW Try.prog (11 : Nat)
                  [Value.slice a x.hs.length c,
                    Value.agg #[Value.int IntKind.i64 (71 : Int), Value.int IntKind.i64 (0 : Int), Value.int IntKind.i64 (0 : Int), Value.int IntKind.i64 (0 : Int)]]
                  { π := m.π, sz := n_1, uf := m.uf : M } S' fun (v : Value) (m' : M) =>
                  ∃ (a_2 : Option Addr),
                    ∃ (n_2 : Nat),
                      ∃ (c_1 : Nat),
                        v = Value.slice a_2 n_2 c_1 ∧
                          (∃ (b : Bool),
                              QSpec Try.prog (12 : Nat)
                                  [Value.agg
                                      #[Value.string x.key, Value.int IntKind.i64 x.lo, Value.int IntKind.i64 x.hi, Value.int IntKind.i64 x.base, Value.int IntKind.i64 x.round,
                                        Value.slice a x.hs.length c, Value.int IntKind.i64 x.lk.cl, Value.int IntKind.i64 x.lk.sq, Value.int IntKind.i64 x.lk.hm,
                                        Value.int IntKind.i64 x.lk.n]]
                                  m' (Value.bool b) ∧
                                ifB (!b)
                                  (∃ (x_1 : LookX),
                                    LookI x { π := m.π, sz := n, uf := m.uf : M } x_1 ∧
                                      m' = x_1.m ∧
                                        ((SV.val (Value.string key) = SV.val (Value.string key) ∧ true = true) ∧
                                            (SV.own ((0 : Nat) + (2 : Nat) + (1 : Nat)) (0 : Nat) = SV.own (3 : Nat) (0 : Nat) ∧ true = true) ∧
                                              (SV.own ((0 : Nat) + (0 : Nat)) (0 : Nat) = SV.own (0 : Nat) (0 : Nat) ∧ true = true) ∧
                                                (SV.val (Value.int IntKind.i64 nd) = SV.val (Value.int IntKind.i64 nd) ∧ true = true) ∧
                                                  (SV.val (Value.int IntKind.i64 (21 : Int)) = SV.val (Value.int IntKind.i64 (if rightB x = true then (0 : Int) else (21 : Int))) ∧
                                                      true = true) ∧
                                                    True) ∧
                                          (some
                                                  { ty := (28 : Nat),
                                                    cs :=
                                                      [Value.string x.key, Value.int IntKind.i64 x.lo, Value.int IntKind.i64 x.hi, Value.int IntKind.i64 x.base,
                                                        Value.int IntKind.i64 x.round, Value.slice a x.hs.length c, Value.int IntKind.i64 x.lk.cl, Value.int IntKind.i64 x.lk.sq,
                                                        Value.int IntKind.i64 x.lk.hm, Value.int IntKind.i64 x.lk.n] :
                                                    Bx } =
                                                some
                                                  { ty := (28 : TypeId),
                                                    cs :=
                                                      [Value.string x.key, Value.int IntKind.i64 x.lo, Value.int IntKind.i64 x.hi, Value.int IntKind.i64 x.base,
                                                        Value.int IntKind.i64 x.round, Value.slice a x.hs.length c, Value.int IntKind.i64 x.lk.cl, Value.int IntKind.i64 x.lk.sq,
                                                        Value.int IntKind.i64 x.lk.hm, Value.int IntKind.i64 x.lk.n] :
                                                    Bx } ∧
                                              true = true) ∧
                                            (some
                                                    { ty := (28 : Nat),
                                                      cs :=
                                                        [Value.string x.key, Value.int IntKind.i64 x.lo, Value.int IntKind.i64 x.hi, Value.int IntKind.i64 x.base,
                                                          Value.int IntKind.i64 x.round, Value.slice a_2 n_2 c_1, Value.int IntKind.i64 x.lk.cl, Value.int IntKind.i64 x.lk.sq,
                                                          Value.int IntKind.i64 x.lk.hm, Value.int IntKind.i64 x.lk.n] :
                                                      Bx } =
                                                  some
                                                    { ty := (28 : TypeId),
                                                      cs :=
                                                        [Value.string x.key, Value.int IntKind.i64 x.lo, Value.int IntKind.i64 x.hi, Value.int IntKind.i64 x.base,
                                                          Value.int IntKind.i64 x.round,
                                                          Value.slice (some { block := x_1.b, off := (0 : Nat) : Addr }) x.hs.length (x.hs.length + (2 : Nat)),
                                                          Value.int IntKind.i64 x.lk.cl, Value.int IntKind.i64 x.lk.sq, Value.int IntKind.i64 x.lk.hm, Value.int IntKind.i64 x.lk.n] :
                                                      Bx } ∧
                                                true = true) ∧
                                              True)
                                  (∃ (x_1 : LookX),
                                    LookI x { π := m.π, sz := n, uf := m.uf : M } x_1 ∧
                                      m' = x_1.m ∧
                                        ((SV.val (Value.string key) = SV.val (Value.string key) ∧ true = true) ∧
                                            (SV.own ((0 : Nat) + (2 : Nat) + (1 : Nat)) (0 : Nat) = SV.own (3 : Nat) (0 : Nat) ∧ true = true) ∧
                                              (SV.own ((0 : Nat) + (0 : Nat)) (0 : Nat) = SV.own (0 : Nat) (0 : Nat) ∧ true = true) ∧
                                                (SV.val (Value.int IntKind.i64 nd) = SV.val (Value.int IntKind.i64 nd) ∧ true = true) ∧
                                                  (SV.val (Value.int IntKind.i64 (0 : Int)) = SV.val (Value.int IntKind.i64 (if rightB x = true then (0 : Int) else (21 : Int))) ∧
                                                      true = true) ∧
                                                    True) ∧
                                          (some
                                                  { ty := (28 : Nat),
                                                    cs :=
                                                      [Value.string x.key, Value.int IntKind.i64 x.lo, Value.int IntKind.i64 x.hi, Value.int IntKind.i64 x.base,
                                                        Value.int IntKind.i64 x.round, Value.slice a x.hs.length c, Value.int IntKind.i64 x.lk.cl, Value.int IntKind.i64 x.lk.sq,
                                                        Value.int IntKind.i64 x.lk.hm, Value.int IntKind.i64 x.lk.n] :
                                                    Bx } =
                                                some
                                                  { ty := (28 : TypeId),
                                                    cs :=
                                                      [Value.string x.key, Value.int IntKind.i64 x.lo, Value.int IntKind.i64 x.hi, Value.int IntKind.i64 x.base,
                                                        Value.int IntKind.i64 x.round, Value.slice a x.hs.length c, Value.int IntKind.i64 x.lk.cl, Value.int IntKind.i64 x.lk.sq,
                                                        Value.int IntKind.i64 x.lk.hm, Value.int IntKind.i64 x.lk.n] :
                                                    Bx } ∧
                                              true = true) ∧
                                            (some
                                                    { ty := (28 : Nat),
                                                      cs :=
                                                        [Value.string x.key, Value.int IntKind.i64 x.lo, Value.int IntKind.i64 x.hi, Value.int IntKind.i64 x.base,
                                                          Value.int IntKind.i64 x.round, Value.slice a_2 n_2 c_1, Value.int IntKind.i64 x.lk.cl, Value.int IntKind.i64 x.lk.sq,
                                                          Value.int IntKind.i64 x.lk.hm, Value.int IntKind.i64 x.lk.n] :
                                                      Bx } =
                                                  some
                                                    { ty := (28 : TypeId),
                                                      cs :=
                                                        [Value.string x.key, Value.int IntKind.i64 x.lo, Value.int IntKind.i64 x.hi, Value.int IntKind.i64 x.base,
                                                          Value.int IntKind.i64 x.round,
                                                          Value.slice (some { block := x_1.b, off := (0 : Nat) : Addr }) x.hs.length (x.hs.length + (2 : Nat)),
                                                          Value.int IntKind.i64 x.lk.cl, Value.int IntKind.i64 x.lk.sq, Value.int IntKind.i64 x.lk.hm, Value.int IntKind.i64 x.lk.n] :
                                                      Bx } ∧
                                                true = true) ∧
                                              True)) ∧
                            ∀ (x_1 : LookX),
                              LookI x { π := m.π, sz := n, uf := m.uf : M } x_1 →
                                ∀ (n : Nat),
                                  x_1.m.sz ≤ n →
                                    Vc.Spec Try.prog (13 : Nat) [Value.string key] { π := x_1.m.π, sz := n, uf := x_1.m.uf : M } fun (v : Value) (m' : M) =>
                                      ∃ (s : ByteArray),
                                        ∃ (n : Int),
                                          ∃ (n_3 : Int),
                                            ∃ (n_4 : Int),
                                              ∃ (n_5 : Int),
                                                ∃ (a_5 : Option Addr),
                                                  ∃ (n_6 : Nat),
                                                    ∃ (c_2 : Nat),
                                                      ∃ (n_7 : Int),
                                                        ∃ (n_8 : Int),
                                                          ∃ (n_9 : Int),
                                                            ∃ (n_10 : Int),
                                                              ∃ (n_11 : Int),
                                                                v =
                                                                    Value.tuple
                                                                      #[Value.agg
                                                                          #[Value.string s, Value.int IntKind.i64 n, Value.int IntKind.i64 n_3, Value.int IntKind.i64 n_4,
                                                                            Value.int IntKind.i64 n_5, Value.slice a_5 n_6 c_2, Value.int IntKind.i64 n_7, Value.int IntKind.i64 n_8,
                                                                            Value.int IntKind.i64 n_9, Value.int IntKind.i64 n_10],
                                                                        Value.int IntKind.i64 n_11] ∧
                                                                  ∀ (n_12 : Nat),
                                                                    m'.sz ≤ n_12 →
                                                                      Vc.Spec Try.prog (14 : Nat) [Value.string key] { π := m'.π, sz := n_12, uf := m'.uf : M }
                                                                        fun (v : Value) (m' : M) =>
                                                                        ∃ (s_1 : ByteArray),
                                                                          ∃ (n_13 : Int),
                                                                            ∃ (n_14 : Int),
                                                                              ∃ (n_15 : Int),
                                                                                ∃ (n_16 : Int),
                                                                                  ∃ (a_7 : Option Addr),
                                                                                    ∃ (n_17 : Nat),
                                                                                      ∃ (c_3 : Nat),
                                                                                        ∃ (n_18 : Int),
                                                                                          ∃ (n_19 : Int),
                                                                                            ∃ (n_20 : Int),
                                                                                              ∃ (n_21 : Int),
                                                                                                ∃ (n_22 : Int),
                                                                                                  v =
                                                                                                      Value.tuple
                                                                                                        #[Value.agg
                                                                                                            #[Value.string s_1, Value.int IntKind.i64 n_13, Value.int IntKind.i64 n_14,
                                                                                                              Value.int IntKind.i64 n_15, Value.int IntKind.i64 n_16,
                                                                                                              Value.slice a_7 n_17 c_3, Value.int IntKind.i64 n_18,
                                                                                                              Value.int IntKind.i64 n_19, Value.int IntKind.i64 n_20,
                                                                                                              Value.int IntKind.i64 n_21],
                                                                                                          Value.int IntKind.i64 n_22] ∧
                                                                                                    ∃ (n_23 : Int),
                                                                                                      ∃ (n_24 : Int),
                                                                                                        QSpec Try.prog (15 : Nat)
                                                                                                            [Value.agg
                                                                                                                #[Value.string x.key, Value.int IntKind.i64 x.lo,
                                                                                                                  Value.int IntKind.i64 x.hi, Value.int IntKind.i64 x.base,
                                                                                                                  Value.int IntKind.i64 x.round,
                                                                                                                  Value.slice (some { block := x_1.b, off := (0 : Nat) : Addr })
                                                                                                                    x.hs.length (x.hs.length + (2 : Nat)),
                                                                                                                  Value.int IntKind.i64 x.lk.cl, Value.int IntKind.i64 x.lk.sq,
                                                                                                                  Value.int IntKind.i64 x.lk.hm, Value.int IntKind.i64 x.lk.n]]
                                                                                                            m' (Value.tuple #[Value.int IntKind.u64 n_23, Value.int IntKind.u64 n_24]) ∧
                                                                                                          ∃ (n_25 : Int),
                                                                                                            ∃ (n_26 : Int),
                                                                                                              QSpec Try.prog (16 : Nat)
                                                                                                                  [Value.agg
                                                                                                                      #[Value.string x.key, Value.int IntKind.i64 x.lo,
                                                                                                                        Value.int IntKind.i64 x.hi, Value.int IntKind.i64 x.base,
                                                                                                                        Value.int IntKind.i64 x.round, Value.slice a x.hs.length c,
                                                                                                                        Value.int IntKind.i64 x.lk.cl, Value.int IntKind.i64 x.lk.sq,
                                                                                                                        Value.int IntKind.i64 x.lk.hm, Value.int IntKind.i64 x.lk.n]]
                                                                                                                  m'
                                                                                                                  (Value.tuple
                                                                                                                    #[Value.int IntKind.u64 n_25, Value.int IntKind.u64 n_26]) ∧
                                                                                                                ∃ (n_27 : Int),
                                                                                                                  ∃ (b : Bool),
                                                                                                                    QSpec Try.prog (17 : Nat)
                                                                                                                        [Value.agg
                                                                                                                            #[Value.string x.key, Value.int IntKind.i64 x.lo,
                                                                                                                              Value.int IntKind.i64 x.hi, Value.int IntKind.i64 x.base,
                                                                                                                              Value.int IntKind.i64 x.round,
                                                                                                                              Value.slice
                                                                                                                                (some { block := x_1.b, off := (0 : Nat) : Addr })
                                                                                                                                x.hs.length (x.hs.length + (2 : Nat)),
                                                                                                                              Value.int IntKind.i64 x.lk.cl,
                                                                                                                              Value.int IntKind.i64 x.lk.sq,
                                                                                                                              Value.int IntKind.i64 x.lk.hm,
                                                                                                                              Value.int IntKind.i64 x.lk.n]]
                                                                                                                        m' (Value.tuple #[Value.int IntKind.i64 n_27, Value.bool b]) ∧
                                                                                                                      ∃ (n_28 : Int),
                                                                                                                        ∃ (b_1 : Bool),
                                                                                                                          QSpec Try.prog (18 : Nat)
                                                                                                                              [Value.agg
                                                                                                                                  #[Value.string x.key, Value.int IntKind.i64 x.lo,
                                                                                                                                    Value.int IntKind.i64 x.hi,
                                                                                                                                    Value.int IntKind.i64 x.base,
                                                                                                                                    Value.int IntKind.i64 x.round,
                                                                                                                                    Value.slice a x.hs.length c,
                                                                                                                                    Value.int IntKind.i64 x.lk.cl,
                                                                                                                                    Value.int IntKind.i64 x.lk.sq,
                                                                                                                                    Value.int IntKind.i64 x.lk.hm,
                                                                                                                                    Value.int IntKind.i64 x.lk.n]]
                                                                                                                              m'
                                                                                                                              (Value.tuple
                                                                                                                                #[Value.int IntKind.i64 n_28, Value.bool b_1]) ∧
                                                                                                                            ∃ (n_29 : Int),
                                                                                                                              ∃ (n_30 : Int),
                                                                                                                                ∃ (n_31 : Int),
                                                                                                                                  ∃ (n_32 : Int),
                                                                                                                                    ∃ (b_2 : Bool),
                                                                                                                                      QSpec Try.prog (19 : Nat)
                                                                                                                                          [Value.agg
                                                                                                                                              #[Value.string x.key,
                                                                                                                                                Value.int IntKind.i64 x.lo,
                                                                                                                                                Value.int IntKind.i64 x.hi,
                                                                                                                                                Value.int IntKind.i64 x.base,
                                                                                                                                                Value.int IntKind.i64 x.round,
                                                                                                                                                Value.slice
                                                                                                                                                  (some
                                                                                                                                                    { block := x_1.b, off := (0 : Nat) :
                                                                                                                                                      Addr })
                                                                                                                                                  x.hs.length (x.hs.length + (2 : Nat)),
                                                                                                                                                Value.int IntKind.i64 x.lk.cl,
                                                                                                                                                Value.int IntKind.i64 x.lk.sq,
                                                                                                                                                Value.int IntKind.i64 x.lk.hm,
                                                                                                                                                Value.int IntKind.i64 x.lk.n],
                                                                                                                                            Value.int IntKind.i64 nd]
                                                                                                                                          m'
                                                                                                                                          (Value.tuple
                                                                                                                                            #[Value.agg
                                                                                                                                                #[Value.int IntKind.i64 n_29,
                                                                                                                                                  Value.int IntKind.i64 n_30,
                                                                                                                                                  Value.int IntKind.i64 n_31,
                                                                                                                                                  Value.int IntKind.i64 n_32],
                                                                                                                                              Value.bool b_2]) ∧
                                                                                                                                        ∃ (n_33 : Int),
                                                                                                                                          ∃ (n_34 : Int),
                                                                                                                                            ∃ (n_35 : Int),
                                                                                                                                              ∃ (n_36 : Int),
                                                                                                                                                ∃ (b_3 : Bool),
                                                                                                                                                  QSpec Try.prog (20 : Nat)
                                                                                                                                                      [Value.agg
                                                                                                                                                          #[Value.string x.key,
                                                                                                                                                            Value.int IntKind.i64 x.lo,
                                                                                                                                                            Value.int IntKind.i64 x.hi,
                                                                                                                                                            Value.int IntKind.i64 x.base,
                                                                                                                                                            Value.int IntKind.i64 x.round,
                                                                                                                                                            Value.slice a x.hs.length c,
                                                                                                                                                            Value.int IntKind.i64 x.lk.cl,
                                                                                                                                                            Value.int IntKind.i64 x.lk.sq,
                                                                                                                                                            Value.int IntKind.i64 x.lk.hm,
                                                                                                                                                            Value.int IntKind.i64 x.lk.n],
                                                                                                                                                        Value.int IntKind.i64 nd]
                                                                                                                                                      m'
                                                                                                                                                      (Value.tuple
                                                                                                                                                        #[Value.agg
                                                                                                                                                            #[Value.int IntKind.i64 n_33,
                                                                                                                                                              Value.int IntKind.i64 n_34,
                                                                                                                                                              Value.int IntKind.i64 n_35,
                                                                                                                                                              Value.int IntKind.i64 n_36],
                                                                                                                                                          Value.bool b_3]) ∧
                                                                                                                                                    true = true ∧
                                                                                                                                                      ∃ (b_4 : Bool),
                                                                                                                                                        QSpec Try.prog (21 : Nat) [] m'
                                                                                                                                                            (Value.bool b_4) ∧
                                                                                                                                                          ifB b_4
                                                                                                                                                            (∃ (n_37 : Int),
                                                                                                                                                              QSpec Try.prog (22 : Nat)
                                                                                                                                                                  [Value.agg
                                                                                                                                                                      #[Value.string
                                                                                                                                                                          x.key,
                                                                                                                                                                        Value.int
                                                                                                                                                                          IntKind.i64
                                                                                                                                                                          x.lo,
                                                                                                                                                                        Value.int
                                                                                                                                                                          IntKind.i64
                                                                                                                                                                          x.hi,
                                                                                                                                                                        Value.int
                                                                                                                                                                          IntKind.i64
                                                                                                                                                                          x.base,
                                                                                                                                                                        Value.int
                                                                                                                                                                          IntKind.i64
                                                                                                                                                                          x.round,
                                                                                                                                                                        Value.slice
                                                                                                                                                                          (some
                                                                                                                                                                            {
                                                                                                                                                                              block :=
                                                                                                                                                                                x_1.b,
                                                                                                                                                                              off :=
                                                                                                                                                                                (0 :
                                                                                                                                                                                  Nat) :
                                                                                                                                                                              Addr })
                                                                                                                                                                          x.hs.length
                                                                                                                                                                          (x.hs.length +
                                                                                                                                                                            (2 : Nat)),
                                                                                                                                                                        Value.int
                                                                                                                                                                          IntKind.i64
                                                                                                                                                                          x.lk.cl,
                                                                                                                                                                        Value.int
                                                                                                                                                                          IntKind.i64
                                                                                                                                                                          x.lk.sq,
                                                                                                                                                                        Value.int
                                                                                                                                                                          IntKind.i64
                                                                                                                                                                          x.lk.hm,
                                                                                                                                                                        Value.int
                                                                                                                                                                          IntKind.i64
                                                                                                                                                                          x.lk.n]]
                                                                                                                                                                  m'
                                                                                                                                                                  (Value.int IntKind.i64
                                                                                                                                                                    n_37) ∧
                                                                                                                                                                ifB
                                                                                                                                                                  (n_37 ==
                                                                                                                                                                    if
                                                                                                                                                                        rightB x =
                                                                                                                                                                          true then
                                                                                                                                                                      (0 : Int)
                                                                                                                                                                    else (21 : Int))
                                                                                                                                                                  (∃ (b_5 : Bool),
                                                                                                                                                                    QSpec Try.prog
                                                                                                                                                                        (23 : Nat)
                                                                                                                                                                        [Value.agg
                                                                                                                                                                            #[Value.string
                                                                                                                                                                                s,
                                                                                                                                                                              Value.int
                                                                                                                                                                                IntKind.i64
                                                                                                                                                                                n,
                                                                                                                                                                              Value.int
                                                                                                                                                                                IntKind.i64
                                                                                                                                                                                n_3,
                                                                                                                                                                              Value.int
                                                                                                                                                                                IntKind.i64
                                                                                                                                                                                n_4,
                                                                                                                                                                              Value.int
                                                                                                                                                                                IntKind.i64
                                                                                                                                                                                n_5,
                                                                                                                                                                              Value.slice
                                                                                                                                                                                a_5 n_6
                                                                                                                                                                                c_2,
                                                                                                                                                                              Value.int
                                                                                                                                                                                IntKind.i64
                                                                                                                                                                                n_7,
                                                                                                                                                                              Value.int
                                                                                                                                                                                IntKind.i64
                                                                                                                                                                                n_8,
                                                                                                                                                                              Value.int
                                                                                                                                                                                IntKind.i64
                                                                                                                                                                                n_9,
                                                                                                                                                                              Value.int
                                                                                                                                                                                IntKind.i64
                                                                                                                                                                                n_10],
                                                                                                                                                                          Value.agg
                                                                                                                                                                            #[Value.string
                                                                                                                                                                                s_1,
                                                                                                                                                                              Value.int
                                                                                                                                                                                IntKind.i64
                                                                                                                                                                                n_13,
                                                                                                                                                                              Value.int
                                                                                                                                                                                IntKind.i64
                                                                                                                                                                                n_14,
                                                                                                                                                                              Value.int
                                                                                                                                                                                IntKind.i64
                                                                                                                                                                                n_15,
                                                                                                                                                                              Value.int
                                                                                                                                                                                IntKind.i64
                                                                                                                                                                                n_16,
                                                                                                                                                                              Value.slice
                                                                                                                                                                                a_7 n_17
                                                                                                                                                                                c_3,
                                                                                                                                                                              Value.int
                                                                                                                                                                                IntKind.i64
                                                                                                                                                                                n_18,
                                                                                                                                                                              Value.int
                                                                                                                                                                                IntKind.i64
                                                                                                                                                                                n_19,
                                                                                                                                                                              Value.int
                                                                                                                                                                                IntKind.i64
                                                                                                                                                                                n_20,
                                                                                                                                                                              Value.int
                                                                                                                                                                                IntKind.i64
                                                                                                                                                                                n_21]]
                                                                                                                                                                        m'
                                                                                                                                                                        (Value.bool b_5) ∧
                                                                                                                                                                      ifB b_5
                                                                                                                                                                        (ifB
                                                                                                                                                                          (n_11 == n_22)
                                                                                                                                                                          (ifB
                                                                                                                                                                            (n_23 == n_25)
                                                                                                                                                                            (ifB
                                                                                                                                                                              (n_24 ==
                                                                                                                                                                                n_26)
                                                                                                                                                                              (ifB
                                                                                                                                                                                (n_27 ==
                                                                                                                                                                                  n_28)
                                                                                                                                                                                (ifB
                                                                                                                                                                                  (b ==
                                                                                                                                                                                    b_1)
                                                                                                                                                                                  (ifB
                                                                                                                                                                                    (n_29 ==
                                                                                                                                                                                        n_33 &&
                                                                                                                                                                                      (n_30 ==
                                                                                                                                                                                          n_34 &&
                                                                                                                                                                                        (n_31 ==
                                                                                                                                                                                            n_35 &&
                                                                                                                                                                                          (n_32 ==
                                                                                                                                                                                              n_36 &&
                                                                                                                                                                                            true))))
                                                                                                                                                                                    (ifB
                                                                                                                                                                                      (b_2 ==
                                                                                                                                                                                        b_3)
                                                                                                                                                                                      (∃
                                                                                                                                                                                        (b
                                                                                                                                                                                        :
                                                                                                                                                                                        Bool),
                                                                                                                                                                                        QSpec
                                                                                                                                                                                            Try.prog
                                                                                                                                                                                            (24 :
                                                                                                                                                                                              Nat)
                                                                                                                                                                                            [Value.agg
                                                                                                                                                                                                #[Value.string
                                                                                                                                                                                                    x.key,
                                                                                                                                                                                                  Value.int
                                                                                                                                                                                                    IntKind.i64
                                                                                                                                                                                                    x.lo,
                                                                                                                                                                                                  Value.int
                                                                                                                                                                                                    IntKind.i64
                                                                                                                                                                                                    x.hi,
                                                                                                                                                                                                  Value.int
                                                                                                                                                                                                    IntKind.i64
                                                                                                                                                                                                    x.base,
                                                                                                                                                                                                  Value.int
                                                                                                                                                                                                    IntKind.i64
                                                                                                                                                                                                    x.round,
                                                                                                                                                                                                  Value.slice
                                                                                                                                                                                                    (some
                                                                                                                                                                                                      {
                                                                                                                                                                                                        block :=
                                                                                                                                                                                                          x_1.b,
                                                                                                                                                                                                        off :=
                                                                                                                                                                                                          (0 :
                                                                                                                                                                                                            Nat) :
                                                                                                                                                                                                        Addr })
                                                                                                                                                                                                    x.hs.length
                                                                                                                                                                                                    (x.hs.length +
                                                                                                                                                                                                      (2 :
                                                                                                                                                                                                        Nat)),
                                                                                                                                                                                                  Value.int
                                                                                                                                                                                                    IntKind.i64
                                                                                                                                                                                                    x.lk.cl,
                                                                                                                                                                                                  Value.int
                                                                                                                                                                                                    IntKind.i64
                                                                                                                                                                                                    x.lk.sq,
                                                                                                                                                                                                  Value.int
                                                                                                                                                                                                    IntKind.i64
                                                                                                                                                                                                    x.lk.hm,
                                                                                                                                                                                                  Value.int
                                                                                                                                                                                                    IntKind.i64
                                                                                                                                                                                                    x.lk.n]]
                                                                                                                                                                                            m'
                                                                                                                                                                                            (Value.bool
                                                                                                                                                                                              b) ∧
                                                                                                                                                                                          ∃
                                                                                                                                                                                            (b_6
                                                                                                                                                                                            :
                                                                                                                                                                                            Bool),
                                                                                                                                                                                            QSpec
                                                                                                                                                                                                Try.prog
                                                                                                                                                                                                (25 :
                                                                                                                                                                                                  Nat)
                                                                                                                                                                                                [Value.agg
                                                                                                                                                                                                    #[Value.string
                                                                                                                                                                                                        x.key,
                                                                                                                                                                                                      Value.int
                                                                                                                                                                                                        IntKind.i64
                                                                                                                                                                                                        x.lo,
                                                                                                                                                                                                      Value.int
                                                                                                                                                                                                        IntKind.i64
                                                                                                                                                                                                        x.hi,
                                                                                                                                                                                                      Value.int
                                                                                                                                                                                                        IntKind.i64
                                                                                                                                                                                                        x.base,
                                                                                                                                                                                                      Value.int
                                                                                                                                                                                                        IntKind.i64
                                                                                                                                                                                                        x.round,
                                                                                                                                                                                                      Value.slice
                                                                                                                                                                                                        a
                                                                                                                                                                                                        x.hs.length
                                                                                                                                                                                                        c,
                                                                                                                                                                                                      Value.int
                                                                                                                                                                                                        IntKind.i64
                                                                                                                                                                                                        x.lk.cl,
                                                                                                                                                                                                      Value.int
                                                                                                                                                                                                        IntKind.i64
                                                                                                                                                                                                        x.lk.sq,
                                                                                                                                                                                                      Value.int
                                                                                                                                                                                                        IntKind.i64
                                                                                                                                                                                                        x.lk.hm,
                                                                                                                                                                                                      Value.int
                                                                                                                                                                                                        IntKind.i64
                                                                                                                                                                                                        x.lk.n]]
                                                                                                                                                                                                m'
                                                                                                                                                                                                (Value.bool
                                                                                                                                                                                                  b_6) ∧
                                                                                                                                                                                              ifB
                                                                                                                                                                                                (b ==
                                                                                                                                                                                                  b_6)
                                                                                                                                                                                                (∃
                                                                                                                                                                                                  (b
                                                                                                                                                                                                  :
                                                                                                                                                                                                  Bool),
                                                                                                                                                                                                  QSpec
                                                                                                                                                                                                      Try.prog
                                                                                                                                                                                                      (26 :
                                                                                                                                                                                                        Nat)
                                                                                                                                                                                                      [Value.slice
                                                                                                                                                                                                          (some
                                                                                                                                                                                                            {
                                                                                                                                                                                                              block :=
                                                                                                                                                                                                                x_1.b,
                                                                                                                                                                                                              off :=
                                                                                                                                                                                                                (0 :
                                                                                                                                                                                                                  Nat) :
                                                                                                                                                                                                              Addr })
                                                                                                                                                                                                          x.hs.length
                                                                                                                                                                                                          (x.hs.length +
                                                                                                                                                                                                            (2 :
                                                                                                                                                                                                              Nat)),
                                                                                                                                                                                                        Value.slice
                                                                                                                                                                                                          a
                                                                                                                                                                                                          x.hs.length
                                                                                                                                                                                                          c,
                                                                                                                                                                                                        Value.agg
                                                                                                                                                                                                          #[Value.int
                                                                                                                                                                                                              IntKind.i64
                                                                                                                                                                                                              (71 :
                                                                                                                                                                                                                Int),
                                                                                                                                                                                                            Value.int
                                                                                                                                                                                                              IntKind.i64
                                                                                                                                                                                                              (0 :
                                                                                                                                                                                                                Int),
                                                                                                                                                                                                            Value.int
                                                                                                                                                                                                              IntKind.i64
                                                                                                                                                                                                              (0 :
                                                                                                                                                                                                                Int),
                                                                                                                                                                                                            Value.int
                                                                                                                                                                                                              IntKind.i64
                                                                                                                                                                                                              (0 :
                                                                                                                                                                                                                Int)]]
                                                                                                                                                                                                      m'
                                                                                                                                                                                                      (Value.bool
                                                                                                                                                                                                        b) ∧
                                                                                                                                                                                                    Done
                                                                                                                                                                                                      (Value.bool
                                                                                                                                                                                                          b =
                                                                                                                                                                                                        Value.bool
                                                                                                                                                                                                          true))
                                                                                                                                                                                                (Done
                                                                                                                                                                                                  (Value.bool
                                                                                                                                                                                                      false =
                                                                                                                                                                                                    Value.bool
                                                                                                                                                                                                      true)))
                                                                                                                                                                                      (Done
                                                                                                                                                                                        (Value.bool
                                                                                                                                                                                            false =
                                                                                                                                                                                          Value.bool
                                                                                                                                                                                            true)))
                                                                                                                                                                                    (Done
                                                                                                                                                                                      (Value.bool
                                                                                                                                                                                          false =
                                                                                                                                                                                        Value.bool
                                                                                                                                                                                          true)))
                                                                                                                                                                                  (Done
                                                                                                                                                                                    (Value.bool
                                                                                                                                                                                        false =
                                                                                                                                                                                      Value.bool
                                                                                                                                                                                        true)))
                                                                                                                                                                                (Done
                                                                                                                                                                                  (Value.bool
                                                                                                                                                                                      false =
                                                                                                                                                                                    Value.bool
                                                                                                                                                                                      true)))
                                                                                                                                                                              (Done
                                                                                                                                                                                (Value.bool
                                                                                                                                                                                    false =
                                                                                                                                                                                  Value.bool
                                                                                                                                                                                    true)))
                                                                                                                                                                            (Done
                                                                                                                                                                              (Value.bool
                                                                                                                                                                                  false =
                                                                                                                                                                                Value.bool
                                                                                                                                                                                  true)))
                                                                                                                                                                          (Done
                                                                                                                                                                            (Value.bool
                                                                                                                                                                                false =
                                                                                                                                                                              Value.bool
                                                                                                                                                                                true)))
                                                                                                                                                                        (Done
                                                                                                                                                                          (Value.bool
                                                                                                                                                                              false =
                                                                                                                                                                            Value.bool
                                                                                                                                                                              true)))
                                                                                                                                                                  (Done
                                                                                                                                                                    (Value.bool false =
                                                                                                                                                                      Value.bool true)))
                                                                                                                                                            (Done
                                                                                                                                                              (Value.bool false =
                                                                                                                                                                Value.bool true))) (by kernel_rfl) ?_
  have r0 := h.sz (n := n) hn
  refine ⟨rfl, _, noS, fun n1 hn1 => (hown_q a c x.hs mkH hlen _ (h.sz (Nat.le_trans hn hn1))).monoW fun v m1 hag ⟨b, hv, hb1, hb2, huf, hc⟩ => ⟨_, _, _, hv, ⟨_, rright_q x a c hx m1 ((h.sz (Nat.le_trans hn hn1)).agree hag), ?_⟩, ?_⟩⟩
  · have hag' : Agree n { m with sz := n } m1 := (Agree.szl (B := n) (m := { m with sz := n }) hn1).trans (hag.mono hn1)
    cases hr : rightB x
    · exact ifB_true ⟨⟨b, m1⟩, ⟨hb2, hc, hag'⟩, by simp⟩
    · exact ifB_false ⟨⟨b, m1⟩, ⟨hb2, hc, hag'⟩, by simp⟩
  · intro y hy n2 hn2
    refine (new_q key _).spec.mono fun v m2 hag2 ⟨hv2, hp2, _⟩ => ⟨_, _, _, _, _, _, _, _, _, _, _, _, _, hv2, fun n3 hn3 => (rnew_q key _).spec.mono fun v m3 hag3 ⟨hv3, hp3, _⟩ => ⟨_, _, _, _, _, _, _, _, _, _, _, _, _, hv3, ?_⟩⟩
    have hs3 : y.m.sz ≤ m3.sz := Nat.le_trans hn2 (Nat.le_trans hag2.2.2 (Nat.le_trans hn3 hag3.2.2))
    have hπ : m3.π = y.m.π := hp3.trans hp2
    have hca : CellsAt m3 y.b 0 (hds x.hs ++ (encH mkH ++ encH mkH)) := hy.cells.of (by rw [hπ])
    have hlt : y.b < m3.sz := Nat.lt_of_lt_of_le hy.lt hs3
    have rb : Row m3 (some ⟨y.b, 0, none⟩) (hds x.hs) := .at _ _ _ hlt hca.take
    have ra : Row m3 a (hds x.hs) := (r0.agree hy.ag).of hs3 fun b o _ _ => by rw [hπ]
    have hk : keyB key = true → key.size ≤ 9223372036854775807 := fun hk => by simp [keyB] at hk; omega
    have hwk : ({ ac0 with key := if keyB key = true then key else ByteArray.empty } : Ac).wf := wf_key _ (by split; exact hk (by assumption); exact Nat.zero_le _)
    refine ⟨_, _, room_q x _ _ hx _ rb, _, _, rroom_q x _ _ hx _ ra, _, _, total_q x _ _ hx _ rb, _, _, rtotal_q x _ _ hx _ ra, _, _, _, _, _, find_q x _ _ nd hx _ rb, _, _, _, _, _, rfind_q x _ _ nd hx _ ra, rfl, _, awake_q _, ifB_true ⟨_, check_q x _ _ hx _ rb, ?_⟩⟩
    simp only [beq_self_eq_true, Bool.and_self]
    refine ifB_true ⟨_, saccount_q { ac0 with key := if keyB key = true then key else ByteArray.empty } { ac0 with key := if keyB key = true then key else ByteArray.empty } none none 0 0 hwk hwk m3 (.nil _) (.nil _), ?_⟩
    simp only [decide_true]
    repeat (refine ifB_true ?_)
    refine ⟨_, plain_acc_q x _ _ hx _ rb, _, rplain_q x _ _ hx _ ra, ?_⟩
    simp only [beq_self_eq_true]
    exact ifB_true ⟨_, hkept_q y.b x.hs a c mkH hlen m3 hlt hca ra, ⟨rfl⟩⟩

end Go.Proofs.Ytlifpjllhibdpaa
