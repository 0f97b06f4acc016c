/-
  Contracts of functions of this seat: what each hands back, and what it leaves of memory (pln8, pln9, pln11, pln14, pln16, l_ws, pln17). Nothing here is trusted: Lean checks it.
-/
import Derived.Test.YtjjfcaigonomiaaPart3
import Derived.Test.YtjjfcaigonomiaaPart1
import Derived.Test.YtjjfcaigonomiaaVcOver
set_option linter.unusedVariables false
set_option linter.unusedSimpArgs false
namespace Go.Proofs.Ytjjfcaigonomiaa
open Go.Vc Go.RowKit
set_option maxRecDepth 100000

theorem rapply_s (x : Ct) (a : Ca) (c : Cd) (ai : Option Addr) (ni ci : Nat) (ix : Int) (hl : x.ps.length ≤ 9223372036854775807) (hm : x.ms.length ≤ 9223372036854775807) (m : M) (h : CtR m x a) :
    Vc.Spec Try.prog 12 [ctv x a, cdv c ai ni ci, I ix] m (ApR (applyE x c ix)) := by
  refine Vc.Spec.of_vc Try.func12 (ann := noAnn) ?_
  refine vc_by (X :=
      true = true ∧
      ∃ (b : Bool),
      QSpec Try.prog (16 : Nat)
      [Value.agg
      #[Value.int IntKind.i64 x.ix, Value.slice a.ap x.ps.length a.cp, Value.int IntKind.i64 x.nx, Value.int IntKind.i64 x.la, Value.int IntKind.i64 x.nu,
      Value.int IntKind.i64 x.fr, Value.int IntKind.i64 x.to, Value.string x.lo, Value.string x.hi, Value.int IntKind.i64 x.cl, Value.int IntKind.i64 x.sq,
      Value.slice a.am x.ms.length a.cm]]
      m (Value.bool b) ∧
      ifB (!b)
      (Done
      (ApR (applyE x c ix)
      (Value.tuple
      #[Value.agg
      #[Value.int IntKind.i64 (0 : Int), Value.slice none (0 : Nat) (0 : Nat), Value.int IntKind.i64 (0 : Int), Value.int IntKind.i64 (0 : Int),
      Value.int IntKind.i64 (0 : Int), Value.int IntKind.i64 (0 : Int), Value.int IntKind.i64 (0 : Int), Value.string { data := #[] : ByteArray },
      Value.string { data := #[] : ByteArray }, Value.int IntKind.i64 (0 : Int), Value.int IntKind.i64 (0 : Int), Value.slice none (0 : Nat) (0 : Nat)],
      Value.slice none (0 : Nat) (0 : Nat), Value.int IntKind.i64 (21 : Int)])
      m))
      (ifB (decide (ix ≤ x.ix))
      (Done
      (ApR (applyE x c ix)
      (Value.tuple
      #[Value.agg
      #[Value.int IntKind.i64 (0 : Int), Value.slice none (0 : Nat) (0 : Nat), Value.int IntKind.i64 (0 : Int), Value.int IntKind.i64 (0 : Int),
      Value.int IntKind.i64 (0 : Int), Value.int IntKind.i64 (0 : Int), Value.int IntKind.i64 (0 : Int), Value.string { data := #[] : ByteArray },
      Value.string { data := #[] : ByteArray }, Value.int IntKind.i64 (0 : Int), Value.int IntKind.i64 (0 : Int), Value.slice none (0 : Nat) (0 : Nat)],
      Value.slice none (0 : Nat) (0 : Nat), Value.int IntKind.i64 (80 : Int)])
      m))
      (ifB (decide (ix > (4611686018427387904 : Int)))
      (Done
      (ApR (applyE x c ix)
      (Value.tuple
      #[Value.agg
      #[Value.int IntKind.i64 (0 : Int), Value.slice none (0 : Nat) (0 : Nat), Value.int IntKind.i64 (0 : Int), Value.int IntKind.i64 (0 : Int),
      Value.int IntKind.i64 (0 : Int), Value.int IntKind.i64 (0 : Int), Value.int IntKind.i64 (0 : Int), Value.string { data := #[] : ByteArray },
      Value.string { data := #[] : ByteArray }, Value.int IntKind.i64 (0 : Int), Value.int IntKind.i64 (0 : Int), Value.slice none (0 : Nat) (0 : Nat)],
      Value.slice none (0 : Nat) (0 : Nat), Value.int IntKind.i64 (80 : Int)])
      m))
      (∀ (n : Nat),
      m.sz ≤ n →
      Vc.Spec Try.prog (22 : Nat)
      [Value.agg
      #[Value.int IntKind.i64 x.ix, Value.slice a.ap x.ps.length a.cp, Value.int IntKind.i64 x.nx, Value.int IntKind.i64 x.la, Value.int IntKind.i64 x.nu,
      Value.int IntKind.i64 x.fr, Value.int IntKind.i64 x.to, Value.string x.lo, Value.string x.hi, Value.int IntKind.i64 x.cl, Value.int IntKind.i64 x.sq,
      Value.slice a.am x.ms.length a.cm]]
      { π := m.π, sz := n, uf := m.uf : M } fun (v : Value) (m' : M) =>
      ∃ (n : Int),
      ∃ (a : Option Addr),
      ∃ (n_1 : Nat),
      ∃ (c_1 : Nat),
      ∃ (n_2 : Int),
      ∃ (n_3 : Int),
      ∃ (n_4 : Int),
      ∃ (n_5 : Int),
      ∃ (n_6 : Int),
      ∃ (s : ByteArray),
      ∃ (s_1 : ByteArray),
      ∃ (n_7 : Int),
      ∃ (n_8 : Int),
      ∃ (a_2 : Option Addr),
      ∃ (n_9 : Nat),
      ∃ (c_2 : Nat),
      v =
      Value.agg
      #[Value.int IntKind.i64 n, Value.slice a n_1 c_1, Value.int IntKind.i64 n_2, Value.int IntKind.i64 n_3,
      Value.int IntKind.i64 n_4, Value.int IntKind.i64 n_5, Value.int IntKind.i64 n_6, Value.string s, Value.string s_1,
      Value.int IntKind.i64 n_7, Value.int IntKind.i64 n_8, Value.slice a_2 n_9 c_2] ∧
      ifB (n_4 != (0 : Int))
      (ifB (c.kd == (12 : Int))
      (∀ (b : Nat),
      Fresh m.sz m' b →
      ∃ (S' : Nat → Prop),
      (∀ (b_1 : Nat),
      S' b_1 →
      (m'.newBlock b
      [Value.int IntKind.i64 ix, Value.slice a n_1 c_1, Value.int IntKind.i64 n_2, Value.int IntKind.i64 n_3,
      Value.int IntKind.i64 n_4, Value.int IntKind.i64 n_5, Value.int IntKind.i64 n_6, Value.string s,
      Value.string s_1, Value.int IntKind.i64 n_7, Value.int IntKind.i64 n_8, Value.slice a_2 n_9 c_2]).uf
      b_1 ∧
      (m.sz ≤ b_1 ∨ False)) ∧
      ∀ (n : Nat),
      max m'.sz (b + (1 : Nat)) ≤ n →
      SpecW Try.prog (34 : Nat)
      [Value.pointer (some { block := b, off := (0 : Nat) : Addr }),
      Value.agg
      #[Value.int IntKind.i64 c.kd, Value.int IntKind.i64 c.cl, Value.int IntKind.i64 c.sq,
      Value.int IntKind.i64 c.ep, Value.int IntKind.i64 c.nd, Value.int IntKind.i64 c.hm, Value.string c.ky,
      Value.int IntKind.i64 c.le, Value.int IntKind.i64 c.rn, Value.int IntKind.i64 c.ne, Value.bool c.ys,
      Value.int IntKind.i64 c.op_kd, Value.string c.op_ky, Value.string c.op_ot, Value.int IntKind.i64 c.op_n,
      Value.int IntKind.i64 c.op_lo, Value.int IntKind.i64 c.op_hi, Value.int IntKind.i64 c.pl_nu,
      Value.int IntKind.i64 c.pl_fr, Value.int IntKind.i64 c.pl_to, Value.string c.pl_lo,
      Value.string c.pl_hi, Value.int IntKind.i64 c.pl_cl, Value.int IntKind.i64 c.pl_sq,
      Value.slice ai ni ci]]
      { π := (m'.newBlock b [Value.int IntKind.i64 ix, Value.slice a n_1 c_1, Value.int IntKind.i64 n_2, Value.int IntKind.i64 n_3, Value.int IntKind.i64 n_4, Value.int IntKind.i64 n_5, Value.int IntKind.i64 n_6, Value.string s, Value.string s_1, Value.int IntKind.i64 n_7, Value.int IntKind.i64 n_8, Value.slice a_2 n_9 c_2]).π, sz := n, uf := (m'.newBlock b [Value.int IntKind.i64 ix, Value.slice a n_1 c_1, Value.int IntKind.i64 n_2, Value.int IntKind.i64 n_3, Value.int IntKind.i64 n_4, Value.int IntKind.i64 n_5, Value.int IntKind.i64 n_6, Value.string s, Value.string s_1, Value.int IntKind.i64 n_7, Value.int IntKind.i64 n_8, Value.slice a_2 n_9 c_2]).uf : M }
      S' fun (v : Value) (m' : M) =>
      ∃ (a : Option Addr),
      ∃ (n : Nat),
      ∃ (c_3 : Nat),
      v = Value.slice a n c_3 ∧
      ∃ (n_10 : Int),
      ∃ (a_5 : Option Addr),
      ∃ (n_11 : Nat),
      ∃ (c_4 : Nat),
      ∃ (n_12 : Int),
      ∃ (n_13 : Int),
      ∃ (n_14 : Int),
      ∃ (n_15 : Int),
      ∃ (n_16 : Int),
      ∃ (s : ByteArray),
      ∃ (s_2 : ByteArray),
      ∃ (n_17 : Int),
      ∃ (n_18 : Int),
      ∃ (a_6 : Option Addr),
      ∃ (n_19 : Nat),
      ∃ (c_5 : Nat),
      CellsAt m' b (0 : Nat)
      [Value.int IntKind.i64 n_10, Value.slice a_5 n_11 c_4,
      Value.int IntKind.i64 n_12, Value.int IntKind.i64 n_13,
      Value.int IntKind.i64 n_14, Value.int IntKind.i64 n_15,
      Value.int IntKind.i64 n_16, Value.string s, Value.string s_2,
      Value.int IntKind.i64 n_17, Value.int IntKind.i64 n_18,
      Value.slice a_6 n_19 c_5] ∧
      Done
      (ApR (applyE x c ix)
      (Value.tuple
      #[Value.agg
      #[Value.int IntKind.i64 n_10, Value.slice a_5 n_11 c_4,
      Value.int IntKind.i64 n_12, Value.int IntKind.i64 n_13,
      Value.int IntKind.i64 n_14, Value.int IntKind.i64 n_15,
      Value.int IntKind.i64 n_16, Value.string s,
      Value.string s_2, Value.int IntKind.i64 n_17,
      Value.int IntKind.i64 n_18, Value.slice a_6 n_19 c_5],
      Value.slice a n c_3, Value.int IntKind.i64 (0 : Int)])
      m'))
      (ifB (c.kd == (13 : Int))
      (ifB (c.pl_nu == n_4)
      (∀ (b : Nat),
      Fresh m.sz m' b →
      ∃ (S' : Nat → Prop),
      (∀ (b_1 : Nat),
      S' b_1 →
      (m'.newBlock b
      [Value.int IntKind.i64 ix, Value.slice a n_1 c_1, Value.int IntKind.i64 n_2,
      Value.int IntKind.i64 n_3, Value.int IntKind.i64 n_4, Value.int IntKind.i64 n_5,
      Value.int IntKind.i64 n_6, Value.string s, Value.string s_1, Value.int IntKind.i64 n_7,
      Value.int IntKind.i64 n_8, Value.slice a_2 n_9 c_2]).uf
      b_1 ∧
      (m.sz ≤ b_1 ∨ False)) ∧
      ∀ (n : Nat),
      max m'.sz (b + (1 : Nat)) ≤ n →
      SpecW Try.prog (35 : Nat) [Value.pointer (some { block := b, off := (0 : Nat) : Addr })]
      { π := (m'.newBlock b [Value.int IntKind.i64 ix, Value.slice a n_1 c_1, Value.int IntKind.i64 n_2, Value.int IntKind.i64 n_3, Value.int IntKind.i64 n_4, Value.int IntKind.i64 n_5, Value.int IntKind.i64 n_6, Value.string s, Value.string s_1, Value.int IntKind.i64 n_7, Value.int IntKind.i64 n_8, Value.slice a_2 n_9 c_2]).π, sz := n, uf := (m'.newBlock b [Value.int IntKind.i64 ix, Value.slice a n_1 c_1, Value.int IntKind.i64 n_2, Value.int IntKind.i64 n_3, Value.int IntKind.i64 n_4, Value.int IntKind.i64 n_5, Value.int IntKind.i64 n_6, Value.string s, Value.string s_1, Value.int IntKind.i64 n_7, Value.int IntKind.i64 n_8, Value.slice a_2 n_9 c_2]).uf : M }
      S' fun (v : Value) (m' : M) =>
      ∃ (a : Option Addr),
      ∃ (n : Nat),
      ∃ (c_3 : Nat),
      v = Value.slice a n c_3 ∧
      ∃ (n_10 : Int),
      ∃ (a_5 : Option Addr),
      ∃ (n_11 : Nat),
      ∃ (c_4 : Nat),
      ∃ (n_12 : Int),
      ∃ (n_13 : Int),
      ∃ (n_14 : Int),
      ∃ (n_15 : Int),
      ∃ (n_16 : Int),
      ∃ (s : ByteArray),
      ∃ (s_2 : ByteArray),
      ∃ (n_17 : Int),
      ∃ (n_18 : Int),
      ∃ (a_6 : Option Addr),
      ∃ (n_19 : Nat),
      ∃ (c_5 : Nat),
      CellsAt m' b (0 : Nat)
      [Value.int IntKind.i64 n_10, Value.slice a_5 n_11 c_4,
      Value.int IntKind.i64 n_12, Value.int IntKind.i64 n_13,
      Value.int IntKind.i64 n_14, Value.int IntKind.i64 n_15,
      Value.int IntKind.i64 n_16, Value.string s,
      Value.string s_2, Value.int IntKind.i64 n_17,
      Value.int IntKind.i64 n_18, Value.slice a_6 n_19 c_5] ∧
      Done
      (ApR (applyE x c ix)
      (Value.tuple
      #[Value.agg
      #[Value.int IntKind.i64 n_10,
      Value.slice a_5 n_11 c_4,
      Value.int IntKind.i64 n_12,
      Value.int IntKind.i64 n_13,
      Value.int IntKind.i64 n_14,
      Value.int IntKind.i64 n_15,
      Value.int IntKind.i64 n_16, Value.string s,
      Value.string s_2, Value.int IntKind.i64 n_17,
      Value.int IntKind.i64 n_18,
      Value.slice a_6 n_19 c_5],
      Value.slice a n c_3, Value.int IntKind.i64 (0 : Int)])
      m'))
      (ifB (c.kd == (14 : Int))
      (ifB (c.pl_nu == n_4)
      (∀ (b : Nat),
      Fresh m.sz m' b →
      ∃ (S' : Nat → Prop),
      (∀ (b_1 : Nat),
      S' b_1 →
      (m'.newBlock b
      [Value.int IntKind.i64 ix, Value.slice a n_1 c_1, Value.int IntKind.i64 n_2,
      Value.int IntKind.i64 n_3, Value.int IntKind.i64 (0 : Int), Value.int IntKind.i64 (0 : Int),
      Value.int IntKind.i64 (0 : Int), Value.string { data := #[] : ByteArray },
      Value.string { data := #[] : ByteArray }, Value.int IntKind.i64 (0 : Int),
      Value.int IntKind.i64 (0 : Int), Value.slice a_2 n_9 c_2]).uf
      b_1 ∧
      (m.sz ≤ b_1 ∨ False)) ∧
      ∀ (n : Nat),
      max m'.sz (b + (1 : Nat)) ≤ n →
      SpecW Try.prog (36 : Nat)
      [Value.pointer (some { block := b, off := (0 : Nat) : Addr }), Value.int IntKind.i64 n_7,
      Value.int IntKind.i64 n_8, Value.int IntKind.i64 (190 : Int)]
      { π := (m'.newBlock b [Value.int IntKind.i64 ix, Value.slice a n_1 c_1, Value.int IntKind.i64 n_2, Value.int IntKind.i64 n_3, Value.int IntKind.i64 (0 : Int), Value.int IntKind.i64 (0 : Int), Value.int IntKind.i64 (0 : Int), Value.string { data := #[] : ByteArray }, Value.string { data := #[] : ByteArray }, Value.int IntKind.i64 (0 : Int), Value.int IntKind.i64 (0 : Int), Value.slice a_2 n_9 c_2]).π, sz := n, uf := (m'.newBlock b [Value.int IntKind.i64 ix, Value.slice a n_1 c_1, Value.int IntKind.i64 n_2, Value.int IntKind.i64 n_3, Value.int IntKind.i64 (0 : Int), Value.int IntKind.i64 (0 : Int), Value.int IntKind.i64 (0 : Int), Value.string { data := #[] : ByteArray }, Value.string { data := #[] : ByteArray }, Value.int IntKind.i64 (0 : Int), Value.int IntKind.i64 (0 : Int), Value.slice a_2 n_9 c_2]).uf : M }
      S' fun (v : Value) (m' : M) =>
      ∃ (a : Option Addr),
      ∃ (n : Nat),
      ∃ (c_3 : Nat),
      v = Value.slice a n c_3 ∧
      ∃ (n_10 : Int),
      ∃ (a_5 : Option Addr),
      ∃ (n_11 : Nat),
      ∃ (c_4 : Nat),
      ∃ (n_12 : Int),
      ∃ (n_13 : Int),
      ∃ (n_14 : Int),
      ∃ (n_15 : Int),
      ∃ (n_16 : Int),
      ∃ (s : ByteArray),
      ∃ (s_2 : ByteArray),
      ∃ (n_17 : Int),
      ∃ (n_18 : Int),
      ∃ (a_6 : Option Addr),
      ∃ (n_19 : Nat),
      ∃ (c_5 : Nat),
      CellsAt m' b (0 : Nat)
      [Value.int IntKind.i64 n_10, Value.slice a_5 n_11 c_4,
      Value.int IntKind.i64 n_12, Value.int IntKind.i64 n_13,
      Value.int IntKind.i64 n_14, Value.int IntKind.i64 n_15,
      Value.int IntKind.i64 n_16, Value.string s,
      Value.string s_2, Value.int IntKind.i64 n_17,
      Value.int IntKind.i64 n_18, Value.slice a_6 n_19 c_5] ∧
      Done
      (ApR (applyE x c ix)
      (Value.tuple
      #[Value.agg
      #[Value.int IntKind.i64 n_10,
      Value.slice a_5 n_11 c_4,
      Value.int IntKind.i64 n_12,
      Value.int IntKind.i64 n_13,
      Value.int IntKind.i64 n_14,
      Value.int IntKind.i64 n_15,
      Value.int IntKind.i64 n_16, Value.string s,
      Value.string s_2, Value.int IntKind.i64 n_17,
      Value.int IntKind.i64 n_18,
      Value.slice a_6 n_19 c_5],
      Value.slice a n c_3,
      Value.int IntKind.i64 (0 : Int)])
      m'))
      (Done
      (ApR (applyE x c ix)
      (Value.tuple
      #[Value.agg
      #[Value.int IntKind.i64 ix, Value.slice a n_1 c_1, Value.int IntKind.i64 n_2, Value.int IntKind.i64 n_3,
      Value.int IntKind.i64 n_4, Value.int IntKind.i64 n_5, Value.int IntKind.i64 n_6, Value.string s,
      Value.string s_1, Value.int IntKind.i64 n_7, Value.int IntKind.i64 n_8, Value.slice a_2 n_9 c_2],
      Value.slice none (0 : Nat) (0 : Nat), Value.int IntKind.i64 (0 : Int)])
      m')))
      (Done
      (ApR (applyE x c ix)
      (Value.tuple
      #[Value.agg
      #[Value.int IntKind.i64 ix, Value.slice a n_1 c_1, Value.int IntKind.i64 n_2, Value.int IntKind.i64 n_3,
      Value.int IntKind.i64 n_4, Value.int IntKind.i64 n_5, Value.int IntKind.i64 n_6, Value.string s,
      Value.string s_1, Value.int IntKind.i64 n_7, Value.int IntKind.i64 n_8, Value.slice a_2 n_9 c_2],
      Value.slice none (0 : Nat) (0 : Nat), Value.int IntKind.i64 (0 : Int)])
      m'))))
      (ifB (c.kd == (14 : Int))
      (ifB (c.pl_nu == n_4)
      (∀ (b : Nat),
      Fresh m.sz m' b →
      ∃ (S' : Nat → Prop),
      (∀ (b_1 : Nat),
      S' b_1 →
      (m'.newBlock b
      [Value.int IntKind.i64 ix, Value.slice a n_1 c_1, Value.int IntKind.i64 n_2,
      Value.int IntKind.i64 n_3, Value.int IntKind.i64 (0 : Int), Value.int IntKind.i64 (0 : Int),
      Value.int IntKind.i64 (0 : Int), Value.string { data := #[] : ByteArray },
      Value.string { data := #[] : ByteArray }, Value.int IntKind.i64 (0 : Int),
      Value.int IntKind.i64 (0 : Int), Value.slice a_2 n_9 c_2]).uf
      b_1 ∧
      (m.sz ≤ b_1 ∨ False)) ∧
      ∀ (n : Nat),
      max m'.sz (b + (1 : Nat)) ≤ n →
      SpecW Try.prog (36 : Nat)
      [Value.pointer (some { block := b, off := (0 : Nat) : Addr }), Value.int IntKind.i64 n_7,
      Value.int IntKind.i64 n_8, Value.int IntKind.i64 (190 : Int)]
      { π := (m'.newBlock b [Value.int IntKind.i64 ix, Value.slice a n_1 c_1, Value.int IntKind.i64 n_2, Value.int IntKind.i64 n_3, Value.int IntKind.i64 (0 : Int), Value.int IntKind.i64 (0 : Int), Value.int IntKind.i64 (0 : Int), Value.string { data := #[] : ByteArray }, Value.string { data := #[] : ByteArray }, Value.int IntKind.i64 (0 : Int), Value.int IntKind.i64 (0 : Int), Value.slice a_2 n_9 c_2]).π, sz := n, uf := (m'.newBlock b [Value.int IntKind.i64 ix, Value.slice a n_1 c_1, Value.int IntKind.i64 n_2, Value.int IntKind.i64 n_3, Value.int IntKind.i64 (0 : Int), Value.int IntKind.i64 (0 : Int), Value.int IntKind.i64 (0 : Int), Value.string { data := #[] : ByteArray }, Value.string { data := #[] : ByteArray }, Value.int IntKind.i64 (0 : Int), Value.int IntKind.i64 (0 : Int), Value.slice a_2 n_9 c_2]).uf : M }
      S' fun (v : Value) (m' : M) =>
      ∃ (a : Option Addr),
      ∃ (n : Nat),
      ∃ (c_3 : Nat),
      v = Value.slice a n c_3 ∧
      ∃ (n_10 : Int),
      ∃ (a_5 : Option Addr),
      ∃ (n_11 : Nat),
      ∃ (c_4 : Nat),
      ∃ (n_12 : Int),
      ∃ (n_13 : Int),
      ∃ (n_14 : Int),
      ∃ (n_15 : Int),
      ∃ (n_16 : Int),
      ∃ (s : ByteArray),
      ∃ (s_2 : ByteArray),
      ∃ (n_17 : Int),
      ∃ (n_18 : Int),
      ∃ (a_6 : Option Addr),
      ∃ (n_19 : Nat),
      ∃ (c_5 : Nat),
      CellsAt m' b (0 : Nat)
      [Value.int IntKind.i64 n_10, Value.slice a_5 n_11 c_4,
      Value.int IntKind.i64 n_12, Value.int IntKind.i64 n_13,
      Value.int IntKind.i64 n_14, Value.int IntKind.i64 n_15,
      Value.int IntKind.i64 n_16, Value.string s,
      Value.string s_2, Value.int IntKind.i64 n_17,
      Value.int IntKind.i64 n_18, Value.slice a_6 n_19 c_5] ∧
      Done
      (ApR (applyE x c ix)
      (Value.tuple
      #[Value.agg
      #[Value.int IntKind.i64 n_10,
      Value.slice a_5 n_11 c_4,
      Value.int IntKind.i64 n_12,
      Value.int IntKind.i64 n_13,
      Value.int IntKind.i64 n_14,
      Value.int IntKind.i64 n_15,
      Value.int IntKind.i64 n_16, Value.string s,
      Value.string s_2, Value.int IntKind.i64 n_17,
      Value.int IntKind.i64 n_18,
      Value.slice a_6 n_19 c_5],
      Value.slice a n c_3, Value.int IntKind.i64 (0 : Int)])
      m'))
      (Done
      (ApR (applyE x c ix)
      (Value.tuple
      #[Value.agg
      #[Value.int IntKind.i64 ix, Value.slice a n_1 c_1, Value.int IntKind.i64 n_2, Value.int IntKind.i64 n_3,
      Value.int IntKind.i64 n_4, Value.int IntKind.i64 n_5, Value.int IntKind.i64 n_6, Value.string s,
      Value.string s_1, Value.int IntKind.i64 n_7, Value.int IntKind.i64 n_8, Value.slice a_2 n_9 c_2],
      Value.slice none (0 : Nat) (0 : Nat), Value.int IntKind.i64 (0 : Int)])
      m')))
      (Done
      (ApR (applyE x c ix)
      (Value.tuple
      #[Value.agg
      #[Value.int IntKind.i64 ix, Value.slice a n_1 c_1, Value.int IntKind.i64 n_2, Value.int IntKind.i64 n_3,
      Value.int IntKind.i64 n_4, Value.int IntKind.i64 n_5, Value.int IntKind.i64 n_6, Value.string s,
      Value.string s_1, Value.int IntKind.i64 n_7, Value.int IntKind.i64 n_8, Value.slice a_2 n_9 c_2],
      Value.slice none (0 : Nat) (0 : Nat), Value.int IntKind.i64 (0 : Int)])
      m')))))
      (ifB (c.kd == (12 : Int))
      (∀ (b : Nat),
      Fresh m.sz m' b →
      ∃ (S' : Nat → Prop),
      (∀ (b_1 : Nat),
      S' b_1 →
      (m'.newBlock b
      [Value.int IntKind.i64 ix, Value.slice a n_1 c_1, Value.int IntKind.i64 n_2, Value.int IntKind.i64 n_3,
      Value.int IntKind.i64 n_4, Value.int IntKind.i64 n_5, Value.int IntKind.i64 n_6, Value.string s,
      Value.string s_1, Value.int IntKind.i64 n_7, Value.int IntKind.i64 n_8, Value.slice a_2 n_9 c_2]).uf
      b_1 ∧
      (m.sz ≤ b_1 ∨ False)) ∧
      ∀ (n : Nat),
      max m'.sz (b + (1 : Nat)) ≤ n →
      SpecW Try.prog (34 : Nat)
      [Value.pointer (some { block := b, off := (0 : Nat) : Addr }),
      Value.agg
      #[Value.int IntKind.i64 c.kd, Value.int IntKind.i64 c.cl, Value.int IntKind.i64 c.sq,
      Value.int IntKind.i64 c.ep, Value.int IntKind.i64 c.nd, Value.int IntKind.i64 c.hm, Value.string c.ky,
      Value.int IntKind.i64 c.le, Value.int IntKind.i64 c.rn, Value.int IntKind.i64 c.ne, Value.bool c.ys,
      Value.int IntKind.i64 c.op_kd, Value.string c.op_ky, Value.string c.op_ot, Value.int IntKind.i64 c.op_n,
      Value.int IntKind.i64 c.op_lo, Value.int IntKind.i64 c.op_hi, Value.int IntKind.i64 c.pl_nu,
      Value.int IntKind.i64 c.pl_fr, Value.int IntKind.i64 c.pl_to, Value.string c.pl_lo,
      Value.string c.pl_hi, Value.int IntKind.i64 c.pl_cl, Value.int IntKind.i64 c.pl_sq,
      Value.slice ai ni ci]]
      { π := (m'.newBlock b [Value.int IntKind.i64 ix, Value.slice a n_1 c_1, Value.int IntKind.i64 n_2, Value.int IntKind.i64 n_3, Value.int IntKind.i64 n_4, Value.int IntKind.i64 n_5, Value.int IntKind.i64 n_6, Value.string s, Value.string s_1, Value.int IntKind.i64 n_7, Value.int IntKind.i64 n_8, Value.slice a_2 n_9 c_2]).π, sz := n, uf := (m'.newBlock b [Value.int IntKind.i64 ix, Value.slice a n_1 c_1, Value.int IntKind.i64 n_2, Value.int IntKind.i64 n_3, Value.int IntKind.i64 n_4, Value.int IntKind.i64 n_5, Value.int IntKind.i64 n_6, Value.string s, Value.string s_1, Value.int IntKind.i64 n_7, Value.int IntKind.i64 n_8, Value.slice a_2 n_9 c_2]).uf : M }
      S' fun (v : Value) (m' : M) =>
      ∃ (a : Option Addr),
      ∃ (n : Nat),
      ∃ (c_3 : Nat),
      v = Value.slice a n c_3 ∧
      ∃ (n_10 : Int),
      ∃ (a_5 : Option Addr),
      ∃ (n_11 : Nat),
      ∃ (c_4 : Nat),
      ∃ (n_12 : Int),
      ∃ (n_13 : Int),
      ∃ (n_14 : Int),
      ∃ (n_15 : Int),
      ∃ (n_16 : Int),
      ∃ (s : ByteArray),
      ∃ (s_2 : ByteArray),
      ∃ (n_17 : Int),
      ∃ (n_18 : Int),
      ∃ (a_6 : Option Addr),
      ∃ (n_19 : Nat),
      ∃ (c_5 : Nat),
      CellsAt m' b (0 : Nat)
      [Value.int IntKind.i64 n_10, Value.slice a_5 n_11 c_4,
      Value.int IntKind.i64 n_12, Value.int IntKind.i64 n_13,
      Value.int IntKind.i64 n_14, Value.int IntKind.i64 n_15,
      Value.int IntKind.i64 n_16, Value.string s, Value.string s_2,
      Value.int IntKind.i64 n_17, Value.int IntKind.i64 n_18,
      Value.slice a_6 n_19 c_5] ∧
      Done
      (ApR (applyE x c ix)
      (Value.tuple
      #[Value.agg
      #[Value.int IntKind.i64 n_10, Value.slice a_5 n_11 c_4,
      Value.int IntKind.i64 n_12, Value.int IntKind.i64 n_13,
      Value.int IntKind.i64 n_14, Value.int IntKind.i64 n_15,
      Value.int IntKind.i64 n_16, Value.string s,
      Value.string s_2, Value.int IntKind.i64 n_17,
      Value.int IntKind.i64 n_18, Value.slice a_6 n_19 c_5],
      Value.slice a n c_3, Value.int IntKind.i64 (0 : Int)])
      m'))
      (ifB (c.kd == (13 : Int))
      (ifB (c.kd == (14 : Int))
      (Done
      (ApR (applyE x c ix)
      (Value.tuple
      #[Value.agg
      #[Value.int IntKind.i64 ix, Value.slice a n_1 c_1, Value.int IntKind.i64 n_2, Value.int IntKind.i64 n_3,
      Value.int IntKind.i64 n_4, Value.int IntKind.i64 n_5, Value.int IntKind.i64 n_6, Value.string s,
      Value.string s_1, Value.int IntKind.i64 n_7, Value.int IntKind.i64 n_8, Value.slice a_2 n_9 c_2],
      Value.slice none (0 : Nat) (0 : Nat), Value.int IntKind.i64 (0 : Int)])
      m'))
      (Done
      (ApR (applyE x c ix)
      (Value.tuple
      #[Value.agg
      #[Value.int IntKind.i64 ix, Value.slice a n_1 c_1, Value.int IntKind.i64 n_2, Value.int IntKind.i64 n_3,
      Value.int IntKind.i64 n_4, Value.int IntKind.i64 n_5, Value.int IntKind.i64 n_6, Value.string s,
      Value.string s_1, Value.int IntKind.i64 n_7, Value.int IntKind.i64 n_8, Value.slice a_2 n_9 c_2],
      Value.slice none (0 : Nat) (0 : Nat), Value.int IntKind.i64 (0 : Int)])
      m')))
      (ifB (c.kd == (14 : Int))
      (Done
      (ApR (applyE x c ix)
      (Value.tuple
      #[Value.agg
      #[Value.int IntKind.i64 ix, Value.slice a n_1 c_1, Value.int IntKind.i64 n_2, Value.int IntKind.i64 n_3,
      Value.int IntKind.i64 n_4, Value.int IntKind.i64 n_5, Value.int IntKind.i64 n_6, Value.string s,
      Value.string s_1, Value.int IntKind.i64 n_7, Value.int IntKind.i64 n_8, Value.slice a_2 n_9 c_2],
      Value.slice none (0 : Nat) (0 : Nat), Value.int IntKind.i64 (0 : Int)])
      m'))
      (Done
      (ApR (applyE x c ix)
      (Value.tuple
      #[Value.agg
      #[Value.int IntKind.i64 ix, Value.slice a n_1 c_1, Value.int IntKind.i64 n_2, Value.int IntKind.i64 n_3,
      Value.int IntKind.i64 n_4, Value.int IntKind.i64 n_5, Value.int IntKind.i64 n_6, Value.string s,
      Value.string s_1, Value.int IntKind.i64 n_7, Value.int IntKind.i64 n_8, Value.slice a_2 n_9 c_2],
      Value.slice none (0 : Nat) (0 : Nat), Value.int IntKind.i64 (0 : Int)])
      m'))))))))) (by kernel_rfl) ?_
  refine ⟨rfl, _, rright_c x a hl hm _ h, ?_⟩
  cases hrc : rightC x with
  | false =>
    have e : applyE x c ix = (c0, [], 21) := by unfold applyE; rw [if_pos hrc]
    exact ifB_true ⟨by rw [e]; exact ⟨a0, none, 0, rfl, ⟨.nil _, .nil _⟩, .nil _⟩⟩
  | true =>
  have hr := ric_iff.1 hrc
  have hbad : (ix ≤ x.ix ∨ ix > 4611686018427387904) → applyE x c ix = (c0, [], 80) := fun q => by unfold applyE; rw [if_neg (by rw [hrc]; simp), if_pos q]
  refine ifB_false (ifB_intro (fun g => ⟨?_⟩) (fun g => ifB_intro (fun g2 => ⟨?_⟩) (fun g2 => ?_)))
  · rw [hbad (.inl (of_decide_eq_true g))]; exact ⟨a0, none, 0, rfl, ⟨.nil _, .nil _⟩, .nil _⟩
  · rw [hbad (.inr (of_decide_eq_true g2))]; exact ⟨a0, none, 0, rfl, ⟨.nil _, .nil _⟩, .nil _⟩
  have k1 := of_decide_eq_false g
  have k2 := of_decide_eq_false g2
  have hix0 := hr.ix0
  have hry : RiC { x with ix := ix } := hr.ix (by omega) (by omega)
  refine fun N hN => (rcopy_s x a (by have := right_len hr.ps; omega) (by have := tab8 hr.ms; omega) _ (h.sz hN)).mono fun v m1 hag1 ⟨a1, hv, r1⟩ => ?_
  have r1 : CtR m1 { x with ix := ix } a1 := ⟨r1.ps, r1.ms⟩
  have eA : applyE x c ix = (let y := { x with ix := ix }
     let g := y.nu ≠ 0 ∧ c.pl_nu = y.nu
     if c.kd = 12 then ((startE y c).1, (startE y c).2, 0)
     else if c.kd = 13 ∧ g then ((shfE y).1, (shfE y).2, 0)
     else if c.kd = 14 ∧ g then ((doneE (clrP y) y.cl y.sq 190).1, (doneE (clrP y) y.cl y.sq 190).2, 0)
     else (y, [], 0)) := by unfold applyE; rw [if_neg (by rw [hrc]; simp), if_neg (by omega)]
  generalize hyy : ({ x with ix := ix } : Ct) = y at *
  have yix : ix = y.ix := by rw [← hyy]
  subst yix
  have ynu : y.nu = x.nu := by rw [← hyy]
  have ycl : y.cl = x.cl := by rw [← hyy]
  have ysq : y.sq = x.sq := by rw [← hyy]
  have hmy : y.ms.length ≤ 9223372036854775807 := by rw [← hyy]; exact hm
  have eA : applyE x c y.ix = (if c.kd = 12 then ((startE y c).1, (startE y c).2, 0)
     else if c.kd = 13 ∧ (y.nu ≠ 0 ∧ c.pl_nu = y.nu) then ((shfE y).1, (shfE y).2, 0)
     else if c.kd = 14 ∧ (y.nu ≠ 0 ∧ c.pl_nu = y.nu) then ((doneE (clrP y) y.cl y.sq 190).1, (doneE (clrP y) y.cl y.sq 190).2, 0)
     else (y, [], 0)) := eA
  have lf : applyE x c y.ix = (y, [], 0) → Done (ApR (applyE x c y.ix) (.tuple #[ctv y a1, .slice none 0 0, I 0]) m1) := fun e => ⟨by rw [e]; exact ⟨a1, none, 0, rfl, r1, .nil _⟩⟩
  have hsz1 : m.sz ≤ m1.sz := by have := hag1.2.2; simp only at this; omega
  have fin : ∀ (b : Nat) (z : Ct × List Ef) (v : Value) (m' : M), PtR b z v m' → applyE x c y.ix = (z.1, z.2, 0) → ∃ a n c_3, v = .slice a n c_3 ∧ ∃ n_10 a_5 n_11 c_4 n_12 n_13 n_14 n_15 n_16 s s_2 n_17 n_18 a_6 n_19 c_5, CellsAt m' b 0 [I n_10, .slice a_5 n_11 c_4, I n_12, I n_13, I n_14, I n_15, I n_16, .string s, .string s_2, I n_17, I n_18, .slice a_6 n_19 c_5] ∧ Done (ApR (applyE x c y.ix) (.tuple #[.agg #[I n_10, .slice a_5 n_11 c_4, I n_12, I n_13, I n_14, I n_15, I n_16, .string s, .string s_2, I n_17, I n_18, .slice a_6 n_19 c_5], .slice a n c_3, I 0]) m') := fun b z v m' ⟨⟨a', av, cv, q1, q2, q3⟩⟩ e => by
    refine ⟨_, _, _, q2, _, _, _, _, _, _, _, _, _, _, _, _, _, _, _, _, q1.cells, ⟨?_⟩⟩
    rw [e]
    exact ⟨a', av, cv, rfl, q1.r, q3⟩
  have st : c.kd = 12 → ∀ b, Fresh m.sz m1 b → ∃ S' : Nat → Prop, (∀ z, S' z → (m1.newBlock b (encCt y a1)).uf z ∧ (m.sz ≤ z ∨ False)) ∧ ∀ n, (m1.newBlock b (encCt y a1)).sz ≤ n → SpecW Try.prog 34 [.pointer (some ⟨b, 0, none⟩), cdv c ai ni ci] { m1.newBlock b (encCt y a1) with sz := n } S' fun v m' => ∃ a n c_3, v = .slice a n c_3 ∧ ∃ n_10 a_5 n_11 c_4 n_12 n_13 n_14 n_15 n_16 s s_2 n_17 n_18 a_6 n_19 c_5, CellsAt m' b 0 [I n_10, .slice a_5 n_11 c_4, I n_12, I n_13, I n_14, I n_15, I n_16, .string s, .string s_2, I n_17, I n_18, .slice a_6 n_19 c_5] ∧ Done (ApR (applyE x c y.ix) (.tuple #[.agg #[I n_10, .slice a_5 n_11 c_4, I n_12, I n_13, I n_14, I n_15, I n_16, .string s, .string s_2, I n_17, I n_18, .slice a_6 n_19 c_5], .slice a n c_3, I 0]) m') := fun k b hb => by
    have P := PtC.newC hb r1
    exact ⟨fun z => z = b, fun z e => by subst e; exact ⟨P.uf, .inl hb.lo⟩, fun n hn => (rplan_s y a1 b c ai ni ci hry hmy _ (P.sz hn)).mono fun v m' hag q => fin b _ v m' q (by rw [eA, if_pos k])⟩
  have dn : ∀ (b : Nat) (z : Ct) (a2 : Ca) (er : Int) (m2 : M), PtC b z a2 m2 → m.sz ≤ b → z.ms.length ≤ 9223372036854775807 → applyE x c y.ix = ((doneE z y.cl y.sq er).1, (doneE z y.cl y.sq er).2, 0) → ∃ S' : Nat → Prop, (∀ z, S' z → m2.uf z ∧ (m.sz ≤ z ∨ False)) ∧ ∀ n, m2.sz ≤ n → SpecW Try.prog 36 [.pointer (some ⟨b, 0, none⟩), I y.cl, I y.sq, I er] { m2 with sz := n } S' fun v m' => ∃ a n c_3, v = .slice a n c_3 ∧ ∃ n_10 a_5 n_11 c_4 n_12 n_13 n_14 n_15 n_16 s s_2 n_17 n_18 a_6 n_19 c_5, CellsAt m' b 0 [I n_10, .slice a_5 n_11 c_4, I n_12, I n_13, I n_14, I n_15, I n_16, .string s, .string s_2, I n_17, I n_18, .slice a_6 n_19 c_5] ∧ Done (ApR (applyE x c y.ix) (.tuple #[.agg #[I n_10, .slice a_5 n_11 c_4, I n_12, I n_13, I n_14, I n_15, I n_16, .string s, .string s_2, I n_17, I n_18, .slice a_6 n_19 c_5], .slice a n c_3, I 0]) m') := fun b z a2 er m2 P hlo hms e =>
    ⟨fun z => z = b, fun z e => by subst e; exact ⟨P.uf, .inl hlo⟩, fun n hn => (rdone_s z a2 b y.cl y.sq er hms _ (P.sz hn)).mono fun v m' hag q => fin b _ v m' q e⟩
  have hv : v = ctv { y with ix := x.ix } a1 := by rw [← hyy]; exact hv
  refine ⟨_, _, _, _, _, _, _, _, _, _, _, _, _, _, _, _, hv, ifB_intro (fun g3 => ifB_intro (fun g4 => st (by simpa using g4)) (fun g4 => ifB_intro (fun g5 => ifB_intro (fun g6 b hb => ?e1) (fun g6 => ifB_intro (fun g7 => ifB_intro (fun g8 => ?e2) (fun g8 => lf ?e3)) (fun g7 => lf ?e4))) (fun g5 => ifB_intro (fun g6 => ifB_intro (fun g7 b hb => ?e5) (fun g7 => lf ?e6)) (fun g6 => lf ?e7)))) (fun g3 => ifB_intro (fun g4 => st (by simpa using g4)) (fun g4 => ifB_intro (fun g5 => ifB_intro (fun g6 => lf ?e8) (fun g6 => lf ?e9)) (fun g5 => ifB_intro (fun g6 => lf ?e10) (fun g6 => lf ?e11))))⟩
  case e1 =>
    have q3 : y.nu ≠ 0 := by simpa using g3
    have q4 : ¬ c.kd = 12 := by simpa using g4
    have q5 : c.kd = 13 := by simpa using g5
    have q6 : c.pl_nu = y.nu := by simpa using g6
    have P := PtC.newC hb r1
    refine ⟨fun z => z = b, fun z e => by subst e; exact ⟨P.uf, .inl hb.lo⟩, fun n hn => (rshift_s y a1 b hry q3 hmy _ (P.sz hn)).mono fun v m2 hag2 q => fin b _ v m2 q (by rw [eA, if_neg q4, if_pos ⟨q5, q3, q6⟩])⟩
  case e2 =>
    have q5 : c.kd = 13 := by simpa using g5
    have q6 : c.kd = 14 := by simpa using g7
    omega
  case e3 =>
    have q4 : ¬ c.kd = 12 := by simpa using g4
    have q6 : ¬ c.pl_nu = y.nu := by simpa using g6
    rw [eA, if_neg q4, if_neg (fun e => q6 e.2.2), if_neg (fun e => q6 e.2.2)]
  case e4 =>
    have q4 : ¬ c.kd = 12 := by simpa using g4
    have q6 : ¬ c.pl_nu = y.nu := by simpa using g6
    rw [eA, if_neg q4, if_neg (fun e => q6 e.2.2), if_neg (fun e => q6 e.2.2)]
  case e5 =>
    have q3 : y.nu ≠ 0 := by simpa using g3
    have q4 : ¬ c.kd = 12 := by simpa using g4
    have q5 : ¬ c.kd = 13 := by simpa using g5
    have q6 : c.kd = 14 := by simpa using g6
    have q7 : c.pl_nu = y.nu := by simpa using g7
    have r2 : CtR m1 (clrP y) a1 := ⟨r1.ps, r1.ms⟩
    exact dn b (clrP y) a1 190 _ (PtC.newC hb r2) hb.lo hmy (by rw [eA, if_neg q4, if_neg (fun e => q5 e.1), if_pos ⟨q6, q3, q7⟩])
  case e6 =>
    have q4 : ¬ c.kd = 12 := by simpa using g4
    have q7 : ¬ c.pl_nu = y.nu := by simpa using g7
    rw [eA, if_neg q4, if_neg (fun e => q7 e.2.2), if_neg (fun e => q7 e.2.2)]
  case e7 =>
    have q4 : ¬ c.kd = 12 := by simpa using g4
    have q5 : ¬ c.kd = 13 := by simpa using g5
    have q6 : ¬ c.kd = 14 := by simpa using g6
    rw [eA, if_neg q4, if_neg (fun e => q5 e.1), if_neg (fun e => q6 e.1)]
  all_goals
    have q3 : y.nu = 0 := by simpa using g3
    have q4 : ¬ c.kd = 12 := by simpa using g4
    rw [eA, if_neg q4, if_neg (fun e => e.2.1 q3), if_neg (fun e => e.2.1 q3)]

def newC : Ct := ⟨0, [⟨1, .empty, 1⟩], 2, 0, 0, 0, 0, .empty, .empty, 0, 0, []⟩

theorem new_s (m : M) : Vc.Spec Try.prog 8 [] m fun v m' => ∃ a', v = ctv newC a' ∧ CtR m' newC a' := by
  refine Vc.Spec.of_vc Try.func8 (ann := noAnn) ?_
  refine vc_by (X :=
      true = true ∧
      true = true ∧
      ∀ (b : Nat),
      m.sz ≤ b →
      Done
      (∃ (a' : Ca),
      Value.agg
      #[Value.int IntKind.i64 (0 : Int), Value.slice (some { block := b, off := (0 : Nat) : Addr }) (1 : Nat) (1 : Nat), Value.int IntKind.i64 (2 : Int),
      Value.int IntKind.i64 (0 : Int), Value.int IntKind.i64 (0 : Int), Value.int IntKind.i64 (0 : Int), Value.int IntKind.i64 (0 : Int),
      Value.string { data := #[] : ByteArray }, Value.string { data := #[] : ByteArray }, Value.int IntKind.i64 (0 : Int), Value.int IntKind.i64 (0 : Int),
      Value.slice none (0 : Nat) (0 : Nat)] =
      Value.agg
      #[Value.int IntKind.i64 (0 : Int), Value.slice a'.ap (1 : Nat) a'.cp, Value.int IntKind.i64 (2 : Int), Value.int IntKind.i64 (0 : Int),
      Value.int IntKind.i64 (0 : Int), Value.int IntKind.i64 (0 : Int), Value.int IntKind.i64 (0 : Int), Value.string ByteArray.empty, Value.string ByteArray.empty,
      Value.int IntKind.i64 (0 : Int), Value.int IntKind.i64 (0 : Int), Value.slice a'.am (0 : Nat) a'.cm] ∧
      CtR (m.newBlock b [Value.int IntKind.i64 (1 : Int), Value.string { data := #[] : ByteArray }, Value.int IntKind.i64 (1 : Int)]) newC a')) (by kernel_rfl) ?_
  exact ⟨rfl, rfl, fun b hb => ⟨⟨⟨some ⟨b, 0, none⟩, 1, none, 0⟩, rfl, .at _ _ _ (by simp only [M.newBlock]; omega) cellsAt_new, .nil _⟩⟩⟩

theorem rnew_s (m : M) : Vc.Spec Try.prog 9 [] m fun v m' => ∃ a', v = ctv newC a' ∧ CtR m' newC a' := by
  refine Vc.Spec.of_vc Try.func9 (ann := noAnn) ?_
  refine vc_by (X :=
      true = true ∧
      true = true ∧
      ∀ (b : Nat),
      m.sz ≤ b →
      Done
      (∃ (a' : Ca),
      Value.agg
      #[Value.int IntKind.i64 (0 : Int), Value.slice (some { block := b, off := (0 : Nat) : Addr }) (1 : Nat) (1 : Nat), Value.int IntKind.i64 (2 : Int),
      Value.int IntKind.i64 (0 : Int), Value.int IntKind.i64 (0 : Int), Value.int IntKind.i64 (0 : Int), Value.int IntKind.i64 (0 : Int),
      Value.string { data := #[] : ByteArray }, Value.string { data := #[] : ByteArray }, Value.int IntKind.i64 (0 : Int), Value.int IntKind.i64 (0 : Int),
      Value.slice none (0 : Nat) (0 : Nat)] =
      Value.agg
      #[Value.int IntKind.i64 (0 : Int), Value.slice a'.ap (1 : Nat) a'.cp, Value.int IntKind.i64 (2 : Int), Value.int IntKind.i64 (0 : Int),
      Value.int IntKind.i64 (0 : Int), Value.int IntKind.i64 (0 : Int), Value.int IntKind.i64 (0 : Int), Value.string ByteArray.empty, Value.string ByteArray.empty,
      Value.int IntKind.i64 (0 : Int), Value.int IntKind.i64 (0 : Int), Value.slice a'.am (0 : Nat) a'.cm] ∧
      CtR (m.newBlock b [Value.int IntKind.i64 (1 : Int), Value.string { data := #[] : ByteArray }, Value.int IntKind.i64 (1 : Int)]) newC a')) (by kernel_rfl) ?_
  exact ⟨rfl, rfl, fun b hb => ⟨⟨⟨some ⟨b, 0, none⟩, 1, none, 0⟩, rfl, .at _ _ _ (by simp only [M.newBlock]; omega) cellsAt_new, .nil _⟩⟩⟩

theorem check_q (x : Ct) (a : Ca) (hl : x.ps.length ≤ 9223372036854775807) (hm : x.ms.length ≤ 9223372036854775807) (m : M) (h : CtR m x a) : QSpec Try.prog 15 [ctv x a] m (I (if rightC x then 0 else 21)) := by
  refine QSpec.of_vc Try.func15 (ann := fun _ => noAnn) fun n hn => ?_
  refine vc_by (X :=
      true = true ∧
      ∃ (b : Bool),
      QSpec Try.prog (29 : Nat)
      [Value.agg
      #[Value.int IntKind.i64 x.ix, Value.slice a.ap x.ps.length a.cp, Value.int IntKind.i64 x.nx, Value.int IntKind.i64 x.la, Value.int IntKind.i64 x.nu,
      Value.int IntKind.i64 x.fr, Value.int IntKind.i64 x.to, Value.string x.lo, Value.string x.hi, Value.int IntKind.i64 x.cl, Value.int IntKind.i64 x.sq,
      Value.slice a.am x.ms.length a.cm]]
      { π := m.π, sz := n, uf := m.uf : M } (Value.bool b) ∧
      ifB (!b) (Done (Value.int IntKind.i64 (21 : Int) = Value.int IntKind.i64 (if rightC x = true then (0 : Int) else (21 : Int))))
      (Done (Value.int IntKind.i64 (0 : Int) = Value.int IntKind.i64 (if rightC x = true then (0 : Int) else (21 : Int))))) (by kernel_rfl) ?_
  refine ⟨rfl, _, right_q x a hl hm _ (h.sz hn), ?_⟩
  cases rightC x
  · exact ifB_true ⟨rfl⟩
  · exact ifB_false ⟨rfl⟩

theorem epoch_q (x : Ct) (a : Ca) (hl : x.ps.length ≤ 9223372036854775807) (hm : x.ms.length ≤ 9223372036854775807) (m : M) (h : CtR m x a) : QSpec Try.prog 24 [ctv x a] m (I (if rightC x then epochL x.ps + 1 else 0)) := by
  refine QSpec.of_vc Try.func24 (ann := fun _ => noAnn) fun n hn => ?_
  refine vc_by (X :=
      true = true ∧
      ∃ (b : Bool),
      QSpec Try.prog (29 : Nat)
      [Value.agg
      #[Value.int IntKind.i64 x.ix, Value.slice a.ap x.ps.length a.cp, Value.int IntKind.i64 x.nx, Value.int IntKind.i64 x.la, Value.int IntKind.i64 x.nu,
      Value.int IntKind.i64 x.fr, Value.int IntKind.i64 x.to, Value.string x.lo, Value.string x.hi, Value.int IntKind.i64 x.cl, Value.int IntKind.i64 x.sq,
      Value.slice a.am x.ms.length a.cm]]
      { π := m.π, sz := n, uf := m.uf : M } (Value.bool b) ∧
      ifB (!b) (Done (Value.int IntKind.i64 (0 : Int) = Value.int IntKind.i64 (if rightC x = true then epochL x.ps + (1 : Int) else (0 : Int))))
      (∃ (n_1 : Int),
      QSpec Try.prog (17 : Nat) [Value.slice a.ap x.ps.length a.cp] { π := m.π, sz := n, uf := m.uf : M } (Value.int IntKind.i64 n_1) ∧
      Done (Value.int IntKind.i64 (IntKind.i64.wrap (n_1 + (1 : Int))) = Value.int IntKind.i64 (if rightC x = true then epochL x.ps + (1 : Int) else (0 : Int))))) (by kernel_rfl) ?_
  have h' := h.sz hn
  refine ⟨rfl, _, right_q x a hl hm _ h', ?_⟩
  cases hr : rightC x with
  | false => exact ifB_true ⟨rfl⟩
  | true =>
    have hlen := right_len (ric_iff.1 hr).ps
    refine ifB_false ⟨_, rg_epoch x.ps a.ap a.cp (by omega) (row_h0 h.ps) _ h'.ps, ⟨?_⟩⟩
    have h1 := epoch_le (ric_iff.1 hr).ps
    have h2 := epoch_nn x.ps 0
    have e : epochL x.ps = x.ps.foldl (fun e p => max e p.ep) 0 := rfl
    rw [if_pos rfl, show IntKind.i64.wrap (epochL x.ps + 1) = epochL x.ps + 1 by simp [IntKind.wrap_i64]; omega]

theorem chart_q (x : Ct) (a a2 : Ca) (hl : x.ps.length ≤ 9223372036854775807) (hm : x.ms.length ≤ 9223372036854775807) (m : M) (h : CtR m x a) (h2 : CtR m x a2) : QSpec Try.prog 13 [ctv x a, ctv x a2] m (.bool true) := by
  refine QSpec.of_vc Try.func13 (ann := fun _ => noAnn) fun n hn => ?_
  refine vc_by (X :=
      true = true ∧
      ifB (x.ix == x.ix)
      (∃ (b : Bool),
      QSpec Try.prog (21 : Nat) [Value.slice a.ap x.ps.length a.cp, Value.slice a2.ap x.ps.length a2.cp] { π := m.π, sz := n, uf := m.uf : M } (Value.bool b) ∧
      ifB b
      (ifB (x.nx == x.nx)
      (ifB (x.la == x.la)
      (ifB (x.nu == x.nu && (x.fr == x.fr && (x.to == x.to && (x.lo.toList == x.lo.toList && (x.hi.toList == x.hi.toList && (x.cl == x.cl && (x.sq == x.sq && true)))))))
      (∃ (b : Bool),
      QSpec Try.prog (37 : Nat) [Value.slice a.am x.ms.length a.cm, Value.slice a2.am x.ms.length a2.cm] { π := m.π, sz := n, uf := m.uf : M } (Value.bool b) ∧
      Done (Value.bool b = Value.bool true))
      (Done (Value.bool false = Value.bool true)))
      (Done (Value.bool false = Value.bool true)))
      (Done (Value.bool false = Value.bool true)))
      (Done (Value.bool false = Value.bool true)))
      (Done (Value.bool false = Value.bool true))) (by kernel_rfl) ?_
  have h' := h.sz hn
  have h2' := h2.sz hn
  have e1 := pl_plain a.ap a2.ap a.cp a2.cp x.ps x.ps hl _ h'.ps h2'.ps
  have e2 := mk_plain a.am a2.am a.cm a2.cm x.ms x.ms hm _ h'.ms h2'.ms
  rw [decide_eq_true rfl] at e1 e2
  exact ⟨rfl, ifB_true' (by simp) ⟨_, e1, ifB_true (ifB_true' (by simp) (ifB_true' (by simp) (ifB_true' (by simp) ⟨_, e2, ⟨rfl⟩⟩)))⟩⟩

theorem pawake_q (m : M) : QSpec Try.prog 10 [] m (.bool true) := by
  refine QSpec.of_vc Try.func10 (ann := fun _ => noAnn) fun n hn => ?_
  refine vc_by (X :=
      true = true ∧
      ∀ (n_1 : Nat),
      n ≤ n_1 →
      Vc.Spec Try.prog (8 : Nat) [] { π := m.π, sz := n_1, uf := m.uf : M } fun (v : Value) (m' : M) =>
      ∃ (n : Int),
      ∃ (a : Option Addr),
      ∃ (n_2 : Nat),
      ∃ (c : Nat),
      ∃ (n_3 : Int),
      ∃ (n_4 : Int),
      ∃ (n_5 : Int),
      ∃ (n_6 : Int),
      ∃ (n_7 : Int),
      ∃ (s : ByteArray),
      ∃ (s_1 : ByteArray),
      ∃ (n_8 : Int),
      ∃ (n_9 : Int),
      ∃ (a_1 : Option Addr),
      ∃ (n_10 : Nat),
      ∃ (c_1 : Nat),
      v =
      Value.agg
      #[Value.int IntKind.i64 n, Value.slice a n_2 c, Value.int IntKind.i64 n_3, Value.int IntKind.i64 n_4, Value.int IntKind.i64 n_5,
      Value.int IntKind.i64 n_6, Value.int IntKind.i64 n_7, Value.string s, Value.string s_1, Value.int IntKind.i64 n_8,
      Value.int IntKind.i64 n_9, Value.slice a_1 n_10 c_1] ∧
      ifB ((↑n_2 : Int) == (1 : Int))
      (ifB (n_3 == (2 : Int))
      (∃ (n : Int),
      QSpec Try.prog (15 : Nat)
      [Value.agg
      #[Value.int IntKind.i64 (0 : Int), Value.slice none (0 : Nat) (0 : Nat), Value.int IntKind.i64 (0 : Int),
      Value.int IntKind.i64 (0 : Int), Value.int IntKind.i64 (0 : Int), Value.int IntKind.i64 (0 : Int),
      Value.int IntKind.i64 (0 : Int), Value.string { data := #[] : ByteArray }, Value.string { data := #[] : ByteArray },
      Value.int IntKind.i64 (0 : Int), Value.int IntKind.i64 (0 : Int), Value.slice none (0 : Nat) (0 : Nat)]]
      m' (Value.int IntKind.i64 n) ∧
      Done (Value.bool (n == (21 : Int)) = Value.bool true))
      (Done (Value.bool false = Value.bool true)))
      (Done (Value.bool false = Value.bool true))) (by kernel_rfl) ?_
  refine ⟨rfl, fun n1 h1 => (new_s _).mono fun v m' hag ⟨a', hv, hr⟩ => ⟨_, _, _, _, _, _, _, _, _, _, _, _, _, _, _, _, hv, ifB_true' (by simp [newC]) (ifB_true' (by simp [newC]) ⟨_, check_q c0 a0 (by decide) (by decide) _ ⟨.nil _, .nil _⟩, ⟨?_⟩⟩)⟩⟩
  have e : rightC c0 = false := by
    cases h : rightC c0 with
    | false => rfl
    | true => exact absurd (ric_iff.1 h).nx0 (by decide)
  rw [e]; rfl

end Go.Proofs.Ytjjfcaigonomiaa
set_option linter.unusedVariables false
set_option linter.unusedSimpArgs false
namespace Go.Proofs.Ytjjfcaigonomiaa
open Go.Vc Go.RowKit Go.ChangeShapes Go.WideShapes Go.ChangeAt
set_option maxRecDepth 100000

abbrev encBt (n : Int) : List Value := [.int .u8 n]
abbrev bts (l : List Int) : List Value := l.flatMap encBt
theorem bt_k (x : Int) : (encBt x).length = 1 := rfl
theorem bt_len (l : List Int) : (bts l).length = l.length := by rw [flat_len bt_k]; omega
theorem bt_len1 (l : List Int) : (bts l).length = l.length * 1 := by rw [bt_len]; omega
theorem bt_at {m : M} {b o i : Nat} {l : List Int} (h : CellsAt m b o (bts l)) (hi : i < l.length) : CellsAt m b (o + i) (encBt l[i]) := by have := CellsAt.elem bt_k l o i hi h; rw [Nat.mul_one] at this; exact this
theorem bt_one (l : List Int) : oneCells (bts l) = true := by
  rw [oneCells_iff]; intro v hv
  obtain ⟨w, -, hw⟩ := List.mem_flatMap.1 hv
  exact oneCells_iff.1 (rfl : oneCells (encBt w) = true) v hw

theorem bt_zr (k : Nat) : (zeroRow Try.prog 5 k).length = k * 1 := zrLen (by kernel_rfl) k

theorem bt_plain (a a2 : Option Addr) (c c2 : Nat) (l : List Int) (hn1 : l.length ≤ 9223372036854775807) (m : M) (h : Row m a (bts l)) (h2 : Row m a2 (bts l)) :
    QSpec Try.prog 76 [.slice a l.length c, .slice a2 l.length c2] m (.bool true) := by
  refine QSpec.of_vc Try.func76 (ann := fun n _ => { A := Nat, inv := fun k => k ≤ l.length, st := fun k => [(5, .val (I k)), (0, .val (.slice a l.length c)), (1, .val (.slice a2 l.length c2))], own := fun _ => [], m := fun _ => { m with sz := n }, μ := fun k => (l.length - k) }) fun n hn => ?_
  refine vc_by (X :=
      true = true ∧
      ifB ((↑l.length : Int) != (↑l.length : Int)) (Done (Value.bool false = Value.bool true))
      ((∃ (a_1 : Nat),
      a_1 ≤ l.length ∧
      { π := m.π, sz := n, uf := m.uf : M } = { π := m.π, sz := n, uf := m.uf : M } ∧
      ((SV.val (Value.int IntKind.i64 (0 : Int)) = SV.val (Value.int IntKind.i64 (↑a_1 : Int)) ∧ true = true) ∧
      (SV.val (Value.slice a l.length c) = SV.val (Value.slice a l.length c) ∧ true = true) ∧
      (SV.val (Value.slice a2 l.length c2) = SV.val (Value.slice a2 l.length c2) ∧ true = true) ∧ True) ∧
      True) ∧
      ∀ (a_1 : Nat),
      a_1 ≤ l.length →
      ifB (decide ((↑a_1 : Int) < (↑l.length : Int)))
      (true = true ∧
      ∃ (b : Nat),
      ∃ (off : Nat),
      a = some { block := b, off := off : Addr } ∧
      ((0 : Int) ≤ (↑a_1 : Int) ∧ (↑a_1 : Int) < (↑l.length : Int)) ∧
      ∃ (n_1 : Int),
      CellsAt { π := m.π, sz := n, uf := m.uf : M } b (off + (↑a_1 : Int).toNat * (1 : Nat)) [Value.int IntKind.u8 n_1] ∧
      ∃ (b : Nat),
      ∃ (off : Nat),
      a2 = some { block := b, off := off : Addr } ∧
      ((0 : Int) ≤ (↑a_1 : Int) ∧ (↑a_1 : Int) < (↑l.length : Int)) ∧
      ∃ (n_2 : Int),
      CellsAt { π := m.π, sz := n, uf := m.uf : M } b (off + (↑a_1 : Int).toNat * (1 : Nat)) [Value.int IntKind.u8 n_2] ∧
      ifB (n_1 != n_2) (Done (Value.bool false = Value.bool true))
      (∃ (a' : Nat),
      (a' ≤ l.length ∧
      { π := m.π, sz := n, uf := m.uf : M } = { π := m.π, sz := n, uf := m.uf : M } ∧
      ((SV.val (Value.int IntKind.i64 (IntKind.i64.wrap ((↑a_1 : Int) + (1 : Int)))) = SV.val (Value.int IntKind.i64 (↑a' : Int)) ∧
      true = true) ∧
      (SV.val (Value.slice a l.length c) = SV.val (Value.slice a l.length c) ∧ true = true) ∧
      (SV.val (Value.slice a2 l.length c2) = SV.val (Value.slice a2 l.length c2) ∧ true = true) ∧ True) ∧
      True) ∧
      l.length - a' < l.length - a_1))
      (Done (Value.bool true = Value.bool true)))) (by kernel_rfl) ?_
  have h' := h.sz hn
  have h2' := h2.sz hn
  refine ⟨rfl, ifB_false' (by simp) ⟨⟨0, by simp⟩, fun k hk => ifB_intro (fun hb2 => ?_) (fun hb2 => ⟨rfl⟩)⟩⟩
  have hk2 : k < l.length := by simpa using hb2
  obtain ⟨b, o, rfl, hc⟩ := h'.cells (by rw [bt_len]; omega)
  obtain ⟨b2, o2, rfl, hc2⟩ := h2'.cells (by rw [bt_len]; omega)
  have w1 : IntKind.i64.wrap ((k : Int) + 1) = ((k + 1 : Nat) : Int) := by simp [IntKind.wrap_i64]; omega
  have e : ∀ o : Nat, o + ((k : Int)).toNat * 1 = o + k := fun o => by simp
  exact ⟨rfl, b, o, rfl, by omega, _, by rw [e]; exact bt_at hc hk2, b2, o2, rfl, by omega, _, by rw [e]; exact bt_at hc2 hk2, ifB_false' (by simp) ⟨k + 1, ⟨hk2, rfl, by rw [w1]; simp, trivial⟩, by omega⟩⟩

theorem bytes_q (a a2 : Option Addr) (c c2 : Nat) (l : List Int) (hn1 : l.length ≤ 9223372036854775807) (m : M) (h : Row m a (bts l)) (h2 : Row m a2 (bts l)) :
    QSpec Try.prog 46 [.slice a l.length c, .slice a2 l.length c2] m (.bool true) := by
  refine QSpec.of_vc Try.func46 (ann := fun _ => noAnn) fun n hn => ?_
  refine vc_by (X :=
      true = true ∧
      ∃ (b : Bool),
      QSpec Try.prog (76 : Nat) [Value.slice a l.length c, Value.slice a2 l.length c2] { π := m.π, sz := n, uf := m.uf : M } (Value.bool b) ∧ Done (Value.bool b = Value.bool true)) (by kernel_rfl) ?_
  exact ⟨rfl, _, bt_plain a a2 c c2 l hn1 _ (h.sz hn) (h2.sz hn), ⟨rfl⟩⟩

theorem command_q (x : Cd) (a a2 : Option Addr) (c c2 : Nat) (l : List Int) (hn1 : l.length ≤ 9223372036854775807) (m : M) (h : Row m a (bts l)) (h2 : Row m a2 (bts l)) : QSpec Try.prog 26 [cdv x a l.length c, cdv x a2 l.length c2] m (.bool true) := by
  refine QSpec.of_vc Try.func26 (ann := fun _ => noAnn) fun n hn => ?_
  refine vc_by (X :=
      true = true ∧
      ifB (x.kd == x.kd)
      (ifB (x.cl == x.cl)
      (ifB (x.sq == x.sq)
      (ifB (x.ep == x.ep)
      (ifB (x.nd == x.nd)
      (ifB (x.hm == x.hm)
      (ifB (x.ky.toList == x.ky.toList)
      (ifB (x.le == x.le)
      (ifB (x.rn == x.rn)
      (ifB (x.ne == x.ne)
      (ifB (x.ys == x.ys)
      (ifB
      (x.op_kd == x.op_kd &&
      (x.op_ky.toList == x.op_ky.toList && (x.op_ot.toList == x.op_ot.toList && (x.op_n == x.op_n && (x.op_lo == x.op_lo && (x.op_hi == x.op_hi && true))))))
      (ifB
      (x.pl_nu == x.pl_nu &&
      (x.pl_fr == x.pl_fr &&
      (x.pl_to == x.pl_to &&
      (x.pl_lo.toList == x.pl_lo.toList && (x.pl_hi.toList == x.pl_hi.toList && (x.pl_cl == x.pl_cl && (x.pl_sq == x.pl_sq && true)))))))
      (∃ (b : Bool),
      QSpec Try.prog (46 : Nat) [Value.slice a l.length c, Value.slice a2 l.length c2] { π := m.π, sz := n, uf := m.uf : M } (Value.bool b) ∧
      Done (Value.bool b = Value.bool true))
      (Done (Value.bool false = Value.bool true)))
      (Done (Value.bool false = Value.bool true)))
      (Done (Value.bool false = Value.bool true)))
      (Done (Value.bool false = Value.bool true)))
      (Done (Value.bool false = Value.bool true)))
      (Done (Value.bool false = Value.bool true)))
      (Done (Value.bool false = Value.bool true)))
      (Done (Value.bool false = Value.bool true)))
      (Done (Value.bool false = Value.bool true)))
      (Done (Value.bool false = Value.bool true)))
      (Done (Value.bool false = Value.bool true)))
      (Done (Value.bool false = Value.bool true)))
      (Done (Value.bool false = Value.bool true))) (by kernel_rfl) ?_
  simp only [bne_self_eq_false, beq_self_eq_true, Bool.not_true, Bool.not_false, Bool.and_self, Bool.and_true, decide_true]
  exact ⟨trivial, ifB_true (ifB_true (ifB_true (ifB_true (ifB_true (ifB_true (ifB_true (ifB_true (ifB_true (ifB_true (ifB_true (ifB_true (ifB_true ⟨_, bytes_q a a2 c c2 l hn1 _ (h.sz hn) (h2.sz hn), ⟨rfl⟩⟩))))))))))))⟩

theorem ccopy_s (x : Cd) (a : Option Addr) (c : Nat) (l : List Int) (hn1 : l.length ≤ 140737488351232) (m : M) (h : Row m a (bts l)) : Vc.Spec Try.prog 23 [cdv x a l.length c] m fun v m' => ∃ a' c', v = cdv x a' l.length c' ∧ Row m' a' (bts l) := by
  refine Vc.Spec.of_vc Try.func23 (ann := noAnn) ?_
  refine vc_by (X :=
      true = true ∧
      ∃ (old : List Value),
      ∃ (src : List Value),
      AppPre m.sz (fun (x : Nat) => False) m (1 : Nat) (1 : Nat) none (0 : Nat) (0 : Nat) a l.length old src ∧
      ∀ (a' : Option Addr) (c' : Nat) (m' : M),
      AppPost Try.prog (5 : Nat) m (1 : Nat) none (0 : Nat) (0 : Nat) l.length old src a' c' m' →
      Done
      (∃ (a'_1 : Option Addr),
      ∃ (c'_1 : Nat),
      Value.agg
      #[Value.int IntKind.i64 x.kd, Value.int IntKind.i64 x.cl, Value.int IntKind.i64 x.sq, Value.int IntKind.i64 x.ep, Value.int IntKind.i64 x.nd,
      Value.int IntKind.i64 x.hm, Value.string x.ky, Value.int IntKind.i64 x.le, Value.int IntKind.i64 x.rn, Value.int IntKind.i64 x.ne, Value.bool x.ys,
      Value.int IntKind.i64 x.op_kd, Value.string x.op_ky, Value.string x.op_ot, Value.int IntKind.i64 x.op_n, Value.int IntKind.i64 x.op_lo,
      Value.int IntKind.i64 x.op_hi, Value.int IntKind.i64 x.pl_nu, Value.int IntKind.i64 x.pl_fr, Value.int IntKind.i64 x.pl_to, Value.string x.pl_lo,
      Value.string x.pl_hi, Value.int IntKind.i64 x.pl_cl, Value.int IntKind.i64 x.pl_sq, Value.slice a' ((0 : Nat) + l.length) c'] =
      Value.agg
      #[Value.int IntKind.i64 x.kd, Value.int IntKind.i64 x.cl, Value.int IntKind.i64 x.sq, Value.int IntKind.i64 x.ep, Value.int IntKind.i64 x.nd,
      Value.int IntKind.i64 x.hm, Value.string x.ky, Value.int IntKind.i64 x.le, Value.int IntKind.i64 x.rn, Value.int IntKind.i64 x.ne, Value.bool x.ys,
      Value.int IntKind.i64 x.op_kd, Value.string x.op_ky, Value.string x.op_ot, Value.int IntKind.i64 x.op_n, Value.int IntKind.i64 x.op_lo,
      Value.int IntKind.i64 x.op_hi, Value.int IntKind.i64 x.pl_nu, Value.int IntKind.i64 x.pl_fr, Value.int IntKind.i64 x.pl_to, Value.string x.pl_lo,
      Value.string x.pl_hi, Value.int IntKind.i64 x.pl_cl, Value.int IntKind.i64 x.pl_sq, Value.slice a'_1 l.length c'_1] ∧
      Row m' a'_1 (bts l))) (by kernel_rfl) ?_
  have o1 : NewR m.sz (fun _ => False) m 1 none 0 0 [] := .nil _
  refine ⟨rfl, _, _, o1.appPre h (bt_len1 _) (bt_one _) (by omega), fun a1 c1 m1 hp1 => ⟨⟨a1, c1, ?_, ?_⟩⟩⟩
  · simp only [Nat.zero_add]
  · have := (o1.append hp1 (bt_len1 _) bt_zr (Nat.le_refl _)).row
    simpa using this

theorem cells_ct : Try.prog.cellsOf 28 = 12 := by kernel_rfl
theorem cells_cd : Try.prog.cellsOf 39 = 25 := by kernel_rfl

/-- cells that are read as a chart -/
theorem rd_ct {m : M} {N d : Nat} {cs : List Value} (h : Rd Try.prog m N (d + 5) 28 cs) (hN : N ≤ 9223372036854775807) :
    ∃ (x : Ct) (a : Ca), cs = encCt x a ∧ x.wf ∧ x.ps.length ≤ N ∧ x.ms.length ≤ N ∧ CtR m x a := by
  have k1 := (by kernel_rfl : Try.prog.cellsOf 3 = 1)
  have k2 := (by kernel_rfl : Try.prog.cellsOf 9 = 1)
  have k3 := (by kernel_rfl : Try.prog.cellsOf 23 = 1)
  have k4 := (by kernel_rfl : Try.prog.cellsOf 26 = 1)
  have k5 := (by kernel_rfl : Try.prog.cellsOf 25 = 7)
  rw [Rd] at h
  simp only [Try.underlying28, fieldsD, cells_ct, k1, k2, k3, k4, k5] at h
  obtain ⟨hl, q1, q2, q3, q4, q5, q6, -⟩ := h
  simp only [Rd, Try.underlying3] at q1 q3 q4
  rw [Rd] at q2 q5 q6
  simp only [Try.underlying23] at q2
  simp only [Try.underlying26] at q6
  simp only [Rd, Try.underlying25, Try.underlying3, Try.underlying9, fieldsD, k1, k2, k5] at q5
  obtain ⟨ix, e1, w1⟩ := q1
  obtain ⟨ap, cp, r1, e2, l2, b2, -, g2, f2⟩ := q2
  obtain ⟨nx, e3, w3⟩ := q3
  obtain ⟨la, e4, w4⟩ := q4
  obtain ⟨-, ⟨nu, e5, w5⟩, ⟨fr, e6, w6⟩, ⟨to, e7, w7⟩, ⟨lo, e8, w8⟩, ⟨hi, e9, w9⟩, ⟨cl, e10, w10⟩, ⟨sq, e11, w11⟩, -⟩ := q5
  obtain ⟨am, cm, r2, e12, l12, b12, -, g12, f12⟩ := q6
  obtain ⟨ps, hz, he, hw⟩ := rows_list (α := Pl) (e := encPl) (p := Pl.wf) r1 fun r hr => pl_rd (g2 r hr).2 hN
  obtain ⟨ms, hz2, he2, hw2⟩ := rows_list (α := Mk) (e := encMk) (p := Mk.wf) r2 fun r hr => mk_rd (g12 r hr).2 hN
  obtain ⟨c1, c2, c3, c4, c5, c6, c7, c8, c9, c10, c11, c12, rfl⟩ : ∃ c1 c2 c3 c4 c5 c6 c7 c8 c9 c10 c11 c12, cs = [c1, c2, c3, c4, c5, c6, c7, c8, c9, c10, c11, c12] := by
    match cs, hl with
    | [c1, c2, c3, c4, c5, c6, c7, c8, c9, c10, c11, c12], _ => exact ⟨_, _, _, _, _, _, _, _, _, _, _, _, rfl⟩
  simp at e1 e2 e3 e4 e5 e6 e7 e8 e9 e10 e11 e12
  subst e1 e2 e3 e4 e5 e6 e7 e8 e9 e10 e11 e12
  have hN1 : ps.length ≤ N := by simp only [hz]; omega
  have hN2 : ms.length ≤ N := by simp only [hz2]; omega
  rw [he] at f2
  rw [he2] at f12
  exact ⟨⟨ix, ps, nx, la, nu, fr, to, lo, hi, cl, sq, ms⟩, ⟨ap, cp, am, cm⟩, by simp [encCt, hz, hz2], ⟨in64_of w1, in64_of w3, in64_of w4, in64_of w5, in64_of w6, in64_of w7, in64_of w10, in64_of w11, Nat.le_trans w8 hN, Nat.le_trans w9 hN, Nat.le_trans hN1 hN, hw, Nat.le_trans hN2 hN⟩, hN1, hN2, ⟨f2, f12⟩⟩

/-- a command where its image stands -/
structure Cx where
  c : Cd
  l : List Int
  a : Option Addr
  k : Nat

abbrev encCx (y : Cx) : List Value := encCd y.c y.a y.l.length y.k
abbrev cxv (y : Cx) : Value := cdv y.c y.a y.l.length y.k

/-- cells that are read as a command -/
theorem rd_cx {m : M} {N d : Nat} {cs : List Value} (h : Rd Try.prog m N (d + 4) 39 cs) (hN : N ≤ 9223372036854775807) :
    ∃ y : Cx, cs = encCx y ∧ y.c.wf ∧ y.l.length ≤ N ∧ Row m y.a (bts y.l) := by
  have k1 := (by kernel_rfl : Try.prog.cellsOf 3 = 1)
  have k2 := (by kernel_rfl : Try.prog.cellsOf 9 = 1)
  have k3 := (by kernel_rfl : Try.prog.cellsOf 4 = 1)
  have k4 := (by kernel_rfl : Try.prog.cellsOf 37 = 1)
  have k5 := (by kernel_rfl : Try.prog.cellsOf 25 = 7)
  have k6 := (by kernel_rfl : Try.prog.cellsOf 36 = 6)
  have k7 := (by kernel_rfl : Try.prog.cellsOf 5 = 1)
  rw [Rd] at h
  simp only [Try.underlying39, fieldsD, cells_cd, k1, k2, k3, k4, k5, k6] at h
  obtain ⟨hl, q1, q2, q3, q4, q5, q6, q7, q8, q9, q10, q11, q12, q13, q14, -⟩ := h
  simp only [Rd, Try.underlying3, Try.underlying9, Try.underlying4] at q1 q2 q3 q4 q5 q6 q7 q8 q9 q10 q11
  simp only [Rd, Try.underlying37, Try.underlying5, k7] at q14
  simp only [Rd, Try.underlying25, Try.underlying36, Try.underlying3, Try.underlying9, fieldsD, k1, k2, k5, k6] at q12 q13
  obtain ⟨n1, e1, w1⟩ := q1
  obtain ⟨n2, e2, w2⟩ := q2
  obtain ⟨n3, e3, w3⟩ := q3
  obtain ⟨n4, e4, w4⟩ := q4
  obtain ⟨n5, e5, w5⟩ := q5
  obtain ⟨n6, e6, w6⟩ := q6
  obtain ⟨n7, e7, w7⟩ := q7
  obtain ⟨n8, e8, w8⟩ := q8
  obtain ⟨n9, e9, w9⟩ := q9
  obtain ⟨n10, e10, w10⟩ := q10
  obtain ⟨n11, e11⟩ := q11
  obtain ⟨-, ⟨o1, d1, v1⟩, ⟨o2, d2, v2⟩, ⟨o3, d3, v3⟩, ⟨o4, d4, v4⟩, ⟨o5, d5, v5⟩, ⟨o6, d6, v6⟩, -⟩ := q12
  obtain ⟨-, ⟨p1, f1, u1⟩, ⟨p2, f2, u2⟩, ⟨p3, f3, u3⟩, ⟨p4, f4, u4⟩, ⟨p5, f5, u5⟩, ⟨p6, f6, u6⟩, ⟨p7, f7, u7⟩, -⟩ := q13
  obtain ⟨a, k, rows, e14, l14, b14, -, g14, f14⟩ := q14
  obtain ⟨l, hz, he, -⟩ := rows_list (α := Int) (e := encBt) (p := fun _ => True) rows fun r hr => by
    obtain ⟨n, hn, -⟩ := (g14 r hr).2
    exact ⟨n, hn, trivial⟩
  obtain ⟨c1, c2, c3, c4, c5, c6, c7, c8, c9, c10, c11, c12, c13, c14, c15, c16, c17, c18, c19, c20, c21, c22, c23, c24, c25, rfl⟩ : ∃ c1 c2 c3 c4 c5 c6 c7 c8 c9 c10 c11 c12 c13 c14 c15 c16 c17 c18 c19 c20 c21 c22 c23 c24 c25, cs = [c1, c2, c3, c4, c5, c6, c7, c8, c9, c10, c11, c12, c13, c14, c15, c16, c17, c18, c19, c20, c21, c22, c23, c24, c25] := by
    match cs, hl with
    | [c1, c2, c3, c4, c5, c6, c7, c8, c9, c10, c11, c12, c13, c14, c15, c16, c17, c18, c19, c20, c21, c22, c23, c24, c25], _ => exact ⟨_, _, _, _, _, _, _, _, _, _, _, _, _, _, _, _, _, _, _, _, _, _, _, _, _, rfl⟩
  simp at e1 e2 e3 e4 e5 e6 e7 e8 e9 e10 e11 d1 d2 d3 d4 d5 d6 f1 f2 f3 f4 f5 f6 f7 e14
  subst e1 e2 e3 e4 e5 e6 e7 e8 e9 e10 e11 d1 d2 d3 d4 d5 d6 f1 f2 f3 f4 f5 f6 f7 e14
  rw [he] at f14
  have q := fun {n : Int} (h : IntKind.min .i64 ≤ n ∧ n ≤ IntKind.max .i64) => in64_of h
  exact ⟨⟨⟨n1, n2, n3, n4, n5, n6, n7, n8, n9, n10, n11, o1, o2, o3, o4, o5, o6, p1, p2, p3, p4, p5, p6, p7⟩, l, a, k⟩, by simp [encCx, hz], ⟨q w1, q w2, q w3, q w4, q w5, q w6, Nat.le_trans w7 hN, q w8, q w9, q w10, q v1, Nat.le_trans v2 hN, Nat.le_trans v3 hN, q v4, q v5, q v6, q u1, q u2, q u3, Nat.le_trans u4 hN, Nat.le_trans u5 hN, q u6, q u7⟩, by simp only [hz]; omega, f14⟩

variable {H : Type} {enc : TypeId × Value → H} {W : World} {r : Reach} {b0 : Nat} {v : Value} {d : DataW H} {p : List MemPlace} {N : Nat} {Bd : DataW H → Prop}

theorem open_ct (B : Bound N Bd) (hN : N ≤ 9223372036854775807) (hv : Value.okWide Try.prog W r b0 28 v) (h : DataW.Trod enc Try.prog W 0 (fun _ => true) true 28 v d p) (hb : Bd d) :
    ∃ (x : Ct) (a : Ca), v = ctv x a ∧ x.wf ∧ x.ps.length ≤ N ∧ x.ms.length ≤ N ∧ CtR (M.all W) x a := by
  obtain ⟨cs, rfl, hl⟩ := open_agg Try.underlying28 cells_ct hv
  obtain ⟨fuel, hf⟩ := h
  have hr := rd_of_trod B 5 fuel 28 _ _ hf hb
  simp only [Value.cells] at hr
  obtain ⟨x, a, he, hw⟩ := rd_ct (d := 0) hr hN
  exact ⟨x, a, by rw [show cs = encCt x a from he], hw⟩

theorem open_cx (B : Bound N Bd) (hN : N ≤ 9223372036854775807) (hv : Value.okWide Try.prog W r b0 39 v) (h : DataW.Trod enc Try.prog W 0 (fun _ => true) true 39 v d p) (hb : Bd d) :
    ∃ y : Cx, v = cxv y ∧ y.c.wf ∧ y.l.length ≤ N ∧ Row (M.all W) y.a (bts y.l) := by
  obtain ⟨cs, rfl, hl⟩ := open_agg Try.underlying39 cells_cd hv
  obtain ⟨fuel, hf⟩ := h
  have hr := rd_of_trod B 4 fuel 39 _ _ hf hb
  simp only [Value.cells] at hr
  obtain ⟨y, he, hw⟩ := rd_cx (d := 0) hr hN
  exact ⟨y, by rw [show cs = encCx y from he], hw⟩

abbrev cxs (l : List Cx) : List Value := l.flatMap encCx
theorem cx_k (y : Cx) : (encCx y).length = 25 := rfl
theorem cxs_len (l : List Cx) : (cxs l).length = l.length * 25 := flat_len cx_k l
theorem cx_at {m : M} {b o i : Nat} {l : List Cx} (h : CellsAt m b o (cxs l)) (hi : i < l.length) : CellsAt m b (o + i * 25) (encCx l[i]) := CellsAt.elem cx_k l o i hi h

theorem open_cxs (B : Bound N Bd) (hN : N ≤ 9223372036854775807) (hv : Value.okWide Try.prog W r b0 22 v) (h : DataW.Trod enc Try.prog W 0 (fun _ => true) true 22 v d p) (hb : Bd d) :
    ∃ (a : Option Addr) (c : Nat) (z : List Cx), v = .slice a z.length c ∧ z.length ≤ N ∧ (∀ y ∈ z, y.c.wf) ∧ (a = none → z = []) ∧ Row (M.all W) a (cxs z) := by
  obtain ⟨a, len, cap, rfl⟩ := okWide_slice Try.underlying22 hv
  obtain ⟨fuel, hf⟩ := h
  have hr := rd_of_trod B 5 fuel 22 _ _ hf hb
  rw [Rd] at hr
  simp only [Try.underlying22] at hr
  obtain ⟨a', cap', rows, hcs, h1, h2, h3, h4, h5⟩ := hr
  obtain ⟨z, hz, he, hi⟩ := rows_list (α := Cx) (e := encCx) (p := fun y => y.c.wf) rows fun r hr => by
    obtain ⟨y, he, hw, -⟩ := rd_cx (d := 0) (h4 r hr).2 hN
    exact ⟨y, he, hw⟩
  simp [Value.cells] at hcs
  obtain ⟨rfl, rfl, rfl⟩ := hcs
  rw [he] at h5
  exact ⟨a, cap, z, by rw [hz], by omega, hi, fun e => List.eq_nil_of_length_eq_zero (by have := h3 e; omega), h5⟩

end Go.Proofs.Ytjjfcaigonomiaa
set_option linter.unusedVariables false
set_option linter.unusedSimpArgs false
namespace Go.Proofs.Ytjjfcaigonomiaa
open Go.Vc Go.RowKit
set_option maxRecDepth 100000

theorem ofI_is {l : List Pl} (hr : rightB l = true) {k : Nat} {p : Pl} (h : l[k]? = some p) : ofI l p.gr = k := by
  obtain ⟨-, -, h3⟩ := right_iff.1 hr
  obtain ⟨hk, e⟩ := List.getElem?_eq_some_iff.1 h
  exact ofI_at hk (by rw [e]) fun j hj hjk => by
    have := (pw_lt h3 hjk (List.getElem?_eq_getElem hj) h).1
    exact this

theorem ofI_none {l : List Pl} {g : Int} (h : ∀ p ∈ l, p.gr ≠ g) : ofI l g = l.length := ofI_no fun j hj _ => h _ (List.getElem_mem hj)

theorem ofI_mem {l : List Pl} {g : Int} (h : ∃ p ∈ l, p.gr = g) : ofI l g < l.length := List.findIdx_lt_length_of_exists (by obtain ⟨p, h1, h2⟩ := h; exact ⟨p, h1, by simpa using h2⟩)

theorem ofI_get {l : List Pl} {g : Int} (h : ofI l g < l.length) : l[ofI l g].gr = g := by
  have := List.findIdx_getElem (w := h)
  exact of_decide_eq_true this

theorem no_of {l : List Pl} {g : Int} (h : ¬ ofI l g < l.length) : ∀ p ∈ l, p.gr ≠ g := fun p hp e => h (ofI_mem ⟨p, hp, e⟩)

theorem plAt_some {l : List Pl} {k : Nat} (h : k < l.length) : l[k]? = some (plAt l k) := by unfold plAt; rw [List.getElem?_eq_getElem h]; rfl

theorem epM_spec : ∀ (l : List Pl) (e : Int), (∀ x ∈ l, x.ep ≤ l.foldl (fun e p => max e p.ep) e) ∧ e ≤ l.foldl (fun e p => max e p.ep) e
  | [], e => by simp
  | x :: xs, e => by
    obtain ⟨h1, h2⟩ := epM_spec xs (max e x.ep)
    refine ⟨fun y hy => ?_, ?_⟩
    · rcases List.mem_cons.1 hy with rfl | hy
      · simp only [List.foldl_cons]; omega
      · simpa using h1 y hy
    · simp only [List.foldl_cons]; omega

theorem epM_ge {l : List Pl} {x : Pl} (h : x ∈ l) : x.ep ≤ epochL l := (epM_spec l 0).1 x h

/-- other marks -/
theorem RiC.marks {x : Ct} (h : RiC x) {l : List Mk} (ht : tabB 0 l = true) : RiC { x with ms := l } := ⟨h.ix0, h.ix1, h.la0, h.la1, h.nx0, h.nx1, h.ps, ht, h.gr, h.pn⟩

theorem RiC.done {x : Ct} (h : RiC x) (cl sq er : Int) : RiC (doneE x cl sq er).1 := by
  by_cases h0 : openE x.ms cl sq = 0
  · obtain ⟨k1, k2⟩ := edM_ok (an := ⟨er, 0, 0, 0⟩) h0
    have e : (doneE x cl sq er).1 = { x with ms := insM x.ms (edM cl sq ⟨er, 0, 0, 0⟩) } := by simp [doneE, endM, h0]
    rw [e]
    exact h.marks (ins_tab k1 k2 h.ms)
  · have e : (doneE x cl sq er).1 = x := by simp [doneE, endM, h0]
    rw [e]; exact h

theorem begin_tab {l : List Mk} {c s : Int} (ht : tabB 0 l = true) (h0 : (beginM l c s).2.2 = 0) : tabB 0 (beginM l c s).1 = true := by
  rcases begin_cases l c s with ⟨-, h, -⟩ | ⟨h1, h2, h3, h4⟩
  · rw [(h h0).1]; exact ht
  · rw [h3]; exact (fresh_of h1 h2 h4).btab

/-- the plan that a wish starts is right -/
theorem begP_ric {x : Ct} {c : Cd} (h : RiC x) (ha : argB c.cl c.sq = true) (hk : keyB c.op_ky = true) (hz : RefZ x c.op_kd c.op_ky) : RiC (begP x c) := by
  have hf := findL_len c.op_ky (right_pos h.ps)
  have hla0 := h.la0
  have hla := hz.la
  have hk' : 1 ≤ c.op_ky.size ∧ c.op_ky.size ≤ 16 := by simpa [keyB] using hk
  unfold begP
  by_cases e : c.op_kd = 7
  · simp only [if_pos e]
    have hnx := hz.nx e
    have hnx0 := h.nx0
    refine ⟨h.ix0, h.ix1, by simp only; omega, by simp only; omega, by simp only; omega, by simp only; omega, h.ps, h.ms, fun p hp => by have := h.gr p hp; simp only; omega, .inr (goc_iff.2 ⟨rfl, by simp only; omega, ha, hz.ep, .inl (spl_iff.2 ⟨?_, ?_, hnx.2, hk'.1, hk'.2, rfl, fun e2 => hz.fr e e2.symm, rfl⟩)⟩)⟩
    · simp only
      rw [ofI_none fun p hp e2 => by have := h.gr p hp; omega]
      omega
    · simp only; omega
  · simp only [if_neg e]
    have hn := hz.nxt e
    have ei : ofI x.ps (plAt x.ps (fnd x.ps c.op_ky)).gr = fnd x.ps c.op_ky := ofI_is h.ps (plAt_some hf)
    refine ⟨h.ix0, h.ix1, by simp only; omega, by simp only; omega, h.nx0, h.nx1, h.ps, h.ms, h.gr, .inr (goc_iff.2 ⟨rfl, by simp only; omega, ha, hz.ep, .inr (mrg_iff.2 ⟨?_, ?_, ?_, ?_, ?_⟩)⟩)⟩
    all_goals simp only [ei]
    · exact hf
    · exact hn

theorem start_ric {x : Ct} (h : RiC x) (c : Cd) : RiC (startE x c).1 := by
  unfold startE
  split
  · exact h
  rename_i h1
  split
  · exact h
  rename_i h2
  split
  · simp only
    split
    · exact h
    · exact h
  rename_i h3
  have hy : RiC { x with ms := (beginM x.ms c.cl c.sq).1 } := h.marks (begin_tab h.ms (by omega))
  simp only
  split
  · exact hy.done _ _ _
  · rename_i h4
    have h1 : argB c.cl c.sq = true ∧ (decide (c.op_kd = 7) || decide (c.op_kd = 8)) = true ∧ keyB c.op_ky = true := by simpa using h1
    exact begP_ric hy h1.1 h1.2.2 (refE_zero.1 (by omega))

theorem noPl_clr (x : Ct) : noPl (clrP x) = true := by simp [noPl, clrP, emptyB]

theorem clr_ric {x : Ct} (h : RiC x) : RiC (clrP x) := ⟨h.ix0, h.ix1, h.la0, h.la1, h.nx0, h.nx1, h.ps, h.ms, h.gr, .inl (noPl_clr x)⟩

theorem mem_shift {x : Ct} (h : RiC x) (hg : GoC x) {p : Pl} (hp : p ∈ shiftL x) : p ∈ x.ps ∨ (p.ep = epochL x.ps + 1 ∧ ((∃ q ∈ x.ps, q.gr = p.gr) ∨ p.gr = x.to ∧ x.to = x.nx - 1)) := by
  unfold shiftL at hp
  cases hh : hasG x.ps x.to with
  | true =>
    have F := hg.mrg hh
    rw [if_pos hh, del_form F.yes] at hp
    rcases List.mem_append.1 hp with hp | hp
    · exact .inl (List.mem_of_mem_take hp)
    · rcases List.mem_cons.1 hp with rfl | hp
      · exact .inr ⟨rfl, .inl ⟨_, List.getElem_mem F.yes, rfl⟩⟩
      · exact .inl (List.mem_of_mem_drop hp)
  | false =>
    have F := hg.spl hh
    have hf : fnd x.ps x.lo < x.ps.length := findL_len x.lo (right_pos h.ps)
    rw [if_neg (by simp [hh]), ins_form hf] at hp
    rcases List.mem_append.1 hp with hp | hp
    · exact .inl (List.mem_of_mem_take hp)
    · rcases List.mem_cons.1 hp with rfl | hp
      · exact .inr ⟨rfl, .inl ⟨_, List.getElem_mem hf, rfl⟩⟩
      · rcases List.mem_cons.1 hp with rfl | hp
        · exact .inr ⟨rfl, .inr ⟨rfl, F.to⟩⟩
        · exact .inl (List.mem_of_mem_drop hp)

theorem shift_right {x : Ct} (h : RiC x) (hg : GoC x) : rightB (shiftL x) = true := by
  unfold shiftL
  have he0 := epoch_nn x.ps 0
  have he : (0 : Int) ≤ epochL x.ps := he0
  have he1 := hg.ep
  cases hh : hasG x.ps x.to with
  | true =>
    have F := hg.mrg hh
    rw [if_pos rfl]
    exact del_right h.ps (by omega) F.nxt
  | false =>
    have F := hg.spl hh
    have hto := F.to
    have h0 := h.nx0
    have h1 := h.nx1
    rw [if_neg (by simp)]
    refine ins_right h.ps F.k2 (by simp [grpB]; omega) (by omega) (no_of F.no) fun p hp e => F.ne ?_
    have ep : plAt x.ps (fnd x.ps x.lo) = p := by unfold plAt fnd; rw [hp]; rfl
    rw [ep]; exact e.symm

theorem shift_ric {x : Ct} (h : RiC x) (hg : GoC x) : RiC (clrP { x with ps := shiftL x }) :=
  ⟨h.ix0, h.ix1, h.la0, h.la1, h.nx0, h.nx1, shift_right h hg, h.ms, fun p hp => by
    rcases mem_shift h hg hp with hp | ⟨-, ⟨q, hq, e⟩ | ⟨e1, e2⟩⟩
    · exact h.gr p hp
    · show p.gr < x.nx
      rw [← e]; exact h.gr q hq
    · show p.gr < x.nx
      omega, .inl (noPl_clr _)⟩

theorem shf_ric {x : Ct} (h : RiC x) (hn : x.nu ≠ 0) : RiC (shfE x).1 := (shift_ric h (h.go hn)).done _ _ _

/-- what Apply makes of a right chart -/
theorem apply_eq {x : Ct} (h : RiC x) (c : Cd) {ix : Int} (h1 : x.ix < ix) (h2 : ix ≤ 4611686018427387904) : applyE x c ix = (let y := { x with ix := ix }
     if c.kd = 12 then ((startE y c).1, (startE y c).2, 0)
     else if c.kd = 13 ∧ (x.nu ≠ 0 ∧ c.pl_nu = x.nu) then ((shfE y).1, (shfE y).2, 0)
     else if c.kd = 14 ∧ (x.nu ≠ 0 ∧ c.pl_nu = x.nu) then ((doneE (clrP y) x.cl x.sq 190).1, (doneE (clrP y) x.cl x.sq 190).2, 0)
     else (y, [], 0)) := by
  unfold applyE
  rw [if_neg (by rw [ric_iff.2 h]; simp), if_neg (by omega)]

theorem start_ix (x : Ct) (c : Cd) : (startE x c).1.ix = x.ix := by
  unfold startE
  split
  · rfl
  split
  · rfl
  split
  · simp only; split <;> rfl
  simp only
  split
  · rfl
  · unfold begP; split <;> rfl

/-- a right chart stays right -/
theorem apply_ric {x : Ct} (h : RiC x) (c : Cd) {ix : Int} (h1 : x.ix < ix) (h2 : ix ≤ 4611686018427387904) : RiC (applyE x c ix).1 ∧ (applyE x c ix).2.2 = 0 ∧ (applyE x c ix).1.ix = ix := by
  have h0 := h.ix0
  have hy : RiC { x with ix := ix } := h.ix (by omega) h2
  rw [apply_eq h c h1 h2]
  simp only
  split
  · exact ⟨start_ric hy c, rfl, start_ix _ _⟩
  split
  · rename_i g
    exact ⟨shf_ric hy g.2.1, rfl, rfl⟩
  split
  · exact ⟨(clr_ric hy).done _ _ _, rfl, rfl⟩
  · exact ⟨hy, rfl, rfl⟩

theorem apply_len {x : Ct} (c : Cd) (ix : Int) : (applyE x c ix).1.ps.length ≤ 8 ∧ (applyE x c ix).1.ms.length ≤ 8 := by
  cases hr : rightC x with
  | false =>
    have e : applyE x c ix = (c0, [], 21) := by unfold applyE; rw [if_pos hr]
    rw [e]; simp [c0]
  | true =>
    by_cases hb : ix ≤ x.ix ∨ ix > 4611686018427387904
    · have e : applyE x c ix = (c0, [], 80) := by unfold applyE; rw [if_neg (by rw [hr]; simp), if_pos hb]
      rw [e]; simp [c0]
    · obtain ⟨h, -, -⟩ := apply_ric (ric_iff.1 hr) c (ix := ix) (by omega) (by omega)
      have := right_len h.ps
      have := tab8 h.ms
      omega

theorem eff_len (x : Ct) (c : Cd) (ix : Int) : (applyE x c ix).2.1.length ≤ 1 := by
  unfold applyE
  split
  · simp
  split
  · simp
  simp only
  split
  · unfold startE
    split
    · simp
    split
    · simp
    split
    · simp only; split <;> simp
    simp only
    split <;> simp [doneE]
  split
  · simp [shfE, doneE]
  split <;> simp [doneE]

theorem new_ric : RiC newC := ⟨by decide, by decide, by decide, by decide, by decide, by decide, right_iff.2 ⟨⟨by decide, by simp [newC, hdF, emptyB]⟩, fun p hp => by
  have e : p = ⟨1, .empty, 1⟩ := by simpa [newC] using hp
  subst e; rfl, List.pairwise_singleton _ _⟩, rfl, fun p hp => by
  have e : p = ⟨1, .empty, 1⟩ := by simpa [newC] using hp
  subst e; decide, .inl (noPl_clr newC)⟩

end Go.Proofs.Ytjjfcaigonomiaa
set_option linter.unusedVariables false
set_option linter.unusedSimpArgs false
namespace Go.Proofs.Ytjjfcaigonomiaa
open Go.Vc Go.RowKit
set_option maxRecDepth 100000

/-- what a wish is told while a plan goes on -/
def busyE (l : List Mk) (cl sq : Int) : Ef :=
  if (findO l cl).isSome = true ∧ ((findO l cl).getD m0).sq = sq then ⟨1, cl, sq, ((findO l cl).getD m0).an_er, ((findO l cl).getD m0).an_va, ((findO l cl).getD m0).an_le, ((findO l cl).getD m0).an_mo⟩ else ⟨1, cl, sq, 190, 0, 0, 0⟩

theorem start_busy {x : Ct} (h : RiC x) (hn : x.nu ≠ 0) (c : Cd) :
    (startE x c).1 = { x with ms := (startE x c).1.ms } ∧ ((startE x c).2 = [] ∨ (startE x c).2 = [busyE x.ms c.cl c.sq]) := by
  unfold startE
  split
  · exact ⟨rfl, .inl rfl⟩
  split
  · exact ⟨rfl, .inl rfl⟩
  rename_i h1 h2
  have hf : findO x.ms c.cl = ofM x.ms c.cl := by unfold findO; rw [if_pos h.ms]
  have h1 : argB c.cl c.sq = true := by
    simp only [Bool.and_eq_true, Bool.not_eq_false] at h1
    exact h1.1
  have hb0 : ofM x.ms c.cl = none → beginM x.ms c.cl c.sq = (insM x.ms (opM c.cl c.sq), true, 0) := fun e => by
    unfold beginM
    rw [if_neg (by rw [h.ms]; simp), if_neg (by rw [h1]; simp), e]
  have hb : ∀ m, ofM x.ms c.cl = some m → beginM x.ms c.cl c.sq = if c.sq < m.sq then ([], false, 80) else if m.sq = c.sq then (x.ms, false, 0) else (insM x.ms (opM c.cl c.sq), true, 0) := fun m e => by
    unfold beginM
    rw [if_neg (by rw [h.ms]; simp), if_neg (by rw [h1]; simp), e]
  split
  · rename_i h3
    have hs : (findO x.ms c.cl).isSome = true ∧ ((findO x.ms c.cl).getD m0).sq = c.sq := by
      rw [hf]
      cases ho : ofM x.ms c.cl with
      | none => rw [hb0 ho] at h3; simp at h3
      | some m =>
        rw [hb m ho] at h3 h2
        by_cases g1 : c.sq < m.sq
        · rw [if_pos g1] at h2; simp at h2
        · rw [if_neg g1] at h3
          by_cases g2 : m.sq = c.sq
          · exact ⟨rfl, g2⟩
          · rw [if_neg g2] at h3; simp at h3
    simp only
    split
    · exact ⟨rfl, .inl rfl⟩
    · exact ⟨rfl, .inr (by unfold busyE; rw [if_pos hs])⟩
  · rename_i h3
    have hs : ¬ ((findO x.ms c.cl).isSome = true ∧ ((findO x.ms c.cl).getD m0).sq = c.sq) := by
      rw [hf]
      cases ho : ofM x.ms c.cl with
      | none => simp
      | some m =>
        intro e
        have e : m.sq = c.sq := e.2
        rw [hb m ho] at h3
        simp [e] at h3
    have e : refE { x with ms := (beginM x.ms c.cl c.sq).1 } c.op_kd c.op_ky = 190 := by unfold refE; rw [if_pos hn]
    simp only [e]
    rw [if_pos (by decide)]
    exact ⟨rfl, .inr (by unfold busyE; rw [if_neg hs]; rfl)⟩

/-- a wish while a plan goes on -/
theorem busy_law {x : Ct} (h : RiC x) (hn : x.nu ≠ 0) (c : Cd) (hk : c.kd = 12) {ix : Int} (h1 : x.ix < ix) (h2 : ix ≤ 4611686018427387904) :
    (applyE x c ix).1 = { x with ix := ix, ms := (applyE x c ix).1.ms } ∧ ((applyE x c ix).2.1 = [] ∨ (applyE x c ix).2.1 = [busyE x.ms c.cl c.sq]) := by
  have hy : RiC { x with ix := ix } := h.ix (by have := h.ix0; omega) h2
  have e := apply_eq h c h1 h2
  simp only at e
  rw [if_pos hk] at e
  rw [e]
  exact start_busy hy hn c

/-- an end of another plan -/
theorem other_law {x : Ct} (h : RiC x) (c : Cd) (hk : c.kd ≠ 12) (hn : x.nu = 0 ∨ c.pl_nu ≠ x.nu) {ix : Int} (h1 : x.ix < ix) (h2 : ix ≤ 4611686018427387904) : applyE x c ix = ({ x with ix := ix }, [], 0) := by
  have e := apply_eq h c h1 h2
  simp only at e
  have hg : ¬ (x.nu ≠ 0 ∧ c.pl_nu = x.nu) := fun g => by rcases hn with hn | hn; exact g.1 hn; exact hn g.2
  rw [if_neg hk, if_neg (fun g => hg g.2), if_neg (fun g => hg g.2)] at e
  exact e

/-- the places when a plan has been ended -/
def endL (x : Ct) (sh : Bool) : List Pl := if sh then shiftL x else x.ps

/-- its own end -/
theorem own_law {x : Ct} (h : RiC x) (hn : x.nu ≠ 0) (c : Cd) (sh : Bool) (hk : c.kd = if sh then 13 else 14) (hc : c.pl_nu = x.nu) {ix : Int} (h1 : x.ix < ix) (h2 : ix ≤ 4611686018427387904) :
    (applyE x c ix).2.1 = [⟨1, x.cl, x.sq, if sh then 0 else 190, 0, 0, 0⟩] ∧ (applyE x c ix).1 = { clrP { x with ps := endL x sh } with ix := ix, ms := (applyE x c ix).1.ms } := by
  have e := apply_eq h c h1 h2
  simp only at e
  cases sh with
  | true =>
    have hk : c.kd = 13 := hk
    rw [if_neg (by omega), if_pos ⟨hk, hn, hc⟩] at e
    rw [e]
    exact ⟨rfl, rfl⟩
  | false =>
    have hk : c.kd = 14 := hk
    rw [if_neg (by omega), if_neg (by omega), if_pos ⟨hk, hn, hc⟩] at e
    rw [e]
    exact ⟨rfl, rfl⟩

theorem getD_of {l : List Pl} {i : Nat} {p : Pl} (h : l[i]? = some p) : plAt l i = p := by unfold plAt; rw [h]; rfl

/-- who has the plan's first key, behind its end -/
theorem end_at {x : Ct} (h : RiC x) (hg : GoC x) (sh : Bool) : ((plAt (endL x sh) (fnd (endL x sh) x.lo)).gr = x.to) ↔ sh = true := by
  obtain ⟨-, -, hp⟩ := right_iff.1 h.ps
  cases hh : hasG x.ps x.to with
  | true =>
    have F := hg.mrg hh
    have hi := F.nxt
    have e1 : x.ps[ofI x.ps x.to + 1]? = some (plAt x.ps (ofI x.ps x.to + 1)) := plAt_some hi
    have e0 : x.ps[ofI x.ps x.to]? = some x.ps[ofI x.ps x.to] := List.getElem?_eq_getElem F.yes
    have lt01 := pw_lt hp (Nat.lt_succ_self _) e0 e1
    cases sh with
    | true =>
      have e : endL x true = delS x.ps (ofI x.ps x.to) (epochL x.ps + 1) := by unfold endL shiftL; rw [if_pos rfl, if_pos hh]
      have eg : (delS x.ps (ofI x.ps x.to) (epochL x.ps + 1))[ofI x.ps x.to]? = some { x.ps[ofI x.ps x.to] with ep := epochL x.ps + 1 } := by rw [del_get F.yes, if_neg (by omega), if_pos rfl]
      have ef : fnd (delS x.ps (ofI x.ps x.to) (epochL x.ps + 1)) x.lo = ofI x.ps x.to := by
        unfold fnd
        refine find_at eg ?_ fun j z hj hz => ?_
        · rw [F.lo]; exact ltS_asym lt01.2
        · rw [del_get F.yes, if_neg (by omega), if_neg (by omega)] at hz
          rw [F.lo]
          exact (pw_lt hp (by omega) e1 hz).2
      rw [e, ef, getD_of eg]
      simp [ofI_get F.yes]
    | false =>
      have ef : fnd x.ps x.lo = ofI x.ps x.to + 1 := by
        unfold fnd
        refine find_at e1 ?_ fun j z hj hz => ?_
        · rw [F.lo]; exact ltS_irr _
        · rw [F.lo]; exact (pw_lt hp hj e1 hz).2
      have e : endL x false = x.ps := rfl
      rw [e, ef]
      have h2 := lt01.1
      rw [ofI_get F.yes] at h2
      simp only [Bool.false_eq_true, iff_false]
      exact fun e => h2 e.symm
  | false =>
    have F := hg.spl hh
    have hf : fnd x.ps x.lo < x.ps.length := findL_len x.lo (right_pos h.ps)
    cases sh with
    | true =>
      have e : endL x true = insS x.ps x.lo x.to (fnd x.ps x.lo) (epochL x.ps + 1) := by unfold endL shiftL; rw [if_pos rfl, if_neg (by rw [hh]; simp)]
      have eg : (insS x.ps x.lo x.to (fnd x.ps x.lo) (epochL x.ps + 1))[fnd x.ps x.lo + 1]? = some ⟨x.to, x.lo, epochL x.ps + 1⟩ := by rw [ins_get hf, if_neg (by omega), if_neg (by omega), if_pos rfl]
      obtain ⟨y, s1, s2, s3⟩ := find_spec x.lo h.ps
      have ef : fnd (insS x.ps x.lo x.to (fnd x.ps x.lo) (epochL x.ps + 1)) x.lo = fnd x.ps x.lo + 1 := by
        refine find_at eg (ltS_irr _) fun j z hj hz => ?_
        rw [ins_get hf, if_neg (by omega), if_neg (by omega), if_neg (by omega)] at hz
        exact s3 (j - 1) z (by unfold fnd at hj; omega) hz
      rw [e, ef, getD_of eg]
      simp
    | false =>
      have e : endL x false = x.ps := rfl
      rw [e]
      simp only [Bool.false_eq_true, iff_false]
      exact no_of F.no _ (by rw [plAt_at hf]; exact List.getElem_mem hf)

end Go.Proofs.Ytjjfcaigonomiaa
set_option linter.unusedVariables false
set_option linter.unusedSimpArgs false
namespace Go.Proofs.Ytjjfcaigonomiaa
open Go.Vc Go.RowKit
set_option maxRecDepth 100000

abbrev wishC (cl sq : Int) (ky : ByteArray) (op : Int) : Cd := ⟨12, cl, sq, 0, 0, 0, ⟨#[]⟩, 0, 0, 0, false, op, ky, ⟨#[]⟩, 0, 0, 0, 0, 0, 0, ⟨#[]⟩, ⟨#[]⟩, 0, 0⟩
abbrev endC (kd nu fr to : Int) (lo hi : ByteArray) (cl sq : Int) : Cd := ⟨kd, 0, 0, 0, 0, 0, ⟨#[]⟩, 0, 0, 0, false, 0, ⟨#[]⟩, ⟨#[]⟩, 0, 0, 0, nu, fr, to, lo, hi, cl, sq⟩

/-- the kind of a wish's operation -/
def opK (mg : Bool) : Int := if mg then 8 else 7

/-- what a wish wants of the places, and why not -/
def wantE (x : Ct) (mg : Bool) (k : ByteArray) : List Pl × Int :=
  if mg = true then mergeL x.ps (fnd x.ps k)
  else if (plAt x.ps (fnd x.ps k)).fr = k then ([], 171)
  else if x.nx = 8 ∨ x.ps.length ≥ 7 then ([], 3)
  else splitL x.ps k x.nx

theorem want_merge {x : Ct} (h : RiC x) (k : ByteArray) (he : epochL x.ps < 4611686018427387904) : wantE x true k = if fnd x.ps k + 1 < x.ps.length then (delS x.ps (fnd x.ps k) (epochL x.ps + 1), 0) else ([], 170) := by
  unfold wantE
  rw [if_pos rfl]
  split
  · rename_i g
    exact merge_eq h.ps g he
  · unfold mergeL
    rw [if_neg (by simp [h.ps]), if_pos (by simp; omega)]

theorem want_split {x : Ct} (h : RiC x) {k : ByteArray} (hk : keyB k = true) (he : epochL x.ps < 4611686018427387904) : wantE x false k = if (plAt x.ps (fnd x.ps k)).fr = k then ([], 171) else if x.nx ≥ 8 ∨ x.ps.length ≥ 7 then ([], 3) else (insS x.ps k x.nx (fnd x.ps k) (epochL x.ps + 1), 0) := by
  have hk' : 1 ≤ k.size ∧ k.size ≤ 16 := by simpa [keyB] using hk
  have h0 := h.nx0
  have h1 := h.nx1
  unfold wantE
  rw [if_neg (by simp)]
  split
  · rfl
  rename_i g1
  by_cases g : x.nx ≥ 8 ∨ x.ps.length ≥ 7
  · rw [if_pos g, if_pos (by omega)]
  · rw [if_neg g, if_neg (by omega)]
    exact split_eq h.ps hk'.1 hk'.2 (by omega) (by omega) (by rw [ofI_none fun p hp e => by have := h.gr p hp; omega]; omega) (fun e => g1 e.symm) he

theorem ref_merge {x : Ct} (hn : x.nu = 0) (k : ByteArray) (he : epochL x.ps < 4611686018427387904) (hla : x.la < 4611686018427387904) : refE x (opK true) k = if fnd x.ps k + 1 < x.ps.length then 0 else 170 := by
  unfold refE
  rw [if_neg (by omega), if_neg (fun e => absurd e.1 (by decide)), if_neg (fun e => absurd e.1 (by decide))]
  by_cases g : fnd x.ps k + 1 < x.ps.length
  · rw [if_pos g, if_neg (fun e => by omega), if_neg (by omega)]
  · rw [if_neg g, if_pos ⟨by decide, by omega⟩]

theorem ref_split {x : Ct} (hn : x.nu = 0) (k : ByteArray) (he : epochL x.ps < 4611686018427387904) (hla : x.la < 4611686018427387904) : refE x (opK false) k = if (plAt x.ps (fnd x.ps k)).fr = k then 171 else if x.nx ≥ 8 ∨ x.ps.length ≥ 7 then 3 else 0 := by
  unfold refE
  rw [if_neg (by omega)]
  by_cases g1 : (plAt x.ps (fnd x.ps k)).fr = k
  · rw [if_pos ⟨rfl, g1⟩, if_pos g1]
  · rw [if_neg (fun e => g1 e.2), if_neg g1]
    by_cases g2 : x.nx ≥ 8 ∨ x.ps.length ≥ 7
    · rw [if_pos g2, if_pos ⟨rfl, g2⟩]
    · rw [if_neg (show ¬ (opK false = 7 ∧ (x.nx ≥ 8 ∨ x.ps.length ≥ 7)) from fun e => g2 e.2), if_neg g2, if_neg (fun e => absurd rfl e.1), if_neg (by omega)]

/-- why a wish is refused -/
theorem want_err {x : Ct} (h : RiC x) (hn : x.nu = 0) (mg : Bool) {k : ByteArray} (hk : keyB k = true) (he : epochL x.ps < 4611686018427387904) (hla : x.la < 4611686018427387904) : (wantE x mg k).2 = refE x (opK mg) k := by
  cases mg with
  | true =>
    rw [want_merge h k he, ref_merge hn k he hla]
    split <;> rfl
  | false =>
    rw [want_split h hk he, ref_split hn k he hla]
    split
    · rfl
    split <;> rfl

/-- what the plan of a wish shifts -/
theorem want_shift {x : Ct} (h : RiC x) (mg : Bool) {k : ByteArray} {c : Cd} (hc : c.op_kd = opK mg) (hy : c.op_ky = k) (hk : keyB k = true) (he : epochL x.ps < 4611686018427387904) (h0 : (wantE x mg k).2 = 0) : shiftL (begP x c) = (wantE x mg k).1 := by
  have hf : fnd x.ps k < x.ps.length := findL_len k (right_pos h.ps)
  subst hy
  cases mg with
  | true =>
    rw [want_merge h _ he] at h0 ⊢
    split at h0
    · rename_i g
      rw [if_pos g]
      have e8 : ¬ c.op_kd = 7 := by rw [hc]; decide
      have ei : ofI x.ps (plAt x.ps (fnd x.ps c.op_ky)).gr = fnd x.ps c.op_ky := ofI_is h.ps (plAt_some hf)
      unfold begP
      simp only [if_neg e8]
      unfold shiftL
      rw [if_pos (by simp only [hasG, ei]; simpa using hf)]
      simp only [ei]
    · cases h0
  | false =>
    rw [want_split h hk he] at h0 ⊢
    split at h0
    · cases h0
    rename_i g1
    split at h0
    · cases h0
    rename_i g2
    rw [if_neg g1, if_neg g2]
    have e7 : c.op_kd = 7 := hc
    unfold begP
    simp only [if_pos e7]
    unfold shiftL
    rw [if_neg (by simp only [hasG]; rw [ofI_none fun p hp e => by have := h.gr p hp; omega]; simp)]

/-- each mark is of a wish before the i-th -/
def MkI (l : List Mk) (i : Int) : Prop := ∀ (c : Int) (m : Mk), ofM l c = some m → (m.sq - 1) * 8 + (c - 1) < i

theorem MkI.ins {l : List Mk} {i : Int} (ht : tabB 0 l = true) (h : MkI l i) {j : Int} (hij : i ≤ j) {m : Mk} (hm : (m.sq - 1) * 8 + (m.cl - 1) < j) : MkI (insM l m) j := fun c z hz => by
  rw [ins_of c ht] at hz
  split at hz
  · rename_i e
    cases hz
    rw [← e]; exact hm
  · have := h c z hz; omega

theorem MkI.mono {l : List Mk} {i j : Int} (h : MkI l i) (hij : i ≤ j) : MkI l j := fun c z hz => by have := h c z hz; omega

theorem MkI.done {x : Ct} (ht : tabB 0 x.ms = true) {i : Int} (h : MkI x.ms i) {cl sq er : Int} (hm : (sq - 1) * 8 + (cl - 1) < i) : MkI (doneE x cl sq er).1.ms i := by
  unfold doneE
  simp only
  split
  · rename_i e
    unfold endM at e ⊢
    split at e
    · rename_i g
      exact absurd e g
    · rename_i g
      rw [if_neg g]
      exact h.ins ht (Int.le_refl _) hm
  · exact h

theorem begP_ms (x : Ct) (c : Cd) : (begP x c).ms = x.ms := by
  unfold begP
  by_cases e : c.op_kd = 7
  · simp only [if_pos e]
  · simp only [if_neg e]

/-- a fresh wish -/
theorem wish_law {x : Ct} (h : RiC x) (hn : x.nu = 0) {i : Int} (hi : MkI x.ms i) {cl sq : Int} (hs : (sq - 1) * 8 + (cl - 1) = i) (ha : argB cl sq = true) (mg : Bool) {k : ByteArray} (hk : keyB k = true) (he : epochL x.ps < 4611686018427387904) (hla : x.la < 4611686018427387904)
    {ix : Int} (h1 : x.ix < ix) (h2 : ix ≤ 4611686018427387904) : MkI (applyE x (wishC cl sq k (opK mg)) ix).1.ms (i + 1) ∧
    ((wantE x mg k).2 ≠ 0 → (applyE x (wishC cl sq k (opK mg)) ix).2.1 = [⟨1, cl, sq, (wantE x mg k).2, 0, 0, 0⟩] ∧ (applyE x (wishC cl sq k (opK mg)) ix).1 = { x with ix := ix, ms := (applyE x (wishC cl sq k (opK mg)) ix).1.ms }) ∧
    ((wantE x mg k).2 = 0 → (applyE x (wishC cl sq k (opK mg)) ix).2.1 = [] ∧ (applyE x (wishC cl sq k (opK mg)) ix).1 = { begP x (wishC cl sq k (opK mg)) with ix := ix, ms := (applyE x (wishC cl sq k (opK mg)) ix).1.ms }) := by
  have hb : beginM x.ms cl sq = (insM x.ms (opM cl sq), true, 0) := by
    unfold beginM
    rw [if_neg (by rw [h.ms]; simp), if_neg (by rw [ha]; simp)]
    cases ho : ofM x.ms cl with
    | none => rfl
    | some m =>
      have := hi cl m ho
      simp only
      rw [if_neg (by omega), if_neg (by omega)]
  have htab : tabB 0 (insM x.ms (opM cl sq)) = true := by obtain ⟨o1, o2⟩ := opM_ok ha; exact ins_tab o1 o2 h.ms
  have hmk : MkI (insM x.ms (opM cl sq)) (i + 1) := hi.ins h.ms (by omega) (by simp only [opM]; omega)
  have e := apply_eq h (wishC cl sq k (opK mg)) h1 h2
  simp only at e
  rw [if_pos trivial] at e
  have es : startE { x with ix := ix } (wishC cl sq k (opK mg)) = if refE { x with ix := ix, ms := insM x.ms (opM cl sq) } (opK mg) k ≠ 0 then doneE { x with ix := ix, ms := insM x.ms (opM cl sq) } cl sq (refE { x with ix := ix, ms := insM x.ms (opM cl sq) } (opK mg) k) else (begP { x with ix := ix, ms := insM x.ms (opM cl sq) } (wishC cl sq k (opK mg)), []) := by
    unfold startE
    simp only
    rw [if_neg (by rw [ha, hk]; cases mg <;> simp [opK]), hb]
    simp
  have er : refE { x with ix := ix, ms := insM x.ms (opM cl sq) } (opK mg) k = (wantE x mg k).2 := (want_err h hn mg hk he hla).symm
  rw [er] at es
  rw [e]
  by_cases g : (wantE x mg k).2 = 0
  · rw [if_neg (by omega)] at es
    rw [es]
    refine ⟨?_, fun g2 => absurd g g2, fun _ => ⟨rfl, ?_⟩⟩
    · simp only
      rw [begP_ms]
      exact hmk
    · simp only
      unfold begP
      cases mg
      · simp [opK]
      · simp [opK]
  · rw [if_pos g] at es
    rw [es]
    refine ⟨?_, fun _ => ⟨rfl, rfl⟩, fun g2 => absurd g2 g⟩
    exact MkI.done (x := { x with ix := ix, ms := insM x.ms (opM cl sq) }) htab hmk (by omega)

end Go.Proofs.Ytjjfcaigonomiaa
set_option linter.unusedVariables false
set_option linter.unusedSimpArgs false
namespace Go.Proofs.Ytjjfcaigonomiaa
open Go.Vc Go.RowKit Go.ChangeShapes Go.WideShapes Go.ChangeAt
set_option maxRecDepth 100000

structure Ws where
  mg : Bool
  dr : Bool
  ky : ByteArray

def Ws.wf (x : Ws) : Prop := x.ky.size ≤ 9223372036854775807

abbrev encWs (x : Ws) : List Value := [.bool x.mg, .bool x.dr, .string x.ky]

abbrev wsv (x : Ws) : Value := .agg #[.bool x.mg, .bool x.dr, .string x.ky]

abbrev wss (l : List Ws) : List Value := l.flatMap encWs

theorem ws_k (x : Ws) : (encWs x).length = 3 := rfl

theorem ws_len (l : List Ws) : (wss l).length = l.length * 3 := flat_len ws_k l

theorem ws_at {m : M} {b o i : Nat} {l : List Ws} (h : CellsAt m b o (wss l)) (hi : i < l.length) : CellsAt m b (o + i * 3) (encWs l[i]) := CellsAt.elem ws_k l o i hi h

theorem ws_ext {a b : Ws} : a = b ↔ a.mg = b.mg ∧ a.dr = b.dr ∧ a.ky = b.ky := by
  cases a; cases b; simp

instance : DecidableEq Ws := fun _ _ => decidable_of_iff' _ ws_ext

theorem ws_one (l : List Ws) : oneCells (wss l) = true := by
  rw [oneCells_iff]; intro v hv
  obtain ⟨w, -, hw⟩ := List.mem_flatMap.1 hv
  exact oneCells_iff.1 (rfl : oneCells (encWs w) = true) v hw

theorem ws_zr (k : Nat) : (zeroRow Try.prog 69 k).length = k * 3 := zrLen (by kernel_rfl) k

theorem ws_cells : Try.prog.cellsOf 69 = 3 := by kernel_rfl

theorem ws_rd {m : M} {N d : Nat} {cs : List Value} (h : Rd Try.prog m N (d + 2) 69 cs) (hN : N ≤ 9223372036854775807) : ∃ x : Ws, cs = encWs x ∧ x.wf := by
  have hc1 := (by kernel_rfl : Try.prog.cellsOf 9 = 1)
  have hc2 := (by kernel_rfl : Try.prog.cellsOf 4 = 1)
  simp only [Rd, Try.underlying69, Try.underlying9, Try.underlying4, fieldsD, ws_cells, hc1, hc2] at h
  obtain ⟨hl, ⟨k1, e1⟩, ⟨k2, e2⟩, ⟨k3, e3, w3⟩, -⟩ := h
  obtain ⟨c1, c2, c3, rfl⟩ : ∃ c1 c2 c3, cs = [c1, c2, c3] := by
    match cs, hl with
    | [c1, c2, c3], _ => exact ⟨_, _, _, rfl⟩
  simp at e1 e2 e3
  subst e1 e2 e3
  exact ⟨⟨k1, k2, k3⟩, rfl, Nat.le_trans w3 hN⟩

theorem open_ws {H : Type} {enc : TypeId × Value → H} {W : World} {r : Reach} {b0 : Nat} {v : Value} {d : DataW H} {p : List MemPlace} {N : Nat} {Bd : DataW H → Prop} (B : Bound N Bd) (hN : N ≤ 9223372036854775807) (hv : Value.okWide Try.prog W r b0 69 v) (h : DataW.Trod enc Try.prog W 0 (fun _ => true) true 69 v d p) (hb : Bd d) : ∃ x : Ws, v = wsv x ∧ x.wf := by
  obtain ⟨cs, rfl, hl⟩ := open_agg Try.underlying69 ws_cells hv
  obtain ⟨fuel, hf⟩ := h
  have hr := rd_of_trod B 2 fuel 69 _ _ hf hb
  simp only [Value.cells] at hr
  obtain ⟨x, he, hw⟩ := ws_rd (d := 0) hr hN
  exact ⟨x, by rw [show cs = encWs x from he], hw⟩

theorem open_wss {H : Type} {enc : TypeId × Value → H} {W : World} {r : Reach} {b0 : Nat} {v : Value} {d : DataW H} {p : List MemPlace} {N : Nat} {Bd : DataW H → Prop} (B : Bound N Bd) (hN : N ≤ 9223372036854775807) (hv : Value.okWide Try.prog W r b0 67 v) (h : DataW.Trod enc Try.prog W 0 (fun _ => true) true 67 v d p) (hb : Bd d) :
    ∃ (a : Option Addr) (c : Nat) (z : List Ws), v = .slice a z.length c ∧ z.length ≤ N ∧ (∀ x ∈ z, x.wf) ∧ (a = none → z = []) ∧ Row (M.all W) a (wss z) := by
  obtain ⟨a, len, cap, rfl⟩ := okWide_slice Try.underlying67 hv
  obtain ⟨fuel, hf⟩ := h
  have hr := rd_of_trod B 3 fuel 67 _ _ hf hb
  rw [Rd] at hr
  simp only [Try.underlying67] at hr
  obtain ⟨a', cap', rows, hcs, h1, h2, h3, h4, h5⟩ := hr
  obtain ⟨z, hz, he, hi⟩ := rows_list (α := Ws) (e := encWs) (p := Ws.wf) rows fun r hr => ws_rd (d := 0) (h4 r hr).2 hN
  simp [Value.cells] at hcs
  obtain ⟨rfl, rfl, rfl⟩ := hcs
  rw [he] at h5
  exact ⟨a, cap, z, by rw [hz], by omega, hi, fun e => List.eq_nil_of_length_eq_zero (by have := h3 e; omega), h5⟩

end Go.Proofs.Ytjjfcaigonomiaa
set_option linter.unusedVariables false
set_option linter.unusedSimpArgs false
namespace Go.Proofs.Ytjjfcaigonomiaa
open Go.Vc Go.RowKit
set_option maxRecDepth 100000

structure WaX where
  i : Nat
  x : Ct
  a : Ca
  m : M

structure WaI (zs : List Ws) (za : Option Addr) (i : Nat) (x : Ct) (a : Ca) (m : M) : Prop where
  ib : i ≤ zs.length
  ib2 : i ≤ 60
  r : RiC x
  n0 : x.nu = 0
  mi : MkI x.ms i
  ep : epochL x.ps ≤ i + 1
  la : x.la ≤ i
  ix : x.ix ≤ 2 * i
  ra : CtR m x a
  rz : Row m za (wss zs)

structure WaY where
  i : Nat
  x : Ct
  a : Ca
  m : M
  w : Ws
  l : List Pl
  al : Option Addr
  ll : Nat
  e : Int

structure WaJ (zs : List Ws) (za : Option Addr) (s : WaY) : Prop where
  b : WaI zs za s.i s.x s.a s.m
  i1 : s.i < zs.length
  i2 : s.i < 60
  k : keyB s.w.ky = true
  e : wantE s.x s.w.mg s.w.ky = (s.l, s.e)
  row : Row s.m s.al (pls s.l)

structure WaU where
  i : Nat
  x : Ct
  a : Ca
  m : M
  w : Ws

structure WaT (zs : List Ws) (za : Option Addr) (s : WaU) : Prop where
  b : WaI zs za s.i s.x s.a s.m
  i1 : s.i < zs.length
  i2 : s.i < 60

structure WaZ where
  i : Nat
  x : Ct
  a : Ca
  y : Ct
  b : Ca
  m : M
  dr : Bool
  l : List Pl
  al : Option Addr
  ll : Nat

def clI (i : Nat) : Int := 1 + ((i % 8 : Nat) : Int)
def sqI (i : Nat) : Int := 1 + ((i / 8 : Nat) : Int)

structure WaK (zs : List Ws) (za : Option Addr) (s : WaZ) : Prop where
  i1 : s.i < zs.length
  i2 : s.i < 60
  r : RiC s.y
  n0 : s.y.nu ≠ 0
  mi : MkI s.y.ms (s.i + 1)
  ep : epochL s.y.ps ≤ s.i + 1
  la : s.y.la ≤ s.i + 1
  ix : s.y.ix ≤ 2 * s.i + 1
  cl : s.y.cl = clI s.i
  sq : s.y.sq = sqI s.i
  rb : CtR s.m s.y s.b
  rz : Row s.m za (wss zs)
  l : s.l = endL s.y (!s.dr)
  row : Row s.m s.al (pls s.l)

structure WaV where
  i : Nat
  k : Nat
  x : Ct
  a : Ca
  y : Ct
  b : Ca
  m : M
  al : Option Addr
  ll : Nat

structure WaL (zs : List Ws) (za : Option Addr) (s : WaV) : Prop where
  b : WaI zs za (s.i + 1) s.y s.b s.m
  k : s.k ≤ s.y.ps.length
  row : Row s.m s.al (pls s.y.ps)

theorem epM_le : ∀ (l : List Pl) (e E : Int), e ≤ E → (∀ p ∈ l, p.ep ≤ E) → l.foldl (fun e p => max e p.ep) e ≤ E
  | [], e, E, h, _ => h
  | x :: xs, e, E, h, hp => by
    simp only [List.foldl_cons]
    exact epM_le xs _ E (by have := hp x (by simp); omega) fun p h => hp p (by simp [h])

theorem end_ep {x : Ct} (h : RiC x) (hg : GoC x) (sh : Bool) : epochL (endL x sh) ≤ epochL x.ps + 1 := by
  have h0 : 0 ≤ epochL x.ps := epoch_nn x.ps 0
  refine epM_le _ 0 _ (by omega) fun p hp => ?_
  cases sh with
  | true =>
    rcases mem_shift h hg hp with hp | ⟨e, -⟩
    · have := epM_ge hp; omega
    · omega
  | false => have := epM_ge (l := x.ps) hp; omega

theorem own_mk {x : Ct} (h : RiC x) (hn : x.nu ≠ 0) (c : Cd) (sh : Bool) (hk : c.kd = if sh then 13 else 14) (hc : c.pl_nu = x.nu) {ix : Int} (h1 : x.ix < ix) (h2 : ix ≤ 4611686018427387904) {j : Int} (hm : MkI x.ms j) (hj : (x.sq - 1) * 8 + (x.cl - 1) < j) : MkI (applyE x c ix).1.ms j := by
  have e := apply_eq h c h1 h2
  simp only at e
  cases sh with
  | true =>
    have hk : c.kd = 13 := hk
    rw [if_neg (by omega), if_pos ⟨hk, hn, hc⟩] at e
    rw [e]
    exact MkI.done (x := clrP { x with ix := ix, ps := shiftL x }) h.ms hm hj
  | false =>
    have hk : c.kd = 14 := hk
    rw [if_neg (by omega), if_neg (by omega), if_pos ⟨hk, hn, hc⟩] at e
    rw [e]
    exact MkI.done (x := clrP { x with ix := ix }) h.ms hm hj

theorem cl_wrap {i : Nat} (h : i < 60) : IntKind.i64.wrap (1 + (i : Int).tmod 8) = clI i := by
  rw [show (i : Int).tmod 8 = ((i % 8 : Nat) : Int) from rfl]
  unfold clI
  simp [IntKind.wrap_i64]; omega

theorem sq_wrap {i : Nat} (h : i < 60) : IntKind.i64.wrap (1 + IntKind.i64.wrap ((i : Int).tdiv 8)) = sqI i := by
  rw [show (i : Int).tdiv 8 = ((i / 8 : Nat) : Int) from rfl]
  unfold sqI
  simp [IntKind.wrap_i64]; omega

theorem cs_at (i : Nat) : (sqI i - 1) * 8 + (clI i - 1) = i := by unfold clI sqI; omega

theorem cs_arg {i : Nat} (h : i < 60) : argB (clI i) (sqI i) = true := by
  have e : 1 ≤ clI i ∧ clI i ≤ 8 ∧ 1 ≤ sqI i ∧ sqI i ≤ 4611686018427387904 := by unfold clI sqI; omega
  simp [argB, e]

theorem begP_wish (x : Ct) (cl sq : Int) (k : ByteArray) (mg : Bool) : (begP x (wishC cl sq k (opK mg))).nu = x.la + 1 ∧ (begP x (wishC cl sq k (opK mg))).la = x.la + 1 ∧ (begP x (wishC cl sq k (opK mg))).ps = x.ps ∧ (begP x (wishC cl sq k (opK mg))).cl = cl ∧ (begP x (wishC cl sq k (opK mg))).sq = sq := by
  cases mg <;> simp [begP, opK]

theorem WaI.mem {zs : List Ws} {za : Option Addr} {i : Nat} {x : Ct} {a : Ca} {m m' : M} (W : WaI zs za i x a m) {n : Nat} (hn : m.sz ≤ n) (hag : Agree n { m with sz := n } m') : WaI zs za i x a m' :=
  ⟨W.ib, W.ib2, W.r, W.n0, W.mi, W.ep, W.la, W.ix, (W.ra.sz hn).agree hag, (W.rz.sz hn).agree hag⟩

theorem WaI.up {zs : List Ws} {za : Option Addr} {i : Nat} {x : Ct} {a : Ca} {m : M} (W : WaI zs za i x a m) (h1 : i < zs.length) (h2 : i < 60) : WaI zs za (i + 1) x a m :=
  ⟨h1, h2, W.r, W.n0, W.mi.mono (by omega), by have := W.ep; omega, by have := W.la; omega, by have := W.ix; omega, W.ra, W.rz⟩

set_option maxHeartbeats 2000000 in
theorem planwalks (za : Option Addr) (zc : Nat) (zs : List Ws) (hl : zs.length ≤ 9223372036854775807) (m : M) (hz : Row m za (wss zs)) : QSpec Try.prog 7 [.slice za zs.length zc] m (.bool true) := by
  refine QSpec.of_vc Try.func7 (ann := fun _ r =>
    if r = 5 then { A := WaX, inv := fun s => WaI zs za s.i s.x s.a s.m, st := fun s => [(4, .val (I s.i)), (0, .val (.slice za zs.length zc)), (3, .own 2 0)], own := fun s => [(2, ⟨28, encCt s.x s.a⟩)], m := fun s => s.m, μ := fun s => 60 - s.i }
    else if r = 11 then { A := WaU, inv := fun s => WaT zs za s, st := fun s => [(3, .own 2 0), (4, .val (I s.i)), (6, .own 24 0), (5, .own 19 0), (0, .val (.slice za zs.length zc))], own := fun s => [(2, ⟨28, encCt s.x s.a⟩), (19, ⟨69, encWs s.w⟩), (24, ⟨36, [I (opK s.w.mg), .string s.w.ky, .string ⟨#[]⟩, I 0, I 0, I 0]⟩)], m := fun s => s.m, μ := fun _ => 0, cut := true, link := some fun s ctx => ctx = [60 - s.i] }
    else if r = 22 then { A := WaY, inv := fun s => WaJ zs za s, st := fun s => [(3, .own 2 0), (4, .val (I s.i)), (6, .own 24 0), (9, .val (I s.e)), (5, .own 19 0), (8, .val (.slice s.al s.l.length s.ll)), (0, .val (.slice za zs.length zc))], own := fun s => [(2, ⟨28, encCt s.x s.a⟩), (19, ⟨69, encWs s.w⟩), (24, ⟨36, [I (opK s.w.mg), .string s.w.ky, .string ⟨#[]⟩, I 0, I 0, I 0]⟩)], m := fun s => s.m, μ := fun _ => 0, cut := true, link := some fun s ctx => ctx = [60 - s.i] }
    else if r = 36 then { A := WaZ, inv := fun s => WaK zs za s, st := fun s => [(10, .own 111 0), (14, .val (I (if s.dr then 14 else 13))), (13, .own 126 0), (8, .val (.slice s.al s.l.length s.ll)), (3, .own 2 0), (4, .val (I s.i)), (0, .val (.slice za zs.length zc))], own := fun s => [(2, ⟨28, encCt s.x s.a⟩), (111, ⟨28, encCt s.y s.b⟩), (126, ⟨45, [I 1, I (clI s.i), I (sqI s.i), I (if s.dr then 190 else 0), I 0, I 0, I 0]⟩)], m := fun s => s.m, μ := fun _ => 0, cut := true, link := some fun s ctx => ctx = [60 - s.i] }
    else if r = 40 then { A := WaV, inv := fun s => WaL zs za s, st := fun s => [(18, .val (I s.k)), (8, .val (.slice s.al s.y.ps.length s.ll)), (15, .own 174 0), (3, .own 2 0), (4, .val (I s.i)), (0, .val (.slice za zs.length zc))], own := fun s => [(2, ⟨28, encCt s.x s.a⟩), (174, ⟨28, encCt s.y s.b⟩)], m := fun s => s.m, μ := fun s => s.y.ps.length - s.k, link := some fun s ctx => ctx = [60 - s.i] }
    else noAnn 0) fun N hN => ?_
  refine vc_by (X :=
      true = true ∧
      ∀ (n : Nat),
      N ≤ n →
      Vc.Spec Try.prog (8 : Nat) [] { π := m.π, sz := n, uf := m.uf : M } fun (v : Value) (m' : M) =>
      ∃ (n : Int),
      ∃ (a : Option Addr),
      ∃ (n_1 : Nat),
      ∃ (c : Nat),
      ∃ (n_2 : Int),
      ∃ (n_3 : Int),
      ∃ (n_4 : Int),
      ∃ (n_5 : Int),
      ∃ (n_6 : Int),
      ∃ (s : ByteArray),
      ∃ (s_1 : ByteArray),
      ∃ (n_7 : Int),
      ∃ (n_8 : Int),
      ∃ (a_1 : Option Addr),
      ∃ (n_9 : Nat),
      ∃ (c_1 : Nat),
      v =
      Value.agg
      #[Value.int IntKind.i64 n, Value.slice a n_1 c, Value.int IntKind.i64 n_2, Value.int IntKind.i64 n_3, Value.int IntKind.i64 n_4,
      Value.int IntKind.i64 n_5, Value.int IntKind.i64 n_6, Value.string s, Value.string s_1, Value.int IntKind.i64 n_7,
      Value.int IntKind.i64 n_8, Value.slice a_1 n_9 c_1] ∧
      ∃ (b : Bool),
      QSpec Try.prog (10 : Nat) [] m' (Value.bool b) ∧
      ifB (!b) (Done (Value.bool false = Value.bool true))
      ((∃ (a_2 : WaX),
      WaI zs za a_2.i a_2.x a_2.a a_2.m ∧
      m' = a_2.m ∧
      ((SV.val (Value.int IntKind.i64 (0 : Int)) = SV.val (Value.int IntKind.i64 (↑a_2.i : Int)) ∧ true = true) ∧
      (SV.val (Value.slice za zs.length zc) = SV.val (Value.slice za zs.length zc) ∧ true = true) ∧
      (SV.own ((0 : Nat) + (1 : Nat) + (1 : Nat)) (0 : Nat) = SV.own (2 : Nat) (0 : Nat) ∧ true = true) ∧ True) ∧
      (some
      { ty := (28 : Nat), cs := [Value.int IntKind.i64 n, Value.slice a n_1 c, Value.int IntKind.i64 n_2, Value.int IntKind.i64 n_3, Value.int IntKind.i64 n_4, Value.int IntKind.i64 n_5, Value.int IntKind.i64 n_6, Value.string s, Value.string s_1, Value.int IntKind.i64 n_7, Value.int IntKind.i64 n_8, Value.slice a_1 n_9 c_1] : Bx } =
      some
      { ty := (28 : TypeId), cs := [Value.int IntKind.i64 a_2.x.ix, Value.slice a_2.a.ap a_2.x.ps.length a_2.a.cp, Value.int IntKind.i64 a_2.x.nx, Value.int IntKind.i64 a_2.x.la, Value.int IntKind.i64 a_2.x.nu, Value.int IntKind.i64 a_2.x.fr, Value.int IntKind.i64 a_2.x.to, Value.string a_2.x.lo, Value.string a_2.x.hi, Value.int IntKind.i64 a_2.x.cl, Value.int IntKind.i64 a_2.x.sq, Value.slice a_2.a.am a_2.x.ms.length a_2.a.cm] : Bx } ∧
      true = true) ∧
      True) ∧
      ∀ (a : WaX),
      WaI zs za a.i a.x a.a a.m →
      ifB (decide ((↑a.i : Int) < (↑zs.length : Int)))
      (ifB (decide ((↑a.i : Int) < (60 : Int)))
      (∃ (b : Nat),
      ∃ (off : Nat),
      za = some { block := b, off := off : Addr } ∧
      ((0 : Int) ≤ (↑a.i : Int) ∧ (↑a.i : Int) < (↑zs.length : Int)) ∧
      ∃ (b_1 : Bool),
      ∃ (b_2 : Bool),
      ∃ (s : ByteArray),
      CellsAt a.m b (off + (↑a.i : Int).toNat * (3 : Nat)) [Value.bool b_1, Value.bool b_2, Value.string s] ∧
      ifB b_1
      (∃ (x : WaU),
      (WaT zs za x ∧
      a.m = x.m ∧
      ((SV.own (2 : Nat) (0 : Nat) = SV.own (2 : Nat) (0 : Nat) ∧ true = true) ∧
      (SV.val (Value.int IntKind.i64 (↑a.i : Int)) =
      SV.val (Value.int IntKind.i64 (↑x.i : Int)) ∧
      true = true) ∧
      (SV.own
      ((0 : Nat) + (1 : Nat) + (3 : Nat) + (2 : Nat) + (1 : Nat) + (8 : Nat) +
      (6 : Nat) +
      (3 : Nat))
      (0 : Nat) =
      SV.own (24 : Nat) (0 : Nat) ∧
      true = true) ∧
      (SV.own
      ((0 : Nat) + (1 : Nat) + (3 : Nat) + (2 : Nat) + (1 : Nat) + (8 : Nat) +
      (4 : Nat))
      (0 : Nat) =
      SV.own (19 : Nat) (0 : Nat) ∧
      true = true) ∧
      (SV.val (Value.slice za zs.length zc) = SV.val (Value.slice za zs.length zc) ∧
      true = true) ∧
      True) ∧
      (some
      { ty := (28 : TypeId), cs := [Value.int IntKind.i64 a.x.ix, Value.slice a.a.ap a.x.ps.length a.a.cp, Value.int IntKind.i64 a.x.nx, Value.int IntKind.i64 a.x.la, Value.int IntKind.i64 a.x.nu, Value.int IntKind.i64 a.x.fr, Value.int IntKind.i64 a.x.to, Value.string a.x.lo, Value.string a.x.hi, Value.int IntKind.i64 a.x.cl, Value.int IntKind.i64 a.x.sq, Value.slice a.a.am a.x.ms.length a.a.cm] : Bx } =
      some
      { ty := (28 : TypeId), cs := [Value.int IntKind.i64 x.x.ix, Value.slice x.a.ap x.x.ps.length x.a.cp, Value.int IntKind.i64 x.x.nx, Value.int IntKind.i64 x.x.la, Value.int IntKind.i64 x.x.nu, Value.int IntKind.i64 x.x.fr, Value.int IntKind.i64 x.x.to, Value.string x.x.lo, Value.string x.x.hi, Value.int IntKind.i64 x.x.cl, Value.int IntKind.i64 x.x.sq, Value.slice x.a.am x.x.ms.length x.a.cm] : Bx } ∧
      true = true) ∧
      (some { ty := (69 : Nat), cs := [Value.bool b_1, Value.bool b_2, Value.string s] : Bx } =
      some
      { ty := (69 : TypeId), cs := [Value.bool x.w.mg, Value.bool x.w.dr, Value.string x.w.ky] : Bx } ∧
      true = true) ∧
      (some
      { ty := (36 : Nat), cs := [Value.int IntKind.i64 (8 : Int), Value.string s, Value.string { data := #[] : ByteArray }, Value.int IntKind.i64 (0 : Int), Value.int IntKind.i64 (0 : Int), Value.int IntKind.i64 (0 : Int)] : Bx } =
      some
      { ty := (36 : TypeId), cs := [Value.int IntKind.i64 (opK x.w.mg), Value.string x.w.ky, Value.string { data := #[] : ByteArray }, Value.int IntKind.i64 (0 : Int), Value.int IntKind.i64 (0 : Int), Value.int IntKind.i64 (0 : Int)] : Bx } ∧
      true = true) ∧
      True) ∧
      [(60 : Nat) - a.i] = [(60 : Nat) - x.i])
      (∃ (x : WaU),
      (WaT zs za x ∧
      a.m = x.m ∧
      ((SV.own (2 : Nat) (0 : Nat) = SV.own (2 : Nat) (0 : Nat) ∧ true = true) ∧
      (SV.val (Value.int IntKind.i64 (↑a.i : Int)) =
      SV.val (Value.int IntKind.i64 (↑x.i : Int)) ∧
      true = true) ∧
      (SV.own
      ((0 : Nat) + (1 : Nat) + (3 : Nat) + (2 : Nat) + (1 : Nat) + (8 : Nat) +
      (6 : Nat) +
      (3 : Nat))
      (0 : Nat) =
      SV.own (24 : Nat) (0 : Nat) ∧
      true = true) ∧
      (SV.own
      ((0 : Nat) + (1 : Nat) + (3 : Nat) + (2 : Nat) + (1 : Nat) + (8 : Nat) +
      (4 : Nat))
      (0 : Nat) =
      SV.own (19 : Nat) (0 : Nat) ∧
      true = true) ∧
      (SV.val (Value.slice za zs.length zc) = SV.val (Value.slice za zs.length zc) ∧
      true = true) ∧
      True) ∧
      (some
      { ty := (28 : TypeId), cs := [Value.int IntKind.i64 a.x.ix, Value.slice a.a.ap a.x.ps.length a.a.cp, Value.int IntKind.i64 a.x.nx, Value.int IntKind.i64 a.x.la, Value.int IntKind.i64 a.x.nu, Value.int IntKind.i64 a.x.fr, Value.int IntKind.i64 a.x.to, Value.string a.x.lo, Value.string a.x.hi, Value.int IntKind.i64 a.x.cl, Value.int IntKind.i64 a.x.sq, Value.slice a.a.am a.x.ms.length a.a.cm] : Bx } =
      some
      { ty := (28 : TypeId), cs := [Value.int IntKind.i64 x.x.ix, Value.slice x.a.ap x.x.ps.length x.a.cp, Value.int IntKind.i64 x.x.nx, Value.int IntKind.i64 x.x.la, Value.int IntKind.i64 x.x.nu, Value.int IntKind.i64 x.x.fr, Value.int IntKind.i64 x.x.to, Value.string x.x.lo, Value.string x.x.hi, Value.int IntKind.i64 x.x.cl, Value.int IntKind.i64 x.x.sq, Value.slice x.a.am x.x.ms.length x.a.cm] : Bx } ∧
      true = true) ∧
      (some { ty := (69 : Nat), cs := [Value.bool b_1, Value.bool b_2, Value.string s] : Bx } =
      some
      { ty := (69 : TypeId), cs := [Value.bool x.w.mg, Value.bool x.w.dr, Value.string x.w.ky] : Bx } ∧
      true = true) ∧
      (some
      { ty := (36 : Nat), cs := [Value.int IntKind.i64 (7 : Int), Value.string s, Value.string { data := #[] : ByteArray }, Value.int IntKind.i64 (0 : Int), Value.int IntKind.i64 (0 : Int), Value.int IntKind.i64 (0 : Int)] : Bx } =
      some
      { ty := (36 : TypeId), cs := [Value.int IntKind.i64 (opK x.w.mg), Value.string x.w.ky, Value.string { data := #[] : ByteArray }, Value.int IntKind.i64 (0 : Int), Value.int IntKind.i64 (0 : Int), Value.int IntKind.i64 (0 : Int)] : Bx } ∧
      true = true) ∧
      True) ∧
      [(60 : Nat) - a.i] = [(60 : Nat) - x.i]) ∧
      ∀ (x : WaU),
      WaT zs za x ∧ [(60 : Nat) - a.i] = [(60 : Nat) - x.i] →
      ifB (decide ((↑x.w.ky.size : Int) < (1 : Int)))
      (∃ (a' : WaX),
      (WaI zs za a'.i a'.x a'.a a'.m ∧
      x.m = a'.m ∧
      ((SV.val (Value.int IntKind.i64 (IntKind.i64.wrap ((↑x.i : Int) + (1 : Int)))) =
      SV.val (Value.int IntKind.i64 (↑a'.i : Int)) ∧
      true = true) ∧
      (SV.val (Value.slice za zs.length zc) = SV.val (Value.slice za zs.length zc) ∧
      true = true) ∧
      (SV.own (2 : Nat) (0 : Nat) = SV.own (2 : Nat) (0 : Nat) ∧ true = true) ∧ True) ∧
      (some
      { ty := (28 : TypeId), cs := [Value.int IntKind.i64 x.x.ix, Value.slice x.a.ap x.x.ps.length x.a.cp, Value.int IntKind.i64 x.x.nx, Value.int IntKind.i64 x.x.la, Value.int IntKind.i64 x.x.nu, Value.int IntKind.i64 x.x.fr, Value.int IntKind.i64 x.x.to, Value.string x.x.lo, Value.string x.x.hi, Value.int IntKind.i64 x.x.cl, Value.int IntKind.i64 x.x.sq, Value.slice x.a.am x.x.ms.length x.a.cm] : Bx } =
      some
      { ty := (28 : TypeId), cs := [Value.int IntKind.i64 a'.x.ix, Value.slice a'.a.ap a'.x.ps.length a'.a.cp, Value.int IntKind.i64 a'.x.nx, Value.int IntKind.i64 a'.x.la, Value.int IntKind.i64 a'.x.nu, Value.int IntKind.i64 a'.x.fr, Value.int IntKind.i64 a'.x.to, Value.string a'.x.lo, Value.string a'.x.hi, Value.int IntKind.i64 a'.x.cl, Value.int IntKind.i64 a'.x.sq, Value.slice a'.a.am a'.x.ms.length a'.a.cm] : Bx } ∧
      true = true) ∧
      True) ∧
      (60 : Nat) - a'.i < (60 : Nat) - a.i)
      (ifB (decide ((↑x.w.ky.size : Int) > (16 : Int)))
      (∃ (a' : WaX),
      (WaI zs za a'.i a'.x a'.a a'.m ∧
      x.m = a'.m ∧
      ((SV.val (Value.int IntKind.i64 (IntKind.i64.wrap ((↑x.i : Int) + (1 : Int)))) =
      SV.val (Value.int IntKind.i64 (↑a'.i : Int)) ∧
      true = true) ∧
      (SV.val (Value.slice za zs.length zc) = SV.val (Value.slice za zs.length zc) ∧
      true = true) ∧
      (SV.own (2 : Nat) (0 : Nat) = SV.own (2 : Nat) (0 : Nat) ∧ true = true) ∧ True) ∧
      (some
      { ty := (28 : TypeId), cs := [Value.int IntKind.i64 x.x.ix, Value.slice x.a.ap x.x.ps.length x.a.cp, Value.int IntKind.i64 x.x.nx, Value.int IntKind.i64 x.x.la, Value.int IntKind.i64 x.x.nu, Value.int IntKind.i64 x.x.fr, Value.int IntKind.i64 x.x.to, Value.string x.x.lo, Value.string x.x.hi, Value.int IntKind.i64 x.x.cl, Value.int IntKind.i64 x.x.sq, Value.slice x.a.am x.x.ms.length x.a.cm] : Bx } =
      some
      { ty := (28 : TypeId), cs := [Value.int IntKind.i64 a'.x.ix, Value.slice a'.a.ap a'.x.ps.length a'.a.cp, Value.int IntKind.i64 a'.x.nx, Value.int IntKind.i64 a'.x.la, Value.int IntKind.i64 a'.x.nu, Value.int IntKind.i64 a'.x.fr, Value.int IntKind.i64 a'.x.to, Value.string a'.x.lo, Value.string a'.x.hi, Value.int IntKind.i64 a'.x.cl, Value.int IntKind.i64 a'.x.sq, Value.slice a'.a.am a'.x.ms.length a'.a.cm] : Bx } ∧
      true = true) ∧
      True) ∧
      (60 : Nat) - a'.i < (60 : Nat) - a.i)
      (∃ (n : Int),
      QSpec Try.prog (20 : Nat) [Value.slice x.a.ap x.x.ps.length x.a.cp, Value.string x.w.ky] x.m
      (Value.int IntKind.i64 n) ∧
      ifB x.w.mg
      (∃ (S' : Nat → Prop),
      (∀ (b : Nat), S' b → x.m.uf b ∧ (N ≤ b ∨ False)) ∧
      ∀ (n_10 : Nat),
      x.m.sz ≤ n_10 →
      SpecW Try.prog (27 : Nat)
      [Value.slice x.a.ap x.x.ps.length x.a.cp, Value.int IntKind.i64 n]
      { π := x.m.π, sz := n_10, uf := x.m.uf : M } S' fun (v : Value) (m' : M) =>
      ∃ (a_5 : Option Addr),
      ∃ (n : Nat),
      ∃ (c : Nat),
      ∃ (n_11 : Int),
      v = Value.tuple #[Value.slice a_5 n c, Value.int IntKind.i64 n_11] ∧
      ∃ (x_1 : WaY),
      (WaJ zs za x_1 ∧
      m' = x_1.m ∧
      ((SV.own (2 : Nat) (0 : Nat) = SV.own (2 : Nat) (0 : Nat) ∧
      true = true) ∧
      (SV.val (Value.int IntKind.i64 (↑x.i : Int)) =
      SV.val (Value.int IntKind.i64 (↑x_1.i : Int)) ∧
      true = true) ∧
      (SV.own (24 : Nat) (0 : Nat) =
      SV.own (24 : Nat) (0 : Nat) ∧
      true = true) ∧
      (SV.val (Value.int IntKind.i64 n_11) =
      SV.val (Value.int IntKind.i64 x_1.e) ∧
      true = true) ∧
      (SV.own (19 : Nat) (0 : Nat) =
      SV.own (19 : Nat) (0 : Nat) ∧
      true = true) ∧
      (SV.val (Value.slice a_5 n c) =
      SV.val
      (Value.slice x_1.al x_1.l.length
      x_1.ll) ∧
      true = true) ∧
      (SV.val (Value.slice za zs.length zc) =
      SV.val (Value.slice za zs.length zc) ∧
      true = true) ∧
      True) ∧
      (some
      { ty := (28 : TypeId), cs := [Value.int IntKind.i64 x.x.ix, Value.slice x.a.ap x.x.ps.length x.a.cp, Value.int IntKind.i64 x.x.nx, Value.int IntKind.i64 x.x.la, Value.int IntKind.i64 x.x.nu, Value.int IntKind.i64 x.x.fr, Value.int IntKind.i64 x.x.to, Value.string x.x.lo, Value.string x.x.hi, Value.int IntKind.i64 x.x.cl, Value.int IntKind.i64 x.x.sq, Value.slice x.a.am x.x.ms.length x.a.cm] : Bx } =
      some
      { ty := (28 : TypeId), cs := [Value.int IntKind.i64 x_1.x.ix, Value.slice x_1.a.ap x_1.x.ps.length x_1.a.cp, Value.int IntKind.i64 x_1.x.nx, Value.int IntKind.i64 x_1.x.la, Value.int IntKind.i64 x_1.x.nu, Value.int IntKind.i64 x_1.x.fr, Value.int IntKind.i64 x_1.x.to, Value.string x_1.x.lo, Value.string x_1.x.hi, Value.int IntKind.i64 x_1.x.cl, Value.int IntKind.i64 x_1.x.sq, Value.slice x_1.a.am x_1.x.ms.length x_1.a.cm] : Bx } ∧
      true = true) ∧
      (some
      { ty := (69 : TypeId), cs := [Value.bool x.w.mg, Value.bool x.w.dr, Value.string x.w.ky] : Bx } =
      some
      { ty := (69 : TypeId), cs := [Value.bool x_1.w.mg, Value.bool x_1.w.dr, Value.string x_1.w.ky] : Bx } ∧
      true = true) ∧
      (some
      { ty := (36 : TypeId), cs := [Value.int IntKind.i64 (opK x.w.mg), Value.string x.w.ky, Value.string { data := #[] : ByteArray }, Value.int IntKind.i64 (0 : Int), Value.int IntKind.i64 (0 : Int), Value.int IntKind.i64 (0 : Int)] : Bx } =
      some
      { ty := (36 : TypeId), cs := [Value.int IntKind.i64 (opK x_1.w.mg), Value.string x_1.w.ky, Value.string { data := #[] : ByteArray }, Value.int IntKind.i64 (0 : Int), Value.int IntKind.i64 (0 : Int), Value.int IntKind.i64 (0 : Int)] : Bx } ∧
      true = true) ∧
      True) ∧
      [(60 : Nat) - a.i] = [(60 : Nat) - x_1.i])
      (true = true ∧
      ∃ (b : Nat),
      ∃ (off : Nat),
      x.a.ap = some { block := b, off := off : Addr } ∧
      ((0 : Int) ≤ n ∧ n < (↑x.x.ps.length : Int)) ∧
      ∃ (s : ByteArray),
      CellsAt x.m b (off + n.toNat * (3 : Nat) + (1 : Nat)) [Value.string s] ∧
      ifB (s.toList == x.w.ky.toList)
      (∃ (x_1 : WaY),
      (WaJ zs za x_1 ∧
      x.m = x_1.m ∧
      ((SV.own (2 : Nat) (0 : Nat) = SV.own (2 : Nat) (0 : Nat) ∧
      true = true) ∧
      (SV.val (Value.int IntKind.i64 (↑x.i : Int)) =
      SV.val (Value.int IntKind.i64 (↑x_1.i : Int)) ∧
      true = true) ∧
      (SV.own (24 : Nat) (0 : Nat) =
      SV.own (24 : Nat) (0 : Nat) ∧
      true = true) ∧
      (SV.val (Value.int IntKind.i64 (171 : Int)) =
      SV.val (Value.int IntKind.i64 x_1.e) ∧
      true = true) ∧
      (SV.own (19 : Nat) (0 : Nat) =
      SV.own (19 : Nat) (0 : Nat) ∧
      true = true) ∧
      (SV.val (Value.slice none (0 : Nat) (0 : Nat)) =
      SV.val
      (Value.slice x_1.al x_1.l.length x_1.ll) ∧
      true = true) ∧
      (SV.val (Value.slice za zs.length zc) =
      SV.val (Value.slice za zs.length zc) ∧
      true = true) ∧
      True) ∧
      (some
      { ty := (28 : TypeId), cs := [Value.int IntKind.i64 x.x.ix, Value.slice x.a.ap x.x.ps.length x.a.cp, Value.int IntKind.i64 x.x.nx, Value.int IntKind.i64 x.x.la, Value.int IntKind.i64 x.x.nu, Value.int IntKind.i64 x.x.fr, Value.int IntKind.i64 x.x.to, Value.string x.x.lo, Value.string x.x.hi, Value.int IntKind.i64 x.x.cl, Value.int IntKind.i64 x.x.sq, Value.slice x.a.am x.x.ms.length x.a.cm] : Bx } =
      some
      { ty := (28 : TypeId), cs := [Value.int IntKind.i64 x_1.x.ix, Value.slice x_1.a.ap x_1.x.ps.length x_1.a.cp, Value.int IntKind.i64 x_1.x.nx, Value.int IntKind.i64 x_1.x.la, Value.int IntKind.i64 x_1.x.nu, Value.int IntKind.i64 x_1.x.fr, Value.int IntKind.i64 x_1.x.to, Value.string x_1.x.lo, Value.string x_1.x.hi, Value.int IntKind.i64 x_1.x.cl, Value.int IntKind.i64 x_1.x.sq, Value.slice x_1.a.am x_1.x.ms.length x_1.a.cm] : Bx } ∧
      true = true) ∧
      (some
      { ty := (69 : TypeId), cs := [Value.bool x.w.mg, Value.bool x.w.dr, Value.string x.w.ky] : Bx } =
      some
      { ty := (69 : TypeId), cs := [Value.bool x_1.w.mg, Value.bool x_1.w.dr, Value.string x_1.w.ky] : Bx } ∧
      true = true) ∧
      (some
      { ty := (36 : TypeId), cs := [Value.int IntKind.i64 (opK x.w.mg), Value.string x.w.ky, Value.string { data := #[] : ByteArray }, Value.int IntKind.i64 (0 : Int), Value.int IntKind.i64 (0 : Int), Value.int IntKind.i64 (0 : Int)] : Bx } =
      some
      { ty := (36 : TypeId), cs := [Value.int IntKind.i64 (opK x_1.w.mg), Value.string x_1.w.ky, Value.string { data := #[] : ByteArray }, Value.int IntKind.i64 (0 : Int), Value.int IntKind.i64 (0 : Int), Value.int IntKind.i64 (0 : Int)] : Bx } ∧
      true = true) ∧
      True) ∧
      [(60 : Nat) - a.i] = [(60 : Nat) - x_1.i])
      (ifB (x.x.nx == (8 : Int))
      (∃ (x_1 : WaY),
      (WaJ zs za x_1 ∧
      x.m = x_1.m ∧
      ((SV.own (2 : Nat) (0 : Nat) = SV.own (2 : Nat) (0 : Nat) ∧
      true = true) ∧
      (SV.val (Value.int IntKind.i64 (↑x.i : Int)) =
      SV.val (Value.int IntKind.i64 (↑x_1.i : Int)) ∧
      true = true) ∧
      (SV.own (24 : Nat) (0 : Nat) =
      SV.own (24 : Nat) (0 : Nat) ∧
      true = true) ∧
      (SV.val (Value.int IntKind.i64 (3 : Int)) =
      SV.val (Value.int IntKind.i64 x_1.e) ∧
      true = true) ∧
      (SV.own (19 : Nat) (0 : Nat) =
      SV.own (19 : Nat) (0 : Nat) ∧
      true = true) ∧
      (SV.val (Value.slice none (0 : Nat) (0 : Nat)) =
      SV.val
      (Value.slice x_1.al x_1.l.length x_1.ll) ∧
      true = true) ∧
      (SV.val (Value.slice za zs.length zc) =
      SV.val (Value.slice za zs.length zc) ∧
      true = true) ∧
      True) ∧
      (some
      { ty := (28 : TypeId), cs := [Value.int IntKind.i64 x.x.ix, Value.slice x.a.ap x.x.ps.length x.a.cp, Value.int IntKind.i64 x.x.nx, Value.int IntKind.i64 x.x.la, Value.int IntKind.i64 x.x.nu, Value.int IntKind.i64 x.x.fr, Value.int IntKind.i64 x.x.to, Value.string x.x.lo, Value.string x.x.hi, Value.int IntKind.i64 x.x.cl, Value.int IntKind.i64 x.x.sq, Value.slice x.a.am x.x.ms.length x.a.cm] : Bx } =
      some
      { ty := (28 : TypeId), cs := [Value.int IntKind.i64 x_1.x.ix, Value.slice x_1.a.ap x_1.x.ps.length x_1.a.cp, Value.int IntKind.i64 x_1.x.nx, Value.int IntKind.i64 x_1.x.la, Value.int IntKind.i64 x_1.x.nu, Value.int IntKind.i64 x_1.x.fr, Value.int IntKind.i64 x_1.x.to, Value.string x_1.x.lo, Value.string x_1.x.hi, Value.int IntKind.i64 x_1.x.cl, Value.int IntKind.i64 x_1.x.sq, Value.slice x_1.a.am x_1.x.ms.length x_1.a.cm] : Bx } ∧
      true = true) ∧
      (some
      { ty := (69 : TypeId), cs := [Value.bool x.w.mg, Value.bool x.w.dr, Value.string x.w.ky] : Bx } =
      some
      { ty := (69 : TypeId), cs := [Value.bool x_1.w.mg, Value.bool x_1.w.dr, Value.string x_1.w.ky] : Bx } ∧
      true = true) ∧
      (some
      { ty := (36 : TypeId), cs := [Value.int IntKind.i64 (opK x.w.mg), Value.string x.w.ky, Value.string { data := #[] : ByteArray }, Value.int IntKind.i64 (0 : Int), Value.int IntKind.i64 (0 : Int), Value.int IntKind.i64 (0 : Int)] : Bx } =
      some
      { ty := (36 : TypeId), cs := [Value.int IntKind.i64 (opK x_1.w.mg), Value.string x_1.w.ky, Value.string { data := #[] : ByteArray }, Value.int IntKind.i64 (0 : Int), Value.int IntKind.i64 (0 : Int), Value.int IntKind.i64 (0 : Int)] : Bx } ∧
      true = true) ∧
      True) ∧
      [(60 : Nat) - a.i] = [(60 : Nat) - x_1.i])
      (ifB (decide ((↑x.x.ps.length : Int) ≥ (7 : Int)))
      (∃ (x_1 : WaY),
      (WaJ zs za x_1 ∧
      x.m = x_1.m ∧
      ((SV.own (2 : Nat) (0 : Nat) = SV.own (2 : Nat) (0 : Nat) ∧
      true = true) ∧
      (SV.val (Value.int IntKind.i64 (↑x.i : Int)) =
      SV.val (Value.int IntKind.i64 (↑x_1.i : Int)) ∧
      true = true) ∧
      (SV.own (24 : Nat) (0 : Nat) =
      SV.own (24 : Nat) (0 : Nat) ∧
      true = true) ∧
      (SV.val (Value.int IntKind.i64 (3 : Int)) =
      SV.val (Value.int IntKind.i64 x_1.e) ∧
      true = true) ∧
      (SV.own (19 : Nat) (0 : Nat) =
      SV.own (19 : Nat) (0 : Nat) ∧
      true = true) ∧
      (SV.val (Value.slice none (0 : Nat) (0 : Nat)) =
      SV.val
      (Value.slice x_1.al x_1.l.length
      x_1.ll) ∧
      true = true) ∧
      (SV.val (Value.slice za zs.length zc) =
      SV.val (Value.slice za zs.length zc) ∧
      true = true) ∧
      True) ∧
      (some
      { ty := (28 : TypeId), cs := [Value.int IntKind.i64 x.x.ix, Value.slice x.a.ap x.x.ps.length x.a.cp, Value.int IntKind.i64 x.x.nx, Value.int IntKind.i64 x.x.la, Value.int IntKind.i64 x.x.nu, Value.int IntKind.i64 x.x.fr, Value.int IntKind.i64 x.x.to, Value.string x.x.lo, Value.string x.x.hi, Value.int IntKind.i64 x.x.cl, Value.int IntKind.i64 x.x.sq, Value.slice x.a.am x.x.ms.length x.a.cm] : Bx } =
      some
      { ty := (28 : TypeId), cs := [Value.int IntKind.i64 x_1.x.ix, Value.slice x_1.a.ap x_1.x.ps.length x_1.a.cp, Value.int IntKind.i64 x_1.x.nx, Value.int IntKind.i64 x_1.x.la, Value.int IntKind.i64 x_1.x.nu, Value.int IntKind.i64 x_1.x.fr, Value.int IntKind.i64 x_1.x.to, Value.string x_1.x.lo, Value.string x_1.x.hi, Value.int IntKind.i64 x_1.x.cl, Value.int IntKind.i64 x_1.x.sq, Value.slice x_1.a.am x_1.x.ms.length x_1.a.cm] : Bx } ∧
      true = true) ∧
      (some
      { ty := (69 : TypeId), cs := [Value.bool x.w.mg, Value.bool x.w.dr, Value.string x.w.ky] : Bx } =
      some
      { ty := (69 : TypeId), cs := [Value.bool x_1.w.mg, Value.bool x_1.w.dr, Value.string x_1.w.ky] : Bx } ∧
      true = true) ∧
      (some
      { ty := (36 : TypeId), cs := [Value.int IntKind.i64 (opK x.w.mg), Value.string x.w.ky, Value.string { data := #[] : ByteArray }, Value.int IntKind.i64 (0 : Int), Value.int IntKind.i64 (0 : Int), Value.int IntKind.i64 (0 : Int)] : Bx } =
      some
      { ty := (36 : TypeId), cs := [Value.int IntKind.i64 (opK x_1.w.mg), Value.string x_1.w.ky, Value.string { data := #[] : ByteArray }, Value.int IntKind.i64 (0 : Int), Value.int IntKind.i64 (0 : Int), Value.int IntKind.i64 (0 : Int)] : Bx } ∧
      true = true) ∧
      True) ∧
      [(60 : Nat) - a.i] = [(60 : Nat) - x_1.i])
      (∃ (S' : Nat → Prop),
      (∀ (b : Nat), S' b → x.m.uf b ∧ (N ≤ b ∨ False)) ∧
      ∀ (n : Nat),
      x.m.sz ≤ n →
      SpecW Try.prog (28 : Nat)
      [Value.slice x.a.ap x.x.ps.length x.a.cp,
      Value.string x.w.ky, Value.int IntKind.i64 x.x.nx]
      { π := x.m.π, sz := n, uf := x.m.uf : M } S'
      fun (v : Value) (m' : M) =>
      ∃ (a_5 : Option Addr),
      ∃ (n : Nat),
      ∃ (c : Nat),
      ∃ (n_10 : Int),
      v =
      Value.tuple
      #[Value.slice a_5 n c,
      Value.int IntKind.i64 n_10] ∧
      ∃ (x_1 : WaY),
      (WaJ zs za x_1 ∧
      m' = x_1.m ∧
      ((SV.own (2 : Nat) (0 : Nat) =
      SV.own (2 : Nat) (0 : Nat) ∧
      true = true) ∧
      (SV.val
      (Value.int IntKind.i64
      (↑x.i : Int)) =
      SV.val
      (Value.int IntKind.i64
      (↑x_1.i : Int)) ∧
      true = true) ∧
      (SV.own (24 : Nat) (0 : Nat) =
      SV.own (24 : Nat)
      (0 : Nat) ∧
      true = true) ∧
      (SV.val
      (Value.int IntKind.i64
      n_10) =
      SV.val
      (Value.int IntKind.i64
      x_1.e) ∧
      true = true) ∧
      (SV.own (19 : Nat) (0 : Nat) =
      SV.own (19 : Nat)
      (0 : Nat) ∧
      true = true) ∧
      (SV.val
      (Value.slice a_5 n
      c) =
      SV.val
      (Value.slice x_1.al
      x_1.l.length
      x_1.ll) ∧
      true = true) ∧
      (SV.val
      (Value.slice za
      zs.length zc) =
      SV.val
      (Value.slice za
      zs.length zc) ∧
      true = true) ∧
      True) ∧
      (some
      { ty := (28 : TypeId), cs := [Value.int IntKind.i64 x.x.ix, Value.slice x.a.ap x.x.ps.length x.a.cp, Value.int IntKind.i64 x.x.nx, Value.int IntKind.i64 x.x.la, Value.int IntKind.i64 x.x.nu, Value.int IntKind.i64 x.x.fr, Value.int IntKind.i64 x.x.to, Value.string x.x.lo, Value.string x.x.hi, Value.int IntKind.i64 x.x.cl, Value.int IntKind.i64 x.x.sq, Value.slice x.a.am x.x.ms.length x.a.cm] : Bx } =
      some
      { ty := (28 : TypeId), cs := [Value.int IntKind.i64 x_1.x.ix, Value.slice x_1.a.ap x_1.x.ps.length x_1.a.cp, Value.int IntKind.i64 x_1.x.nx, Value.int IntKind.i64 x_1.x.la, Value.int IntKind.i64 x_1.x.nu, Value.int IntKind.i64 x_1.x.fr, Value.int IntKind.i64 x_1.x.to, Value.string x_1.x.lo, Value.string x_1.x.hi, Value.int IntKind.i64 x_1.x.cl, Value.int IntKind.i64 x_1.x.sq, Value.slice x_1.a.am x_1.x.ms.length x_1.a.cm] : Bx } ∧
      true = true) ∧
      (some
      { ty := (69 : TypeId), cs := [Value.bool x.w.mg, Value.bool x.w.dr, Value.string x.w.ky] : Bx } =
      some
      { ty := (69 : TypeId), cs := [Value.bool x_1.w.mg, Value.bool x_1.w.dr, Value.string x_1.w.ky] : Bx } ∧
      true = true) ∧
      (some
      { ty := (36 : TypeId), cs := [Value.int IntKind.i64 (opK x.w.mg), Value.string x.w.ky, Value.string { data := #[] : ByteArray }, Value.int IntKind.i64 (0 : Int), Value.int IntKind.i64 (0 : Int), Value.int IntKind.i64 (0 : Int)] : Bx } =
      some
      { ty := (36 : TypeId), cs := [Value.int IntKind.i64 (opK x_1.w.mg), Value.string x_1.w.ky, Value.string { data := #[] : ByteArray }, Value.int IntKind.i64 (0 : Int), Value.int IntKind.i64 (0 : Int), Value.int IntKind.i64 (0 : Int)] : Bx } ∧
      true = true) ∧
      True) ∧
      [(60 : Nat) - a.i] =
      [(60 : Nat) - x_1.i])))) ∧
      ∀ (x : WaY),
      WaJ zs za x ∧ [(60 : Nat) - a.i] = [(60 : Nat) - x.i] →
      (8 : Int) ≠ (0 : Int) ∧
      (8 : Int) ≠ (0 : Int) ∧
      ∀ (n : Nat),
      x.m.sz ≤ n →
      Vc.Spec Try.prog (11 : Nat)
      [Value.agg
      #[Value.int IntKind.i64 x.x.ix, Value.slice x.a.ap x.x.ps.length x.a.cp,
      Value.int IntKind.i64 x.x.nx, Value.int IntKind.i64 x.x.la,
      Value.int IntKind.i64 x.x.nu, Value.int IntKind.i64 x.x.fr,
      Value.int IntKind.i64 x.x.to, Value.string x.x.lo,
      Value.string x.x.hi, Value.int IntKind.i64 x.x.cl,
      Value.int IntKind.i64 x.x.sq,
      Value.slice x.a.am x.x.ms.length x.a.cm],
      Value.agg
      #[Value.int IntKind.i64 (12 : Int),
      Value.int IntKind.i64
      (IntKind.i64.wrap ((1 : Int) + (↑x.i : Int).tmod (8 : Int))),
      Value.int IntKind.i64
      (IntKind.i64.wrap
      ((1 : Int) + IntKind.i64.wrap ((↑x.i : Int).tdiv (8 : Int)))),
      Value.int IntKind.i64 (0 : Int), Value.int IntKind.i64 (0 : Int),
      Value.int IntKind.i64 (0 : Int),
      Value.string { data := #[] : ByteArray },
      Value.int IntKind.i64 (0 : Int), Value.int IntKind.i64 (0 : Int),
      Value.int IntKind.i64 (0 : Int), Value.bool false,
      Value.int IntKind.i64 (opK x.w.mg), Value.string x.w.ky,
      Value.string { data := #[] : ByteArray },
      Value.int IntKind.i64 (0 : Int), Value.int IntKind.i64 (0 : Int),
      Value.int IntKind.i64 (0 : Int), Value.int IntKind.i64 (0 : Int),
      Value.int IntKind.i64 (0 : Int), Value.int IntKind.i64 (0 : Int),
      Value.string { data := #[] : ByteArray },
      Value.string { data := #[] : ByteArray },
      Value.int IntKind.i64 (0 : Int), Value.int IntKind.i64 (0 : Int),
      Value.slice none (0 : Nat) (0 : Nat)],
      Value.int IntKind.i64 (IntKind.i64.wrap (x.x.ix + (1 : Int)))]
      { π := x.m.π, sz := n, uf := x.m.uf : M } fun (v : Value) (m' : M) =>
      ∃ (n : Int),
      ∃ (a_6 : Option Addr),
      ∃ (n_10 : Nat),
      ∃ (c : Nat),
      ∃ (n_11 : Int),
      ∃ (n_12 : Int),
      ∃ (n_13 : Int),
      ∃ (n_14 : Int),
      ∃ (n_15 : Int),
      ∃ (s : ByteArray),
      ∃ (s_2 : ByteArray),
      ∃ (n_16 : Int),
      ∃ (n_17 : Int),
      ∃ (a_7 : Option Addr),
      ∃ (n_18 : Nat),
      ∃ (c_2 : Nat),
      ∃ (a_8 : Option Addr),
      ∃ (n_19 : Nat),
      ∃ (c_3 : Nat),
      ∃ (n_20 : Int),
      v =
      Value.tuple
      #[Value.agg
      #[Value.int IntKind.i64 n,
      Value.slice a_6 n_10 c,
      Value.int IntKind.i64
      n_11,
      Value.int IntKind.i64
      n_12,
      Value.int IntKind.i64
      n_13,
      Value.int IntKind.i64
      n_14,
      Value.int IntKind.i64
      n_15,
      Value.string s,
      Value.string s_2,
      Value.int IntKind.i64
      n_16,
      Value.int IntKind.i64
      n_17,
      Value.slice a_7 n_18
      c_2],
      Value.slice a_8 n_19 c_3,
      Value.int IntKind.i64
      n_20] ∧
      ifB (n_20 != (0 : Int))
      (Done
      (Value.bool false =
      Value.bool true))
      ((8 : Int) ≠ (0 : Int) ∧
      (8 : Int) ≠ (0 : Int) ∧
      ifB (x.e != (0 : Int))
      (true = true ∧
      ifB
      ((↑n_19 : Int) !=
      (1 : Int))
      (Done
      (Value.bool false =
      Value.bool true))
      (∃ (b : Nat),
      ∃ (off : Nat),
      a_8 =
      some
      { block := b, off := off : Addr } ∧
      ((0 : Int) ≤
      (0 :
      Int) ∧
      (0 : Int) <
      (↑n_19 :
      Int)) ∧
      ∃ (n_21 :
      Int),
      ∃ (n_22 :
      Int),
      ∃ (n_23 :
      Int),
      ∃ (n_24
      :
      Int),
      ∃
      (n_25
      :
      Int),
      ∃
      (n_26
      :
      Int),
      ∃
      (n_27
      :
      Int),
      CellsAt
      m'
      b
      (off +
      (0 :
      Nat))
      [Value.int
      IntKind.i64
      n_21,
      Value.int
      IntKind.i64
      n_22,
      Value.int
      IntKind.i64
      n_23,
      Value.int
      IntKind.i64
      n_24,
      Value.int
      IntKind.i64
      n_25,
      Value.int
      IntKind.i64
      n_26,
      Value.int
      IntKind.i64
      n_27] ∧
      ifB
      (!(n_21 ==
      (1 :
      Int) &&
      (n_22 ==
      IntKind.i64.wrap
      ((1 :
      Int) +
      (↑x.i :
      Int).tmod
      (8 :
      Int)) &&
      (n_23 ==
      IntKind.i64.wrap
      ((1 :
      Int) +
      IntKind.i64.wrap
      ((↑x.i :
      Int).tdiv
      (8 :
      Int))) &&
      (n_24 ==
      x.e &&
      (n_25 ==
      (0 :
      Int) &&
      (n_26 ==
      (0 :
      Int) &&
      (n_27 ==
      (0 :
      Int) &&
      true))) &&
      true)))))
      (Done
      (Value.bool
      false =
      Value.bool
      true))
      (ifB
      (n_13 !=
      (0 :
      Int))
      (Done
      (Value.bool
      false =
      Value.bool
      true))
      (ifB
      (n_11 !=
      x.x.nx)
      (Done
      (Value.bool
      false =
      Value.bool
      true))
      (∃
      (a'
      :
      WaX),
      (WaI
      zs
      za
      a'.i
      a'.x
      a'.a
      a'.m ∧
      m' =
      a'.m ∧
      ((SV.val
      (Value.int
      IntKind.i64
      (IntKind.i64.wrap
      ((↑x.i :
      Int) +
      (1 :
      Int)))) =
      SV.val
      (Value.int
      IntKind.i64
      (↑a'.i :
      Int)) ∧
      true =
      true) ∧
      (SV.val
      (Value.slice
      za
      zs.length
      zc) =
      SV.val
      (Value.slice
      za
      zs.length
      zc) ∧
      true =
      true) ∧
      (SV.own
      (2 :
      Nat)
      (0 :
      Nat) =
      SV.own
      (2 :
      Nat)
      (0 :
      Nat) ∧
      true =
      true) ∧
      True) ∧
      (some
      { ty := (28 : TypeId), cs := [Value.int IntKind.i64 n, Value.slice a_6 n_10 c, Value.int IntKind.i64 n_11, Value.int IntKind.i64 n_12, Value.int IntKind.i64 n_13, Value.int IntKind.i64 n_14, Value.int IntKind.i64 n_15, Value.string s, Value.string s_2, Value.int IntKind.i64 n_16, Value.int IntKind.i64 n_17, Value.slice a_7 n_18 c_2] : Bx } =
      some
      { ty := (28 : TypeId), cs := [Value.int IntKind.i64 a'.x.ix, Value.slice a'.a.ap a'.x.ps.length a'.a.cp, Value.int IntKind.i64 a'.x.nx, Value.int IntKind.i64 a'.x.la, Value.int IntKind.i64 a'.x.nu, Value.int IntKind.i64 a'.x.fr, Value.int IntKind.i64 a'.x.to, Value.string a'.x.lo, Value.string a'.x.hi, Value.int IntKind.i64 a'.x.cl, Value.int IntKind.i64 a'.x.sq, Value.slice a'.a.am a'.x.ms.length a'.a.cm] : Bx } ∧
      true =
      true) ∧
      True) ∧
      (60 :
      Nat) -
      a'.i <
      (60 :
      Nat) -
      a.i)))))
      (true = true ∧
      ifB
      (decide
      ((↑n_19 : Int) >
      (0 : Int)))
      (Done
      (Value.bool false =
      Value.bool true))
      (ifB
      (n_13 !=
      IntKind.i64.wrap
      (x.x.la +
      (1 : Int)))
      (Done
      (Value.bool
      false =
      Value.bool
      true))
      (∃ (n_21 : Int),
      QSpec Try.prog
      (24 : Nat)
      [Value.agg
      #[Value.int
      IntKind.i64
      n,
      Value.slice
      a_6
      n_10
      c,
      Value.int
      IntKind.i64
      n_11,
      Value.int
      IntKind.i64
      n_12,
      Value.int
      IntKind.i64
      n_13,
      Value.int
      IntKind.i64
      n_14,
      Value.int
      IntKind.i64
      n_15,
      Value.string
      s,
      Value.string
      s_2,
      Value.int
      IntKind.i64
      n_16,
      Value.int
      IntKind.i64
      n_17,
      Value.slice
      a_7
      n_18
      c_2]]
      m'
      (Value.int
      IntKind.i64
      n_21) ∧
      ∃ (n_22 : Int),
      QSpec Try.prog
      (17 : Nat)
      [Value.slice
      x.a.ap
      x.x.ps.length
      x.a.cp]
      m'
      (Value.int
      IntKind.i64
      n_22) ∧
      ifB
      (n_21 !=
      IntKind.i64.wrap
      (n_22 +
      (1 :
      Int)))
      (Done
      (Value.bool
      false =
      Value.bool
      true))
      (ifB
      x.w.dr
      (true =
      true ∧
      ∃
      (x_1
      :
      WaZ),
      (WaK
      zs
      za
      x_1 ∧
      m' =
      x_1.m ∧
      ((SV.own
      ((0 :
      Nat) +
      (1 :
      Nat) +
      (3 :
      Nat) +
      (2 :
      Nat) +
      (1 :
      Nat) +
      (8 :
      Nat) +
      (6 :
      Nat) +
      (5 :
      Nat) +
      (4 :
      Nat) +
      (10 :
      Nat) +
      (6 :
      Nat) +
      (1 :
      Nat) +
      (1 :
      Nat) +
      (46 :
      Nat) +
      (17 :
      Nat))
      (0 :
      Nat) =
      SV.own
      (111 :
      Nat)
      (0 :
      Nat) ∧
      true =
      true) ∧
      (SV.val
      (Value.int
      IntKind.i64
      (14 :
      Int)) =
      SV.val
      (Value.int
      IntKind.i64
      (if
      x_1.dr =
      true then
      (14 :
      Int)
      else
      (13 :
      Int))) ∧
      true =
      true) ∧
      (SV.own
      ((0 :
      Nat) +
      (1 :
      Nat) +
      (3 :
      Nat) +
      (2 :
      Nat) +
      (1 :
      Nat) +
      (8 :
      Nat) +
      (6 :
      Nat) +
      (5 :
      Nat) +
      (4 :
      Nat) +
      (10 :
      Nat) +
      (6 :
      Nat) +
      (1 :
      Nat) +
      (1 :
      Nat) +
      (46 :
      Nat) +
      (21 :
      Nat) +
      (2 :
      Nat) +
      (9 :
      Nat))
      (0 :
      Nat) =
      SV.own
      (126 :
      Nat)
      (0 :
      Nat) ∧
      true =
      true) ∧
      (SV.val
      (Value.slice
      x.a.ap
      x.x.ps.length
      x.a.cp) =
      SV.val
      (Value.slice
      x_1.al
      x_1.l.length
      x_1.ll) ∧
      true =
      true) ∧
      (SV.own
      (2 :
      Nat)
      (0 :
      Nat) =
      SV.own
      (2 :
      Nat)
      (0 :
      Nat) ∧
      true =
      true) ∧
      (SV.val
      (Value.int
      IntKind.i64
      (↑x.i :
      Int)) =
      SV.val
      (Value.int
      IntKind.i64
      (↑x_1.i :
      Int)) ∧
      true =
      true) ∧
      (SV.val
      (Value.slice
      za
      zs.length
      zc) =
      SV.val
      (Value.slice
      za
      zs.length
      zc) ∧
      true =
      true) ∧
      True) ∧
      (some
      { ty := (28 : TypeId), cs := [Value.int IntKind.i64 x.x.ix, Value.slice x.a.ap x.x.ps.length x.a.cp, Value.int IntKind.i64 x.x.nx, Value.int IntKind.i64 x.x.la, Value.int IntKind.i64 x.x.nu, Value.int IntKind.i64 x.x.fr, Value.int IntKind.i64 x.x.to, Value.string x.x.lo, Value.string x.x.hi, Value.int IntKind.i64 x.x.cl, Value.int IntKind.i64 x.x.sq, Value.slice x.a.am x.x.ms.length x.a.cm] : Bx } =
      some
      { ty := (28 : TypeId), cs := [Value.int IntKind.i64 x_1.x.ix, Value.slice x_1.a.ap x_1.x.ps.length x_1.a.cp, Value.int IntKind.i64 x_1.x.nx, Value.int IntKind.i64 x_1.x.la, Value.int IntKind.i64 x_1.x.nu, Value.int IntKind.i64 x_1.x.fr, Value.int IntKind.i64 x_1.x.to, Value.string x_1.x.lo, Value.string x_1.x.hi, Value.int IntKind.i64 x_1.x.cl, Value.int IntKind.i64 x_1.x.sq, Value.slice x_1.a.am x_1.x.ms.length x_1.a.cm] : Bx } ∧
      true =
      true) ∧
      (some
      { ty := (28 : Nat), cs := [Value.int IntKind.i64 n, Value.slice a_6 n_10 c, Value.int IntKind.i64 n_11, Value.int IntKind.i64 n_12, Value.int IntKind.i64 n_13, Value.int IntKind.i64 n_14, Value.int IntKind.i64 n_15, Value.string s, Value.string s_2, Value.int IntKind.i64 n_16, Value.int IntKind.i64 n_17, Value.slice a_7 n_18 c_2] : Bx } =
      some
      { ty := (28 : TypeId), cs := [Value.int IntKind.i64 x_1.y.ix, Value.slice x_1.b.ap x_1.y.ps.length x_1.b.cp, Value.int IntKind.i64 x_1.y.nx, Value.int IntKind.i64 x_1.y.la, Value.int IntKind.i64 x_1.y.nu, Value.int IntKind.i64 x_1.y.fr, Value.int IntKind.i64 x_1.y.to, Value.string x_1.y.lo, Value.string x_1.y.hi, Value.int IntKind.i64 x_1.y.cl, Value.int IntKind.i64 x_1.y.sq, Value.slice x_1.b.am x_1.y.ms.length x_1.b.cm] : Bx } ∧
      true =
      true) ∧
      (some
      { ty := (45 : Nat), cs := [Value.int IntKind.i64 (1 : Int), Value.int IntKind.i64 (IntKind.i64.wrap ((1 : Int) + (↑x.i : Int).tmod (8 : Int))), Value.int IntKind.i64 (IntKind.i64.wrap ((1 : Int) + IntKind.i64.wrap ((↑x.i : Int).tdiv (8 : Int)))), Value.int IntKind.i64 (190 : Int), Value.int IntKind.i64 (0 : Int), Value.int IntKind.i64 (0 : Int), Value.int IntKind.i64 (0 : Int)] : Bx } =
      some
      { ty := (45 : TypeId), cs := [Value.int IntKind.i64 (1 : Int), Value.int IntKind.i64 (clI x_1.i), Value.int IntKind.i64 (sqI x_1.i), Value.int IntKind.i64 (if x_1.dr = true then (190 : Int) else (0 : Int)), Value.int IntKind.i64 (0 : Int), Value.int IntKind.i64 (0 : Int), Value.int IntKind.i64 (0 : Int)] : Bx } ∧
      true =
      true) ∧
      True) ∧
      [(60 :
      Nat) -
      a.i] =
      [(60 :
      Nat) -
      x_1.i])
      (∃
      (x_1
      :
      WaZ),
      (WaK
      zs
      za
      x_1 ∧
      m' =
      x_1.m ∧
      ((SV.own
      ((0 :
      Nat) +
      (1 :
      Nat) +
      (3 :
      Nat) +
      (2 :
      Nat) +
      (1 :
      Nat) +
      (8 :
      Nat) +
      (6 :
      Nat) +
      (5 :
      Nat) +
      (4 :
      Nat) +
      (10 :
      Nat) +
      (6 :
      Nat) +
      (1 :
      Nat) +
      (1 :
      Nat) +
      (46 :
      Nat) +
      (17 :
      Nat))
      (0 :
      Nat) =
      SV.own
      (111 :
      Nat)
      (0 :
      Nat) ∧
      true =
      true) ∧
      (SV.val
      (Value.int
      IntKind.i64
      (13 :
      Int)) =
      SV.val
      (Value.int
      IntKind.i64
      (if
      x_1.dr =
      true then
      (14 :
      Int)
      else
      (13 :
      Int))) ∧
      true =
      true) ∧
      (SV.own
      ((0 :
      Nat) +
      (1 :
      Nat) +
      (3 :
      Nat) +
      (2 :
      Nat) +
      (1 :
      Nat) +
      (8 :
      Nat) +
      (6 :
      Nat) +
      (5 :
      Nat) +
      (4 :
      Nat) +
      (10 :
      Nat) +
      (6 :
      Nat) +
      (1 :
      Nat) +
      (1 :
      Nat) +
      (46 :
      Nat) +
      (21 :
      Nat) +
      (2 :
      Nat) +
      (9 :
      Nat))
      (0 :
      Nat) =
      SV.own
      (126 :
      Nat)
      (0 :
      Nat) ∧
      true =
      true) ∧
      (SV.val
      (Value.slice
      x.al
      x.l.length
      x.ll) =
      SV.val
      (Value.slice
      x_1.al
      x_1.l.length
      x_1.ll) ∧
      true =
      true) ∧
      (SV.own
      (2 :
      Nat)
      (0 :
      Nat) =
      SV.own
      (2 :
      Nat)
      (0 :
      Nat) ∧
      true =
      true) ∧
      (SV.val
      (Value.int
      IntKind.i64
      (↑x.i :
      Int)) =
      SV.val
      (Value.int
      IntKind.i64
      (↑x_1.i :
      Int)) ∧
      true =
      true) ∧
      (SV.val
      (Value.slice
      za
      zs.length
      zc) =
      SV.val
      (Value.slice
      za
      zs.length
      zc) ∧
      true =
      true) ∧
      True) ∧
      (some
      { ty := (28 : TypeId), cs := [Value.int IntKind.i64 x.x.ix, Value.slice x.a.ap x.x.ps.length x.a.cp, Value.int IntKind.i64 x.x.nx, Value.int IntKind.i64 x.x.la, Value.int IntKind.i64 x.x.nu, Value.int IntKind.i64 x.x.fr, Value.int IntKind.i64 x.x.to, Value.string x.x.lo, Value.string x.x.hi, Value.int IntKind.i64 x.x.cl, Value.int IntKind.i64 x.x.sq, Value.slice x.a.am x.x.ms.length x.a.cm] : Bx } =
      some
      { ty := (28 : TypeId), cs := [Value.int IntKind.i64 x_1.x.ix, Value.slice x_1.a.ap x_1.x.ps.length x_1.a.cp, Value.int IntKind.i64 x_1.x.nx, Value.int IntKind.i64 x_1.x.la, Value.int IntKind.i64 x_1.x.nu, Value.int IntKind.i64 x_1.x.fr, Value.int IntKind.i64 x_1.x.to, Value.string x_1.x.lo, Value.string x_1.x.hi, Value.int IntKind.i64 x_1.x.cl, Value.int IntKind.i64 x_1.x.sq, Value.slice x_1.a.am x_1.x.ms.length x_1.a.cm] : Bx } ∧
      true =
      true) ∧
      (some
      { ty := (28 : Nat), cs := [Value.int IntKind.i64 n, Value.slice a_6 n_10 c, Value.int IntKind.i64 n_11, Value.int IntKind.i64 n_12, Value.int IntKind.i64 n_13, Value.int IntKind.i64 n_14, Value.int IntKind.i64 n_15, Value.string s, Value.string s_2, Value.int IntKind.i64 n_16, Value.int IntKind.i64 n_17, Value.slice a_7 n_18 c_2] : Bx } =
      some
      { ty := (28 : TypeId), cs := [Value.int IntKind.i64 x_1.y.ix, Value.slice x_1.b.ap x_1.y.ps.length x_1.b.cp, Value.int IntKind.i64 x_1.y.nx, Value.int IntKind.i64 x_1.y.la, Value.int IntKind.i64 x_1.y.nu, Value.int IntKind.i64 x_1.y.fr, Value.int IntKind.i64 x_1.y.to, Value.string x_1.y.lo, Value.string x_1.y.hi, Value.int IntKind.i64 x_1.y.cl, Value.int IntKind.i64 x_1.y.sq, Value.slice x_1.b.am x_1.y.ms.length x_1.b.cm] : Bx } ∧
      true =
      true) ∧
      (some
      { ty := (45 : Nat), cs := [Value.int IntKind.i64 (1 : Int), Value.int IntKind.i64 (IntKind.i64.wrap ((1 : Int) + (↑x.i : Int).tmod (8 : Int))), Value.int IntKind.i64 (IntKind.i64.wrap ((1 : Int) + IntKind.i64.wrap ((↑x.i : Int).tdiv (8 : Int)))), Value.int IntKind.i64 x.e, Value.int IntKind.i64 (0 : Int), Value.int IntKind.i64 (0 : Int), Value.int IntKind.i64 (0 : Int)] : Bx } =
      some
      { ty := (45 : TypeId), cs := [Value.int IntKind.i64 (1 : Int), Value.int IntKind.i64 (clI x_1.i), Value.int IntKind.i64 (sqI x_1.i), Value.int IntKind.i64 (if x_1.dr = true then (190 : Int) else (0 : Int)), Value.int IntKind.i64 (0 : Int), Value.int IntKind.i64 (0 : Int), Value.int IntKind.i64 (0 : Int)] : Bx } ∧
      true =
      true) ∧
      True) ∧
      [(60 :
      Nat) -
      a.i] =
      [(60 :
      Nat) -
      x_1.i]) ∧
      ∀
      (x :
      WaZ),
      WaK zs
      za
      x ∧
      [(60 :
      Nat) -
      a.i] =
      [(60 :
      Nat) -
      x.i] →
      ∀
      (n :
      Nat),
      x.m.sz ≤
      n →
      Vc.Spec
      Try.prog
      (11 :
      Nat)
      [Value.agg
      #[Value.int
      IntKind.i64
      x.y.ix,
      Value.slice
      x.b.ap
      x.y.ps.length
      x.b.cp,
      Value.int
      IntKind.i64
      x.y.nx,
      Value.int
      IntKind.i64
      x.y.la,
      Value.int
      IntKind.i64
      x.y.nu,
      Value.int
      IntKind.i64
      x.y.fr,
      Value.int
      IntKind.i64
      x.y.to,
      Value.string
      x.y.lo,
      Value.string
      x.y.hi,
      Value.int
      IntKind.i64
      x.y.cl,
      Value.int
      IntKind.i64
      x.y.sq,
      Value.slice
      x.b.am
      x.y.ms.length
      x.b.cm],
      Value.agg
      #[Value.int
      IntKind.i64
      (if
      x.dr =
      true then
      (14 :
      Int)
      else
      (13 :
      Int)),
      Value.int
      IntKind.i64
      (0 :
      Int),
      Value.int
      IntKind.i64
      (0 :
      Int),
      Value.int
      IntKind.i64
      (0 :
      Int),
      Value.int
      IntKind.i64
      (0 :
      Int),
      Value.int
      IntKind.i64
      (0 :
      Int),
      Value.string
      { data := #[] : ByteArray },
      Value.int
      IntKind.i64
      (0 :
      Int),
      Value.int
      IntKind.i64
      (0 :
      Int),
      Value.int
      IntKind.i64
      (0 :
      Int),
      Value.bool
      false,
      Value.int
      IntKind.i64
      (0 :
      Int),
      Value.string
      { data := #[] : ByteArray },
      Value.string
      { data := #[] : ByteArray },
      Value.int
      IntKind.i64
      (0 :
      Int),
      Value.int
      IntKind.i64
      (0 :
      Int),
      Value.int
      IntKind.i64
      (0 :
      Int),
      Value.int
      IntKind.i64
      x.y.nu,
      Value.int
      IntKind.i64
      x.y.fr,
      Value.int
      IntKind.i64
      x.y.to,
      Value.string
      x.y.lo,
      Value.string
      x.y.hi,
      Value.int
      IntKind.i64
      x.y.cl,
      Value.int
      IntKind.i64
      x.y.sq,
      Value.slice
      none
      (0 :
      Nat)
      (0 :
      Nat)],
      Value.int
      IntKind.i64
      (IntKind.i64.wrap
      (x.y.ix +
      (1 :
      Int)))]
      { π := x.m.π, sz := n, uf := x.m.uf : M }
      fun
      (v :
      Value)
      (m' :
      M) =>
      ∃
      (n
      :
      Int),
      ∃
      (a_11
      :
      Option
      Addr),
      ∃
      (n_23
      :
      Nat),
      ∃
      (c
      :
      Nat),
      ∃
      (n_24
      :
      Int),
      ∃
      (n_25
      :
      Int),
      ∃
      (n_26
      :
      Int),
      ∃
      (n_27
      :
      Int),
      ∃
      (n_28
      :
      Int),
      ∃
      (s
      :
      ByteArray),
      ∃
      (s_3
      :
      ByteArray),
      ∃
      (n_29
      :
      Int),
      ∃
      (n_30
      :
      Int),
      ∃
      (a_12
      :
      Option
      Addr),
      ∃
      (n_31
      :
      Nat),
      ∃
      (c_4
      :
      Nat),
      ∃
      (a_13
      :
      Option
      Addr),
      ∃
      (n_32
      :
      Nat),
      ∃
      (c_5
      :
      Nat),
      ∃
      (n_33
      :
      Int),
      v =
      Value.tuple
      #[Value.agg
      #[Value.int
      IntKind.i64
      n,
      Value.slice
      a_11
      n_23
      c,
      Value.int
      IntKind.i64
      n_24,
      Value.int
      IntKind.i64
      n_25,
      Value.int
      IntKind.i64
      n_26,
      Value.int
      IntKind.i64
      n_27,
      Value.int
      IntKind.i64
      n_28,
      Value.string
      s,
      Value.string
      s_3,
      Value.int
      IntKind.i64
      n_29,
      Value.int
      IntKind.i64
      n_30,
      Value.slice
      a_12
      n_31
      c_4],
      Value.slice
      a_13
      n_32
      c_5,
      Value.int
      IntKind.i64
      n_33] ∧
      true =
      true ∧
      ifB
      (n_33 !=
      (0 :
      Int))
      (Done
      (Value.bool
      false =
      Value.bool
      true))
      (ifB
      ((↑n_32 :
      Int) !=
      (1 :
      Int))
      (Done
      (Value.bool
      false =
      Value.bool
      true))
      (∃
      (b
      :
      Nat),
      ∃
      (off
      :
      Nat),
      a_13 =
      some
      { block := b, off := off : Addr } ∧
      ((0 :
      Int) ≤
      (0 :
      Int) ∧
      (0 :
      Int) <
      (↑n_32 :
      Int)) ∧
      ∃
      (n_34
      :
      Int),
      ∃
      (n_35
      :
      Int),
      ∃
      (n_36
      :
      Int),
      ∃
      (n_37
      :
      Int),
      ∃
      (n_38
      :
      Int),
      ∃
      (n_39
      :
      Int),
      ∃
      (n_40
      :
      Int),
      CellsAt
      m'
      b
      (off +
      (0 :
      Nat))
      [Value.int
      IntKind.i64
      n_34,
      Value.int
      IntKind.i64
      n_35,
      Value.int
      IntKind.i64
      n_36,
      Value.int
      IntKind.i64
      n_37,
      Value.int
      IntKind.i64
      n_38,
      Value.int
      IntKind.i64
      n_39,
      Value.int
      IntKind.i64
      n_40] ∧
      ifB
      (!(n_34 ==
      (1 :
      Int) &&
      (n_35 ==
      clI
      x.i &&
      (n_36 ==
      sqI
      x.i &&
      ((n_37 ==
      if
      x.dr =
      true then
      (190 :
      Int)
      else
      (0 :
      Int)) &&
      (n_38 ==
      (0 :
      Int) &&
      (n_39 ==
      (0 :
      Int) &&
      (n_40 ==
      (0 :
      Int) &&
      true))) &&
      true)))))
      (Done
      (Value.bool
      false =
      Value.bool
      true))
      (ifB
      (n_26 !=
      (0 :
      Int))
      (Done
      (Value.bool
      false =
      Value.bool
      true))
      (ifB
      ((↑n_23 :
      Int) !=
      (↑x.l.length :
      Int))
      (Done
      (Value.bool
      false =
      Value.bool
      true))
      ((∃
      (a_14
      :
      WaV),
      (WaL
      zs
      za
      a_14 ∧
      m' =
      a_14.m ∧
      ((SV.val
      (Value.int
      IntKind.i64
      (0 :
      Int)) =
      SV.val
      (Value.int
      IntKind.i64
      (↑a_14.k :
      Int)) ∧
      true =
      true) ∧
      (SV.val
      (Value.slice
      x.al
      x.l.length
      x.ll) =
      SV.val
      (Value.slice
      a_14.al
      a_14.y.ps.length
      a_14.ll) ∧
      true =
      true) ∧
      (SV.own
      ((0 :
      Nat) +
      (1 :
      Nat) +
      (3 :
      Nat) +
      (2 :
      Nat) +
      (1 :
      Nat) +
      (8 :
      Nat) +
      (6 :
      Nat) +
      (5 :
      Nat) +
      (4 :
      Nat) +
      (10 :
      Nat) +
      (6 :
      Nat) +
      (1 :
      Nat) +
      (1 :
      Nat) +
      (46 :
      Nat) +
      (21 :
      Nat) +
      (2 :
      Nat) +
      (11 :
      Nat) +
      (2 :
      Nat) +
      (21 :
      Nat) +
      (1 :
      Nat) +
      (9 :
      Nat) +
      (13 :
      Nat))
      (0 :
      Nat) =
      SV.own
      (174 :
      Nat)
      (0 :
      Nat) ∧
      true =
      true) ∧
      (SV.own
      (2 :
      Nat)
      (0 :
      Nat) =
      SV.own
      (2 :
      Nat)
      (0 :
      Nat) ∧
      true =
      true) ∧
      (SV.val
      (Value.int
      IntKind.i64
      (↑x.i :
      Int)) =
      SV.val
      (Value.int
      IntKind.i64
      (↑a_14.i :
      Int)) ∧
      true =
      true) ∧
      (SV.val
      (Value.slice
      za
      zs.length
      zc) =
      SV.val
      (Value.slice
      za
      zs.length
      zc) ∧
      true =
      true) ∧
      True) ∧
      (some
      { ty := (28 : TypeId), cs := [Value.int IntKind.i64 x.x.ix, Value.slice x.a.ap x.x.ps.length x.a.cp, Value.int IntKind.i64 x.x.nx, Value.int IntKind.i64 x.x.la, Value.int IntKind.i64 x.x.nu, Value.int IntKind.i64 x.x.fr, Value.int IntKind.i64 x.x.to, Value.string x.x.lo, Value.string x.x.hi, Value.int IntKind.i64 x.x.cl, Value.int IntKind.i64 x.x.sq, Value.slice x.a.am x.x.ms.length x.a.cm] : Bx } =
      some
      { ty := (28 : TypeId), cs := [Value.int IntKind.i64 a_14.x.ix, Value.slice a_14.a.ap a_14.x.ps.length a_14.a.cp, Value.int IntKind.i64 a_14.x.nx, Value.int IntKind.i64 a_14.x.la, Value.int IntKind.i64 a_14.x.nu, Value.int IntKind.i64 a_14.x.fr, Value.int IntKind.i64 a_14.x.to, Value.string a_14.x.lo, Value.string a_14.x.hi, Value.int IntKind.i64 a_14.x.cl, Value.int IntKind.i64 a_14.x.sq, Value.slice a_14.a.am a_14.x.ms.length a_14.a.cm] : Bx } ∧
      true =
      true) ∧
      (some
      { ty := (28 : Nat), cs := [Value.int IntKind.i64 n, Value.slice a_11 n_23 c, Value.int IntKind.i64 n_24, Value.int IntKind.i64 n_25, Value.int IntKind.i64 n_26, Value.int IntKind.i64 n_27, Value.int IntKind.i64 n_28, Value.string s, Value.string s_3, Value.int IntKind.i64 n_29, Value.int IntKind.i64 n_30, Value.slice a_12 n_31 c_4] : Bx } =
      some
      { ty := (28 : TypeId), cs := [Value.int IntKind.i64 a_14.y.ix, Value.slice a_14.b.ap a_14.y.ps.length a_14.b.cp, Value.int IntKind.i64 a_14.y.nx, Value.int IntKind.i64 a_14.y.la, Value.int IntKind.i64 a_14.y.nu, Value.int IntKind.i64 a_14.y.fr, Value.int IntKind.i64 a_14.y.to, Value.string a_14.y.lo, Value.string a_14.y.hi, Value.int IntKind.i64 a_14.y.cl, Value.int IntKind.i64 a_14.y.sq, Value.slice a_14.b.am a_14.y.ms.length a_14.b.cm] : Bx } ∧
      true =
      true) ∧
      True) ∧
      [(60 :
      Nat) -
      a.i] =
      [(60 :
      Nat) -
      a_14.i]) ∧
      ∀
      (a_14 :
      WaV),
      WaL
      zs
      za
      a_14 ∧
      [(60 :
      Nat) -
      a.i] =
      [(60 :
      Nat) -
      a_14.i] →
      ifB
      (decide
      ((↑a_14.k :
      Int) <
      (↑a_14.y.ps.length :
      Int)))
      (true =
      true ∧
      ∃
      (b
      :
      Nat),
      ∃
      (off
      :
      Nat),
      a_14.b.ap =
      some
      { block := b, off := off : Addr } ∧
      ((0 :
      Int) ≤
      (↑a_14.k :
      Int) ∧
      (↑a_14.k :
      Int) <
      (↑a_14.y.ps.length :
      Int)) ∧
      ∃
      (n
      :
      Int),
      ∃
      (s
      :
      ByteArray),
      ∃
      (n_41
      :
      Int),
      CellsAt
      a_14.m
      b
      (off +
      (↑a_14.k :
      Int).toNat *
      (3 :
      Nat))
      [Value.int
      IntKind.i64
      n,
      Value.string
      s,
      Value.int
      IntKind.i64
      n_41] ∧
      ∃
      (b
      :
      Nat),
      ∃
      (off
      :
      Nat),
      a_14.al =
      some
      { block := b, off := off : Addr } ∧
      ((0 :
      Int) ≤
      (↑a_14.k :
      Int) ∧
      (↑a_14.k :
      Int) <
      (↑a_14.y.ps.length :
      Int)) ∧
      ∃
      (n_42
      :
      Int),
      ∃
      (s_4
      :
      ByteArray),
      ∃
      (n_43
      :
      Int),
      CellsAt
      a_14.m
      b
      (off +
      (↑a_14.k :
      Int).toNat *
      (3 :
      Nat))
      [Value.int
      IntKind.i64
      n_42,
      Value.string
      s_4,
      Value.int
      IntKind.i64
      n_43] ∧
      ifB
      (!(n ==
      n_42 &&
      (s.toList ==
      s_4.toList &&
      (n_41 ==
      n_43 &&
      true))))
      (Done
      (Value.bool
      false =
      Value.bool
      true))
      (∃
      (a'
      :
      WaV),
      ((WaL
      zs
      za
      a' ∧
      a_14.m =
      a'.m ∧
      ((SV.val
      (Value.int
      IntKind.i64
      (IntKind.i64.wrap
      ((↑a_14.k :
      Int) +
      (1 :
      Int)))) =
      SV.val
      (Value.int
      IntKind.i64
      (↑a'.k :
      Int)) ∧
      true =
      true) ∧
      (SV.val
      (Value.slice
      a_14.al
      a_14.y.ps.length
      a_14.ll) =
      SV.val
      (Value.slice
      a'.al
      a'.y.ps.length
      a'.ll) ∧
      true =
      true) ∧
      (SV.own
      (174 :
      Nat)
      (0 :
      Nat) =
      SV.own
      (174 :
      Nat)
      (0 :
      Nat) ∧
      true =
      true) ∧
      (SV.own
      (2 :
      Nat)
      (0 :
      Nat) =
      SV.own
      (2 :
      Nat)
      (0 :
      Nat) ∧
      true =
      true) ∧
      (SV.val
      (Value.int
      IntKind.i64
      (↑a_14.i :
      Int)) =
      SV.val
      (Value.int
      IntKind.i64
      (↑a'.i :
      Int)) ∧
      true =
      true) ∧
      (SV.val
      (Value.slice
      za
      zs.length
      zc) =
      SV.val
      (Value.slice
      za
      zs.length
      zc) ∧
      true =
      true) ∧
      True) ∧
      (some
      { ty := (28 : TypeId), cs := [Value.int IntKind.i64 a_14.x.ix, Value.slice a_14.a.ap a_14.x.ps.length a_14.a.cp, Value.int IntKind.i64 a_14.x.nx, Value.int IntKind.i64 a_14.x.la, Value.int IntKind.i64 a_14.x.nu, Value.int IntKind.i64 a_14.x.fr, Value.int IntKind.i64 a_14.x.to, Value.string a_14.x.lo, Value.string a_14.x.hi, Value.int IntKind.i64 a_14.x.cl, Value.int IntKind.i64 a_14.x.sq, Value.slice a_14.a.am a_14.x.ms.length a_14.a.cm] : Bx } =
      some
      { ty := (28 : TypeId), cs := [Value.int IntKind.i64 a'.x.ix, Value.slice a'.a.ap a'.x.ps.length a'.a.cp, Value.int IntKind.i64 a'.x.nx, Value.int IntKind.i64 a'.x.la, Value.int IntKind.i64 a'.x.nu, Value.int IntKind.i64 a'.x.fr, Value.int IntKind.i64 a'.x.to, Value.string a'.x.lo, Value.string a'.x.hi, Value.int IntKind.i64 a'.x.cl, Value.int IntKind.i64 a'.x.sq, Value.slice a'.a.am a'.x.ms.length a'.a.cm] : Bx } ∧
      true =
      true) ∧
      (some
      { ty := (28 : TypeId), cs := [Value.int IntKind.i64 a_14.y.ix, Value.slice a_14.b.ap a_14.y.ps.length a_14.b.cp, Value.int IntKind.i64 a_14.y.nx, Value.int IntKind.i64 a_14.y.la, Value.int IntKind.i64 a_14.y.nu, Value.int IntKind.i64 a_14.y.fr, Value.int IntKind.i64 a_14.y.to, Value.string a_14.y.lo, Value.string a_14.y.hi, Value.int IntKind.i64 a_14.y.cl, Value.int IntKind.i64 a_14.y.sq, Value.slice a_14.b.am a_14.y.ms.length a_14.b.cm] : Bx } =
      some
      { ty := (28 : TypeId), cs := [Value.int IntKind.i64 a'.y.ix, Value.slice a'.b.ap a'.y.ps.length a'.b.cp, Value.int IntKind.i64 a'.y.nx, Value.int IntKind.i64 a'.y.la, Value.int IntKind.i64 a'.y.nu, Value.int IntKind.i64 a'.y.fr, Value.int IntKind.i64 a'.y.to, Value.string a'.y.lo, Value.string a'.y.hi, Value.int IntKind.i64 a'.y.cl, Value.int IntKind.i64 a'.y.sq, Value.slice a'.b.am a'.y.ms.length a'.b.cm] : Bx } ∧
      true =
      true) ∧
      True) ∧
      [(60 :
      Nat) -
      a.i] =
      [(60 :
      Nat) -
      a'.i]) ∧
      a'.y.ps.length -
      a'.k <
      a_14.y.ps.length -
      a_14.k))
      (∃
      (a'
      :
      WaX),
      (WaI
      zs
      za
      a'.i
      a'.x
      a'.a
      a'.m ∧
      a_14.m =
      a'.m ∧
      ((SV.val
      (Value.int
      IntKind.i64
      (IntKind.i64.wrap
      ((↑a_14.i :
      Int) +
      (1 :
      Int)))) =
      SV.val
      (Value.int
      IntKind.i64
      (↑a'.i :
      Int)) ∧
      true =
      true) ∧
      (SV.val
      (Value.slice
      za
      zs.length
      zc) =
      SV.val
      (Value.slice
      za
      zs.length
      zc) ∧
      true =
      true) ∧
      (SV.own
      (2 :
      Nat)
      (0 :
      Nat) =
      SV.own
      (2 :
      Nat)
      (0 :
      Nat) ∧
      true =
      true) ∧
      True) ∧
      (some
      { ty := (28 : TypeId), cs := [Value.int IntKind.i64 a_14.y.ix, Value.slice a_14.b.ap a_14.y.ps.length a_14.b.cp, Value.int IntKind.i64 a_14.y.nx, Value.int IntKind.i64 a_14.y.la, Value.int IntKind.i64 a_14.y.nu, Value.int IntKind.i64 a_14.y.fr, Value.int IntKind.i64 a_14.y.to, Value.string a_14.y.lo, Value.string a_14.y.hi, Value.int IntKind.i64 a_14.y.cl, Value.int IntKind.i64 a_14.y.sq, Value.slice a_14.b.am a_14.y.ms.length a_14.b.cm] : Bx } =
      some
      { ty := (28 : TypeId), cs := [Value.int IntKind.i64 a'.x.ix, Value.slice a'.a.ap a'.x.ps.length a'.a.cp, Value.int IntKind.i64 a'.x.nx, Value.int IntKind.i64 a'.x.la, Value.int IntKind.i64 a'.x.nu, Value.int IntKind.i64 a'.x.fr, Value.int IntKind.i64 a'.x.to, Value.string a'.x.lo, Value.string a'.x.hi, Value.int IntKind.i64 a'.x.cl, Value.int IntKind.i64 a'.x.sq, Value.slice a'.a.am a'.x.ms.length a'.a.cm] : Bx } ∧
      true =
      true) ∧
      True) ∧
      (60 :
      Nat) -
      a'.i <
      (60 :
      Nat) -
      a.i))))))))))))))
      (Done (Value.bool true = Value.bool true)))
      (Done (Value.bool true = Value.bool true)))) (by kernel_rfl) ?_
  refine ⟨rfl, fun n1 g1 => (new_s _).mono fun v m1 ag1 ⟨a1, e1, r1⟩ => ⟨_, _, _, _, _, _, _, _, _, _, _, _, _, _, _, _, e1, _, pawake_q _, ifB_false ⟨?_, ?_⟩⟩⟩
  · exact ⟨⟨0, newC, a1, m1⟩, ⟨Nat.zero_le _, Nat.zero_le _, new_ric, rfl, fun c m h => by simp [newC, ofM] at h, by simp [newC, epochL]; decide, by simp [newC], by simp [newC], r1, ((hz.sz hN).sz g1).agree ag1⟩, rfl, by simp⟩
  rintro ⟨i, x, a, mx⟩ W
  simp only at W ⊢
  refine ifB_intro (fun g1 => ifB_intro (fun g2 => ?_) (fun _ => ⟨trivial⟩)) (fun _ => ⟨trivial⟩)
  have hi : i < zs.length := by simpa using g1
  have h60 : i < 60 := by simp at g2; omega
  have wi : IntKind.i64.wrap ((i : Int) + 1) = ((i + 1 : Nat) : Int) := by simp [IntKind.wrap_i64]; omega
  obtain ⟨bz, oz, ez, hc⟩ := W.rz.cells (by rw [ws_len]; omega)
  refine ⟨bz, oz, ez, by omega, _, _, _, by simpa using ws_at hc hi, ?_⟩
  generalize zs[i] = w
  refine ⟨ifB_intro (fun g => ⟨⟨i, x, a, mx, w⟩, ⟨⟨W, hi, h60⟩, rfl, by simp [opK, g]⟩, rfl⟩) (fun g => ⟨⟨i, x, a, mx, w⟩, ⟨⟨W, hi, h60⟩, rfl, by simp [opK, g]⟩, rfl⟩), ?_⟩
  clear W hc ez w
  rintro ⟨i', x, a, mx, w⟩ ⟨⟨W, hi', h60'⟩, hctx⟩
  simp only at W hi' h60' hctx ⊢
  obtain rfl : i = i' := by have : 60 - i = 60 - i' := by simpa using hctx
                            omega
  refine ifB_intro (fun _ => ⟨⟨i + 1, x, a, mx⟩, ⟨W.up hi h60, rfl, by simp [wi]⟩, by simp only; omega⟩) (fun k1 => ifB_intro (fun _ => ⟨⟨i + 1, x, a, mx⟩, ⟨W.up hi h60, rfl, by simp [wi]⟩, by simp only; omega⟩) (fun k2 => ?_))
  have hk : keyB w.ky = true := by simp at k1 k2; simp [keyB]; omega
  have hl9 : x.ps.length ≤ 9223372036854775807 := (by have := right_len W.r.ps; omega)
  have hl8 := right_len W.r.ps
  have hf : fnd x.ps w.ky < x.ps.length := findL_len w.ky (right_pos W.r.ps)
  have hf' : findL w.ky x.ps 0 0 < x.ps.length := hf
  refine ⟨_, rg_find x.ps a.ap a.cp w.ky hl9 _ W.ra.ps, ifB_intro (fun g => ?_) (fun g => ⟨trivial, ?_⟩), ?_⟩
  · have E1 : wantE x w.mg w.ky = ((mergeL x.ps (fnd x.ps w.ky)).1, (mergeL x.ps (fnd x.ps w.ky)).2) := by rw [g]; rfl
    refine ⟨_, noS, fun n hn => (rg_merge x.ps a.ap a.cp (fnd x.ps w.ky) ⟨by omega, by omega⟩ hl9 _ (W.ra.ps.sz hn)).monoW fun v m' ag ⟨al, ll, hv, row⟩ => ⟨_, _, _, _, hv, ⟨⟨i, x, a, m', w, _, al, ll, (mergeL x.ps (fnd x.ps w.ky)).2⟩, ⟨⟨W.mem hn ag, hi, h60, hk, E1, row⟩, rfl, by simp⟩, rfl⟩⟩⟩
  · obtain ⟨bp, op, ep, hp⟩ := W.ra.ps.cells (by rw [pl_len]; omega)
    have f2 : CellsAt mx bp (op + findL w.ky x.ps 0 0 * 3 + 1) [.string (plAt x.ps (fnd x.ps w.ky)).fr] := by
      have := pl_frc hp hf'
      rw [← plAt_at hf'] at this; exact this
    have E2 : (plAt x.ps (fnd x.ps w.ky)).fr = w.ky → wantE x w.mg w.ky = ([], 171) := fun q => by
      rw [g]; unfold wantE; rw [if_neg (by simp), if_pos q]
    have E3 : (plAt x.ps (fnd x.ps w.ky)).fr ≠ w.ky → (x.nx = 8 ∨ x.ps.length ≥ 7) → wantE x w.mg w.ky = ([], 3) := fun q q2 => by
      rw [g]; unfold wantE; rw [if_neg (by simp), if_neg q, if_pos q2]
    have E4 : (plAt x.ps (fnd x.ps w.ky)).fr ≠ w.ky → ¬ (x.nx = 8 ∨ x.ps.length ≥ 7) → wantE x w.mg w.ky = ((splitL x.ps w.ky x.nx).1, (splitL x.ps w.ky x.nx).2) := fun q q2 => by
      rw [g]; unfold wantE; rw [if_neg (by simp), if_neg q, if_neg q2]
    refine ⟨bp, op, ep, ⟨by omega, by omega⟩, _, f2, ifB_intro (fun q => ⟨⟨i, x, a, mx, w, [], none, 0, 171⟩, ⟨⟨W, hi, h60, hk, E2 (toList_inj.1 (by simpa using q)), .nil _⟩, rfl, by simp⟩, rfl⟩) (fun q => ?_)⟩
    have q : (plAt x.ps (fnd x.ps w.ky)).fr ≠ w.ky := fun e => by rw [e] at q; simp at q
    refine ifB_intro (fun q2 => ⟨⟨i, x, a, mx, w, [], none, 0, 3⟩, ⟨⟨W, hi, h60, hk, E3 q (.inl (by simpa using q2)), .nil _⟩, rfl, by simp⟩, rfl⟩) (fun q2 => ifB_intro (fun q3 => ⟨⟨i, x, a, mx, w, [], none, 0, 3⟩, ⟨⟨W, hi, h60, hk, E3 q (.inr (by simp at q3; omega)), .nil _⟩, rfl, by simp⟩, rfl⟩) (fun q3 => ?_))
    have q4 : ¬ (x.nx = 8 ∨ x.ps.length ≥ 7) := by simp at q2 q3; omega
    exact ⟨_, noS, fun n hn => (rg_split x.ps a.ap a.cp w.ky x.nx hl9 _ (W.ra.ps.sz hn)).monoW fun v m' ag ⟨al, ll, hv, row⟩ => ⟨_, _, _, _, hv, ⟨⟨i, x, a, m', w, _, al, ll, (splitL x.ps w.ky x.nx).2⟩, ⟨⟨W.mem hn ag, hi, h60, hk, E4 q q4, row⟩, rfl, by simp⟩, rfl⟩⟩⟩
  clear hk hl9 hl8 hf hf' k1 k2 W
  rintro ⟨i', x, a, mx, w, l, al, ll, e⟩ ⟨⟨W, hi', h60', hk, he, row⟩, hctx⟩
  simp only at W hi' h60' hk he row hctx ⊢
  obtain rfl : i = i' := by have : 60 - i = 60 - i' := by simpa using hctx
                            omega
  have hl9 : x.ps.length ≤ 9223372036854775807 := by have := right_len W.r.ps; omega
  have hm9 : x.ms.length ≤ 9223372036854775807 := by have := tab8 W.r.ms; omega
  have hix0 := W.r.ix0
  have hix1 := W.ix
  have hla0 := W.r.la0
  have hla1 := W.la
  have hep := W.ep
  have hep0 : 0 ≤ epochL x.ps := epoch_nn x.ps 0
  rw [cl_wrap h60, sq_wrap h60, show IntKind.i64.wrap (x.ix + 1) = x.ix + 1 by simp [IntKind.wrap_i64]; omega, show IntKind.i64.wrap (x.la + 1) = x.la + 1 by simp [IntKind.wrap_i64]; omega]
  obtain ⟨L1, L2, L3⟩ := wish_law W.r W.n0 W.mi (cs_at i) (cs_arg h60) w.mg hk (by omega) (by omega) (ix := x.ix + 1) (by omega) (by omega)
  obtain ⟨A1, A2, A3⟩ := apply_ric W.r (wishC (clI i) (sqI i) w.ky (opK w.mg)) (ix := x.ix + 1) (by omega) (by omega)
  rw [he] at L2 L3
  simp only at L2 L3
  refine ⟨by decide, by decide, fun n1 g1 => (apply_s x a (wishC (clI i) (sqI i) w.ky (opK w.mg)) none 0 0 _ hl9 hm9 _ (W.ra.sz g1)).mono fun v m1 ag1 q1 => ?_⟩
  obtain ⟨a1, av, cv, e1, r1, w1⟩ := q1.out
  have W1 := W.mem g1 ag1
  have row1 := (row.sz g1).agree ag1
  generalize applyE x (wishC (clI i) (sqI i) w.ky (opK w.mg)) (x.ix + 1) = y0 at *
  obtain ⟨y, le, e0⟩ := y0
  simp only at e1 r1 w1 L1 L2 L3 A1 A2 A3
  subst A2
  refine ⟨_, _, _, _, _, _, _, _, _, _, _, _, _, _, _, _, _, _, _, _, e1, ifB_false' rfl ⟨by decide, by decide, ifB_intro (fun q => ⟨trivial, ?_⟩) (fun q => ⟨trivial, ?_⟩)⟩⟩
  · have q : e ≠ 0 := by simpa using q
    obtain ⟨M1, M2⟩ := L2 q
    subst M1
    obtain ⟨bw, ow, ew, hw⟩ := w1.cells (by simp)
    have yn : y.nu = 0 := by rw [M2]; exact W.n0
    have yx : y.nx = x.nx := by rw [M2]
    have yp : y.ps = x.ps := by rw [M2]
    have yl : y.la = x.la := by rw [M2]
    exact ifB_false' (by simp) ⟨bw, ow, ew, by simp, _, _, _, _, _, _, _, by simpa using hw, ifB_false' (by simp) (ifB_false' (by simp [yn]) (ifB_false' (by simp [yx]) ⟨⟨i + 1, y, a1, m1⟩, ⟨⟨hi, h60, A1, yn, L1, by rw [yp]; simp only; omega, by rw [yl]; simp only; omega, by rw [A3]; simp only; omega, r1, W1.rz⟩, rfl, by simp [wi]⟩, by simp only; omega⟩))⟩
  · have q : e = 0 := by simpa using q
    obtain ⟨M1, M2⟩ := L3 q
    subst M1
    obtain ⟨B1, B2, B3, B4, B5⟩ := begP_wish x (clI i) (sqI i) w.ky w.mg
    have yn : y.nu = x.la + 1 := by rw [M2]; exact B1
    have yl : y.la = x.la + 1 := by rw [M2]; exact B2
    have yp : y.ps = x.ps := by rw [M2]; exact B3
    have yc : y.cl = clI i := by rw [M2]; exact B4
    have ys : y.sq = sqI i := by rw [M2]; exact B5
    have ysh : shiftL y = l := by
      have := want_shift W.r w.mg (c := wishC (clI i) (sqI i) w.ky (opK w.mg)) rfl rfl hk (by omega) (by rw [he]; exact q)
      rw [he] at this
      have this : shiftL (begP x (wishC (clI i) (sqI i) w.ky (opK w.mg))) = l := this
      rw [← this, M2]; rfl
    have yl9 : y.ps.length ≤ 9223372036854775807 := by rw [yp]; exact hl9
    have ym9 : y.ms.length ≤ 9223372036854775807 := by have := tab8 A1.ms; omega
    have wE : IntKind.i64.wrap (epochL x.ps + 1) = epochL x.ps + 1 := by simp [IntKind.wrap_i64]; omega
    refine ifB_false' (by simp) (ifB_false' (by simp [yn]) ⟨_, epoch_q y a1 yl9 ym9 _ r1, _, rg_epoch x.ps a.ap a.cp (by have := right_len W.r.ps; omega) (row_h0 W1.ra.ps) _ W1.ra.ps, ifB_false' (by rw [if_pos (ric_iff.2 A1), yp, wE]; simp) ⟨ifB_intro (fun d => ⟨trivial, ⟨i, x, a, y, a1, m1, w.dr, x.ps, a.ap, a.cp⟩, ⟨⟨hi, h60, A1, by simp only; omega, L1, by rw [yp]; simp only; omega, by simp only; omega, by simp only; omega, yc, ys, r1, W1.rz, by simp only [d, endL]; exact yp.symm, W1.ra.ps⟩, rfl, by simp [d]⟩, rfl⟩) (fun d => ⟨⟨i, x, a, y, a1, m1, w.dr, l, al, ll⟩, ⟨⟨hi, h60, A1, by simp only; omega, L1, by rw [yp]; simp only; omega, by simp only; omega, by simp only; omega, yc, ys, r1, W1.rz, by simp only [d, endL]; exact ysh.symm, row1⟩, rfl, by simp [d, q]⟩, rfl⟩), ?_⟩⟩)
    clear ysh yl9 ym9 yn yl yp yc ys B1 B2 B3 B4 B5 M2 q L1 L2 L3 A1 A3 W W1 row row1 he hk r1 w1 e1 hl9 hm9 hix0 hix1 hla0 hla1 hep hep0 wE
    rintro ⟨i', x, a, y, b, mx, dr, l, al, ll⟩ ⟨⟨hi', h60', hr, hn, hmi, hep, hla, hix, hcl, hsq, rb, rz, hl2, row⟩, hctx⟩
    simp only at hi' h60' hr hn hmi hep hla hix hcl hsq rb rz hl2 row hctx ⊢
    obtain rfl : i = i' := by have : 60 - i = 60 - i' := by simpa using hctx
                              omega
    have hix0 := hr.ix0
    have hl9 : y.ps.length ≤ 9223372036854775807 := by have := right_len hr.ps; omega
    have hm9 : y.ms.length ≤ 9223372036854775807 := by have := tab8 hr.ms; omega
    rw [show IntKind.i64.wrap (y.ix + 1) = y.ix + 1 by simp [IntKind.wrap_i64]; omega]
    have hkd : (endC (if dr = true then 14 else 13) y.nu y.fr y.to y.lo y.hi y.cl y.sq).kd = if (!dr) = true then 13 else 14 := by cases dr <;> rfl
    refine fun n1 g1 => (apply_s y b (endC (if dr = true then 14 else 13) y.nu y.fr y.to y.lo y.hi y.cl y.sq) none 0 0 _ hl9 hm9 _ (rb.sz g1)).mono fun v m1 ag1 q1 => ?_
    obtain ⟨a1, av, cv, e1, r1, w1⟩ := q1.out
    obtain ⟨O1, O2⟩ := own_law hr hn _ (!dr) hkd rfl (ix := y.ix + 1) (by omega) (by omega)
    have O3 := own_mk hr hn _ (!dr) hkd rfl (ix := y.ix + 1) (by omega) (by omega) hmi (by rw [hcl, hsq, cs_at]; omega)
    obtain ⟨A1, A2, A3⟩ := apply_ric hr (endC (if dr = true then 14 else 13) y.nu y.fr y.to y.lo y.hi y.cl y.sq) (ix := y.ix + 1) (by omega) (by omega)
    have Oe := end_ep hr (hr.go hn) (!dr)
    have row1 := (row.sz g1).agree ag1
    have rz1 := (rz.sz g1).agree ag1
    generalize applyE y (endC (if dr = true then 14 else 13) y.nu y.fr y.to y.lo y.hi y.cl y.sq) (y.ix + 1) = y0 at *
    obtain ⟨u, le, e0⟩ := y0
    simp only at e1 r1 w1 O1 O2 O3 A1 A2 A3
    subst A2
    subst O1
    have un : u.nu = 0 := by rw [O2]; rfl
    have ul : u.la = y.la := by rw [O2]; rfl
    have up : u.ps = l := by rw [O2, hl2]; rfl
    obtain ⟨bw, ow, ew, hw⟩ := w1.cells (by simp)
    refine ⟨_, _, _, _, _, _, _, _, _, _, _, _, _, _, _, _, _, _, _, _, e1, trivial, ifB_false' rfl (ifB_false' (by simp) ⟨bw, ow, ew, by simp, _, _, _, _, _, _, _, by simpa using hw, ifB_false' (by rw [hcl, hsq]; cases dr <;> simp) (ifB_false' (by simp [un]) (ifB_false' (by rw [up]; simp) ⟨?_, ?_⟩))⟩)⟩
    · exact ⟨⟨i, 0, x, a, u, a1, m1, al, ll⟩, ⟨⟨⟨hi, h60, A1, un, by simpa using O3, by simp only; rw [up, hl2]; omega, by rw [ul]; simp only; omega, by rw [A3]; simp only; omega, r1, rz1⟩, Nat.zero_le _, by rw [up]; exact row1⟩, rfl, by simp [up]⟩, rfl⟩
    clear O2 O3 A1 A3 Oe un ul up r1 w1 row1 rz1 e1 hl9 hm9 hr hn hmi hep hla hix hcl hsq rb rz hl2 row hw ew
    rintro ⟨i', k, x, a, y, b, mx, al, ll⟩ ⟨⟨W, hk, row⟩, hctx⟩
    simp only at W hk row hctx ⊢
    obtain rfl : i = i' := by have h1 : 60 - i = 60 - i' := by simpa using hctx
                              have h2 := W.ib2
                              omega
    have hl8 := right_len W.r.ps
    have wk : IntKind.i64.wrap ((k : Int) + 1) = ((k + 1 : Nat) : Int) := by simp [IntKind.wrap_i64]; omega
    refine ifB_intro (fun g => ⟨trivial, ?_⟩) (fun g => ⟨⟨i + 1, y, b, mx⟩, ⟨W, rfl, by simp [wi]⟩, by simp only; omega⟩)
    have hk2 : k < y.ps.length := by simpa using g
    obtain ⟨b1, o1, e1, h1⟩ := W.ra.ps.cells (by rw [pl_len]; omega)
    obtain ⟨b2, o2, e2, h2⟩ := row.cells (by rw [pl_len]; omega)
    exact ⟨b1, o1, e1, by omega, _, _, _, by simpa using pl_at h1 hk2, b2, o2, e2, by omega, _, _, _, by simpa using pl_at h2 hk2, ifB_false' (by simp) ⟨⟨i, k + 1, x, a, y, b, mx, al, ll⟩, ⟨⟨⟨W, hk2, row⟩, rfl, by simp [wk]⟩, rfl⟩, by simp only; omega⟩⟩

end Go.Proofs.Ytjjfcaigonomiaa
