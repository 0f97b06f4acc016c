/-
  Contracts of functions of this seat: what each hands back, and what it leaves of memory (pln8, pln9, pln11, pln12, pln14, pln15). Nothing here is trusted: Lean checks it.
-/
import Derived.Test.YtjjfcaigonomiaaPart3
set_option linter.unusedVariables false
set_option linter.unusedSimpArgs false
namespace Go.Proofs.Ytjjfcaigonomiaa
open Go.Vc Go.RowKit
set_option maxRecDepth 100000

theorem rapply_s (x : Ct) (a : Ca) (c : Cd) (ai : Option Addr) (ni ci : Nat) (ix : Int) (hl : x.ps.length ≤ 9223372036854775807) (hm : x.ms.length ≤ 9223372036854775807) (m : M) (h : CtR m x a) :
    Vc.Spec Try.prog 12 [ctv x a, cdv c ai ni ci, I ix] m (ApR (applyE x c ix)) := by
  refine Vc.Spec.of_vc Try.func12 (ann := noAnn) ?_
  refine vc_by (X :=
      true = true ∧
      ∃ (b : Bool),
      QSpec Try.prog (16 : Nat)
      [Value.agg
      #[Value.int IntKind.i64 x.ix, Value.slice a.ap x.ps.length a.cp, Value.int IntKind.i64 x.nx, Value.int IntKind.i64 x.la, Value.int IntKind.i64 x.nu,
      Value.int IntKind.i64 x.fr, Value.int IntKind.i64 x.to, Value.string x.lo, Value.string x.hi, Value.int IntKind.i64 x.cl, Value.int IntKind.i64 x.sq,
      Value.slice a.am x.ms.length a.cm]]
      m (Value.bool b) ∧
      ifB (!b)
      (Done
      (ApR (applyE x c ix)
      (Value.tuple
      #[Value.agg
      #[Value.int IntKind.i64 (0 : Int), Value.slice none (0 : Nat) (0 : Nat), Value.int IntKind.i64 (0 : Int), Value.int IntKind.i64 (0 : Int),
      Value.int IntKind.i64 (0 : Int), Value.int IntKind.i64 (0 : Int), Value.int IntKind.i64 (0 : Int), Value.string { data := #[] : ByteArray },
      Value.string { data := #[] : ByteArray }, Value.int IntKind.i64 (0 : Int), Value.int IntKind.i64 (0 : Int), Value.slice none (0 : Nat) (0 : Nat)],
      Value.slice none (0 : Nat) (0 : Nat), Value.int IntKind.i64 (21 : Int)])
      m))
      (ifB (decide (ix ≤ x.ix))
      (Done
      (ApR (applyE x c ix)
      (Value.tuple
      #[Value.agg
      #[Value.int IntKind.i64 (0 : Int), Value.slice none (0 : Nat) (0 : Nat), Value.int IntKind.i64 (0 : Int), Value.int IntKind.i64 (0 : Int),
      Value.int IntKind.i64 (0 : Int), Value.int IntKind.i64 (0 : Int), Value.int IntKind.i64 (0 : Int), Value.string { data := #[] : ByteArray },
      Value.string { data := #[] : ByteArray }, Value.int IntKind.i64 (0 : Int), Value.int IntKind.i64 (0 : Int), Value.slice none (0 : Nat) (0 : Nat)],
      Value.slice none (0 : Nat) (0 : Nat), Value.int IntKind.i64 (80 : Int)])
      m))
      (ifB (decide (ix > (4611686018427387904 : Int)))
      (Done
      (ApR (applyE x c ix)
      (Value.tuple
      #[Value.agg
      #[Value.int IntKind.i64 (0 : Int), Value.slice none (0 : Nat) (0 : Nat), Value.int IntKind.i64 (0 : Int), Value.int IntKind.i64 (0 : Int),
      Value.int IntKind.i64 (0 : Int), Value.int IntKind.i64 (0 : Int), Value.int IntKind.i64 (0 : Int), Value.string { data := #[] : ByteArray },
      Value.string { data := #[] : ByteArray }, Value.int IntKind.i64 (0 : Int), Value.int IntKind.i64 (0 : Int), Value.slice none (0 : Nat) (0 : Nat)],
      Value.slice none (0 : Nat) (0 : Nat), Value.int IntKind.i64 (80 : Int)])
      m))
      (∀ (n : Nat),
      m.sz ≤ n →
      Vc.Spec Try.prog (22 : Nat)
      [Value.agg
      #[Value.int IntKind.i64 x.ix, Value.slice a.ap x.ps.length a.cp, Value.int IntKind.i64 x.nx, Value.int IntKind.i64 x.la, Value.int IntKind.i64 x.nu,
      Value.int IntKind.i64 x.fr, Value.int IntKind.i64 x.to, Value.string x.lo, Value.string x.hi, Value.int IntKind.i64 x.cl, Value.int IntKind.i64 x.sq,
      Value.slice a.am x.ms.length a.cm]]
      { π := m.π, sz := n, uf := m.uf : M } fun (v : Value) (m' : M) =>
      ∃ (n : Int),
      ∃ (a : Option Addr),
      ∃ (n_1 : Nat),
      ∃ (c_1 : Nat),
      ∃ (n_2 : Int),
      ∃ (n_3 : Int),
      ∃ (n_4 : Int),
      ∃ (n_5 : Int),
      ∃ (n_6 : Int),
      ∃ (s : ByteArray),
      ∃ (s_1 : ByteArray),
      ∃ (n_7 : Int),
      ∃ (n_8 : Int),
      ∃ (a_2 : Option Addr),
      ∃ (n_9 : Nat),
      ∃ (c_2 : Nat),
      v =
      Value.agg
      #[Value.int IntKind.i64 n, Value.slice a n_1 c_1, Value.int IntKind.i64 n_2, Value.int IntKind.i64 n_3,
      Value.int IntKind.i64 n_4, Value.int IntKind.i64 n_5, Value.int IntKind.i64 n_6, Value.string s, Value.string s_1,
      Value.int IntKind.i64 n_7, Value.int IntKind.i64 n_8, Value.slice a_2 n_9 c_2] ∧
      ifB (n_4 != (0 : Int))
      (ifB (c.kd == (12 : Int))
      (∀ (b : Nat),
      Fresh m.sz m' b →
      ∃ (S' : Nat → Prop),
      (∀ (b_1 : Nat),
      S' b_1 →
      (m'.newBlock b
      [Value.int IntKind.i64 ix, Value.slice a n_1 c_1, Value.int IntKind.i64 n_2, Value.int IntKind.i64 n_3,
      Value.int IntKind.i64 n_4, Value.int IntKind.i64 n_5, Value.int IntKind.i64 n_6, Value.string s,
      Value.string s_1, Value.int IntKind.i64 n_7, Value.int IntKind.i64 n_8, Value.slice a_2 n_9 c_2]).uf
      b_1 ∧
      (m.sz ≤ b_1 ∨ False)) ∧
      ∀ (n : Nat),
      max m'.sz (b + (1 : Nat)) ≤ n →
      SpecW Try.prog (34 : Nat)
      [Value.pointer (some { block := b, off := (0 : Nat) : Addr }),
      Value.agg
      #[Value.int IntKind.i64 c.kd, Value.int IntKind.i64 c.cl, Value.int IntKind.i64 c.sq,
      Value.int IntKind.i64 c.ep, Value.int IntKind.i64 c.nd, Value.int IntKind.i64 c.hm, Value.string c.ky,
      Value.int IntKind.i64 c.le, Value.int IntKind.i64 c.rn, Value.int IntKind.i64 c.ne, Value.bool c.ys,
      Value.int IntKind.i64 c.op_kd, Value.string c.op_ky, Value.string c.op_ot, Value.int IntKind.i64 c.op_n,
      Value.int IntKind.i64 c.op_lo, Value.int IntKind.i64 c.op_hi, Value.int IntKind.i64 c.pl_nu,
      Value.int IntKind.i64 c.pl_fr, Value.int IntKind.i64 c.pl_to, Value.string c.pl_lo,
      Value.string c.pl_hi, Value.int IntKind.i64 c.pl_cl, Value.int IntKind.i64 c.pl_sq,
      Value.slice ai ni ci]]
      { π := (m'.newBlock b [Value.int IntKind.i64 ix, Value.slice a n_1 c_1, Value.int IntKind.i64 n_2, Value.int IntKind.i64 n_3, Value.int IntKind.i64 n_4, Value.int IntKind.i64 n_5, Value.int IntKind.i64 n_6, Value.string s, Value.string s_1, Value.int IntKind.i64 n_7, Value.int IntKind.i64 n_8, Value.slice a_2 n_9 c_2]).π, sz := n, uf := (m'.newBlock b [Value.int IntKind.i64 ix, Value.slice a n_1 c_1, Value.int IntKind.i64 n_2, Value.int IntKind.i64 n_3, Value.int IntKind.i64 n_4, Value.int IntKind.i64 n_5, Value.int IntKind.i64 n_6, Value.string s, Value.string s_1, Value.int IntKind.i64 n_7, Value.int IntKind.i64 n_8, Value.slice a_2 n_9 c_2]).uf : M }
      S' fun (v : Value) (m' : M) =>
      ∃ (a : Option Addr),
      ∃ (n : Nat),
      ∃ (c_3 : Nat),
      v = Value.slice a n c_3 ∧
      ∃ (n_10 : Int),
      ∃ (a_5 : Option Addr),
      ∃ (n_11 : Nat),
      ∃ (c_4 : Nat),
      ∃ (n_12 : Int),
      ∃ (n_13 : Int),
      ∃ (n_14 : Int),
      ∃ (n_15 : Int),
      ∃ (n_16 : Int),
      ∃ (s : ByteArray),
      ∃ (s_2 : ByteArray),
      ∃ (n_17 : Int),
      ∃ (n_18 : Int),
      ∃ (a_6 : Option Addr),
      ∃ (n_19 : Nat),
      ∃ (c_5 : Nat),
      CellsAt m' b (0 : Nat)
      [Value.int IntKind.i64 n_10, Value.slice a_5 n_11 c_4,
      Value.int IntKind.i64 n_12, Value.int IntKind.i64 n_13,
      Value.int IntKind.i64 n_14, Value.int IntKind.i64 n_15,
      Value.int IntKind.i64 n_16, Value.string s, Value.string s_2,
      Value.int IntKind.i64 n_17, Value.int IntKind.i64 n_18,
      Value.slice a_6 n_19 c_5] ∧
      Done
      (ApR (applyE x c ix)
      (Value.tuple
      #[Value.agg
      #[Value.int IntKind.i64 n_10, Value.slice a_5 n_11 c_4,
      Value.int IntKind.i64 n_12, Value.int IntKind.i64 n_13,
      Value.int IntKind.i64 n_14, Value.int IntKind.i64 n_15,
      Value.int IntKind.i64 n_16, Value.string s,
      Value.string s_2, Value.int IntKind.i64 n_17,
      Value.int IntKind.i64 n_18, Value.slice a_6 n_19 c_5],
      Value.slice a n c_3, Value.int IntKind.i64 (0 : Int)])
      m'))
      (ifB (c.kd == (13 : Int))
      (ifB (c.pl_nu == n_4)
      (∀ (b : Nat),
      Fresh m.sz m' b →
      ∃ (S' : Nat → Prop),
      (∀ (b_1 : Nat),
      S' b_1 →
      (m'.newBlock b
      [Value.int IntKind.i64 ix, Value.slice a n_1 c_1, Value.int IntKind.i64 n_2,
      Value.int IntKind.i64 n_3, Value.int IntKind.i64 n_4, Value.int IntKind.i64 n_5,
      Value.int IntKind.i64 n_6, Value.string s, Value.string s_1, Value.int IntKind.i64 n_7,
      Value.int IntKind.i64 n_8, Value.slice a_2 n_9 c_2]).uf
      b_1 ∧
      (m.sz ≤ b_1 ∨ False)) ∧
      ∀ (n : Nat),
      max m'.sz (b + (1 : Nat)) ≤ n →
      SpecW Try.prog (35 : Nat) [Value.pointer (some { block := b, off := (0 : Nat) : Addr })]
      { π := (m'.newBlock b [Value.int IntKind.i64 ix, Value.slice a n_1 c_1, Value.int IntKind.i64 n_2, Value.int IntKind.i64 n_3, Value.int IntKind.i64 n_4, Value.int IntKind.i64 n_5, Value.int IntKind.i64 n_6, Value.string s, Value.string s_1, Value.int IntKind.i64 n_7, Value.int IntKind.i64 n_8, Value.slice a_2 n_9 c_2]).π, sz := n, uf := (m'.newBlock b [Value.int IntKind.i64 ix, Value.slice a n_1 c_1, Value.int IntKind.i64 n_2, Value.int IntKind.i64 n_3, Value.int IntKind.i64 n_4, Value.int IntKind.i64 n_5, Value.int IntKind.i64 n_6, Value.string s, Value.string s_1, Value.int IntKind.i64 n_7, Value.int IntKind.i64 n_8, Value.slice a_2 n_9 c_2]).uf : M }
      S' fun (v : Value) (m' : M) =>
      ∃ (a : Option Addr),
      ∃ (n : Nat),
      ∃ (c_3 : Nat),
      v = Value.slice a n c_3 ∧
      ∃ (n_10 : Int),
      ∃ (a_5 : Option Addr),
      ∃ (n_11 : Nat),
      ∃ (c_4 : Nat),
      ∃ (n_12 : Int),
      ∃ (n_13 : Int),
      ∃ (n_14 : Int),
      ∃ (n_15 : Int),
      ∃ (n_16 : Int),
      ∃ (s : ByteArray),
      ∃ (s_2 : ByteArray),
      ∃ (n_17 : Int),
      ∃ (n_18 : Int),
      ∃ (a_6 : Option Addr),
      ∃ (n_19 : Nat),
      ∃ (c_5 : Nat),
      CellsAt m' b (0 : Nat)
      [Value.int IntKind.i64 n_10, Value.slice a_5 n_11 c_4,
      Value.int IntKind.i64 n_12, Value.int IntKind.i64 n_13,
      Value.int IntKind.i64 n_14, Value.int IntKind.i64 n_15,
      Value.int IntKind.i64 n_16, Value.string s,
      Value.string s_2, Value.int IntKind.i64 n_17,
      Value.int IntKind.i64 n_18, Value.slice a_6 n_19 c_5] ∧
      Done
      (ApR (applyE x c ix)
      (Value.tuple
      #[Value.agg
      #[Value.int IntKind.i64 n_10,
      Value.slice a_5 n_11 c_4,
      Value.int IntKind.i64 n_12,
      Value.int IntKind.i64 n_13,
      Value.int IntKind.i64 n_14,
      Value.int IntKind.i64 n_15,
      Value.int IntKind.i64 n_16, Value.string s,
      Value.string s_2, Value.int IntKind.i64 n_17,
      Value.int IntKind.i64 n_18,
      Value.slice a_6 n_19 c_5],
      Value.slice a n c_3, Value.int IntKind.i64 (0 : Int)])
      m'))
      (ifB (c.kd == (14 : Int))
      (ifB (c.pl_nu == n_4)
      (∀ (b : Nat),
      Fresh m.sz m' b →
      ∃ (S' : Nat → Prop),
      (∀ (b_1 : Nat),
      S' b_1 →
      (m'.newBlock b
      [Value.int IntKind.i64 ix, Value.slice a n_1 c_1, Value.int IntKind.i64 n_2,
      Value.int IntKind.i64 n_3, Value.int IntKind.i64 (0 : Int), Value.int IntKind.i64 (0 : Int),
      Value.int IntKind.i64 (0 : Int), Value.string { data := #[] : ByteArray },
      Value.string { data := #[] : ByteArray }, Value.int IntKind.i64 (0 : Int),
      Value.int IntKind.i64 (0 : Int), Value.slice a_2 n_9 c_2]).uf
      b_1 ∧
      (m.sz ≤ b_1 ∨ False)) ∧
      ∀ (n : Nat),
      max m'.sz (b + (1 : Nat)) ≤ n →
      SpecW Try.prog (36 : Nat)
      [Value.pointer (some { block := b, off := (0 : Nat) : Addr }), Value.int IntKind.i64 n_7,
      Value.int IntKind.i64 n_8, Value.int IntKind.i64 (190 : Int)]
      { π := (m'.newBlock b [Value.int IntKind.i64 ix, Value.slice a n_1 c_1, Value.int IntKind.i64 n_2, Value.int IntKind.i64 n_3, Value.int IntKind.i64 (0 : Int), Value.int IntKind.i64 (0 : Int), Value.int IntKind.i64 (0 : Int), Value.string { data := #[] : ByteArray }, Value.string { data := #[] : ByteArray }, Value.int IntKind.i64 (0 : Int), Value.int IntKind.i64 (0 : Int), Value.slice a_2 n_9 c_2]).π, sz := n, uf := (m'.newBlock b [Value.int IntKind.i64 ix, Value.slice a n_1 c_1, Value.int IntKind.i64 n_2, Value.int IntKind.i64 n_3, Value.int IntKind.i64 (0 : Int), Value.int IntKind.i64 (0 : Int), Value.int IntKind.i64 (0 : Int), Value.string { data := #[] : ByteArray }, Value.string { data := #[] : ByteArray }, Value.int IntKind.i64 (0 : Int), Value.int IntKind.i64 (0 : Int), Value.slice a_2 n_9 c_2]).uf : M }
      S' fun (v : Value) (m' : M) =>
      ∃ (a : Option Addr),
      ∃ (n : Nat),
      ∃ (c_3 : Nat),
      v = Value.slice a n c_3 ∧
      ∃ (n_10 : Int),
      ∃ (a_5 : Option Addr),
      ∃ (n_11 : Nat),
      ∃ (c_4 : Nat),
      ∃ (n_12 : Int),
      ∃ (n_13 : Int),
      ∃ (n_14 : Int),
      ∃ (n_15 : Int),
      ∃ (n_16 : Int),
      ∃ (s : ByteArray),
      ∃ (s_2 : ByteArray),
      ∃ (n_17 : Int),
      ∃ (n_18 : Int),
      ∃ (a_6 : Option Addr),
      ∃ (n_19 : Nat),
      ∃ (c_5 : Nat),
      CellsAt m' b (0 : Nat)
      [Value.int IntKind.i64 n_10, Value.slice a_5 n_11 c_4,
      Value.int IntKind.i64 n_12, Value.int IntKind.i64 n_13,
      Value.int IntKind.i64 n_14, Value.int IntKind.i64 n_15,
      Value.int IntKind.i64 n_16, Value.string s,
      Value.string s_2, Value.int IntKind.i64 n_17,
      Value.int IntKind.i64 n_18, Value.slice a_6 n_19 c_5] ∧
      Done
      (ApR (applyE x c ix)
      (Value.tuple
      #[Value.agg
      #[Value.int IntKind.i64 n_10,
      Value.slice a_5 n_11 c_4,
      Value.int IntKind.i64 n_12,
      Value.int IntKind.i64 n_13,
      Value.int IntKind.i64 n_14,
      Value.int IntKind.i64 n_15,
      Value.int IntKind.i64 n_16, Value.string s,
      Value.string s_2, Value.int IntKind.i64 n_17,
      Value.int IntKind.i64 n_18,
      Value.slice a_6 n_19 c_5],
      Value.slice a n c_3,
      Value.int IntKind.i64 (0 : Int)])
      m'))
      (Done
      (ApR (applyE x c ix)
      (Value.tuple
      #[Value.agg
      #[Value.int IntKind.i64 ix, Value.slice a n_1 c_1, Value.int IntKind.i64 n_2, Value.int IntKind.i64 n_3,
      Value.int IntKind.i64 n_4, Value.int IntKind.i64 n_5, Value.int IntKind.i64 n_6, Value.string s,
      Value.string s_1, Value.int IntKind.i64 n_7, Value.int IntKind.i64 n_8, Value.slice a_2 n_9 c_2],
      Value.slice none (0 : Nat) (0 : Nat), Value.int IntKind.i64 (0 : Int)])
      m')))
      (Done
      (ApR (applyE x c ix)
      (Value.tuple
      #[Value.agg
      #[Value.int IntKind.i64 ix, Value.slice a n_1 c_1, Value.int IntKind.i64 n_2, Value.int IntKind.i64 n_3,
      Value.int IntKind.i64 n_4, Value.int IntKind.i64 n_5, Value.int IntKind.i64 n_6, Value.string s,
      Value.string s_1, Value.int IntKind.i64 n_7, Value.int IntKind.i64 n_8, Value.slice a_2 n_9 c_2],
      Value.slice none (0 : Nat) (0 : Nat), Value.int IntKind.i64 (0 : Int)])
      m'))))
      (ifB (c.kd == (14 : Int))
      (ifB (c.pl_nu == n_4)
      (∀ (b : Nat),
      Fresh m.sz m' b →
      ∃ (S' : Nat → Prop),
      (∀ (b_1 : Nat),
      S' b_1 →
      (m'.newBlock b
      [Value.int IntKind.i64 ix, Value.slice a n_1 c_1, Value.int IntKind.i64 n_2,
      Value.int IntKind.i64 n_3, Value.int IntKind.i64 (0 : Int), Value.int IntKind.i64 (0 : Int),
      Value.int IntKind.i64 (0 : Int), Value.string { data := #[] : ByteArray },
      Value.string { data := #[] : ByteArray }, Value.int IntKind.i64 (0 : Int),
      Value.int IntKind.i64 (0 : Int), Value.slice a_2 n_9 c_2]).uf
      b_1 ∧
      (m.sz ≤ b_1 ∨ False)) ∧
      ∀ (n : Nat),
      max m'.sz (b + (1 : Nat)) ≤ n →
      SpecW Try.prog (36 : Nat)
      [Value.pointer (some { block := b, off := (0 : Nat) : Addr }), Value.int IntKind.i64 n_7,
      Value.int IntKind.i64 n_8, Value.int IntKind.i64 (190 : Int)]
      { π := (m'.newBlock b [Value.int IntKind.i64 ix, Value.slice a n_1 c_1, Value.int IntKind.i64 n_2, Value.int IntKind.i64 n_3, Value.int IntKind.i64 (0 : Int), Value.int IntKind.i64 (0 : Int), Value.int IntKind.i64 (0 : Int), Value.string { data := #[] : ByteArray }, Value.string { data := #[] : ByteArray }, Value.int IntKind.i64 (0 : Int), Value.int IntKind.i64 (0 : Int), Value.slice a_2 n_9 c_2]).π, sz := n, uf := (m'.newBlock b [Value.int IntKind.i64 ix, Value.slice a n_1 c_1, Value.int IntKind.i64 n_2, Value.int IntKind.i64 n_3, Value.int IntKind.i64 (0 : Int), Value.int IntKind.i64 (0 : Int), Value.int IntKind.i64 (0 : Int), Value.string { data := #[] : ByteArray }, Value.string { data := #[] : ByteArray }, Value.int IntKind.i64 (0 : Int), Value.int IntKind.i64 (0 : Int), Value.slice a_2 n_9 c_2]).uf : M }
      S' fun (v : Value) (m' : M) =>
      ∃ (a : Option Addr),
      ∃ (n : Nat),
      ∃ (c_3 : Nat),
      v = Value.slice a n c_3 ∧
      ∃ (n_10 : Int),
      ∃ (a_5 : Option Addr),
      ∃ (n_11 : Nat),
      ∃ (c_4 : Nat),
      ∃ (n_12 : Int),
      ∃ (n_13 : Int),
      ∃ (n_14 : Int),
      ∃ (n_15 : Int),
      ∃ (n_16 : Int),
      ∃ (s : ByteArray),
      ∃ (s_2 : ByteArray),
      ∃ (n_17 : Int),
      ∃ (n_18 : Int),
      ∃ (a_6 : Option Addr),
      ∃ (n_19 : Nat),
      ∃ (c_5 : Nat),
      CellsAt m' b (0 : Nat)
      [Value.int IntKind.i64 n_10, Value.slice a_5 n_11 c_4,
      Value.int IntKind.i64 n_12, Value.int IntKind.i64 n_13,
      Value.int IntKind.i64 n_14, Value.int IntKind.i64 n_15,
      Value.int IntKind.i64 n_16, Value.string s,
      Value.string s_2, Value.int IntKind.i64 n_17,
      Value.int IntKind.i64 n_18, Value.slice a_6 n_19 c_5] ∧
      Done
      (ApR (applyE x c ix)
      (Value.tuple
      #[Value.agg
      #[Value.int IntKind.i64 n_10,
      Value.slice a_5 n_11 c_4,
      Value.int IntKind.i64 n_12,
      Value.int IntKind.i64 n_13,
      Value.int IntKind.i64 n_14,
      Value.int IntKind.i64 n_15,
      Value.int IntKind.i64 n_16, Value.string s,
      Value.string s_2, Value.int IntKind.i64 n_17,
      Value.int IntKind.i64 n_18,
      Value.slice a_6 n_19 c_5],
      Value.slice a n c_3, Value.int IntKind.i64 (0 : Int)])
      m'))
      (Done
      (ApR (applyE x c ix)
      (Value.tuple
      #[Value.agg
      #[Value.int IntKind.i64 ix, Value.slice a n_1 c_1, Value.int IntKind.i64 n_2, Value.int IntKind.i64 n_3,
      Value.int IntKind.i64 n_4, Value.int IntKind.i64 n_5, Value.int IntKind.i64 n_6, Value.string s,
      Value.string s_1, Value.int IntKind.i64 n_7, Value.int IntKind.i64 n_8, Value.slice a_2 n_9 c_2],
      Value.slice none (0 : Nat) (0 : Nat), Value.int IntKind.i64 (0 : Int)])
      m')))
      (Done
      (ApR (applyE x c ix)
      (Value.tuple
      #[Value.agg
      #[Value.int IntKind.i64 ix, Value.slice a n_1 c_1, Value.int IntKind.i64 n_2, Value.int IntKind.i64 n_3,
      Value.int IntKind.i64 n_4, Value.int IntKind.i64 n_5, Value.int IntKind.i64 n_6, Value.string s,
      Value.string s_1, Value.int IntKind.i64 n_7, Value.int IntKind.i64 n_8, Value.slice a_2 n_9 c_2],
      Value.slice none (0 : Nat) (0 : Nat), Value.int IntKind.i64 (0 : Int)])
      m')))))
      (ifB (c.kd == (12 : Int))
      (∀ (b : Nat),
      Fresh m.sz m' b →
      ∃ (S' : Nat → Prop),
      (∀ (b_1 : Nat),
      S' b_1 →
      (m'.newBlock b
      [Value.int IntKind.i64 ix, Value.slice a n_1 c_1, Value.int IntKind.i64 n_2, Value.int IntKind.i64 n_3,
      Value.int IntKind.i64 n_4, Value.int IntKind.i64 n_5, Value.int IntKind.i64 n_6, Value.string s,
      Value.string s_1, Value.int IntKind.i64 n_7, Value.int IntKind.i64 n_8, Value.slice a_2 n_9 c_2]).uf
      b_1 ∧
      (m.sz ≤ b_1 ∨ False)) ∧
      ∀ (n : Nat),
      max m'.sz (b + (1 : Nat)) ≤ n →
      SpecW Try.prog (34 : Nat)
      [Value.pointer (some { block := b, off := (0 : Nat) : Addr }),
      Value.agg
      #[Value.int IntKind.i64 c.kd, Value.int IntKind.i64 c.cl, Value.int IntKind.i64 c.sq,
      Value.int IntKind.i64 c.ep, Value.int IntKind.i64 c.nd, Value.int IntKind.i64 c.hm, Value.string c.ky,
      Value.int IntKind.i64 c.le, Value.int IntKind.i64 c.rn, Value.int IntKind.i64 c.ne, Value.bool c.ys,
      Value.int IntKind.i64 c.op_kd, Value.string c.op_ky, Value.string c.op_ot, Value.int IntKind.i64 c.op_n,
      Value.int IntKind.i64 c.op_lo, Value.int IntKind.i64 c.op_hi, Value.int IntKind.i64 c.pl_nu,
      Value.int IntKind.i64 c.pl_fr, Value.int IntKind.i64 c.pl_to, Value.string c.pl_lo,
      Value.string c.pl_hi, Value.int IntKind.i64 c.pl_cl, Value.int IntKind.i64 c.pl_sq,
      Value.slice ai ni ci]]
      { π := (m'.newBlock b [Value.int IntKind.i64 ix, Value.slice a n_1 c_1, Value.int IntKind.i64 n_2, Value.int IntKind.i64 n_3, Value.int IntKind.i64 n_4, Value.int IntKind.i64 n_5, Value.int IntKind.i64 n_6, Value.string s, Value.string s_1, Value.int IntKind.i64 n_7, Value.int IntKind.i64 n_8, Value.slice a_2 n_9 c_2]).π, sz := n, uf := (m'.newBlock b [Value.int IntKind.i64 ix, Value.slice a n_1 c_1, Value.int IntKind.i64 n_2, Value.int IntKind.i64 n_3, Value.int IntKind.i64 n_4, Value.int IntKind.i64 n_5, Value.int IntKind.i64 n_6, Value.string s, Value.string s_1, Value.int IntKind.i64 n_7, Value.int IntKind.i64 n_8, Value.slice a_2 n_9 c_2]).uf : M }
      S' fun (v : Value) (m' : M) =>
      ∃ (a : Option Addr),
      ∃ (n : Nat),
      ∃ (c_3 : Nat),
      v = Value.slice a n c_3 ∧
      ∃ (n_10 : Int),
      ∃ (a_5 : Option Addr),
      ∃ (n_11 : Nat),
      ∃ (c_4 : Nat),
      ∃ (n_12 : Int),
      ∃ (n_13 : Int),
      ∃ (n_14 : Int),
      ∃ (n_15 : Int),
      ∃ (n_16 : Int),
      ∃ (s : ByteArray),
      ∃ (s_2 : ByteArray),
      ∃ (n_17 : Int),
      ∃ (n_18 : Int),
      ∃ (a_6 : Option Addr),
      ∃ (n_19 : Nat),
      ∃ (c_5 : Nat),
      CellsAt m' b (0 : Nat)
      [Value.int IntKind.i64 n_10, Value.slice a_5 n_11 c_4,
      Value.int IntKind.i64 n_12, Value.int IntKind.i64 n_13,
      Value.int IntKind.i64 n_14, Value.int IntKind.i64 n_15,
      Value.int IntKind.i64 n_16, Value.string s, Value.string s_2,
      Value.int IntKind.i64 n_17, Value.int IntKind.i64 n_18,
      Value.slice a_6 n_19 c_5] ∧
      Done
      (ApR (applyE x c ix)
      (Value.tuple
      #[Value.agg
      #[Value.int IntKind.i64 n_10, Value.slice a_5 n_11 c_4,
      Value.int IntKind.i64 n_12, Value.int IntKind.i64 n_13,
      Value.int IntKind.i64 n_14, Value.int IntKind.i64 n_15,
      Value.int IntKind.i64 n_16, Value.string s,
      Value.string s_2, Value.int IntKind.i64 n_17,
      Value.int IntKind.i64 n_18, Value.slice a_6 n_19 c_5],
      Value.slice a n c_3, Value.int IntKind.i64 (0 : Int)])
      m'))
      (ifB (c.kd == (13 : Int))
      (ifB (c.kd == (14 : Int))
      (Done
      (ApR (applyE x c ix)
      (Value.tuple
      #[Value.agg
      #[Value.int IntKind.i64 ix, Value.slice a n_1 c_1, Value.int IntKind.i64 n_2, Value.int IntKind.i64 n_3,
      Value.int IntKind.i64 n_4, Value.int IntKind.i64 n_5, Value.int IntKind.i64 n_6, Value.string s,
      Value.string s_1, Value.int IntKind.i64 n_7, Value.int IntKind.i64 n_8, Value.slice a_2 n_9 c_2],
      Value.slice none (0 : Nat) (0 : Nat), Value.int IntKind.i64 (0 : Int)])
      m'))
      (Done
      (ApR (applyE x c ix)
      (Value.tuple
      #[Value.agg
      #[Value.int IntKind.i64 ix, Value.slice a n_1 c_1, Value.int IntKind.i64 n_2, Value.int IntKind.i64 n_3,
      Value.int IntKind.i64 n_4, Value.int IntKind.i64 n_5, Value.int IntKind.i64 n_6, Value.string s,
      Value.string s_1, Value.int IntKind.i64 n_7, Value.int IntKind.i64 n_8, Value.slice a_2 n_9 c_2],
      Value.slice none (0 : Nat) (0 : Nat), Value.int IntKind.i64 (0 : Int)])
      m')))
      (ifB (c.kd == (14 : Int))
      (Done
      (ApR (applyE x c ix)
      (Value.tuple
      #[Value.agg
      #[Value.int IntKind.i64 ix, Value.slice a n_1 c_1, Value.int IntKind.i64 n_2, Value.int IntKind.i64 n_3,
      Value.int IntKind.i64 n_4, Value.int IntKind.i64 n_5, Value.int IntKind.i64 n_6, Value.string s,
      Value.string s_1, Value.int IntKind.i64 n_7, Value.int IntKind.i64 n_8, Value.slice a_2 n_9 c_2],
      Value.slice none (0 : Nat) (0 : Nat), Value.int IntKind.i64 (0 : Int)])
      m'))
      (Done
      (ApR (applyE x c ix)
      (Value.tuple
      #[Value.agg
      #[Value.int IntKind.i64 ix, Value.slice a n_1 c_1, Value.int IntKind.i64 n_2, Value.int IntKind.i64 n_3,
      Value.int IntKind.i64 n_4, Value.int IntKind.i64 n_5, Value.int IntKind.i64 n_6, Value.string s,
      Value.string s_1, Value.int IntKind.i64 n_7, Value.int IntKind.i64 n_8, Value.slice a_2 n_9 c_2],
      Value.slice none (0 : Nat) (0 : Nat), Value.int IntKind.i64 (0 : Int)])
      m'))))))))) (by kernel_rfl) ?_
  refine ⟨rfl, _, rright_c x a hl hm _ h, ?_⟩
  cases hrc : rightC x with
  | false =>
    have e : applyE x c ix = (c0, [], 21) := by unfold applyE; rw [if_pos hrc]
    exact ifB_true ⟨by rw [e]; exact ⟨a0, none, 0, rfl, ⟨.nil _, .nil _⟩, .nil _⟩⟩
  | true =>
  have hr := ric_iff.1 hrc
  have hbad : (ix ≤ x.ix ∨ ix > 4611686018427387904) → applyE x c ix = (c0, [], 80) := fun q => by unfold applyE; rw [if_neg (by rw [hrc]; simp), if_pos q]
  refine ifB_false (ifB_intro (fun g => ⟨?_⟩) (fun g => ifB_intro (fun g2 => ⟨?_⟩) (fun g2 => ?_)))
  · rw [hbad (.inl (of_decide_eq_true g))]; exact ⟨a0, none, 0, rfl, ⟨.nil _, .nil _⟩, .nil _⟩
  · rw [hbad (.inr (of_decide_eq_true g2))]; exact ⟨a0, none, 0, rfl, ⟨.nil _, .nil _⟩, .nil _⟩
  have k1 := of_decide_eq_false g
  have k2 := of_decide_eq_false g2
  have hix0 := hr.ix0
  have hry : RiC { x with ix := ix } := hr.ix (by omega) (by omega)
  refine fun N hN => (rcopy_s x a (by have := right_len hr.ps; omega) (by have := tab8 hr.ms; omega) _ (h.sz hN)).mono fun v m1 hag1 ⟨a1, hv, r1⟩ => ?_
  have r1 : CtR m1 { x with ix := ix } a1 := ⟨r1.ps, r1.ms⟩
  have eA : applyE x c ix = (let y := { x with ix := ix }
     let g := y.nu ≠ 0 ∧ c.pl_nu = y.nu
     if c.kd = 12 then ((startE y c).1, (startE y c).2, 0)
     else if c.kd = 13 ∧ g then ((shfE y).1, (shfE y).2, 0)
     else if c.kd = 14 ∧ g then ((doneE (clrP y) y.cl y.sq 190).1, (doneE (clrP y) y.cl y.sq 190).2, 0)
     else (y, [], 0)) := by unfold applyE; rw [if_neg (by rw [hrc]; simp), if_neg (by omega)]
  generalize hyy : ({ x with ix := ix } : Ct) = y at *
  have yix : ix = y.ix := by rw [← hyy]
  subst yix
  have ynu : y.nu = x.nu := by rw [← hyy]
  have ycl : y.cl = x.cl := by rw [← hyy]
  have ysq : y.sq = x.sq := by rw [← hyy]
  have hmy : y.ms.length ≤ 9223372036854775807 := by rw [← hyy]; exact hm
  have eA : applyE x c y.ix = (if c.kd = 12 then ((startE y c).1, (startE y c).2, 0)
     else if c.kd = 13 ∧ (y.nu ≠ 0 ∧ c.pl_nu = y.nu) then ((shfE y).1, (shfE y).2, 0)
     else if c.kd = 14 ∧ (y.nu ≠ 0 ∧ c.pl_nu = y.nu) then ((doneE (clrP y) y.cl y.sq 190).1, (doneE (clrP y) y.cl y.sq 190).2, 0)
     else (y, [], 0)) := eA
  have lf : applyE x c y.ix = (y, [], 0) → Done (ApR (applyE x c y.ix) (.tuple #[ctv y a1, .slice none 0 0, I 0]) m1) := fun e => ⟨by rw [e]; exact ⟨a1, none, 0, rfl, r1, .nil _⟩⟩
  have hsz1 : m.sz ≤ m1.sz := by have := hag1.2.2; simp only at this; omega
  have fin : ∀ (b : Nat) (z : Ct × List Ef) (v : Value) (m' : M), PtR b z v m' → applyE x c y.ix = (z.1, z.2, 0) → ∃ a n c_3, v = .slice a n c_3 ∧ ∃ n_10 a_5 n_11 c_4 n_12 n_13 n_14 n_15 n_16 s s_2 n_17 n_18 a_6 n_19 c_5, CellsAt m' b 0 [I n_10, .slice a_5 n_11 c_4, I n_12, I n_13, I n_14, I n_15, I n_16, .string s, .string s_2, I n_17, I n_18, .slice a_6 n_19 c_5] ∧ Done (ApR (applyE x c y.ix) (.tuple #[.agg #[I n_10, .slice a_5 n_11 c_4, I n_12, I n_13, I n_14, I n_15, I n_16, .string s, .string s_2, I n_17, I n_18, .slice a_6 n_19 c_5], .slice a n c_3, I 0]) m') := fun b z v m' ⟨⟨a', av, cv, q1, q2, q3⟩⟩ e => by
    refine ⟨_, _, _, q2, _, _, _, _, _, _, _, _, _, _, _, _, _, _, _, _, q1.cells, ⟨?_⟩⟩
    rw [e]
    exact ⟨a', av, cv, rfl, q1.r, q3⟩
  have st : c.kd = 12 → ∀ b, Fresh m.sz m1 b → ∃ S' : Nat → Prop, (∀ z, S' z → (m1.newBlock b (encCt y a1)).uf z ∧ (m.sz ≤ z ∨ False)) ∧ ∀ n, (m1.newBlock b (encCt y a1)).sz ≤ n → SpecW Try.prog 34 [.pointer (some ⟨b, 0, none⟩), cdv c ai ni ci] { m1.newBlock b (encCt y a1) with sz := n } S' fun v m' => ∃ a n c_3, v = .slice a n c_3 ∧ ∃ n_10 a_5 n_11 c_4 n_12 n_13 n_14 n_15 n_16 s s_2 n_17 n_18 a_6 n_19 c_5, CellsAt m' b 0 [I n_10, .slice a_5 n_11 c_4, I n_12, I n_13, I n_14, I n_15, I n_16, .string s, .string s_2, I n_17, I n_18, .slice a_6 n_19 c_5] ∧ Done (ApR (applyE x c y.ix) (.tuple #[.agg #[I n_10, .slice a_5 n_11 c_4, I n_12, I n_13, I n_14, I n_15, I n_16, .string s, .string s_2, I n_17, I n_18, .slice a_6 n_19 c_5], .slice a n c_3, I 0]) m') := fun k b hb => by
    have P := PtC.newC hb r1
    exact ⟨fun z => z = b, fun z e => by subst e; exact ⟨P.uf, .inl hb.lo⟩, fun n hn => (rplan_s y a1 b c ai ni ci hry hmy _ (P.sz hn)).mono fun v m' hag q => fin b _ v m' q (by rw [eA, if_pos k])⟩
  have dn : ∀ (b : Nat) (z : Ct) (a2 : Ca) (er : Int) (m2 : M), PtC b z a2 m2 → m.sz ≤ b → z.ms.length ≤ 9223372036854775807 → applyE x c y.ix = ((doneE z y.cl y.sq er).1, (doneE z y.cl y.sq er).2, 0) → ∃ S' : Nat → Prop, (∀ z, S' z → m2.uf z ∧ (m.sz ≤ z ∨ False)) ∧ ∀ n, m2.sz ≤ n → SpecW Try.prog 36 [.pointer (some ⟨b, 0, none⟩), I y.cl, I y.sq, I er] { m2 with sz := n } S' fun v m' => ∃ a n c_3, v = .slice a n c_3 ∧ ∃ n_10 a_5 n_11 c_4 n_12 n_13 n_14 n_15 n_16 s s_2 n_17 n_18 a_6 n_19 c_5, CellsAt m' b 0 [I n_10, .slice a_5 n_11 c_4, I n_12, I n_13, I n_14, I n_15, I n_16, .string s, .string s_2, I n_17, I n_18, .slice a_6 n_19 c_5] ∧ Done (ApR (applyE x c y.ix) (.tuple #[.agg #[I n_10, .slice a_5 n_11 c_4, I n_12, I n_13, I n_14, I n_15, I n_16, .string s, .string s_2, I n_17, I n_18, .slice a_6 n_19 c_5], .slice a n c_3, I 0]) m') := fun b z a2 er m2 P hlo hms e =>
    ⟨fun z => z = b, fun z e => by subst e; exact ⟨P.uf, .inl hlo⟩, fun n hn => (rdone_s z a2 b y.cl y.sq er hms _ (P.sz hn)).mono fun v m' hag q => fin b _ v m' q e⟩
  have hv : v = ctv { y with ix := x.ix } a1 := by rw [← hyy]; exact hv
  refine ⟨_, _, _, _, _, _, _, _, _, _, _, _, _, _, _, _, hv, ifB_intro (fun g3 => ifB_intro (fun g4 => st (by simpa using g4)) (fun g4 => ifB_intro (fun g5 => ifB_intro (fun g6 b hb => ?e1) (fun g6 => ifB_intro (fun g7 => ifB_intro (fun g8 => ?e2) (fun g8 => lf ?e3)) (fun g7 => lf ?e4))) (fun g5 => ifB_intro (fun g6 => ifB_intro (fun g7 b hb => ?e5) (fun g7 => lf ?e6)) (fun g6 => lf ?e7)))) (fun g3 => ifB_intro (fun g4 => st (by simpa using g4)) (fun g4 => ifB_intro (fun g5 => ifB_intro (fun g6 => lf ?e8) (fun g6 => lf ?e9)) (fun g5 => ifB_intro (fun g6 => lf ?e10) (fun g6 => lf ?e11))))⟩
  case e1 =>
    have q3 : y.nu ≠ 0 := by simpa using g3
    have q4 : ¬ c.kd = 12 := by simpa using g4
    have q5 : c.kd = 13 := by simpa using g5
    have q6 : c.pl_nu = y.nu := by simpa using g6
    have P := PtC.newC hb r1
    refine ⟨fun z => z = b, fun z e => by subst e; exact ⟨P.uf, .inl hb.lo⟩, fun n hn => (rshift_s y a1 b hry q3 hmy _ (P.sz hn)).mono fun v m2 hag2 q => fin b _ v m2 q (by rw [eA, if_neg q4, if_pos ⟨q5, q3, q6⟩])⟩
  case e2 =>
    have q5 : c.kd = 13 := by simpa using g5
    have q6 : c.kd = 14 := by simpa using g7
    omega
  case e3 =>
    have q4 : ¬ c.kd = 12 := by simpa using g4
    have q6 : ¬ c.pl_nu = y.nu := by simpa using g6
    rw [eA, if_neg q4, if_neg (fun e => q6 e.2.2), if_neg (fun e => q6 e.2.2)]
  case e4 =>
    have q4 : ¬ c.kd = 12 := by simpa using g4
    have q6 : ¬ c.pl_nu = y.nu := by simpa using g6
    rw [eA, if_neg q4, if_neg (fun e => q6 e.2.2), if_neg (fun e => q6 e.2.2)]
  case e5 =>
    have q3 : y.nu ≠ 0 := by simpa using g3
    have q4 : ¬ c.kd = 12 := by simpa using g4
    have q5 : ¬ c.kd = 13 := by simpa using g5
    have q6 : c.kd = 14 := by simpa using g6
    have q7 : c.pl_nu = y.nu := by simpa using g7
    have r2 : CtR m1 (clrP y) a1 := ⟨r1.ps, r1.ms⟩
    exact dn b (clrP y) a1 190 _ (PtC.newC hb r2) hb.lo hmy (by rw [eA, if_neg q4, if_neg (fun e => q5 e.1), if_pos ⟨q6, q3, q7⟩])
  case e6 =>
    have q4 : ¬ c.kd = 12 := by simpa using g4
    have q7 : ¬ c.pl_nu = y.nu := by simpa using g7
    rw [eA, if_neg q4, if_neg (fun e => q7 e.2.2), if_neg (fun e => q7 e.2.2)]
  case e7 =>
    have q4 : ¬ c.kd = 12 := by simpa using g4
    have q5 : ¬ c.kd = 13 := by simpa using g5
    have q6 : ¬ c.kd = 14 := by simpa using g6
    rw [eA, if_neg q4, if_neg (fun e => q5 e.1), if_neg (fun e => q6 e.1)]
  all_goals
    have q3 : y.nu = 0 := by simpa using g3
    have q4 : ¬ c.kd = 12 := by simpa using g4
    rw [eA, if_neg q4, if_neg (fun e => e.2.1 q3), if_neg (fun e => e.2.1 q3)]

def newC : Ct := ⟨0, [⟨1, .empty, 1⟩], 2, 0, 0, 0, 0, .empty, .empty, 0, 0, []⟩

theorem new_s (m : M) : Vc.Spec Try.prog 8 [] m fun v m' => ∃ a', v = ctv newC a' ∧ CtR m' newC a' := by
  refine Vc.Spec.of_vc Try.func8 (ann := noAnn) ?_
  refine vc_by (X :=
      true = true ∧
      true = true ∧
      ∀ (b : Nat),
      m.sz ≤ b →
      Done
      (∃ (a' : Ca),
      Value.agg
      #[Value.int IntKind.i64 (0 : Int), Value.slice (some { block := b, off := (0 : Nat) : Addr }) (1 : Nat) (1 : Nat), Value.int IntKind.i64 (2 : Int),
      Value.int IntKind.i64 (0 : Int), Value.int IntKind.i64 (0 : Int), Value.int IntKind.i64 (0 : Int), Value.int IntKind.i64 (0 : Int),
      Value.string { data := #[] : ByteArray }, Value.string { data := #[] : ByteArray }, Value.int IntKind.i64 (0 : Int), Value.int IntKind.i64 (0 : Int),
      Value.slice none (0 : Nat) (0 : Nat)] =
      Value.agg
      #[Value.int IntKind.i64 (0 : Int), Value.slice a'.ap (1 : Nat) a'.cp, Value.int IntKind.i64 (2 : Int), Value.int IntKind.i64 (0 : Int),
      Value.int IntKind.i64 (0 : Int), Value.int IntKind.i64 (0 : Int), Value.int IntKind.i64 (0 : Int), Value.string ByteArray.empty, Value.string ByteArray.empty,
      Value.int IntKind.i64 (0 : Int), Value.int IntKind.i64 (0 : Int), Value.slice a'.am (0 : Nat) a'.cm] ∧
      CtR (m.newBlock b [Value.int IntKind.i64 (1 : Int), Value.string { data := #[] : ByteArray }, Value.int IntKind.i64 (1 : Int)]) newC a')) (by kernel_rfl) ?_
  exact ⟨rfl, rfl, fun b hb => ⟨⟨⟨some ⟨b, 0, none⟩, 1, none, 0⟩, rfl, .at _ _ _ (by simp only [M.newBlock]; omega) cellsAt_new, .nil _⟩⟩⟩

theorem rnew_s (m : M) : Vc.Spec Try.prog 9 [] m fun v m' => ∃ a', v = ctv newC a' ∧ CtR m' newC a' := by
  refine Vc.Spec.of_vc Try.func9 (ann := noAnn) ?_
  refine vc_by (X :=
      true = true ∧
      true = true ∧
      ∀ (b : Nat),
      m.sz ≤ b →
      Done
      (∃ (a' : Ca),
      Value.agg
      #[Value.int IntKind.i64 (0 : Int), Value.slice (some { block := b, off := (0 : Nat) : Addr }) (1 : Nat) (1 : Nat), Value.int IntKind.i64 (2 : Int),
      Value.int IntKind.i64 (0 : Int), Value.int IntKind.i64 (0 : Int), Value.int IntKind.i64 (0 : Int), Value.int IntKind.i64 (0 : Int),
      Value.string { data := #[] : ByteArray }, Value.string { data := #[] : ByteArray }, Value.int IntKind.i64 (0 : Int), Value.int IntKind.i64 (0 : Int),
      Value.slice none (0 : Nat) (0 : Nat)] =
      Value.agg
      #[Value.int IntKind.i64 (0 : Int), Value.slice a'.ap (1 : Nat) a'.cp, Value.int IntKind.i64 (2 : Int), Value.int IntKind.i64 (0 : Int),
      Value.int IntKind.i64 (0 : Int), Value.int IntKind.i64 (0 : Int), Value.int IntKind.i64 (0 : Int), Value.string ByteArray.empty, Value.string ByteArray.empty,
      Value.int IntKind.i64 (0 : Int), Value.int IntKind.i64 (0 : Int), Value.slice a'.am (0 : Nat) a'.cm] ∧
      CtR (m.newBlock b [Value.int IntKind.i64 (1 : Int), Value.string { data := #[] : ByteArray }, Value.int IntKind.i64 (1 : Int)]) newC a')) (by kernel_rfl) ?_
  exact ⟨rfl, rfl, fun b hb => ⟨⟨⟨some ⟨b, 0, none⟩, 1, none, 0⟩, rfl, .at _ _ _ (by simp only [M.newBlock]; omega) cellsAt_new, .nil _⟩⟩⟩

theorem check_q (x : Ct) (a : Ca) (hl : x.ps.length ≤ 9223372036854775807) (hm : x.ms.length ≤ 9223372036854775807) (m : M) (h : CtR m x a) : QSpec Try.prog 15 [ctv x a] m (I (if rightC x then 0 else 21)) := by
  refine QSpec.of_vc Try.func15 (ann := fun _ => noAnn) fun n hn => ?_
  refine vc_by (X :=
      true = true ∧
      ∃ (b : Bool),
      QSpec Try.prog (29 : Nat)
      [Value.agg
      #[Value.int IntKind.i64 x.ix, Value.slice a.ap x.ps.length a.cp, Value.int IntKind.i64 x.nx, Value.int IntKind.i64 x.la, Value.int IntKind.i64 x.nu,
      Value.int IntKind.i64 x.fr, Value.int IntKind.i64 x.to, Value.string x.lo, Value.string x.hi, Value.int IntKind.i64 x.cl, Value.int IntKind.i64 x.sq,
      Value.slice a.am x.ms.length a.cm]]
      { π := m.π, sz := n, uf := m.uf : M } (Value.bool b) ∧
      ifB (!b) (Done (Value.int IntKind.i64 (21 : Int) = Value.int IntKind.i64 (if rightC x = true then (0 : Int) else (21 : Int))))
      (Done (Value.int IntKind.i64 (0 : Int) = Value.int IntKind.i64 (if rightC x = true then (0 : Int) else (21 : Int))))) (by kernel_rfl) ?_
  refine ⟨rfl, _, right_q x a hl hm _ (h.sz hn), ?_⟩
  cases rightC x
  · exact ifB_true ⟨rfl⟩
  · exact ifB_false ⟨rfl⟩

theorem epoch_q (x : Ct) (a : Ca) (hl : x.ps.length ≤ 9223372036854775807) (hm : x.ms.length ≤ 9223372036854775807) (m : M) (h : CtR m x a) : QSpec Try.prog 24 [ctv x a] m (I (if rightC x then epochL x.ps + 1 else 0)) := by
  refine QSpec.of_vc Try.func24 (ann := fun _ => noAnn) fun n hn => ?_
  refine vc_by (X :=
      true = true ∧
      ∃ (b : Bool),
      QSpec Try.prog (29 : Nat)
      [Value.agg
      #[Value.int IntKind.i64 x.ix, Value.slice a.ap x.ps.length a.cp, Value.int IntKind.i64 x.nx, Value.int IntKind.i64 x.la, Value.int IntKind.i64 x.nu,
      Value.int IntKind.i64 x.fr, Value.int IntKind.i64 x.to, Value.string x.lo, Value.string x.hi, Value.int IntKind.i64 x.cl, Value.int IntKind.i64 x.sq,
      Value.slice a.am x.ms.length a.cm]]
      { π := m.π, sz := n, uf := m.uf : M } (Value.bool b) ∧
      ifB (!b) (Done (Value.int IntKind.i64 (0 : Int) = Value.int IntKind.i64 (if rightC x = true then epochL x.ps + (1 : Int) else (0 : Int))))
      (∃ (n_1 : Int),
      QSpec Try.prog (17 : Nat) [Value.slice a.ap x.ps.length a.cp] { π := m.π, sz := n, uf := m.uf : M } (Value.int IntKind.i64 n_1) ∧
      Done (Value.int IntKind.i64 (IntKind.i64.wrap (n_1 + (1 : Int))) = Value.int IntKind.i64 (if rightC x = true then epochL x.ps + (1 : Int) else (0 : Int))))) (by kernel_rfl) ?_
  have h' := h.sz hn
  refine ⟨rfl, _, right_q x a hl hm _ h', ?_⟩
  cases hr : rightC x with
  | false => exact ifB_true ⟨rfl⟩
  | true =>
    have hlen := right_len (ric_iff.1 hr).ps
    refine ifB_false ⟨_, rg_epoch x.ps a.ap a.cp (by omega) (row_h0 h.ps) _ h'.ps, ⟨?_⟩⟩
    have h1 := epoch_le (ric_iff.1 hr).ps
    have h2 := epoch_nn x.ps 0
    have e : epochL x.ps = x.ps.foldl (fun e p => max e p.ep) 0 := rfl
    rw [if_pos rfl, show IntKind.i64.wrap (epochL x.ps + 1) = epochL x.ps + 1 by simp [IntKind.wrap_i64]; omega]

theorem chart_q (x : Ct) (a a2 : Ca) (hl : x.ps.length ≤ 9223372036854775807) (hm : x.ms.length ≤ 9223372036854775807) (m : M) (h : CtR m x a) (h2 : CtR m x a2) : QSpec Try.prog 13 [ctv x a, ctv x a2] m (.bool true) := by
  refine QSpec.of_vc Try.func13 (ann := fun _ => noAnn) fun n hn => ?_
  refine vc_by (X :=
      true = true ∧
      ifB (x.ix == x.ix)
      (∃ (b : Bool),
      QSpec Try.prog (21 : Nat) [Value.slice a.ap x.ps.length a.cp, Value.slice a2.ap x.ps.length a2.cp] { π := m.π, sz := n, uf := m.uf : M } (Value.bool b) ∧
      ifB b
      (ifB (x.nx == x.nx)
      (ifB (x.la == x.la)
      (ifB (x.nu == x.nu && (x.fr == x.fr && (x.to == x.to && (x.lo.toList == x.lo.toList && (x.hi.toList == x.hi.toList && (x.cl == x.cl && (x.sq == x.sq && true)))))))
      (∃ (b : Bool),
      QSpec Try.prog (37 : Nat) [Value.slice a.am x.ms.length a.cm, Value.slice a2.am x.ms.length a2.cm] { π := m.π, sz := n, uf := m.uf : M } (Value.bool b) ∧
      Done (Value.bool b = Value.bool true))
      (Done (Value.bool false = Value.bool true)))
      (Done (Value.bool false = Value.bool true)))
      (Done (Value.bool false = Value.bool true)))
      (Done (Value.bool false = Value.bool true)))
      (Done (Value.bool false = Value.bool true))) (by kernel_rfl) ?_
  have h' := h.sz hn
  have h2' := h2.sz hn
  have e1 := pl_plain a.ap a2.ap a.cp a2.cp x.ps x.ps hl _ h'.ps h2'.ps
  have e2 := mk_plain a.am a2.am a.cm a2.cm x.ms x.ms hm _ h'.ms h2'.ms
  rw [decide_eq_true rfl] at e1 e2
  exact ⟨rfl, ifB_true' (by simp) ⟨_, e1, ifB_true (ifB_true' (by simp) (ifB_true' (by simp) (ifB_true' (by simp) ⟨_, e2, ⟨rfl⟩⟩)))⟩⟩

theorem pawake_q (m : M) : QSpec Try.prog 10 [] m (.bool true) := by
  refine QSpec.of_vc Try.func10 (ann := fun _ => noAnn) fun n hn => ?_
  refine vc_by (X :=
      true = true ∧
      ∀ (n_1 : Nat),
      n ≤ n_1 →
      Vc.Spec Try.prog (8 : Nat) [] { π := m.π, sz := n_1, uf := m.uf : M } fun (v : Value) (m' : M) =>
      ∃ (n : Int),
      ∃ (a : Option Addr),
      ∃ (n_2 : Nat),
      ∃ (c : Nat),
      ∃ (n_3 : Int),
      ∃ (n_4 : Int),
      ∃ (n_5 : Int),
      ∃ (n_6 : Int),
      ∃ (n_7 : Int),
      ∃ (s : ByteArray),
      ∃ (s_1 : ByteArray),
      ∃ (n_8 : Int),
      ∃ (n_9 : Int),
      ∃ (a_1 : Option Addr),
      ∃ (n_10 : Nat),
      ∃ (c_1 : Nat),
      v =
      Value.agg
      #[Value.int IntKind.i64 n, Value.slice a n_2 c, Value.int IntKind.i64 n_3, Value.int IntKind.i64 n_4, Value.int IntKind.i64 n_5,
      Value.int IntKind.i64 n_6, Value.int IntKind.i64 n_7, Value.string s, Value.string s_1, Value.int IntKind.i64 n_8,
      Value.int IntKind.i64 n_9, Value.slice a_1 n_10 c_1] ∧
      ifB ((↑n_2 : Int) == (1 : Int))
      (ifB (n_3 == (2 : Int))
      (∃ (n : Int),
      QSpec Try.prog (15 : Nat)
      [Value.agg
      #[Value.int IntKind.i64 (0 : Int), Value.slice none (0 : Nat) (0 : Nat), Value.int IntKind.i64 (0 : Int),
      Value.int IntKind.i64 (0 : Int), Value.int IntKind.i64 (0 : Int), Value.int IntKind.i64 (0 : Int),
      Value.int IntKind.i64 (0 : Int), Value.string { data := #[] : ByteArray }, Value.string { data := #[] : ByteArray },
      Value.int IntKind.i64 (0 : Int), Value.int IntKind.i64 (0 : Int), Value.slice none (0 : Nat) (0 : Nat)]]
      m' (Value.int IntKind.i64 n) ∧
      Done (Value.bool (n == (21 : Int)) = Value.bool true))
      (Done (Value.bool false = Value.bool true)))
      (Done (Value.bool false = Value.bool true))) (by kernel_rfl) ?_
  refine ⟨rfl, fun n1 h1 => (new_s _).mono fun v m' hag ⟨a', hv, hr⟩ => ⟨_, _, _, _, _, _, _, _, _, _, _, _, _, _, _, _, hv, ifB_true' (by simp [newC]) (ifB_true' (by simp [newC]) ⟨_, check_q c0 a0 (by decide) (by decide) _ ⟨.nil _, .nil _⟩, ⟨?_⟩⟩)⟩⟩
  have e : rightC c0 = false := by
    cases h : rightC c0 with
    | false => rfl
    | true => exact absurd (ric_iff.1 h).nx0 (by decide)
  rw [e]; rfl

end Go.Proofs.Ytjjfcaigonomiaa
set_option linter.unusedVariables false
set_option linter.unusedSimpArgs false
namespace Go.Proofs.Ytjjfcaigonomiaa
open Go.Vc Go.RowKit Go.ChangeShapes Go.WideShapes Go.ChangeAt
set_option maxRecDepth 100000

abbrev encBt (n : Int) : List Value := [.int .u8 n]
abbrev bts (l : List Int) : List Value := l.flatMap encBt
theorem bt_k (x : Int) : (encBt x).length = 1 := rfl
theorem bt_len (l : List Int) : (bts l).length = l.length := by rw [flat_len bt_k]; omega
theorem bt_len1 (l : List Int) : (bts l).length = l.length * 1 := by rw [bt_len]; omega
theorem bt_at {m : M} {b o i : Nat} {l : List Int} (h : CellsAt m b o (bts l)) (hi : i < l.length) : CellsAt m b (o + i) (encBt l[i]) := by have := CellsAt.elem bt_k l o i hi h; rw [Nat.mul_one] at this; exact this
theorem bt_one (l : List Int) : oneCells (bts l) = true := by
  rw [oneCells_iff]; intro v hv
  obtain ⟨w, -, hw⟩ := List.mem_flatMap.1 hv
  exact oneCells_iff.1 (rfl : oneCells (encBt w) = true) v hw

theorem bt_zr (k : Nat) : (zeroRow Try.prog 5 k).length = k * 1 := zrLen (by kernel_rfl) k

theorem bt_plain (a a2 : Option Addr) (c c2 : Nat) (l : List Int) (hn1 : l.length ≤ 9223372036854775807) (m : M) (h : Row m a (bts l)) (h2 : Row m a2 (bts l)) :
    QSpec Try.prog 76 [.slice a l.length c, .slice a2 l.length c2] m (.bool true) := by
  refine QSpec.of_vc Try.func76 (ann := fun n _ => { A := Nat, inv := fun k => k ≤ l.length, st := fun k => [(5, .val (I k)), (0, .val (.slice a l.length c)), (1, .val (.slice a2 l.length c2))], own := fun _ => [], m := fun _ => { m with sz := n }, μ := fun k => (l.length - k) }) fun n hn => ?_
  refine vc_by (X :=
      true = true ∧
      ifB ((↑l.length : Int) != (↑l.length : Int)) (Done (Value.bool false = Value.bool true))
      ((∃ (a_1 : Nat),
      a_1 ≤ l.length ∧
      { π := m.π, sz := n, uf := m.uf : M } = { π := m.π, sz := n, uf := m.uf : M } ∧
      ((SV.val (Value.int IntKind.i64 (0 : Int)) = SV.val (Value.int IntKind.i64 (↑a_1 : Int)) ∧ true = true) ∧
      (SV.val (Value.slice a l.length c) = SV.val (Value.slice a l.length c) ∧ true = true) ∧
      (SV.val (Value.slice a2 l.length c2) = SV.val (Value.slice a2 l.length c2) ∧ true = true) ∧ True) ∧
      True) ∧
      ∀ (a_1 : Nat),
      a_1 ≤ l.length →
      ifB (decide ((↑a_1 : Int) < (↑l.length : Int)))
      (true = true ∧
      ∃ (b : Nat),
      ∃ (off : Nat),
      a = some { block := b, off := off : Addr } ∧
      ((0 : Int) ≤ (↑a_1 : Int) ∧ (↑a_1 : Int) < (↑l.length : Int)) ∧
      ∃ (n_1 : Int),
      CellsAt { π := m.π, sz := n, uf := m.uf : M } b (off + (↑a_1 : Int).toNat * (1 : Nat)) [Value.int IntKind.u8 n_1] ∧
      ∃ (b : Nat),
      ∃ (off : Nat),
      a2 = some { block := b, off := off : Addr } ∧
      ((0 : Int) ≤ (↑a_1 : Int) ∧ (↑a_1 : Int) < (↑l.length : Int)) ∧
      ∃ (n_2 : Int),
      CellsAt { π := m.π, sz := n, uf := m.uf : M } b (off + (↑a_1 : Int).toNat * (1 : Nat)) [Value.int IntKind.u8 n_2] ∧
      ifB (n_1 != n_2) (Done (Value.bool false = Value.bool true))
      (∃ (a' : Nat),
      (a' ≤ l.length ∧
      { π := m.π, sz := n, uf := m.uf : M } = { π := m.π, sz := n, uf := m.uf : M } ∧
      ((SV.val (Value.int IntKind.i64 (IntKind.i64.wrap ((↑a_1 : Int) + (1 : Int)))) = SV.val (Value.int IntKind.i64 (↑a' : Int)) ∧
      true = true) ∧
      (SV.val (Value.slice a l.length c) = SV.val (Value.slice a l.length c) ∧ true = true) ∧
      (SV.val (Value.slice a2 l.length c2) = SV.val (Value.slice a2 l.length c2) ∧ true = true) ∧ True) ∧
      True) ∧
      l.length - a' < l.length - a_1))
      (Done (Value.bool true = Value.bool true)))) (by kernel_rfl) ?_
  have h' := h.sz hn
  have h2' := h2.sz hn
  refine ⟨rfl, ifB_false' (by simp) ⟨⟨0, by simp⟩, fun k hk => ifB_intro (fun hb2 => ?_) (fun hb2 => ⟨rfl⟩)⟩⟩
  have hk2 : k < l.length := by simpa using hb2
  obtain ⟨b, o, rfl, hc⟩ := h'.cells (by rw [bt_len]; omega)
  obtain ⟨b2, o2, rfl, hc2⟩ := h2'.cells (by rw [bt_len]; omega)
  have w1 : IntKind.i64.wrap ((k : Int) + 1) = ((k + 1 : Nat) : Int) := by simp [IntKind.wrap_i64]; omega
  have e : ∀ o : Nat, o + ((k : Int)).toNat * 1 = o + k := fun o => by simp
  exact ⟨rfl, b, o, rfl, by omega, _, by rw [e]; exact bt_at hc hk2, b2, o2, rfl, by omega, _, by rw [e]; exact bt_at hc2 hk2, ifB_false' (by simp) ⟨k + 1, ⟨hk2, rfl, by rw [w1]; simp, trivial⟩, by omega⟩⟩

theorem bytes_q (a a2 : Option Addr) (c c2 : Nat) (l : List Int) (hn1 : l.length ≤ 9223372036854775807) (m : M) (h : Row m a (bts l)) (h2 : Row m a2 (bts l)) :
    QSpec Try.prog 46 [.slice a l.length c, .slice a2 l.length c2] m (.bool true) := by
  refine QSpec.of_vc Try.func46 (ann := fun _ => noAnn) fun n hn => ?_
  refine vc_by (X :=
      true = true ∧
      ∃ (b : Bool),
      QSpec Try.prog (76 : Nat) [Value.slice a l.length c, Value.slice a2 l.length c2] { π := m.π, sz := n, uf := m.uf : M } (Value.bool b) ∧ Done (Value.bool b = Value.bool true)) (by kernel_rfl) ?_
  exact ⟨rfl, _, bt_plain a a2 c c2 l hn1 _ (h.sz hn) (h2.sz hn), ⟨rfl⟩⟩

theorem command_q (x : Cd) (a a2 : Option Addr) (c c2 : Nat) (l : List Int) (hn1 : l.length ≤ 9223372036854775807) (m : M) (h : Row m a (bts l)) (h2 : Row m a2 (bts l)) : QSpec Try.prog 26 [cdv x a l.length c, cdv x a2 l.length c2] m (.bool true) := by
  refine QSpec.of_vc Try.func26 (ann := fun _ => noAnn) fun n hn => ?_
  refine vc_by (X :=
      true = true ∧
      ifB (x.kd == x.kd)
      (ifB (x.cl == x.cl)
      (ifB (x.sq == x.sq)
      (ifB (x.ep == x.ep)
      (ifB (x.nd == x.nd)
      (ifB (x.hm == x.hm)
      (ifB (x.ky.toList == x.ky.toList)
      (ifB (x.le == x.le)
      (ifB (x.rn == x.rn)
      (ifB (x.ne == x.ne)
      (ifB (x.ys == x.ys)
      (ifB
      (x.op_kd == x.op_kd &&
      (x.op_ky.toList == x.op_ky.toList && (x.op_ot.toList == x.op_ot.toList && (x.op_n == x.op_n && (x.op_lo == x.op_lo && (x.op_hi == x.op_hi && true))))))
      (ifB
      (x.pl_nu == x.pl_nu &&
      (x.pl_fr == x.pl_fr &&
      (x.pl_to == x.pl_to &&
      (x.pl_lo.toList == x.pl_lo.toList && (x.pl_hi.toList == x.pl_hi.toList && (x.pl_cl == x.pl_cl && (x.pl_sq == x.pl_sq && true)))))))
      (∃ (b : Bool),
      QSpec Try.prog (46 : Nat) [Value.slice a l.length c, Value.slice a2 l.length c2] { π := m.π, sz := n, uf := m.uf : M } (Value.bool b) ∧
      Done (Value.bool b = Value.bool true))
      (Done (Value.bool false = Value.bool true)))
      (Done (Value.bool false = Value.bool true)))
      (Done (Value.bool false = Value.bool true)))
      (Done (Value.bool false = Value.bool true)))
      (Done (Value.bool false = Value.bool true)))
      (Done (Value.bool false = Value.bool true)))
      (Done (Value.bool false = Value.bool true)))
      (Done (Value.bool false = Value.bool true)))
      (Done (Value.bool false = Value.bool true)))
      (Done (Value.bool false = Value.bool true)))
      (Done (Value.bool false = Value.bool true)))
      (Done (Value.bool false = Value.bool true)))
      (Done (Value.bool false = Value.bool true))) (by kernel_rfl) ?_
  simp only [bne_self_eq_false, beq_self_eq_true, Bool.not_true, Bool.not_false, Bool.and_self, Bool.and_true, decide_true]
  exact ⟨trivial, ifB_true (ifB_true (ifB_true (ifB_true (ifB_true (ifB_true (ifB_true (ifB_true (ifB_true (ifB_true (ifB_true (ifB_true (ifB_true ⟨_, bytes_q a a2 c c2 l hn1 _ (h.sz hn) (h2.sz hn), ⟨rfl⟩⟩))))))))))))⟩

theorem ccopy_s (x : Cd) (a : Option Addr) (c : Nat) (l : List Int) (hn1 : l.length ≤ 140737488351232) (m : M) (h : Row m a (bts l)) : Vc.Spec Try.prog 23 [cdv x a l.length c] m fun v m' => ∃ a' c', v = cdv x a' l.length c' ∧ Row m' a' (bts l) := by
  refine Vc.Spec.of_vc Try.func23 (ann := noAnn) ?_
  refine vc_by (X :=
      true = true ∧
      ∃ (old : List Value),
      ∃ (src : List Value),
      AppPre m.sz (fun (x : Nat) => False) m (1 : Nat) (1 : Nat) none (0 : Nat) (0 : Nat) a l.length old src ∧
      ∀ (a' : Option Addr) (c' : Nat) (m' : M),
      AppPost Try.prog (5 : Nat) m (1 : Nat) none (0 : Nat) (0 : Nat) l.length old src a' c' m' →
      Done
      (∃ (a'_1 : Option Addr),
      ∃ (c'_1 : Nat),
      Value.agg
      #[Value.int IntKind.i64 x.kd, Value.int IntKind.i64 x.cl, Value.int IntKind.i64 x.sq, Value.int IntKind.i64 x.ep, Value.int IntKind.i64 x.nd,
      Value.int IntKind.i64 x.hm, Value.string x.ky, Value.int IntKind.i64 x.le, Value.int IntKind.i64 x.rn, Value.int IntKind.i64 x.ne, Value.bool x.ys,
      Value.int IntKind.i64 x.op_kd, Value.string x.op_ky, Value.string x.op_ot, Value.int IntKind.i64 x.op_n, Value.int IntKind.i64 x.op_lo,
      Value.int IntKind.i64 x.op_hi, Value.int IntKind.i64 x.pl_nu, Value.int IntKind.i64 x.pl_fr, Value.int IntKind.i64 x.pl_to, Value.string x.pl_lo,
      Value.string x.pl_hi, Value.int IntKind.i64 x.pl_cl, Value.int IntKind.i64 x.pl_sq, Value.slice a' ((0 : Nat) + l.length) c'] =
      Value.agg
      #[Value.int IntKind.i64 x.kd, Value.int IntKind.i64 x.cl, Value.int IntKind.i64 x.sq, Value.int IntKind.i64 x.ep, Value.int IntKind.i64 x.nd,
      Value.int IntKind.i64 x.hm, Value.string x.ky, Value.int IntKind.i64 x.le, Value.int IntKind.i64 x.rn, Value.int IntKind.i64 x.ne, Value.bool x.ys,
      Value.int IntKind.i64 x.op_kd, Value.string x.op_ky, Value.string x.op_ot, Value.int IntKind.i64 x.op_n, Value.int IntKind.i64 x.op_lo,
      Value.int IntKind.i64 x.op_hi, Value.int IntKind.i64 x.pl_nu, Value.int IntKind.i64 x.pl_fr, Value.int IntKind.i64 x.pl_to, Value.string x.pl_lo,
      Value.string x.pl_hi, Value.int IntKind.i64 x.pl_cl, Value.int IntKind.i64 x.pl_sq, Value.slice a'_1 l.length c'_1] ∧
      Row m' a'_1 (bts l))) (by kernel_rfl) ?_
  have o1 : NewR m.sz (fun _ => False) m 1 none 0 0 [] := .nil _
  refine ⟨rfl, _, _, o1.appPre h (bt_len1 _) (bt_one _) (by omega), fun a1 c1 m1 hp1 => ⟨⟨a1, c1, ?_, ?_⟩⟩⟩
  · simp only [Nat.zero_add]
  · have := (o1.append hp1 (bt_len1 _) bt_zr (Nat.le_refl _)).row
    simpa using this

theorem cells_ct : Try.prog.cellsOf 28 = 12 := by kernel_rfl
theorem cells_cd : Try.prog.cellsOf 39 = 25 := by kernel_rfl

/-- cells that are read as a chart -/
theorem rd_ct {m : M} {N d : Nat} {cs : List Value} (h : Rd Try.prog m N (d + 5) 28 cs) (hN : N ≤ 9223372036854775807) :
    ∃ (x : Ct) (a : Ca), cs = encCt x a ∧ x.wf ∧ x.ps.length ≤ N ∧ x.ms.length ≤ N ∧ CtR m x a := by
  have k1 := (by kernel_rfl : Try.prog.cellsOf 3 = 1)
  have k2 := (by kernel_rfl : Try.prog.cellsOf 9 = 1)
  have k3 := (by kernel_rfl : Try.prog.cellsOf 23 = 1)
  have k4 := (by kernel_rfl : Try.prog.cellsOf 26 = 1)
  have k5 := (by kernel_rfl : Try.prog.cellsOf 25 = 7)
  rw [Rd] at h
  simp only [Try.underlying28, fieldsD, cells_ct, k1, k2, k3, k4, k5] at h
  obtain ⟨hl, q1, q2, q3, q4, q5, q6, -⟩ := h
  simp only [Rd, Try.underlying3] at q1 q3 q4
  rw [Rd] at q2 q5 q6
  simp only [Try.underlying23] at q2
  simp only [Try.underlying26] at q6
  simp only [Rd, Try.underlying25, Try.underlying3, Try.underlying9, fieldsD, k1, k2, k5] at q5
  obtain ⟨ix, e1, w1⟩ := q1
  obtain ⟨ap, cp, r1, e2, l2, b2, -, g2, f2⟩ := q2
  obtain ⟨nx, e3, w3⟩ := q3
  obtain ⟨la, e4, w4⟩ := q4
  obtain ⟨-, ⟨nu, e5, w5⟩, ⟨fr, e6, w6⟩, ⟨to, e7, w7⟩, ⟨lo, e8, w8⟩, ⟨hi, e9, w9⟩, ⟨cl, e10, w10⟩, ⟨sq, e11, w11⟩, -⟩ := q5
  obtain ⟨am, cm, r2, e12, l12, b12, -, g12, f12⟩ := q6
  obtain ⟨ps, hz, he, hw⟩ := rows_list (α := Pl) (e := encPl) (p := Pl.wf) r1 fun r hr => pl_rd (g2 r hr).2 hN
  obtain ⟨ms, hz2, he2, hw2⟩ := rows_list (α := Mk) (e := encMk) (p := Mk.wf) r2 fun r hr => mk_rd (g12 r hr).2 hN
  obtain ⟨c1, c2, c3, c4, c5, c6, c7, c8, c9, c10, c11, c12, rfl⟩ : ∃ c1 c2 c3 c4 c5 c6 c7 c8 c9 c10 c11 c12, cs = [c1, c2, c3, c4, c5, c6, c7, c8, c9, c10, c11, c12] := by
    match cs, hl with
    | [c1, c2, c3, c4, c5, c6, c7, c8, c9, c10, c11, c12], _ => exact ⟨_, _, _, _, _, _, _, _, _, _, _, _, rfl⟩
  simp at e1 e2 e3 e4 e5 e6 e7 e8 e9 e10 e11 e12
  subst e1 e2 e3 e4 e5 e6 e7 e8 e9 e10 e11 e12
  have hN1 : ps.length ≤ N := by simp only [hz]; omega
  have hN2 : ms.length ≤ N := by simp only [hz2]; omega
  rw [he] at f2
  rw [he2] at f12
  exact ⟨⟨ix, ps, nx, la, nu, fr, to, lo, hi, cl, sq, ms⟩, ⟨ap, cp, am, cm⟩, by simp [encCt, hz, hz2], ⟨in64_of w1, in64_of w3, in64_of w4, in64_of w5, in64_of w6, in64_of w7, in64_of w10, in64_of w11, Nat.le_trans w8 hN, Nat.le_trans w9 hN, Nat.le_trans hN1 hN, hw, Nat.le_trans hN2 hN⟩, hN1, hN2, ⟨f2, f12⟩⟩

/-- a command where its image stands -/
structure Cx where
  c : Cd
  l : List Int
  a : Option Addr
  k : Nat

abbrev encCx (y : Cx) : List Value := encCd y.c y.a y.l.length y.k
abbrev cxv (y : Cx) : Value := cdv y.c y.a y.l.length y.k

/-- cells that are read as a command -/
theorem rd_cx {m : M} {N d : Nat} {cs : List Value} (h : Rd Try.prog m N (d + 4) 39 cs) (hN : N ≤ 9223372036854775807) :
    ∃ y : Cx, cs = encCx y ∧ y.c.wf ∧ y.l.length ≤ N ∧ Row m y.a (bts y.l) := by
  have k1 := (by kernel_rfl : Try.prog.cellsOf 3 = 1)
  have k2 := (by kernel_rfl : Try.prog.cellsOf 9 = 1)
  have k3 := (by kernel_rfl : Try.prog.cellsOf 4 = 1)
  have k4 := (by kernel_rfl : Try.prog.cellsOf 37 = 1)
  have k5 := (by kernel_rfl : Try.prog.cellsOf 25 = 7)
  have k6 := (by kernel_rfl : Try.prog.cellsOf 36 = 6)
  have k7 := (by kernel_rfl : Try.prog.cellsOf 5 = 1)
  rw [Rd] at h
  simp only [Try.underlying39, fieldsD, cells_cd, k1, k2, k3, k4, k5, k6] at h
  obtain ⟨hl, q1, q2, q3, q4, q5, q6, q7, q8, q9, q10, q11, q12, q13, q14, -⟩ := h
  simp only [Rd, Try.underlying3, Try.underlying9, Try.underlying4] at q1 q2 q3 q4 q5 q6 q7 q8 q9 q10 q11
  simp only [Rd, Try.underlying37, Try.underlying5, k7] at q14
  simp only [Rd, Try.underlying25, Try.underlying36, Try.underlying3, Try.underlying9, fieldsD, k1, k2, k5, k6] at q12 q13
  obtain ⟨n1, e1, w1⟩ := q1
  obtain ⟨n2, e2, w2⟩ := q2
  obtain ⟨n3, e3, w3⟩ := q3
  obtain ⟨n4, e4, w4⟩ := q4
  obtain ⟨n5, e5, w5⟩ := q5
  obtain ⟨n6, e6, w6⟩ := q6
  obtain ⟨n7, e7, w7⟩ := q7
  obtain ⟨n8, e8, w8⟩ := q8
  obtain ⟨n9, e9, w9⟩ := q9
  obtain ⟨n10, e10, w10⟩ := q10
  obtain ⟨n11, e11⟩ := q11
  obtain ⟨-, ⟨o1, d1, v1⟩, ⟨o2, d2, v2⟩, ⟨o3, d3, v3⟩, ⟨o4, d4, v4⟩, ⟨o5, d5, v5⟩, ⟨o6, d6, v6⟩, -⟩ := q12
  obtain ⟨-, ⟨p1, f1, u1⟩, ⟨p2, f2, u2⟩, ⟨p3, f3, u3⟩, ⟨p4, f4, u4⟩, ⟨p5, f5, u5⟩, ⟨p6, f6, u6⟩, ⟨p7, f7, u7⟩, -⟩ := q13
  obtain ⟨a, k, rows, e14, l14, b14, -, g14, f14⟩ := q14
  obtain ⟨l, hz, he, -⟩ := rows_list (α := Int) (e := encBt) (p := fun _ => True) rows fun r hr => by
    obtain ⟨n, hn, -⟩ := (g14 r hr).2
    exact ⟨n, hn, trivial⟩
  obtain ⟨c1, c2, c3, c4, c5, c6, c7, c8, c9, c10, c11, c12, c13, c14, c15, c16, c17, c18, c19, c20, c21, c22, c23, c24, c25, rfl⟩ : ∃ c1 c2 c3 c4 c5 c6 c7 c8 c9 c10 c11 c12 c13 c14 c15 c16 c17 c18 c19 c20 c21 c22 c23 c24 c25, cs = [c1, c2, c3, c4, c5, c6, c7, c8, c9, c10, c11, c12, c13, c14, c15, c16, c17, c18, c19, c20, c21, c22, c23, c24, c25] := by
    match cs, hl with
    | [c1, c2, c3, c4, c5, c6, c7, c8, c9, c10, c11, c12, c13, c14, c15, c16, c17, c18, c19, c20, c21, c22, c23, c24, c25], _ => exact ⟨_, _, _, _, _, _, _, _, _, _, _, _, _, _, _, _, _, _, _, _, _, _, _, _, _, rfl⟩
  simp at e1 e2 e3 e4 e5 e6 e7 e8 e9 e10 e11 d1 d2 d3 d4 d5 d6 f1 f2 f3 f4 f5 f6 f7 e14
  subst e1 e2 e3 e4 e5 e6 e7 e8 e9 e10 e11 d1 d2 d3 d4 d5 d6 f1 f2 f3 f4 f5 f6 f7 e14
  rw [he] at f14
  have q := fun {n : Int} (h : IntKind.min .i64 ≤ n ∧ n ≤ IntKind.max .i64) => in64_of h
  exact ⟨⟨⟨n1, n2, n3, n4, n5, n6, n7, n8, n9, n10, n11, o1, o2, o3, o4, o5, o6, p1, p2, p3, p4, p5, p6, p7⟩, l, a, k⟩, by simp [encCx, hz], ⟨q w1, q w2, q w3, q w4, q w5, q w6, Nat.le_trans w7 hN, q w8, q w9, q w10, q v1, Nat.le_trans v2 hN, Nat.le_trans v3 hN, q v4, q v5, q v6, q u1, q u2, q u3, Nat.le_trans u4 hN, Nat.le_trans u5 hN, q u6, q u7⟩, by simp only [hz]; omega, f14⟩

variable {H : Type} {enc : TypeId × Value → H} {W : World} {r : Reach} {b0 : Nat} {v : Value} {d : DataW H} {p : List MemPlace} {N : Nat} {Bd : DataW H → Prop}

theorem open_ct (B : Bound N Bd) (hN : N ≤ 9223372036854775807) (hv : Value.okWide Try.prog W r b0 28 v) (h : DataW.Trod enc Try.prog W 0 (fun _ => true) true 28 v d p) (hb : Bd d) :
    ∃ (x : Ct) (a : Ca), v = ctv x a ∧ x.wf ∧ x.ps.length ≤ N ∧ x.ms.length ≤ N ∧ CtR (M.all W) x a := by
  obtain ⟨cs, rfl, hl⟩ := open_agg Try.underlying28 cells_ct hv
  obtain ⟨fuel, hf⟩ := h
  have hr := rd_of_trod B 5 fuel 28 _ _ hf hb
  simp only [Value.cells] at hr
  obtain ⟨x, a, he, hw⟩ := rd_ct (d := 0) hr hN
  exact ⟨x, a, by rw [show cs = encCt x a from he], hw⟩

theorem open_cx (B : Bound N Bd) (hN : N ≤ 9223372036854775807) (hv : Value.okWide Try.prog W r b0 39 v) (h : DataW.Trod enc Try.prog W 0 (fun _ => true) true 39 v d p) (hb : Bd d) :
    ∃ y : Cx, v = cxv y ∧ y.c.wf ∧ y.l.length ≤ N ∧ Row (M.all W) y.a (bts y.l) := by
  obtain ⟨cs, rfl, hl⟩ := open_agg Try.underlying39 cells_cd hv
  obtain ⟨fuel, hf⟩ := h
  have hr := rd_of_trod B 4 fuel 39 _ _ hf hb
  simp only [Value.cells] at hr
  obtain ⟨y, he, hw⟩ := rd_cx (d := 0) hr hN
  exact ⟨y, by rw [show cs = encCx y from he], hw⟩

abbrev cxs (l : List Cx) : List Value := l.flatMap encCx
theorem cx_k (y : Cx) : (encCx y).length = 25 := rfl
theorem cxs_len (l : List Cx) : (cxs l).length = l.length * 25 := flat_len cx_k l
theorem cx_at {m : M} {b o i : Nat} {l : List Cx} (h : CellsAt m b o (cxs l)) (hi : i < l.length) : CellsAt m b (o + i * 25) (encCx l[i]) := CellsAt.elem cx_k l o i hi h

theorem open_cxs (B : Bound N Bd) (hN : N ≤ 9223372036854775807) (hv : Value.okWide Try.prog W r b0 22 v) (h : DataW.Trod enc Try.prog W 0 (fun _ => true) true 22 v d p) (hb : Bd d) :
    ∃ (a : Option Addr) (c : Nat) (z : List Cx), v = .slice a z.length c ∧ z.length ≤ N ∧ (∀ y ∈ z, y.c.wf) ∧ (a = none → z = []) ∧ Row (M.all W) a (cxs z) := by
  obtain ⟨a, len, cap, rfl⟩ := okWide_slice Try.underlying22 hv
  obtain ⟨fuel, hf⟩ := h
  have hr := rd_of_trod B 5 fuel 22 _ _ hf hb
  rw [Rd] at hr
  simp only [Try.underlying22] at hr
  obtain ⟨a', cap', rows, hcs, h1, h2, h3, h4, h5⟩ := hr
  obtain ⟨z, hz, he, hi⟩ := rows_list (α := Cx) (e := encCx) (p := fun y => y.c.wf) rows fun r hr => by
    obtain ⟨y, he, hw, -⟩ := rd_cx (d := 0) (h4 r hr).2 hN
    exact ⟨y, he, hw⟩
  simp [Value.cells] at hcs
  obtain ⟨rfl, rfl, rfl⟩ := hcs
  rw [he] at h5
  exact ⟨a, cap, z, by rw [hz], by omega, hi, fun e => List.eq_nil_of_length_eq_zero (by have := h3 e; omega), h5⟩

end Go.Proofs.Ytjjfcaigonomiaa
set_option linter.unusedVariables false
set_option linter.unusedSimpArgs false
namespace Go.Proofs.Ytjjfcaigonomiaa
open Go.Vc Go.RowKit
set_option maxRecDepth 100000

theorem ofI_is {l : List Pl} (hr : rightB l = true) {k : Nat} {p : Pl} (h : l[k]? = some p) : ofI l p.gr = k := by
  obtain ⟨-, -, h3⟩ := right_iff.1 hr
  obtain ⟨hk, e⟩ := List.getElem?_eq_some_iff.1 h
  exact ofI_at hk (by rw [e]) fun j hj hjk => by
    have := (pw_lt h3 hjk (List.getElem?_eq_getElem hj) h).1
    exact this

theorem ofI_none {l : List Pl} {g : Int} (h : ∀ p ∈ l, p.gr ≠ g) : ofI l g = l.length := ofI_no fun j hj _ => h _ (List.getElem_mem hj)

theorem ofI_mem {l : List Pl} {g : Int} (h : ∃ p ∈ l, p.gr = g) : ofI l g < l.length := List.findIdx_lt_length_of_exists (by obtain ⟨p, h1, h2⟩ := h; exact ⟨p, h1, by simpa using h2⟩)

theorem ofI_get {l : List Pl} {g : Int} (h : ofI l g < l.length) : l[ofI l g].gr = g := by
  have := List.findIdx_getElem (w := h)
  exact of_decide_eq_true this

theorem no_of {l : List Pl} {g : Int} (h : ¬ ofI l g < l.length) : ∀ p ∈ l, p.gr ≠ g := fun p hp e => h (ofI_mem ⟨p, hp, e⟩)

theorem plAt_some {l : List Pl} {k : Nat} (h : k < l.length) : l[k]? = some (plAt l k) := by unfold plAt; rw [List.getElem?_eq_getElem h]; rfl

theorem epM_spec : ∀ (l : List Pl) (e : Int), (∀ x ∈ l, x.ep ≤ l.foldl (fun e p => max e p.ep) e) ∧ e ≤ l.foldl (fun e p => max e p.ep) e
  | [], e => by simp
  | x :: xs, e => by
    obtain ⟨h1, h2⟩ := epM_spec xs (max e x.ep)
    refine ⟨fun y hy => ?_, ?_⟩
    · rcases List.mem_cons.1 hy with rfl | hy
      · simp only [List.foldl_cons]; omega
      · simpa using h1 y hy
    · simp only [List.foldl_cons]; omega

theorem epM_ge {l : List Pl} {x : Pl} (h : x ∈ l) : x.ep ≤ epochL l := (epM_spec l 0).1 x h

/-- other marks -/
theorem RiC.marks {x : Ct} (h : RiC x) {l : List Mk} (ht : tabB 0 l = true) : RiC { x with ms := l } := ⟨h.ix0, h.ix1, h.la0, h.la1, h.nx0, h.nx1, h.ps, ht, h.gr, h.pn⟩

theorem RiC.done {x : Ct} (h : RiC x) (cl sq er : Int) : RiC (doneE x cl sq er).1 := by
  by_cases h0 : openE x.ms cl sq = 0
  · obtain ⟨k1, k2⟩ := edM_ok (an := ⟨er, 0, 0, 0⟩) h0
    have e : (doneE x cl sq er).1 = { x with ms := insM x.ms (edM cl sq ⟨er, 0, 0, 0⟩) } := by simp [doneE, endM, h0]
    rw [e]
    exact h.marks (ins_tab k1 k2 h.ms)
  · have e : (doneE x cl sq er).1 = x := by simp [doneE, endM, h0]
    rw [e]; exact h

theorem begin_tab {l : List Mk} {c s : Int} (ht : tabB 0 l = true) (h0 : (beginM l c s).2.2 = 0) : tabB 0 (beginM l c s).1 = true := by
  rcases begin_cases l c s with ⟨-, h, -⟩ | ⟨h1, h2, h3, h4⟩
  · rw [(h h0).1]; exact ht
  · rw [h3]; exact (fresh_of h1 h2 h4).btab

/-- the plan that a wish starts is right -/
theorem begP_ric {x : Ct} {c : Cd} (h : RiC x) (ha : argB c.cl c.sq = true) (hk : keyB c.op_ky = true) (hz : RefZ x c.op_kd c.op_ky) : RiC (begP x c) := by
  have hf := findL_len c.op_ky (right_pos h.ps)
  have hla0 := h.la0
  have hla := hz.la
  have hk' : 1 ≤ c.op_ky.size ∧ c.op_ky.size ≤ 16 := by simpa [keyB] using hk
  unfold begP
  by_cases e : c.op_kd = 7
  · simp only [if_pos e]
    have hnx := hz.nx e
    have hnx0 := h.nx0
    refine ⟨h.ix0, h.ix1, by simp only; omega, by simp only; omega, by simp only; omega, by simp only; omega, h.ps, h.ms, fun p hp => by have := h.gr p hp; simp only; omega, .inr (goc_iff.2 ⟨rfl, by simp only; omega, ha, hz.ep, .inl (spl_iff.2 ⟨?_, ?_, hnx.2, hk'.1, hk'.2, rfl, fun e2 => hz.fr e e2.symm, rfl⟩)⟩)⟩
    · simp only
      rw [ofI_none fun p hp e2 => by have := h.gr p hp; omega]
      omega
    · simp only; omega
  · simp only [if_neg e]
    have hn := hz.nxt e
    have ei : ofI x.ps (plAt x.ps (fnd x.ps c.op_ky)).gr = fnd x.ps c.op_ky := ofI_is h.ps (plAt_some hf)
    refine ⟨h.ix0, h.ix1, by simp only; omega, by simp only; omega, h.nx0, h.nx1, h.ps, h.ms, h.gr, .inr (goc_iff.2 ⟨rfl, by simp only; omega, ha, hz.ep, .inr (mrg_iff.2 ⟨?_, ?_, ?_, ?_, ?_⟩)⟩)⟩
    all_goals simp only [ei]
    · exact hf
    · exact hn

theorem start_ric {x : Ct} (h : RiC x) (c : Cd) : RiC (startE x c).1 := by
  unfold startE
  split
  · exact h
  rename_i h1
  split
  · exact h
  rename_i h2
  split
  · simp only
    split
    · exact h
    · exact h
  rename_i h3
  have hy : RiC { x with ms := (beginM x.ms c.cl c.sq).1 } := h.marks (begin_tab h.ms (by omega))
  simp only
  split
  · exact hy.done _ _ _
  · rename_i h4
    have h1 : argB c.cl c.sq = true ∧ (decide (c.op_kd = 7) || decide (c.op_kd = 8)) = true ∧ keyB c.op_ky = true := by simpa using h1
    exact begP_ric hy h1.1 h1.2.2 (refE_zero.1 (by omega))

theorem noPl_clr (x : Ct) : noPl (clrP x) = true := by simp [noPl, clrP, emptyB]

theorem clr_ric {x : Ct} (h : RiC x) : RiC (clrP x) := ⟨h.ix0, h.ix1, h.la0, h.la1, h.nx0, h.nx1, h.ps, h.ms, h.gr, .inl (noPl_clr x)⟩

theorem mem_shift {x : Ct} (h : RiC x) (hg : GoC x) {p : Pl} (hp : p ∈ shiftL x) : p ∈ x.ps ∨ (p.ep = epochL x.ps + 1 ∧ ((∃ q ∈ x.ps, q.gr = p.gr) ∨ p.gr = x.to ∧ x.to = x.nx - 1)) := by
  unfold shiftL at hp
  cases hh : hasG x.ps x.to with
  | true =>
    have F := hg.mrg hh
    rw [if_pos hh, del_form F.yes] at hp
    rcases List.mem_append.1 hp with hp | hp
    · exact .inl (List.mem_of_mem_take hp)
    · rcases List.mem_cons.1 hp with rfl | hp
      · exact .inr ⟨rfl, .inl ⟨_, List.getElem_mem F.yes, rfl⟩⟩
      · exact .inl (List.mem_of_mem_drop hp)
  | false =>
    have F := hg.spl hh
    have hf : fnd x.ps x.lo < x.ps.length := findL_len x.lo (right_pos h.ps)
    rw [if_neg (by simp [hh]), ins_form hf] at hp
    rcases List.mem_append.1 hp with hp | hp
    · exact .inl (List.mem_of_mem_take hp)
    · rcases List.mem_cons.1 hp with rfl | hp
      · exact .inr ⟨rfl, .inl ⟨_, List.getElem_mem hf, rfl⟩⟩
      · rcases List.mem_cons.1 hp with rfl | hp
        · exact .inr ⟨rfl, .inr ⟨rfl, F.to⟩⟩
        · exact .inl (List.mem_of_mem_drop hp)

theorem shift_right {x : Ct} (h : RiC x) (hg : GoC x) : rightB (shiftL x) = true := by
  unfold shiftL
  have he0 := epoch_nn x.ps 0
  have he : (0 : Int) ≤ epochL x.ps := he0
  have he1 := hg.ep
  cases hh : hasG x.ps x.to with
  | true =>
    have F := hg.mrg hh
    rw [if_pos rfl]
    exact del_right h.ps (by omega) F.nxt
  | false =>
    have F := hg.spl hh
    have hto := F.to
    have h0 := h.nx0
    have h1 := h.nx1
    rw [if_neg (by simp)]
    refine ins_right h.ps F.k2 (by simp [grpB]; omega) (by omega) (no_of F.no) fun p hp e => F.ne ?_
    have ep : plAt x.ps (fnd x.ps x.lo) = p := by unfold plAt fnd; rw [hp]; rfl
    rw [ep]; exact e.symm

theorem shift_ric {x : Ct} (h : RiC x) (hg : GoC x) : RiC (clrP { x with ps := shiftL x }) :=
  ⟨h.ix0, h.ix1, h.la0, h.la1, h.nx0, h.nx1, shift_right h hg, h.ms, fun p hp => by
    rcases mem_shift h hg hp with hp | ⟨-, ⟨q, hq, e⟩ | ⟨e1, e2⟩⟩
    · exact h.gr p hp
    · show p.gr < x.nx
      rw [← e]; exact h.gr q hq
    · show p.gr < x.nx
      omega, .inl (noPl_clr _)⟩

theorem shf_ric {x : Ct} (h : RiC x) (hn : x.nu ≠ 0) : RiC (shfE x).1 := (shift_ric h (h.go hn)).done _ _ _

/-- what Apply makes of a right chart -/
theorem apply_eq {x : Ct} (h : RiC x) (c : Cd) {ix : Int} (h1 : x.ix < ix) (h2 : ix ≤ 4611686018427387904) : applyE x c ix = (let y := { x with ix := ix }
     if c.kd = 12 then ((startE y c).1, (startE y c).2, 0)
     else if c.kd = 13 ∧ (x.nu ≠ 0 ∧ c.pl_nu = x.nu) then ((shfE y).1, (shfE y).2, 0)
     else if c.kd = 14 ∧ (x.nu ≠ 0 ∧ c.pl_nu = x.nu) then ((doneE (clrP y) x.cl x.sq 190).1, (doneE (clrP y) x.cl x.sq 190).2, 0)
     else (y, [], 0)) := by
  unfold applyE
  rw [if_neg (by rw [ric_iff.2 h]; simp), if_neg (by omega)]

theorem start_ix (x : Ct) (c : Cd) : (startE x c).1.ix = x.ix := by
  unfold startE
  split
  · rfl
  split
  · rfl
  split
  · simp only; split <;> rfl
  simp only
  split
  · rfl
  · unfold begP; split <;> rfl

/-- a right chart stays right -/
theorem apply_ric {x : Ct} (h : RiC x) (c : Cd) {ix : Int} (h1 : x.ix < ix) (h2 : ix ≤ 4611686018427387904) : RiC (applyE x c ix).1 ∧ (applyE x c ix).2.2 = 0 ∧ (applyE x c ix).1.ix = ix := by
  have h0 := h.ix0
  have hy : RiC { x with ix := ix } := h.ix (by omega) h2
  rw [apply_eq h c h1 h2]
  simp only
  split
  · exact ⟨start_ric hy c, rfl, start_ix _ _⟩
  split
  · rename_i g
    exact ⟨shf_ric hy g.2.1, rfl, rfl⟩
  split
  · exact ⟨(clr_ric hy).done _ _ _, rfl, rfl⟩
  · exact ⟨hy, rfl, rfl⟩

theorem apply_len {x : Ct} (c : Cd) (ix : Int) : (applyE x c ix).1.ps.length ≤ 8 ∧ (applyE x c ix).1.ms.length ≤ 8 := by
  cases hr : rightC x with
  | false =>
    have e : applyE x c ix = (c0, [], 21) := by unfold applyE; rw [if_pos hr]
    rw [e]; simp [c0]
  | true =>
    by_cases hb : ix ≤ x.ix ∨ ix > 4611686018427387904
    · have e : applyE x c ix = (c0, [], 80) := by unfold applyE; rw [if_neg (by rw [hr]; simp), if_pos hb]
      rw [e]; simp [c0]
    · obtain ⟨h, -, -⟩ := apply_ric (ric_iff.1 hr) c (ix := ix) (by omega) (by omega)
      have := right_len h.ps
      have := tab8 h.ms
      omega

theorem eff_len (x : Ct) (c : Cd) (ix : Int) : (applyE x c ix).2.1.length ≤ 1 := by
  unfold applyE
  split
  · simp
  split
  · simp
  simp only
  split
  · unfold startE
    split
    · simp
    split
    · simp
    split
    · simp only; split <;> simp
    simp only
    split <;> simp [doneE]
  split
  · simp [shfE, doneE]
  split <;> simp [doneE]

theorem new_ric : RiC newC := ⟨by decide, by decide, by decide, by decide, by decide, by decide, right_iff.2 ⟨⟨by decide, by simp [newC, hdF, emptyB]⟩, fun p hp => by
  have e : p = ⟨1, .empty, 1⟩ := by simpa [newC] using hp
  subst e; rfl, List.pairwise_singleton _ _⟩, rfl, fun p hp => by
  have e : p = ⟨1, .empty, 1⟩ := by simpa [newC] using hp
  subst e; decide, .inl (noPl_clr newC)⟩

end Go.Proofs.Ytjjfcaigonomiaa
set_option linter.unusedVariables false
set_option linter.unusedSimpArgs false
namespace Go.Proofs.Ytjjfcaigonomiaa
open Go.Vc Go.RowKit
set_option maxRecDepth 100000

/-- between two commands -/
structure RuX where
  k : Nat
  x : Ct
  a : Ca
  b : Ca
  m : M

structure RuI (z : List Cx) (za : Option Addr) (y : RuX) : Prop where
  k : y.k ≤ z.length
  r : RiC y.x
  ix : y.x.ix ≤ y.k
  ra : CtR y.m y.x y.a
  rb : CtR y.m y.x y.b
  rz : Row y.m za (cxs z)

set_option maxHeartbeats 1000000 in
theorem planruns (za : Option Addr) (zc : Nat) (z : List Cx) (hl : z.length ≤ 1099511627776) (m : M) (h : Row m za (cxs z)) : QSpec Try.prog 3 [.slice za z.length zc] m (.bool true) := by
  refine QSpec.of_vc Try.func3 (ann := fun _ _ => { A := RuX, inv := fun y => RuI z za y, st := fun y => [(5, .val (I y.k)), (0, .val (.slice za z.length zc)), (3, .own 3 0), (4, .own 4 0)], own := fun y => [(3, ⟨28, encCt y.x y.a⟩), (4, ⟨28, encCt y.x y.b⟩)], m := fun y => y.m, μ := fun y => z.length - y.k }) fun N hN => ?_
  refine vc_by (X :=
      true = true ∧
      ∀ (n : Nat),
      N ≤ n →
      Vc.Spec Try.prog (8 : Nat) [] { π := m.π, sz := n, uf := m.uf : M } fun (v : Value) (m' : M) =>
      ∃ (n : Int),
      ∃ (a : Option Addr),
      ∃ (n_1 : Nat),
      ∃ (c : Nat),
      ∃ (n_2 : Int),
      ∃ (n_3 : Int),
      ∃ (n_4 : Int),
      ∃ (n_5 : Int),
      ∃ (n_6 : Int),
      ∃ (s : ByteArray),
      ∃ (s_1 : ByteArray),
      ∃ (n_7 : Int),
      ∃ (n_8 : Int),
      ∃ (a_1 : Option Addr),
      ∃ (n_9 : Nat),
      ∃ (c_1 : Nat),
      v =
      Value.agg
      #[Value.int IntKind.i64 n, Value.slice a n_1 c, Value.int IntKind.i64 n_2, Value.int IntKind.i64 n_3, Value.int IntKind.i64 n_4,
      Value.int IntKind.i64 n_5, Value.int IntKind.i64 n_6, Value.string s, Value.string s_1, Value.int IntKind.i64 n_7,
      Value.int IntKind.i64 n_8, Value.slice a_1 n_9 c_1] ∧
      ∀ (n_10 : Nat),
      m'.sz ≤ n_10 →
      Vc.Spec Try.prog (9 : Nat) [] { π := m'.π, sz := n_10, uf := m'.uf : M } fun (v : Value) (m' : M) =>
      ∃ (n_11 : Int),
      ∃ (a_3 : Option Addr),
      ∃ (n_12 : Nat),
      ∃ (c_2 : Nat),
      ∃ (n_13 : Int),
      ∃ (n_14 : Int),
      ∃ (n_15 : Int),
      ∃ (n_16 : Int),
      ∃ (n_17 : Int),
      ∃ (s_2 : ByteArray),
      ∃ (s_3 : ByteArray),
      ∃ (n_18 : Int),
      ∃ (n_19 : Int),
      ∃ (a_4 : Option Addr),
      ∃ (n_20 : Nat),
      ∃ (c_3 : Nat),
      v =
      Value.agg
      #[Value.int IntKind.i64 n_11, Value.slice a_3 n_12 c_2, Value.int IntKind.i64 n_13,
      Value.int IntKind.i64 n_14, Value.int IntKind.i64 n_15, Value.int IntKind.i64 n_16,
      Value.int IntKind.i64 n_17, Value.string s_2, Value.string s_3, Value.int IntKind.i64 n_18,
      Value.int IntKind.i64 n_19, Value.slice a_4 n_20 c_3] ∧
      ∃ (b : Bool),
      QSpec Try.prog (10 : Nat) [] m' (Value.bool b) ∧
      ifB (!b) (Done (Value.bool false = Value.bool true))
      ((∃ (a_5 : RuX),
      RuI z za a_5 ∧
      m' = a_5.m ∧
      ((SV.val (Value.int IntKind.i64 (0 : Int)) =
      SV.val (Value.int IntKind.i64 (↑a_5.k : Int)) ∧
      true = true) ∧
      (SV.val (Value.slice za z.length zc) = SV.val (Value.slice za z.length zc) ∧
      true = true) ∧
      (SV.own ((0 : Nat) + (1 : Nat) + (2 : Nat)) (0 : Nat) =
      SV.own (3 : Nat) (0 : Nat) ∧
      true = true) ∧
      (SV.own ((0 : Nat) + (1 : Nat) + (3 : Nat)) (0 : Nat) =
      SV.own (4 : Nat) (0 : Nat) ∧
      true = true) ∧
      True) ∧
      (some
      { ty := (28 : Nat), cs := [Value.int IntKind.i64 n, Value.slice a n_1 c, Value.int IntKind.i64 n_2, Value.int IntKind.i64 n_3, Value.int IntKind.i64 n_4, Value.int IntKind.i64 n_5, Value.int IntKind.i64 n_6, Value.string s, Value.string s_1, Value.int IntKind.i64 n_7, Value.int IntKind.i64 n_8, Value.slice a_1 n_9 c_1] : Bx } =
      some
      { ty := (28 : TypeId), cs := [Value.int IntKind.i64 a_5.x.ix, Value.slice a_5.a.ap a_5.x.ps.length a_5.a.cp, Value.int IntKind.i64 a_5.x.nx, Value.int IntKind.i64 a_5.x.la, Value.int IntKind.i64 a_5.x.nu, Value.int IntKind.i64 a_5.x.fr, Value.int IntKind.i64 a_5.x.to, Value.string a_5.x.lo, Value.string a_5.x.hi, Value.int IntKind.i64 a_5.x.cl, Value.int IntKind.i64 a_5.x.sq, Value.slice a_5.a.am a_5.x.ms.length a_5.a.cm] : Bx } ∧
      true = true) ∧
      (some
      { ty := (28 : Nat), cs := [Value.int IntKind.i64 n_11, Value.slice a_3 n_12 c_2, Value.int IntKind.i64 n_13, Value.int IntKind.i64 n_14, Value.int IntKind.i64 n_15, Value.int IntKind.i64 n_16, Value.int IntKind.i64 n_17, Value.string s_2, Value.string s_3, Value.int IntKind.i64 n_18, Value.int IntKind.i64 n_19, Value.slice a_4 n_20 c_3] : Bx } =
      some
      { ty := (28 : TypeId), cs := [Value.int IntKind.i64 a_5.x.ix, Value.slice a_5.b.ap a_5.x.ps.length a_5.b.cp, Value.int IntKind.i64 a_5.x.nx, Value.int IntKind.i64 a_5.x.la, Value.int IntKind.i64 a_5.x.nu, Value.int IntKind.i64 a_5.x.fr, Value.int IntKind.i64 a_5.x.to, Value.string a_5.x.lo, Value.string a_5.x.hi, Value.int IntKind.i64 a_5.x.cl, Value.int IntKind.i64 a_5.x.sq, Value.slice a_5.b.am a_5.x.ms.length a_5.b.cm] : Bx } ∧
      true = true) ∧
      True) ∧
      ∀ (a : RuX),
      RuI z za a →
      ifB (decide ((↑a.k : Int) < (↑z.length : Int)))
      (true = true ∧
      ∃ (b : Nat),
      ∃ (off : Nat),
      za = some { block := b, off := off : Addr } ∧
      ((0 : Int) ≤ (↑a.k : Int) ∧ (↑a.k : Int) < (↑z.length : Int)) ∧
      ∃ (n : Int),
      ∃ (n_21 : Int),
      ∃ (n_22 : Int),
      ∃ (n_23 : Int),
      ∃ (n_24 : Int),
      ∃ (n_25 : Int),
      ∃ (s : ByteArray),
      ∃ (n_26 : Int),
      ∃ (n_27 : Int),
      ∃ (n_28 : Int),
      ∃ (b_1 : Bool),
      ∃ (n_29 : Int),
      ∃ (s_4 : ByteArray),
      ∃ (s_5 : ByteArray),
      ∃ (n_30 : Int),
      ∃ (n_31 : Int),
      ∃ (n_32 : Int),
      ∃ (n_33 : Int),
      ∃ (n_34 : Int),
      ∃ (n_35 : Int),
      ∃ (s_6 : ByteArray),
      ∃ (s_7 : ByteArray),
      ∃ (n_36 : Int),
      ∃ (n_37 : Int),
      ∃ (a_6 : Option Addr),
      ∃ (n_38 : Nat),
      ∃ (c : Nat),
      CellsAt a.m b
      (off +
      (↑a.k :
      Int).toNat *
      (25 : Nat))
      [Value.int
      IntKind.i64
      n,
      Value.int
      IntKind.i64
      n_21,
      Value.int
      IntKind.i64
      n_22,
      Value.int
      IntKind.i64
      n_23,
      Value.int
      IntKind.i64
      n_24,
      Value.int
      IntKind.i64
      n_25,
      Value.string
      s,
      Value.int
      IntKind.i64
      n_26,
      Value.int
      IntKind.i64
      n_27,
      Value.int
      IntKind.i64
      n_28,
      Value.bool
      b_1,
      Value.int
      IntKind.i64
      n_29,
      Value.string
      s_4,
      Value.string
      s_5,
      Value.int
      IntKind.i64
      n_30,
      Value.int
      IntKind.i64
      n_31,
      Value.int
      IntKind.i64
      n_32,
      Value.int
      IntKind.i64
      n_33,
      Value.int
      IntKind.i64
      n_34,
      Value.int
      IntKind.i64
      n_35,
      Value.string
      s_6,
      Value.string
      s_7,
      Value.int
      IntKind.i64
      n_36,
      Value.int
      IntKind.i64
      n_37,
      Value.slice
      a_6 n_38
      c] ∧
      (∀ (n_39 : Nat),
      a.m.sz ≤
      n_39 →
      Vc.Spec
      Try.prog
      (11 : Nat)
      [Value.agg
      #[Value.int
      IntKind.i64
      a.x.ix,
      Value.slice
      a.a.ap
      a.x.ps.length
      a.a.cp,
      Value.int
      IntKind.i64
      a.x.nx,
      Value.int
      IntKind.i64
      a.x.la,
      Value.int
      IntKind.i64
      a.x.nu,
      Value.int
      IntKind.i64
      a.x.fr,
      Value.int
      IntKind.i64
      a.x.to,
      Value.string
      a.x.lo,
      Value.string
      a.x.hi,
      Value.int
      IntKind.i64
      a.x.cl,
      Value.int
      IntKind.i64
      a.x.sq,
      Value.slice
      a.a.am
      a.x.ms.length
      a.a.cm],
      Value.agg
      #[Value.int
      IntKind.i64
      n,
      Value.int
      IntKind.i64
      n_21,
      Value.int
      IntKind.i64
      n_22,
      Value.int
      IntKind.i64
      n_23,
      Value.int
      IntKind.i64
      n_24,
      Value.int
      IntKind.i64
      n_25,
      Value.string
      s,
      Value.int
      IntKind.i64
      n_26,
      Value.int
      IntKind.i64
      n_27,
      Value.int
      IntKind.i64
      n_28,
      Value.bool
      b_1,
      Value.int
      IntKind.i64
      n_29,
      Value.string
      s_4,
      Value.string
      s_5,
      Value.int
      IntKind.i64
      n_30,
      Value.int
      IntKind.i64
      n_31,
      Value.int
      IntKind.i64
      n_32,
      Value.int
      IntKind.i64
      n_33,
      Value.int
      IntKind.i64
      n_34,
      Value.int
      IntKind.i64
      n_35,
      Value.string
      s_6,
      Value.string
      s_7,
      Value.int
      IntKind.i64
      n_36,
      Value.int
      IntKind.i64
      n_37,
      Value.slice
      a_6
      n_38
      c],
      Value.int
      IntKind.i64
      (IntKind.i64.wrap
      ((↑a.k :
      Int) +
      (1 :
      Int)))]
      { π := a.m.π, sz := n_39, uf := a.m.uf : M }
      fun
      (v :
      Value)
      (m' :
      M) =>
      ∃ (n :
      Int),
      ∃ (a_8 :
      Option
      Addr),
      ∃
      (n_40
      :
      Nat),
      ∃ (c
      :
      Nat),
      ∃
      (n_41
      :
      Int),
      ∃
      (n_42
      :
      Int),
      ∃
      (n_43
      :
      Int),
      ∃
      (n_44
      :
      Int),
      ∃
      (n_45
      :
      Int),
      ∃
      (s
      :
      ByteArray),
      ∃
      (s_8
      :
      ByteArray),
      ∃
      (n_46
      :
      Int),
      ∃
      (n_47
      :
      Int),
      ∃
      (a_9
      :
      Option
      Addr),
      ∃
      (n_48
      :
      Nat),
      ∃
      (c_4
      :
      Nat),
      ∃
      (a_10
      :
      Option
      Addr),
      ∃
      (n_49
      :
      Nat),
      ∃
      (c_5
      :
      Nat),
      ∃
      (n_50
      :
      Int),
      v =
      Value.tuple
      #[Value.agg
      #[Value.int
      IntKind.i64
      n,
      Value.slice
      a_8
      n_40
      c,
      Value.int
      IntKind.i64
      n_41,
      Value.int
      IntKind.i64
      n_42,
      Value.int
      IntKind.i64
      n_43,
      Value.int
      IntKind.i64
      n_44,
      Value.int
      IntKind.i64
      n_45,
      Value.string
      s,
      Value.string
      s_8,
      Value.int
      IntKind.i64
      n_46,
      Value.int
      IntKind.i64
      n_47,
      Value.slice
      a_9
      n_48
      c_4],
      Value.slice
      a_10
      n_49
      c_5,
      Value.int
      IntKind.i64
      n_50] ∧
      true =
      true ∧
      ∃
      (b
      :
      Nat),
      ∃
      (off
      :
      Nat),
      za =
      some
      { block := b, off := off : Addr } ∧
      ((0 :
      Int) ≤
      (↑a.k :
      Int) ∧
      (↑a.k :
      Int) <
      (↑z.length :
      Int)) ∧
      ∃
      (n_51
      :
      Int),
      ∃
      (n_52
      :
      Int),
      ∃
      (n_53
      :
      Int),
      ∃
      (n_54
      :
      Int),
      ∃
      (n_55
      :
      Int),
      ∃
      (n_56
      :
      Int),
      ∃
      (s_9
      :
      ByteArray),
      ∃
      (n_57
      :
      Int),
      ∃
      (n_58
      :
      Int),
      ∃
      (n_59
      :
      Int),
      ∃
      (b_2
      :
      Bool),
      ∃
      (n_60
      :
      Int),
      ∃
      (s_10
      :
      ByteArray),
      ∃
      (s_11
      :
      ByteArray),
      ∃
      (n_61
      :
      Int),
      ∃
      (n_62
      :
      Int),
      ∃
      (n_63
      :
      Int),
      ∃
      (n_64
      :
      Int),
      ∃
      (n_65
      :
      Int),
      ∃
      (n_66
      :
      Int),
      ∃
      (s_12
      :
      ByteArray),
      ∃
      (s_13
      :
      ByteArray),
      ∃
      (n_67
      :
      Int),
      ∃
      (n_68
      :
      Int),
      ∃
      (a_11
      :
      Option
      Addr),
      ∃
      (n_69
      :
      Nat),
      ∃
      (c_6
      :
      Nat),
      CellsAt
      m'
      b
      (off +
      (↑a.k :
      Int).toNat *
      (25 :
      Nat))
      [Value.int
      IntKind.i64
      n_51,
      Value.int
      IntKind.i64
      n_52,
      Value.int
      IntKind.i64
      n_53,
      Value.int
      IntKind.i64
      n_54,
      Value.int
      IntKind.i64
      n_55,
      Value.int
      IntKind.i64
      n_56,
      Value.string
      s_9,
      Value.int
      IntKind.i64
      n_57,
      Value.int
      IntKind.i64
      n_58,
      Value.int
      IntKind.i64
      n_59,
      Value.bool
      b_2,
      Value.int
      IntKind.i64
      n_60,
      Value.string
      s_10,
      Value.string
      s_11,
      Value.int
      IntKind.i64
      n_61,
      Value.int
      IntKind.i64
      n_62,
      Value.int
      IntKind.i64
      n_63,
      Value.int
      IntKind.i64
      n_64,
      Value.int
      IntKind.i64
      n_65,
      Value.int
      IntKind.i64
      n_66,
      Value.string
      s_12,
      Value.string
      s_13,
      Value.int
      IntKind.i64
      n_67,
      Value.int
      IntKind.i64
      n_68,
      Value.slice
      a_11
      n_69
      c_6] ∧
      (∀
      (n_70 :
      Nat),
      m'.sz ≤
      n_70 →
      Vc.Spec
      Try.prog
      (12 :
      Nat)
      [Value.agg
      #[Value.int
      IntKind.i64
      a.x.ix,
      Value.slice
      a.b.ap
      a.x.ps.length
      a.b.cp,
      Value.int
      IntKind.i64
      a.x.nx,
      Value.int
      IntKind.i64
      a.x.la,
      Value.int
      IntKind.i64
      a.x.nu,
      Value.int
      IntKind.i64
      a.x.fr,
      Value.int
      IntKind.i64
      a.x.to,
      Value.string
      a.x.lo,
      Value.string
      a.x.hi,
      Value.int
      IntKind.i64
      a.x.cl,
      Value.int
      IntKind.i64
      a.x.sq,
      Value.slice
      a.b.am
      a.x.ms.length
      a.b.cm],
      Value.agg
      #[Value.int
      IntKind.i64
      n_51,
      Value.int
      IntKind.i64
      n_52,
      Value.int
      IntKind.i64
      n_53,
      Value.int
      IntKind.i64
      n_54,
      Value.int
      IntKind.i64
      n_55,
      Value.int
      IntKind.i64
      n_56,
      Value.string
      s_9,
      Value.int
      IntKind.i64
      n_57,
      Value.int
      IntKind.i64
      n_58,
      Value.int
      IntKind.i64
      n_59,
      Value.bool
      b_2,
      Value.int
      IntKind.i64
      n_60,
      Value.string
      s_10,
      Value.string
      s_11,
      Value.int
      IntKind.i64
      n_61,
      Value.int
      IntKind.i64
      n_62,
      Value.int
      IntKind.i64
      n_63,
      Value.int
      IntKind.i64
      n_64,
      Value.int
      IntKind.i64
      n_65,
      Value.int
      IntKind.i64
      n_66,
      Value.string
      s_12,
      Value.string
      s_13,
      Value.int
      IntKind.i64
      n_67,
      Value.int
      IntKind.i64
      n_68,
      Value.slice
      a_11
      n_69
      c_6],
      Value.int
      IntKind.i64
      (IntKind.i64.wrap
      ((↑a.k :
      Int) +
      (1 :
      Int)))]
      { π := m'.π, sz := n_70, uf := m'.uf : M }
      fun
      (v :
      Value)
      (m' :
      M) =>
      ∃
      (n_71
      :
      Int),
      ∃
      (a_13
      :
      Option
      Addr),
      ∃
      (n_72
      :
      Nat),
      ∃
      (c_7
      :
      Nat),
      ∃
      (n_73
      :
      Int),
      ∃
      (n_74
      :
      Int),
      ∃
      (n_75
      :
      Int),
      ∃
      (n_76
      :
      Int),
      ∃
      (n_77
      :
      Int),
      ∃
      (s_14
      :
      ByteArray),
      ∃
      (s_15
      :
      ByteArray),
      ∃
      (n_78
      :
      Int),
      ∃
      (n_79
      :
      Int),
      ∃
      (a_14
      :
      Option
      Addr),
      ∃
      (n_80
      :
      Nat),
      ∃
      (c_8
      :
      Nat),
      ∃
      (a_15
      :
      Option
      Addr),
      ∃
      (n_81
      :
      Nat),
      ∃
      (c_9
      :
      Nat),
      ∃
      (n_82
      :
      Int),
      v =
      Value.tuple
      #[Value.agg
      #[Value.int
      IntKind.i64
      n_71,
      Value.slice
      a_13
      n_72
      c_7,
      Value.int
      IntKind.i64
      n_73,
      Value.int
      IntKind.i64
      n_74,
      Value.int
      IntKind.i64
      n_75,
      Value.int
      IntKind.i64
      n_76,
      Value.int
      IntKind.i64
      n_77,
      Value.string
      s_14,
      Value.string
      s_15,
      Value.int
      IntKind.i64
      n_78,
      Value.int
      IntKind.i64
      n_79,
      Value.slice
      a_14
      n_80
      c_8],
      Value.slice
      a_15
      n_81
      c_9,
      Value.int
      IntKind.i64
      n_82] ∧
      ∃
      (b
      :
      Bool),
      QSpec
      Try.prog
      (13 :
      Nat)
      [Value.agg
      #[Value.int
      IntKind.i64
      n,
      Value.slice
      a_8
      n_40
      c,
      Value.int
      IntKind.i64
      n_41,
      Value.int
      IntKind.i64
      n_42,
      Value.int
      IntKind.i64
      n_43,
      Value.int
      IntKind.i64
      n_44,
      Value.int
      IntKind.i64
      n_45,
      Value.string
      s,
      Value.string
      s_8,
      Value.int
      IntKind.i64
      n_46,
      Value.int
      IntKind.i64
      n_47,
      Value.slice
      a_9
      n_48
      c_4],
      Value.agg
      #[Value.int
      IntKind.i64
      n_71,
      Value.slice
      a_13
      n_72
      c_7,
      Value.int
      IntKind.i64
      n_73,
      Value.int
      IntKind.i64
      n_74,
      Value.int
      IntKind.i64
      n_75,
      Value.int
      IntKind.i64
      n_76,
      Value.int
      IntKind.i64
      n_77,
      Value.string
      s_14,
      Value.string
      s_15,
      Value.int
      IntKind.i64
      n_78,
      Value.int
      IntKind.i64
      n_79,
      Value.slice
      a_14
      n_80
      c_8]]
      m'
      (Value.bool
      b) ∧
      ifB
      (!b)
      (Done
      (Value.bool
      false =
      Value.bool
      true))
      (∃
      (b
      :
      Bool),
      QSpec
      Try.prog
      (14 :
      Nat)
      [Value.slice
      a_10
      n_49
      c_5,
      Value.slice
      a_15
      n_81
      c_9]
      m'
      (Value.bool
      b) ∧
      ifB
      (!b)
      (Done
      (Value.bool
      false =
      Value.bool
      true))
      (ifB
      (n_50 !=
      n_82)
      (Done
      (Value.bool
      false =
      Value.bool
      true))
      (ifB
      (n_50 !=
      (0 :
      Int))
      (Done
      (Value.bool
      false =
      Value.bool
      true))
      (true =
      true ∧
      ∃
      (a'
      :
      RuX),
      (RuI
      z
      za
      a' ∧
      m' =
      a'.m ∧
      ((SV.val
      (Value.int
      IntKind.i64
      (IntKind.i64.wrap
      ((↑a.k :
      Int) +
      (1 :
      Int)))) =
      SV.val
      (Value.int
      IntKind.i64
      (↑a'.k :
      Int)) ∧
      true =
      true) ∧
      (SV.val
      (Value.slice
      za
      z.length
      zc) =
      SV.val
      (Value.slice
      za
      z.length
      zc) ∧
      true =
      true) ∧
      (SV.own
      (3 :
      Nat)
      (0 :
      Nat) =
      SV.own
      (3 :
      Nat)
      (0 :
      Nat) ∧
      true =
      true) ∧
      (SV.own
      (4 :
      Nat)
      (0 :
      Nat) =
      SV.own
      (4 :
      Nat)
      (0 :
      Nat) ∧
      true =
      true) ∧
      True) ∧
      (some
      { ty := (28 : TypeId), cs := [Value.int IntKind.i64 n, Value.slice a_8 n_40 c, Value.int IntKind.i64 n_41, Value.int IntKind.i64 n_42, Value.int IntKind.i64 n_43, Value.int IntKind.i64 n_44, Value.int IntKind.i64 n_45, Value.string s, Value.string s_8, Value.int IntKind.i64 n_46, Value.int IntKind.i64 n_47, Value.slice a_9 n_48 c_4] : Bx } =
      some
      { ty := (28 : TypeId), cs := [Value.int IntKind.i64 a'.x.ix, Value.slice a'.a.ap a'.x.ps.length a'.a.cp, Value.int IntKind.i64 a'.x.nx, Value.int IntKind.i64 a'.x.la, Value.int IntKind.i64 a'.x.nu, Value.int IntKind.i64 a'.x.fr, Value.int IntKind.i64 a'.x.to, Value.string a'.x.lo, Value.string a'.x.hi, Value.int IntKind.i64 a'.x.cl, Value.int IntKind.i64 a'.x.sq, Value.slice a'.a.am a'.x.ms.length a'.a.cm] : Bx } ∧
      true =
      true) ∧
      (some
      { ty := (28 : TypeId), cs := [Value.int IntKind.i64 n_71, Value.slice a_13 n_72 c_7, Value.int IntKind.i64 n_73, Value.int IntKind.i64 n_74, Value.int IntKind.i64 n_75, Value.int IntKind.i64 n_76, Value.int IntKind.i64 n_77, Value.string s_14, Value.string s_15, Value.int IntKind.i64 n_78, Value.int IntKind.i64 n_79, Value.slice a_14 n_80 c_8] : Bx } =
      some
      { ty := (28 : TypeId), cs := [Value.int IntKind.i64 a'.x.ix, Value.slice a'.b.ap a'.x.ps.length a'.b.cp, Value.int IntKind.i64 a'.x.nx, Value.int IntKind.i64 a'.x.la, Value.int IntKind.i64 a'.x.nu, Value.int IntKind.i64 a'.x.fr, Value.int IntKind.i64 a'.x.to, Value.string a'.x.lo, Value.string a'.x.hi, Value.int IntKind.i64 a'.x.cl, Value.int IntKind.i64 a'.x.sq, Value.slice a'.b.am a'.x.ms.length a'.b.cm] : Bx } ∧
      true =
      true) ∧
      True) ∧
      z.length -
      a'.k <
      z.length -
      a.k))))) ∧
      True) ∧
      True)
      (Done (Value.bool true = Value.bool true)))) (by kernel_rfl) ?_
  refine ⟨rfl, fun n1 g1 => (new_s _).mono fun v m1 ag1 ⟨a1, e1, r1⟩ => ⟨_, _, _, _, _, _, _, _, _, _, _, _, _, _, _, _, e1, fun n2 g2 => (rnew_s _).mono fun v m2 ag2 ⟨a2, e2, r2⟩ => ⟨_, _, _, _, _, _, _, _, _, _, _, _, _, _, _, _, e2, _, pawake_q _, ifB_false ⟨?_, ?_⟩⟩⟩⟩
  · have z0 := ((((h.sz hN).sz g1).agree ag1).sz g2).agree ag2
    exact ⟨⟨0, newC, a1, a2, m2⟩, ⟨Nat.zero_le _, new_ric, by simp [newC], (r1.sz g2).agree ag2, r2, z0⟩, rfl, by simp⟩
  rintro ⟨k, x, a, b, mx⟩ ⟨hk, hr, hix, ra, rb, rz⟩
  simp only at hk hr hix ra rb rz ⊢
  refine ifB_intro (fun hb => ?_) (fun _ => ⟨trivial⟩)
  have hk2 : k < z.length := by simpa using hb
  have w1 : IntKind.i64.wrap ((k : Int) + 1) = ((k + 1 : Nat) : Int) := by simp [IntKind.wrap_i64]; omega
  have hl9 : x.ps.length ≤ 9223372036854775807 := by have := right_len hr.ps; omega
  have hm9 : x.ms.length ≤ 9223372036854775807 := by have := tab8 hr.ms; omega
  have A := apply_ric hr z[k].c (ix := ((k + 1 : Nat) : Int)) (by omega) (by omega)
  obtain ⟨z1, z2⟩ := apply_len (x := x) z[k].c ((k + 1 : Nat) : Int)
  have z3 := eff_len x z[k].c ((k + 1 : Nat) : Int)
  rw [w1]
  obtain ⟨bz, oz, rfl, hc⟩ := rz.cells (by rw [cxs_len]; omega)
  refine ⟨trivial, bz, oz, rfl, by omega, _, _, _, _, _, _, _, _, _, _, _, _, _, _, _, _, _, _, _, _, _, _, _, _, _, _, _, by simpa using cx_at hc hk2, ?_, trivial⟩
  refine fun n1 g1 => (apply_s x a z[k].c _ _ _ _ hl9 hm9 _ (ra.sz g1)).mono fun v m1 ag1 q1 => ?_
  obtain ⟨a3, av, cv, e3, r3, w3⟩ := q1.out
  refine ⟨_, _, _, _, _, _, _, _, _, _, _, _, _, _, _, _, _, _, _, _, e3, ?_⟩
  have rz1 := (rz.sz g1).agree ag1
  obtain ⟨bz2, oz2, e2, hc2⟩ := rz1.cells (by rw [cxs_len]; omega)
  refine ⟨trivial, bz2, oz2, e2, by omega, _, _, _, _, _, _, _, _, _, _, _, _, _, _, _, _, _, _, _, _, _, _, _, _, _, _, _, by simpa using cx_at hc2 hk2, ?_, trivial⟩
  refine fun n2 g2 => (rapply_s x b z[k].c _ _ _ _ hl9 hm9 _ (((rb.sz g1).agree ag1).sz g2)).mono fun v m2 ag2 q2 => ?_
  obtain ⟨a4, av4, cv4, e4, r4, w4⟩ := q2.out
  have r32 := (r3.sz g2).agree ag2
  refine ⟨_, _, _, _, _, _, _, _, _, _, _, _, _, _, _, _, _, _, _, _, e4, _, chart_q _ a3 a4 (by omega) (by omega) _ r32 r4, ifB_false ⟨_, ef_plain av av4 cv cv4 _ _ (by omega) _ ((w3.sz g2).agree ag2) w4, ifB_false' (by simp) (ifB_false' (by simp) (ifB_false' (by rw [A.2.1]; rfl) ⟨trivial, ?_⟩))⟩⟩
  exact ⟨⟨k + 1, _, a3, a4, m2⟩, ⟨⟨hk2, A.1, by rw [A.2.2]; exact Int.le_refl _, r32, r4, (rz1.sz g2).agree ag2⟩, rfl, by simp⟩, by simp only; omega⟩

end Go.Proofs.Ytjjfcaigonomiaa
set_option linter.unusedVariables false
set_option linter.unusedSimpArgs false
namespace Go.Proofs.Ytjjfcaigonomiaa
open Go.Vc Go.RowKit
set_option maxRecDepth 100000

/-- what a wish is told while a plan goes on -/
def busyE (l : List Mk) (cl sq : Int) : Ef :=
  if (findO l cl).isSome = true ∧ ((findO l cl).getD m0).sq = sq then ⟨1, cl, sq, ((findO l cl).getD m0).an_er, ((findO l cl).getD m0).an_va, ((findO l cl).getD m0).an_le, ((findO l cl).getD m0).an_mo⟩ else ⟨1, cl, sq, 190, 0, 0, 0⟩

theorem start_busy {x : Ct} (h : RiC x) (hn : x.nu ≠ 0) (c : Cd) :
    (startE x c).1 = { x with ms := (startE x c).1.ms } ∧ ((startE x c).2 = [] ∨ (startE x c).2 = [busyE x.ms c.cl c.sq]) := by
  unfold startE
  split
  · exact ⟨rfl, .inl rfl⟩
  split
  · exact ⟨rfl, .inl rfl⟩
  rename_i h1 h2
  have hf : findO x.ms c.cl = ofM x.ms c.cl := by unfold findO; rw [if_pos h.ms]
  have h1 : argB c.cl c.sq = true := by
    simp only [Bool.and_eq_true, Bool.not_eq_false] at h1
    exact h1.1
  have hb0 : ofM x.ms c.cl = none → beginM x.ms c.cl c.sq = (insM x.ms (opM c.cl c.sq), true, 0) := fun e => by
    unfold beginM
    rw [if_neg (by rw [h.ms]; simp), if_neg (by rw [h1]; simp), e]
  have hb : ∀ m, ofM x.ms c.cl = some m → beginM x.ms c.cl c.sq = if c.sq < m.sq then ([], false, 80) else if m.sq = c.sq then (x.ms, false, 0) else (insM x.ms (opM c.cl c.sq), true, 0) := fun m e => by
    unfold beginM
    rw [if_neg (by rw [h.ms]; simp), if_neg (by rw [h1]; simp), e]
  split
  · rename_i h3
    have hs : (findO x.ms c.cl).isSome = true ∧ ((findO x.ms c.cl).getD m0).sq = c.sq := by
      rw [hf]
      cases ho : ofM x.ms c.cl with
      | none => rw [hb0 ho] at h3; simp at h3
      | some m =>
        rw [hb m ho] at h3 h2
        by_cases g1 : c.sq < m.sq
        · rw [if_pos g1] at h2; simp at h2
        · rw [if_neg g1] at h3
          by_cases g2 : m.sq = c.sq
          · exact ⟨rfl, g2⟩
          · rw [if_neg g2] at h3; simp at h3
    simp only
    split
    · exact ⟨rfl, .inl rfl⟩
    · exact ⟨rfl, .inr (by unfold busyE; rw [if_pos hs])⟩
  · rename_i h3
    have hs : ¬ ((findO x.ms c.cl).isSome = true ∧ ((findO x.ms c.cl).getD m0).sq = c.sq) := by
      rw [hf]
      cases ho : ofM x.ms c.cl with
      | none => simp
      | some m =>
        intro e
        have e : m.sq = c.sq := e.2
        rw [hb m ho] at h3
        simp [e] at h3
    have e : refE { x with ms := (beginM x.ms c.cl c.sq).1 } c.op_kd c.op_ky = 190 := by unfold refE; rw [if_pos hn]
    simp only [e]
    rw [if_pos (by decide)]
    exact ⟨rfl, .inr (by unfold busyE; rw [if_neg hs]; rfl)⟩

/-- a wish while a plan goes on -/
theorem busy_law {x : Ct} (h : RiC x) (hn : x.nu ≠ 0) (c : Cd) (hk : c.kd = 12) {ix : Int} (h1 : x.ix < ix) (h2 : ix ≤ 4611686018427387904) :
    (applyE x c ix).1 = { x with ix := ix, ms := (applyE x c ix).1.ms } ∧ ((applyE x c ix).2.1 = [] ∨ (applyE x c ix).2.1 = [busyE x.ms c.cl c.sq]) := by
  have hy : RiC { x with ix := ix } := h.ix (by have := h.ix0; omega) h2
  have e := apply_eq h c h1 h2
  simp only at e
  rw [if_pos hk] at e
  rw [e]
  exact start_busy hy hn c

/-- an end of another plan -/
theorem other_law {x : Ct} (h : RiC x) (c : Cd) (hk : c.kd ≠ 12) (hn : x.nu = 0 ∨ c.pl_nu ≠ x.nu) {ix : Int} (h1 : x.ix < ix) (h2 : ix ≤ 4611686018427387904) : applyE x c ix = ({ x with ix := ix }, [], 0) := by
  have e := apply_eq h c h1 h2
  simp only at e
  have hg : ¬ (x.nu ≠ 0 ∧ c.pl_nu = x.nu) := fun g => by rcases hn with hn | hn; exact g.1 hn; exact hn g.2
  rw [if_neg hk, if_neg (fun g => hg g.2), if_neg (fun g => hg g.2)] at e
  exact e

/-- the places when a plan has been ended -/
def endL (x : Ct) (sh : Bool) : List Pl := if sh then shiftL x else x.ps

/-- its own end -/
theorem own_law {x : Ct} (h : RiC x) (hn : x.nu ≠ 0) (c : Cd) (sh : Bool) (hk : c.kd = if sh then 13 else 14) (hc : c.pl_nu = x.nu) {ix : Int} (h1 : x.ix < ix) (h2 : ix ≤ 4611686018427387904) :
    (applyE x c ix).2.1 = [⟨1, x.cl, x.sq, if sh then 0 else 190, 0, 0, 0⟩] ∧ (applyE x c ix).1 = { clrP { x with ps := endL x sh } with ix := ix, ms := (applyE x c ix).1.ms } := by
  have e := apply_eq h c h1 h2
  simp only at e
  cases sh with
  | true =>
    have hk : c.kd = 13 := hk
    rw [if_neg (by omega), if_pos ⟨hk, hn, hc⟩] at e
    rw [e]
    exact ⟨rfl, rfl⟩
  | false =>
    have hk : c.kd = 14 := hk
    rw [if_neg (by omega), if_neg (by omega), if_pos ⟨hk, hn, hc⟩] at e
    rw [e]
    exact ⟨rfl, rfl⟩

theorem getD_of {l : List Pl} {i : Nat} {p : Pl} (h : l[i]? = some p) : plAt l i = p := by unfold plAt; rw [h]; rfl

/-- who has the plan's first key, behind its end -/
theorem end_at {x : Ct} (h : RiC x) (hg : GoC x) (sh : Bool) : ((plAt (endL x sh) (fnd (endL x sh) x.lo)).gr = x.to) ↔ sh = true := by
  obtain ⟨-, -, hp⟩ := right_iff.1 h.ps
  cases hh : hasG x.ps x.to with
  | true =>
    have F := hg.mrg hh
    have hi := F.nxt
    have e1 : x.ps[ofI x.ps x.to + 1]? = some (plAt x.ps (ofI x.ps x.to + 1)) := plAt_some hi
    have e0 : x.ps[ofI x.ps x.to]? = some x.ps[ofI x.ps x.to] := List.getElem?_eq_getElem F.yes
    have lt01 := pw_lt hp (Nat.lt_succ_self _) e0 e1
    cases sh with
    | true =>
      have e : endL x true = delS x.ps (ofI x.ps x.to) (epochL x.ps + 1) := by unfold endL shiftL; rw [if_pos rfl, if_pos hh]
      have eg : (delS x.ps (ofI x.ps x.to) (epochL x.ps + 1))[ofI x.ps x.to]? = some { x.ps[ofI x.ps x.to] with ep := epochL x.ps + 1 } := by rw [del_get F.yes, if_neg (by omega), if_pos rfl]
      have ef : fnd (delS x.ps (ofI x.ps x.to) (epochL x.ps + 1)) x.lo = ofI x.ps x.to := by
        unfold fnd
        refine find_at eg ?_ fun j z hj hz => ?_
        · rw [F.lo]; exact ltS_asym lt01.2
        · rw [del_get F.yes, if_neg (by omega), if_neg (by omega)] at hz
          rw [F.lo]
          exact (pw_lt hp (by omega) e1 hz).2
      rw [e, ef, getD_of eg]
      simp [ofI_get F.yes]
    | false =>
      have ef : fnd x.ps x.lo = ofI x.ps x.to + 1 := by
        unfold fnd
        refine find_at e1 ?_ fun j z hj hz => ?_
        · rw [F.lo]; exact ltS_irr _
        · rw [F.lo]; exact (pw_lt hp hj e1 hz).2
      have e : endL x false = x.ps := rfl
      rw [e, ef]
      have h2 := lt01.1
      rw [ofI_get F.yes] at h2
      simp only [Bool.false_eq_true, iff_false]
      exact fun e => h2 e.symm
  | false =>
    have F := hg.spl hh
    have hf : fnd x.ps x.lo < x.ps.length := findL_len x.lo (right_pos h.ps)
    cases sh with
    | true =>
      have e : endL x true = insS x.ps x.lo x.to (fnd x.ps x.lo) (epochL x.ps + 1) := by unfold endL shiftL; rw [if_pos rfl, if_neg (by rw [hh]; simp)]
      have eg : (insS x.ps x.lo x.to (fnd x.ps x.lo) (epochL x.ps + 1))[fnd x.ps x.lo + 1]? = some ⟨x.to, x.lo, epochL x.ps + 1⟩ := by rw [ins_get hf, if_neg (by omega), if_neg (by omega), if_pos rfl]
      obtain ⟨y, s1, s2, s3⟩ := find_spec x.lo h.ps
      have ef : fnd (insS x.ps x.lo x.to (fnd x.ps x.lo) (epochL x.ps + 1)) x.lo = fnd x.ps x.lo + 1 := by
        refine find_at eg (ltS_irr _) fun j z hj hz => ?_
        rw [ins_get hf, if_neg (by omega), if_neg (by omega), if_neg (by omega)] at hz
        exact s3 (j - 1) z (by unfold fnd at hj; omega) hz
      rw [e, ef, getD_of eg]
      simp
    | false =>
      have e : endL x false = x.ps := rfl
      rw [e]
      simp only [Bool.false_eq_true, iff_false]
      exact no_of F.no _ (by rw [plAt_at hf]; exact List.getElem_mem hf)

end Go.Proofs.Ytjjfcaigonomiaa
set_option linter.unusedVariables false
set_option linter.unusedSimpArgs false
namespace Go.Proofs.Ytjjfcaigonomiaa
open Go.Vc Go.RowKit
set_option maxRecDepth 100000

theorem ifB_dup {b : Bool} {A B C : Prop} (h : C) (h1 : b = true → A) (h2 : b = false → B) : ifB b (A ∧ C) (B ∧ C) := ifB_intro (fun g => ⟨h1 g, h⟩) (fun g => ⟨h2 g, h⟩)

abbrev wishC (cl sq : Int) (ky : ByteArray) (op : Int) : Cd := ⟨12, cl, sq, 0, 0, 0, ⟨#[]⟩, 0, 0, 0, false, op, ky, ⟨#[]⟩, 0, 0, 0, 0, 0, 0, ⟨#[]⟩, ⟨#[]⟩, 0, 0⟩
abbrev endC (kd nu fr to : Int) (lo hi : ByteArray) (cl sq : Int) : Cd := ⟨kd, 0, 0, 0, 0, 0, ⟨#[]⟩, 0, 0, 0, false, 0, ⟨#[]⟩, ⟨#[]⟩, 0, 0, 0, nu, fr, to, lo, hi, cl, sq⟩

structure OpX1 where
  k : Nat
  x : Ct
  a : Ca
  m : M

structure OpI1 (z : List Cx) (za : Option Addr) (y : OpX1) : Prop where
  k : y.k ≤ z.length
  r : RiC y.x
  ix : y.x.ix ≤ y.k
  ra : CtR y.m y.x y.a
  rz : Row y.m za (cxs z)

structure OpY1 where
  x : Ct
  a : Ca
  iy : Int
  ms : List Mk
  b : Ca
  m : M

def OpY1.y (s : OpY1) : Ct := { s.x with ix := s.iy, ms := s.ms }

structure OpJ1 (s : OpY1) : Prop where
  n0 : s.x.nu ≠ 0
  r : RiC s.x
  ry : RiC s.y
  ix : s.iy ≤ 1099511627787
  ra : CtR s.m s.x s.a
  rb : CtR s.m s.y s.b

structure OpZ1 where
  s : OpY1
  l : List Ef
  al : Option Addr
  ll : Nat
  ag : Bool
  me : Mk

structure OpK1 (cl sq : Int) (s : OpZ1) : Prop where
  j : OpJ1 s.s
  row : Row s.s.m s.al (efs s.l)
  len : s.l.length ≤ 1
  say : ∀ e, s.l[0]? = some e → s.ag = true → e = ⟨1, cl, sq, s.me.an_er, s.me.an_va, s.me.an_le, s.me.an_mo⟩

abbrev opO (s : OpY1) : List (Nat × Bx) := [(2, ⟨28, encCt s.x s.a⟩), (17, ⟨25, [I s.x.nu, I s.x.fr, I s.x.to, .string s.x.lo, .string s.x.hi, I s.x.cl, I s.x.sq]⟩), (33, ⟨28, [I s.iy, .slice s.b.ap s.x.ps.length s.b.cp, I s.x.nx, I s.x.la, I s.x.nu, I s.x.fr, I s.x.to, .string s.x.lo, .string s.x.hi, I s.x.cl, I s.x.sq, .slice s.b.am s.ms.length s.b.cm]⟩)]

set_option maxHeartbeats 1000000 in
theorem planone (za : Option Addr) (zc : Nat) (z : List Cx) (cl sq : Int) (ky : ByteArray) (sh : Bool) (hl : z.length ≤ 1099511627776) (m : M) (hz : Row m za (cxs z)) : QSpec Try.prog 5 [.slice za z.length zc, I cl, I sq, .string ky, .bool sh] m (.bool true) := by
  refine QSpec.of_vc Try.func5 (ann := fun _ r =>
    if r = 5 then { A := OpX1, inv := fun y => OpI1 z za y, st := fun y => [(12, .val (I y.k)), (0, .val (.slice za z.length zc)), (11, .own 2 0), (1, .val (I cl)), (2, .val (I sq)), (3, .val (.string ky)), (4, .val (.bool sh))], own := fun y => [(2, ⟨28, encCt y.x y.a⟩)], m := fun y => y.m, μ := fun y => z.length - y.k }
    else if r = 19 then { A := OpZ1, inv := fun s => OpK1 cl sq s, st := fun s => [(18, .val (.slice s.al s.l.length s.ll)), (22, .val (.bool s.ag)), (1, .val (I cl)), (2, .val (I sq)), (20, .own 44 0), (4, .val (.bool sh)), (17, .own 33 0), (16, .own 17 0), (11, .own 2 0)], own := fun s => opO s.s ++ [(44, ⟨56, encMk s.me⟩)], m := fun s => s.s.m, μ := fun _ => 0, cut := true }
    else if r = 21 then { A := OpY1, inv := fun s => OpJ1 s, st := fun s => [(17, .own 33 0), (16, .own 17 0), (4, .val (.bool sh)), (11, .own 2 0)], own := fun s => opO s, m := fun s => s.m, μ := fun _ => 0, cut := true }
    else if r = 24 then { A := OpY1, inv := fun s => OpJ1 s, st := fun s => [(17, .own 33 0), (23, .val (I (if sh then 13 else 14))), (16, .own 17 0), (24, .val (I (if sh then 0 else 190))), (4, .val (.bool sh)), (11, .own 2 0)], own := fun s => opO s, m := fun s => s.m, μ := fun _ => 0, cut := true } else noAnn 0) fun N hN => ?_
  refine vc_by (X :=
      true = true ∧
      ∀ (n : Nat),
      N ≤ n →
      Vc.Spec Try.prog (8 : Nat) [] { π := m.π, sz := n, uf := m.uf : M } fun (v : Value) (m' : M) =>
      ∃ (n : Int),
      ∃ (a : Option Addr),
      ∃ (n_1 : Nat),
      ∃ (c : Nat),
      ∃ (n_2 : Int),
      ∃ (n_3 : Int),
      ∃ (n_4 : Int),
      ∃ (n_5 : Int),
      ∃ (n_6 : Int),
      ∃ (s : ByteArray),
      ∃ (s_1 : ByteArray),
      ∃ (n_7 : Int),
      ∃ (n_8 : Int),
      ∃ (a_1 : Option Addr),
      ∃ (n_9 : Nat),
      ∃ (c_1 : Nat),
      v =
      Value.agg
      #[Value.int IntKind.i64 n, Value.slice a n_1 c, Value.int IntKind.i64 n_2, Value.int IntKind.i64 n_3, Value.int IntKind.i64 n_4,
      Value.int IntKind.i64 n_5, Value.int IntKind.i64 n_6, Value.string s, Value.string s_1, Value.int IntKind.i64 n_7,
      Value.int IntKind.i64 n_8, Value.slice a_1 n_9 c_1] ∧
      ∃ (b : Bool),
      QSpec Try.prog (10 : Nat) [] m' (Value.bool b) ∧
      ifB (!b) (Done (Value.bool false = Value.bool true))
      ((∃ (a_2 : OpX1),
      OpI1 z za a_2 ∧
      m' = a_2.m ∧
      ((SV.val (Value.int IntKind.i64 (0 : Int)) = SV.val (Value.int IntKind.i64 (↑a_2.k : Int)) ∧ true = true) ∧
      (SV.val (Value.slice za z.length zc) = SV.val (Value.slice za z.length zc) ∧ true = true) ∧
      (SV.own ((0 : Nat) + (1 : Nat) + (1 : Nat)) (0 : Nat) = SV.own (2 : Nat) (0 : Nat) ∧ true = true) ∧
      (SV.val (Value.int IntKind.i64 cl) = SV.val (Value.int IntKind.i64 cl) ∧ true = true) ∧
      (SV.val (Value.int IntKind.i64 sq) = SV.val (Value.int IntKind.i64 sq) ∧ true = true) ∧
      (SV.val (Value.string ky) = SV.val (Value.string ky) ∧ true = true) ∧
      (SV.val (Value.bool sh) = SV.val (Value.bool sh) ∧ true = true) ∧ True) ∧
      (some
      { ty := (28 : Nat), cs := [Value.int IntKind.i64 n, Value.slice a n_1 c, Value.int IntKind.i64 n_2, Value.int IntKind.i64 n_3, Value.int IntKind.i64 n_4, Value.int IntKind.i64 n_5, Value.int IntKind.i64 n_6, Value.string s, Value.string s_1, Value.int IntKind.i64 n_7, Value.int IntKind.i64 n_8, Value.slice a_1 n_9 c_1] : Bx } =
      some
      { ty := (28 : TypeId), cs := [Value.int IntKind.i64 a_2.x.ix, Value.slice a_2.a.ap a_2.x.ps.length a_2.a.cp, Value.int IntKind.i64 a_2.x.nx, Value.int IntKind.i64 a_2.x.la, Value.int IntKind.i64 a_2.x.nu, Value.int IntKind.i64 a_2.x.fr, Value.int IntKind.i64 a_2.x.to, Value.string a_2.x.lo, Value.string a_2.x.hi, Value.int IntKind.i64 a_2.x.cl, Value.int IntKind.i64 a_2.x.sq, Value.slice a_2.a.am a_2.x.ms.length a_2.a.cm] : Bx } ∧
      true = true) ∧
      True) ∧
      ∀ (a : OpX1),
      OpI1 z za a →
      ifB (decide ((↑a.k : Int) < (↑z.length : Int)))
      (true = true ∧
      ∃ (b : Nat),
      ∃ (off : Nat),
      za = some { block := b, off := off : Addr } ∧
      ((0 : Int) ≤ (↑a.k : Int) ∧ (↑a.k : Int) < (↑z.length : Int)) ∧
      ∃ (n : Int),
      ∃ (n_10 : Int),
      ∃ (n_11 : Int),
      ∃ (n_12 : Int),
      ∃ (n_13 : Int),
      ∃ (n_14 : Int),
      ∃ (s : ByteArray),
      ∃ (n_15 : Int),
      ∃ (n_16 : Int),
      ∃ (n_17 : Int),
      ∃ (b_1 : Bool),
      ∃ (n_18 : Int),
      ∃ (s_2 : ByteArray),
      ∃ (s_3 : ByteArray),
      ∃ (n_19 : Int),
      ∃ (n_20 : Int),
      ∃ (n_21 : Int),
      ∃ (n_22 : Int),
      ∃ (n_23 : Int),
      ∃ (n_24 : Int),
      ∃ (s_4 : ByteArray),
      ∃ (s_5 : ByteArray),
      ∃ (n_25 : Int),
      ∃ (n_26 : Int),
      ∃ (a_3 : Option Addr),
      ∃ (n_27 : Nat),
      ∃ (c : Nat),
      CellsAt a.m b (off + (↑a.k : Int).toNat * (25 : Nat))
      [Value.int IntKind.i64 n, Value.int IntKind.i64 n_10,
      Value.int IntKind.i64 n_11,
      Value.int IntKind.i64 n_12,
      Value.int IntKind.i64 n_13,
      Value.int IntKind.i64 n_14, Value.string s,
      Value.int IntKind.i64 n_15,
      Value.int IntKind.i64 n_16,
      Value.int IntKind.i64 n_17, Value.bool b_1,
      Value.int IntKind.i64 n_18, Value.string s_2,
      Value.string s_3, Value.int IntKind.i64 n_19,
      Value.int IntKind.i64 n_20,
      Value.int IntKind.i64 n_21,
      Value.int IntKind.i64 n_22,
      Value.int IntKind.i64 n_23,
      Value.int IntKind.i64 n_24, Value.string s_4,
      Value.string s_5, Value.int IntKind.i64 n_25,
      Value.int IntKind.i64 n_26, Value.slice a_3 n_27 c] ∧
      (∀ (n_28 : Nat),
      a.m.sz ≤ n_28 →
      Vc.Spec Try.prog (11 : Nat)
      [Value.agg
      #[Value.int IntKind.i64 a.x.ix,
      Value.slice a.a.ap a.x.ps.length a.a.cp,
      Value.int IntKind.i64 a.x.nx,
      Value.int IntKind.i64 a.x.la,
      Value.int IntKind.i64 a.x.nu,
      Value.int IntKind.i64 a.x.fr,
      Value.int IntKind.i64 a.x.to,
      Value.string a.x.lo, Value.string a.x.hi,
      Value.int IntKind.i64 a.x.cl,
      Value.int IntKind.i64 a.x.sq,
      Value.slice a.a.am a.x.ms.length a.a.cm],
      Value.agg
      #[Value.int IntKind.i64 n,
      Value.int IntKind.i64 n_10,
      Value.int IntKind.i64 n_11,
      Value.int IntKind.i64 n_12,
      Value.int IntKind.i64 n_13,
      Value.int IntKind.i64 n_14, Value.string s,
      Value.int IntKind.i64 n_15,
      Value.int IntKind.i64 n_16,
      Value.int IntKind.i64 n_17, Value.bool b_1,
      Value.int IntKind.i64 n_18,
      Value.string s_2, Value.string s_3,
      Value.int IntKind.i64 n_19,
      Value.int IntKind.i64 n_20,
      Value.int IntKind.i64 n_21,
      Value.int IntKind.i64 n_22,
      Value.int IntKind.i64 n_23,
      Value.int IntKind.i64 n_24,
      Value.string s_4, Value.string s_5,
      Value.int IntKind.i64 n_25,
      Value.int IntKind.i64 n_26,
      Value.slice a_3 n_27 c],
      Value.int IntKind.i64
      (IntKind.i64.wrap ((↑a.k : Int) + (1 : Int)))]
      { π := a.m.π, sz := n_28, uf := a.m.uf : M }
      fun (v : Value) (m' : M) =>
      ∃ (n : Int),
      ∃ (a_5 : Option Addr),
      ∃ (n_29 : Nat),
      ∃ (c : Nat),
      ∃ (n_30 : Int),
      ∃ (n_31 : Int),
      ∃ (n_32 : Int),
      ∃ (n_33 : Int),
      ∃ (n_34 : Int),
      ∃ (s : ByteArray),
      ∃ (s_6 : ByteArray),
      ∃ (n_35 : Int),
      ∃ (n_36 : Int),
      ∃ (a_6 : Option Addr),
      ∃ (n_37 : Nat),
      ∃ (c_2 : Nat),
      ∃ (a_7 :
      Option Addr),
      ∃ (n_38 : Nat),
      ∃ (c_3 : Nat),
      ∃ (n_39 :
      Int),
      v =
      Value.tuple
      #[Value.agg
      #[Value.int
      IntKind.i64
      n,
      Value.slice
      a_5
      n_29
      c,
      Value.int
      IntKind.i64
      n_30,
      Value.int
      IntKind.i64
      n_31,
      Value.int
      IntKind.i64
      n_32,
      Value.int
      IntKind.i64
      n_33,
      Value.int
      IntKind.i64
      n_34,
      Value.string
      s,
      Value.string
      s_6,
      Value.int
      IntKind.i64
      n_35,
      Value.int
      IntKind.i64
      n_36,
      Value.slice
      a_6
      n_37
      c_2],
      Value.slice
      a_7
      n_38
      c_3,
      Value.int
      IntKind.i64
      n_39] ∧
      ifB
      (n_39 !=
      (0 :
      Int))
      (Done
      (Value.bool
      false =
      Value.bool
      true))
      (∃ (a'
      :
      OpX1),
      (OpI1
      z
      za
      a' ∧
      m' =
      a'.m ∧
      ((SV.val
      (Value.int
      IntKind.i64
      (IntKind.i64.wrap
      ((↑a.k :
      Int) +
      (1 :
      Int)))) =
      SV.val
      (Value.int
      IntKind.i64
      (↑a'.k :
      Int)) ∧
      true =
      true) ∧
      (SV.val
      (Value.slice
      za
      z.length
      zc) =
      SV.val
      (Value.slice
      za
      z.length
      zc) ∧
      true =
      true) ∧
      (SV.own
      (2 :
      Nat)
      (0 :
      Nat) =
      SV.own
      (2 :
      Nat)
      (0 :
      Nat) ∧
      true =
      true) ∧
      (SV.val
      (Value.int
      IntKind.i64
      cl) =
      SV.val
      (Value.int
      IntKind.i64
      cl) ∧
      true =
      true) ∧
      (SV.val
      (Value.int
      IntKind.i64
      sq) =
      SV.val
      (Value.int
      IntKind.i64
      sq) ∧
      true =
      true) ∧
      (SV.val
      (Value.string
      ky) =
      SV.val
      (Value.string
      ky) ∧
      true =
      true) ∧
      (SV.val
      (Value.bool
      sh) =
      SV.val
      (Value.bool
      sh) ∧
      true =
      true) ∧
      True) ∧
      (some
      { ty := (28 : TypeId), cs := [Value.int IntKind.i64 n, Value.slice a_5 n_29 c, Value.int IntKind.i64 n_30, Value.int IntKind.i64 n_31, Value.int IntKind.i64 n_32, Value.int IntKind.i64 n_33, Value.int IntKind.i64 n_34, Value.string s, Value.string s_6, Value.int IntKind.i64 n_35, Value.int IntKind.i64 n_36, Value.slice a_6 n_37 c_2] : Bx } =
      some
      { ty := (28 : TypeId), cs := [Value.int IntKind.i64 a'.x.ix, Value.slice a'.a.ap a'.x.ps.length a'.a.cp, Value.int IntKind.i64 a'.x.nx, Value.int IntKind.i64 a'.x.la, Value.int IntKind.i64 a'.x.nu, Value.int IntKind.i64 a'.x.fr, Value.int IntKind.i64 a'.x.to, Value.string a'.x.lo, Value.string a'.x.hi, Value.int IntKind.i64 a'.x.cl, Value.int IntKind.i64 a'.x.sq, Value.slice a'.a.am a'.x.ms.length a'.a.cm] : Bx } ∧
      true =
      true) ∧
      True) ∧
      z.length -
      a'.k <
      z.length -
      a.k)) ∧
      True)
      (ifB (a.x.nu == (0 : Int)) (Done (Value.bool true = Value.bool true))
      (∀ (n : Nat),
      a.m.sz ≤ n →
      Vc.Spec Try.prog (11 : Nat)
      [Value.agg
      #[Value.int IntKind.i64 a.x.ix, Value.slice a.a.ap a.x.ps.length a.a.cp, Value.int IntKind.i64 a.x.nx,
      Value.int IntKind.i64 a.x.la, Value.int IntKind.i64 a.x.nu, Value.int IntKind.i64 a.x.fr,
      Value.int IntKind.i64 a.x.to, Value.string a.x.lo, Value.string a.x.hi, Value.int IntKind.i64 a.x.cl,
      Value.int IntKind.i64 a.x.sq, Value.slice a.a.am a.x.ms.length a.a.cm],
      Value.agg
      #[Value.int IntKind.i64 (12 : Int), Value.int IntKind.i64 cl, Value.int IntKind.i64 sq,
      Value.int IntKind.i64 (0 : Int), Value.int IntKind.i64 (0 : Int), Value.int IntKind.i64 (0 : Int),
      Value.string { data := #[] : ByteArray }, Value.int IntKind.i64 (0 : Int), Value.int IntKind.i64 (0 : Int),
      Value.int IntKind.i64 (0 : Int), Value.bool false, Value.int IntKind.i64 (7 : Int), Value.string ky,
      Value.string { data := #[] : ByteArray }, Value.int IntKind.i64 (0 : Int), Value.int IntKind.i64 (0 : Int),
      Value.int IntKind.i64 (0 : Int), Value.int IntKind.i64 (0 : Int), Value.int IntKind.i64 (0 : Int),
      Value.int IntKind.i64 (0 : Int), Value.string { data := #[] : ByteArray },
      Value.string { data := #[] : ByteArray }, Value.int IntKind.i64 (0 : Int), Value.int IntKind.i64 (0 : Int),
      Value.slice none (0 : Nat) (0 : Nat)],
      Value.int IntKind.i64 (IntKind.i64.wrap (a.x.ix + (1 : Int)))]
      { π := a.m.π, sz := n, uf := a.m.uf : M } fun (v : Value) (m' : M) =>
      ∃ (n : Int),
      ∃ (a_4 : Option Addr),
      ∃ (n_10 : Nat),
      ∃ (c : Nat),
      ∃ (n_11 : Int),
      ∃ (n_12 : Int),
      ∃ (n_13 : Int),
      ∃ (n_14 : Int),
      ∃ (n_15 : Int),
      ∃ (s : ByteArray),
      ∃ (s_2 : ByteArray),
      ∃ (n_16 : Int),
      ∃ (n_17 : Int),
      ∃ (a_5 : Option Addr),
      ∃ (n_18 : Nat),
      ∃ (c_2 : Nat),
      ∃ (a_6 : Option Addr),
      ∃ (n_19 : Nat),
      ∃ (c_3 : Nat),
      ∃ (n_20 : Int),
      v =
      Value.tuple
      #[Value.agg
      #[Value.int IntKind.i64 n, Value.slice a_4 n_10 c,
      Value.int IntKind.i64 n_11, Value.int IntKind.i64 n_12,
      Value.int IntKind.i64 n_13, Value.int IntKind.i64 n_14,
      Value.int IntKind.i64 n_15, Value.string s, Value.string s_2,
      Value.int IntKind.i64 n_16, Value.int IntKind.i64 n_17,
      Value.slice a_5 n_18 c_2],
      Value.slice a_6 n_19 c_3, Value.int IntKind.i64 n_20] ∧
      ∃ (n_21 : Int),
      ∃ (n_22 : Int),
      ∃ (b : Bool),
      ∃ (n_23 : Int),
      ∃ (n_24 : Int),
      ∃ (n_25 : Int),
      ∃ (n_26 : Int),
      ∃ (b_1 : Bool),
      QSpec Try.prog (19 : Nat)
      [Value.slice a.a.am a.x.ms.length a.a.cm,
      Value.int IntKind.i64 cl]
      m'
      (Value.tuple
      #[Value.agg
      #[Value.int IntKind.i64 n_21,
      Value.int IntKind.i64 n_22, Value.bool b,
      Value.int IntKind.i64 n_23,
      Value.int IntKind.i64 n_24,
      Value.int IntKind.i64 n_25,
      Value.int IntKind.i64 n_26],
      Value.bool b_1]) ∧
      ifB b_1
      (ifB (n_20 != (0 : Int))
      (Done (Value.bool false = Value.bool true))
      (ifB
      (!(n_13 == a.x.nu &&
      (n_14 == a.x.fr &&
      (n_15 == a.x.to &&
      (s.toList == a.x.lo.toList &&
      (s_2.toList == a.x.hi.toList &&
      (n_16 == a.x.cl &&
      (n_17 == a.x.sq && true))))))))
      (Done (Value.bool false = Value.bool true))
      (ifB (decide ((↑n_19 : Int) > (1 : Int)))
      (Done (Value.bool false = Value.bool true))
      (ifB ((↑n_19 : Int) == (1 : Int))
      (ifB (!n_22 == sq)
      (∃ (b_2 : Nat),
      ∃ (off : Nat),
      a_6 =
      some
      { block := b_2, off := off : Addr } ∧
      ((0 : Int) ≤ (0 : Int) ∧
      (0 : Int) < (↑n_19 : Int)) ∧
      ∃ (n_27 : Int),
      ∃ (n_28 : Int),
      ∃ (n_29 : Int),
      ∃ (n_30 : Int),
      ∃ (n_31 : Int),
      ∃ (n_32 : Int),
      ∃ (n_33 : Int),
      CellsAt m' b_2
      (off +
      (0 : Nat))
      [Value.int
      IntKind.i64
      n_27,
      Value.int
      IntKind.i64
      n_28,
      Value.int
      IntKind.i64
      n_29,
      Value.int
      IntKind.i64
      n_30,
      Value.int
      IntKind.i64
      n_31,
      Value.int
      IntKind.i64
      n_32,
      Value.int
      IntKind.i64
      n_33] ∧
      ifB
      (!(n_27 ==
      (1 :
      Int) &&
      (n_28 ==
      cl &&
      (n_29 ==
      sq &&
      (n_30 ==
      (190 :
      Int) &&
      (n_31 ==
      (0 :
      Int) &&
      (n_32 ==
      (0 :
      Int) &&
      (n_33 ==
      (0 :
      Int) &&
      true))) &&
      true)))))
      (Done
      (Value.bool
      false =
      Value.bool
      true))
      (∃ (x : OpZ1),
      OpK1 cl sq x ∧
      m' = x.s.m ∧
      ((SV.val
      (Value.slice
      a_6
      n_19
      c_3) =
      SV.val
      (Value.slice
      x.al
      x.l.length
      x.ll) ∧
      true =
      true) ∧
      (SV.val
      (Value.bool
      (n_22 ==
      sq)) =
      SV.val
      (Value.bool
      x.ag) ∧
      true =
      true) ∧
      (SV.val
      (Value.int
      IntKind.i64
      cl) =
      SV.val
      (Value.int
      IntKind.i64
      cl) ∧
      true =
      true) ∧
      (SV.val
      (Value.int
      IntKind.i64
      sq) =
      SV.val
      (Value.int
      IntKind.i64
      sq) ∧
      true =
      true) ∧
      (SV.own
      ((0 :
      Nat) +
      (1 :
      Nat) +
      (3 :
      Nat) +
      (2 :
      Nat) +
      (1 :
      Nat) +
      (4 :
      Nat) +
      (4 :
      Nat) +
      (4 :
      Nat) +
      (18 :
      Nat) +
      (7 :
      Nat))
      (0 :
      Nat) =
      SV.own
      (44 :
      Nat)
      (0 :
      Nat) ∧
      true =
      true) ∧
      (SV.val
      (Value.bool
      sh) =
      SV.val
      (Value.bool
      sh) ∧
      true =
      true) ∧
      (SV.own
      ((0 :
      Nat) +
      (1 :
      Nat) +
      (3 :
      Nat) +
      (2 :
      Nat) +
      (1 :
      Nat) +
      (4 :
      Nat) +
      (4 :
      Nat) +
      (4 :
      Nat) +
      (14 :
      Nat))
      (0 :
      Nat) =
      SV.own
      (33 :
      Nat)
      (0 :
      Nat) ∧
      true =
      true) ∧
      (SV.own
      ((0 :
      Nat) +
      (1 :
      Nat) +
      (3 :
      Nat) +
      (2 :
      Nat) +
      (1 :
      Nat) +
      (4 :
      Nat) +
      (4 :
      Nat) +
      (2 :
      Nat))
      (0 :
      Nat) =
      SV.own
      (17 :
      Nat)
      (0 :
      Nat) ∧
      true =
      true) ∧
      (SV.own
      (2 :
      Nat)
      (0 :
      Nat) =
      SV.own
      (2 :
      Nat)
      (0 :
      Nat) ∧
      true =
      true) ∧
      True) ∧
      (some
      { ty := (28 : TypeId), cs := [Value.int IntKind.i64 a.x.ix, Value.slice a.a.ap a.x.ps.length a.a.cp, Value.int IntKind.i64 a.x.nx, Value.int IntKind.i64 a.x.la, Value.int IntKind.i64 a.x.nu, Value.int IntKind.i64 a.x.fr, Value.int IntKind.i64 a.x.to, Value.string a.x.lo, Value.string a.x.hi, Value.int IntKind.i64 a.x.cl, Value.int IntKind.i64 a.x.sq, Value.slice a.a.am a.x.ms.length a.a.cm] : Bx } =
      some
      { ty := (28 : TypeId), cs := [Value.int IntKind.i64 x.s.x.ix, Value.slice x.s.a.ap x.s.x.ps.length x.s.a.cp, Value.int IntKind.i64 x.s.x.nx, Value.int IntKind.i64 x.s.x.la, Value.int IntKind.i64 x.s.x.nu, Value.int IntKind.i64 x.s.x.fr, Value.int IntKind.i64 x.s.x.to, Value.string x.s.x.lo, Value.string x.s.x.hi, Value.int IntKind.i64 x.s.x.cl, Value.int IntKind.i64 x.s.x.sq, Value.slice x.s.a.am x.s.x.ms.length x.s.a.cm] : Bx } ∧
      true =
      true) ∧
      (some
      { ty := (25 : Nat), cs := [Value.int IntKind.i64 a.x.nu, Value.int IntKind.i64 a.x.fr, Value.int IntKind.i64 a.x.to, Value.string a.x.lo, Value.string a.x.hi, Value.int IntKind.i64 a.x.cl, Value.int IntKind.i64 a.x.sq] : Bx } =
      some
      { ty := (25 : TypeId), cs := [Value.int IntKind.i64 x.s.x.nu, Value.int IntKind.i64 x.s.x.fr, Value.int IntKind.i64 x.s.x.to, Value.string x.s.x.lo, Value.string x.s.x.hi, Value.int IntKind.i64 x.s.x.cl, Value.int IntKind.i64 x.s.x.sq] : Bx } ∧
      true =
      true) ∧
      (some
      { ty := (28 : Nat), cs := [Value.int IntKind.i64 n, Value.slice a_4 n_10 c, Value.int IntKind.i64 n_11, Value.int IntKind.i64 n_12, Value.int IntKind.i64 n_13, Value.int IntKind.i64 n_14, Value.int IntKind.i64 n_15, Value.string s, Value.string s_2, Value.int IntKind.i64 n_16, Value.int IntKind.i64 n_17, Value.slice a_5 n_18 c_2] : Bx } =
      some
      { ty := (28 : TypeId), cs := [Value.int IntKind.i64 x.s.iy, Value.slice x.s.b.ap x.s.x.ps.length x.s.b.cp, Value.int IntKind.i64 x.s.x.nx, Value.int IntKind.i64 x.s.x.la, Value.int IntKind.i64 x.s.x.nu, Value.int IntKind.i64 x.s.x.fr, Value.int IntKind.i64 x.s.x.to, Value.string x.s.x.lo, Value.string x.s.x.hi, Value.int IntKind.i64 x.s.x.cl, Value.int IntKind.i64 x.s.x.sq, Value.slice x.s.b.am x.s.ms.length x.s.b.cm] : Bx } ∧
      true =
      true) ∧
      (some
      { ty := (56 : Nat), cs := [Value.int IntKind.i64 n_21, Value.int IntKind.i64 n_22, Value.bool b, Value.int IntKind.i64 n_23, Value.int IntKind.i64 n_24, Value.int IntKind.i64 n_25, Value.int IntKind.i64 n_26] : Bx } =
      some
      { ty := (56 : TypeId), cs := [Value.int IntKind.i64 x.me.cl, Value.int IntKind.i64 x.me.sq, Value.bool x.me.op, Value.int IntKind.i64 x.me.an_er, Value.int IntKind.i64 x.me.an_va, Value.int IntKind.i64 x.me.an_le, Value.int IntKind.i64 x.me.an_mo] : Bx } ∧
      true =
      true) ∧
      True))
      (∃ (x : OpZ1),
      OpK1 cl sq x ∧
      m' = x.s.m ∧
      ((SV.val
      (Value.slice a_6 n_19
      c_3) =
      SV.val
      (Value.slice x.al
      x.l.length x.ll) ∧
      true = true) ∧
      (SV.val
      (Value.bool
      (n_22 == sq)) =
      SV.val (Value.bool x.ag) ∧
      true = true) ∧
      (SV.val
      (Value.int IntKind.i64
      cl) =
      SV.val
      (Value.int IntKind.i64
      cl) ∧
      true = true) ∧
      (SV.val
      (Value.int
      IntKind.i64 sq) =
      SV.val
      (Value.int
      IntKind.i64 sq) ∧
      true = true) ∧
      (SV.own
      ((0 : Nat) +
      (1 :
      Nat) +
      (3 :
      Nat) +
      (2 :
      Nat) +
      (1 :
      Nat) +
      (4 :
      Nat) +
      (4 :
      Nat) +
      (4 : Nat) +
      (18 : Nat) +
      (7 : Nat))
      (0 : Nat) =
      SV.own (44 : Nat)
      (0 : Nat) ∧
      true = true) ∧
      (SV.val
      (Value.bool
      sh) =
      SV.val
      (Value.bool
      sh) ∧
      true = true) ∧
      (SV.own
      ((0 : Nat) +
      (1 :
      Nat) +
      (3 :
      Nat) +
      (2 :
      Nat) +
      (1 :
      Nat) +
      (4 :
      Nat) +
      (4 :
      Nat) +
      (4 :
      Nat) +
      (14 : Nat))
      (0 : Nat) =
      SV.own
      (33 : Nat)
      (0 : Nat) ∧
      true = true) ∧
      (SV.own
      ((0 : Nat) +
      (1 :
      Nat) +
      (3 :
      Nat) +
      (2 :
      Nat) +
      (1 :
      Nat) +
      (4 :
      Nat) +
      (4 :
      Nat) +
      (2 : Nat))
      (0 : Nat) =
      SV.own
      (17 : Nat)
      (0 : Nat) ∧
      true = true) ∧
      (SV.own (2 : Nat)
      (0 :
      Nat) =
      SV.own
      (2 : Nat)
      (0 :
      Nat) ∧
      true = true) ∧
      True) ∧
      (some
      { ty := (28 : TypeId), cs := [Value.int IntKind.i64 a.x.ix, Value.slice a.a.ap a.x.ps.length a.a.cp, Value.int IntKind.i64 a.x.nx, Value.int IntKind.i64 a.x.la, Value.int IntKind.i64 a.x.nu, Value.int IntKind.i64 a.x.fr, Value.int IntKind.i64 a.x.to, Value.string a.x.lo, Value.string a.x.hi, Value.int IntKind.i64 a.x.cl, Value.int IntKind.i64 a.x.sq, Value.slice a.a.am a.x.ms.length a.a.cm] : Bx } =
      some
      { ty := (28 : TypeId), cs := [Value.int IntKind.i64 x.s.x.ix, Value.slice x.s.a.ap x.s.x.ps.length x.s.a.cp, Value.int IntKind.i64 x.s.x.nx, Value.int IntKind.i64 x.s.x.la, Value.int IntKind.i64 x.s.x.nu, Value.int IntKind.i64 x.s.x.fr, Value.int IntKind.i64 x.s.x.to, Value.string x.s.x.lo, Value.string x.s.x.hi, Value.int IntKind.i64 x.s.x.cl, Value.int IntKind.i64 x.s.x.sq, Value.slice x.s.a.am x.s.x.ms.length x.s.a.cm] : Bx } ∧
      true = true) ∧
      (some
      { ty := (25 : Nat), cs := [Value.int IntKind.i64 a.x.nu, Value.int IntKind.i64 a.x.fr, Value.int IntKind.i64 a.x.to, Value.string a.x.lo, Value.string a.x.hi, Value.int IntKind.i64 a.x.cl, Value.int IntKind.i64 a.x.sq] : Bx } =
      some
      { ty := (25 : TypeId), cs := [Value.int IntKind.i64 x.s.x.nu, Value.int IntKind.i64 x.s.x.fr, Value.int IntKind.i64 x.s.x.to, Value.string x.s.x.lo, Value.string x.s.x.hi, Value.int IntKind.i64 x.s.x.cl, Value.int IntKind.i64 x.s.x.sq] : Bx } ∧
      true = true) ∧
      (some
      { ty := (28 : Nat), cs := [Value.int IntKind.i64 n, Value.slice a_4 n_10 c, Value.int IntKind.i64 n_11, Value.int IntKind.i64 n_12, Value.int IntKind.i64 n_13, Value.int IntKind.i64 n_14, Value.int IntKind.i64 n_15, Value.string s, Value.string s_2, Value.int IntKind.i64 n_16, Value.int IntKind.i64 n_17, Value.slice a_5 n_18 c_2] : Bx } =
      some
      { ty := (28 : TypeId), cs := [Value.int IntKind.i64 x.s.iy, Value.slice x.s.b.ap x.s.x.ps.length x.s.b.cp, Value.int IntKind.i64 x.s.x.nx, Value.int IntKind.i64 x.s.x.la, Value.int IntKind.i64 x.s.x.nu, Value.int IntKind.i64 x.s.x.fr, Value.int IntKind.i64 x.s.x.to, Value.string x.s.x.lo, Value.string x.s.x.hi, Value.int IntKind.i64 x.s.x.cl, Value.int IntKind.i64 x.s.x.sq, Value.slice x.s.b.am x.s.ms.length x.s.b.cm] : Bx } ∧
      true = true) ∧
      (some
      { ty := (56 : Nat), cs := [Value.int IntKind.i64 n_21, Value.int IntKind.i64 n_22, Value.bool b, Value.int IntKind.i64 n_23, Value.int IntKind.i64 n_24, Value.int IntKind.i64 n_25, Value.int IntKind.i64 n_26] : Bx } =
      some
      { ty := (56 : TypeId), cs := [Value.int IntKind.i64 x.me.cl, Value.int IntKind.i64 x.me.sq, Value.bool x.me.op, Value.int IntKind.i64 x.me.an_er, Value.int IntKind.i64 x.me.an_va, Value.int IntKind.i64 x.me.an_le, Value.int IntKind.i64 x.me.an_mo] : Bx } ∧
      true = true) ∧
      True))
      (∃ (x : OpZ1),
      OpK1 cl sq x ∧
      m' = x.s.m ∧
      ((SV.val (Value.slice a_6 n_19 c_3) =
      SV.val
      (Value.slice x.al x.l.length
      x.ll) ∧
      true = true) ∧
      (SV.val
      (Value.bool
      (n_22 == sq)) =
      SV.val (Value.bool x.ag) ∧
      true = true) ∧
      (SV.val
      (Value.int IntKind.i64
      cl) =
      SV.val
      (Value.int IntKind.i64
      cl) ∧
      true = true) ∧
      (SV.val
      (Value.int IntKind.i64
      sq) =
      SV.val
      (Value.int IntKind.i64
      sq) ∧
      true = true) ∧
      (SV.own
      ((0 : Nat) +
      (1 :
      Nat) +
      (3 :
      Nat) +
      (2 :
      Nat) +
      (1 :
      Nat) +
      (4 :
      Nat) +
      (4 : Nat) +
      (4 : Nat) +
      (18 : Nat) +
      (7 : Nat))
      (0 : Nat) =
      SV.own (44 : Nat)
      (0 : Nat) ∧
      true = true) ∧
      (SV.val (Value.bool sh) =
      SV.val
      (Value.bool sh) ∧
      true = true) ∧
      (SV.own
      ((0 : Nat) +
      (1 :
      Nat) +
      (3 :
      Nat) +
      (2 :
      Nat) +
      (1 :
      Nat) +
      (4 :
      Nat) +
      (4 :
      Nat) +
      (4 : Nat) +
      (14 : Nat))
      (0 : Nat) =
      SV.own (33 : Nat)
      (0 : Nat) ∧
      true = true) ∧
      (SV.own
      ((0 : Nat) +
      (1 :
      Nat) +
      (3 :
      Nat) +
      (2 :
      Nat) +
      (1 :
      Nat) +
      (4 :
      Nat) +
      (4 :
      Nat) +
      (2 : Nat))
      (0 : Nat) =
      SV.own
      (17 : Nat)
      (0 : Nat) ∧
      true = true) ∧
      (SV.own (2 : Nat)
      (0 : Nat) =
      SV.own
      (2 : Nat)
      (0 : Nat) ∧
      true = true) ∧
      True) ∧
      (some
      { ty := (28 : TypeId), cs := [Value.int IntKind.i64 a.x.ix, Value.slice a.a.ap a.x.ps.length a.a.cp, Value.int IntKind.i64 a.x.nx, Value.int IntKind.i64 a.x.la, Value.int IntKind.i64 a.x.nu, Value.int IntKind.i64 a.x.fr, Value.int IntKind.i64 a.x.to, Value.string a.x.lo, Value.string a.x.hi, Value.int IntKind.i64 a.x.cl, Value.int IntKind.i64 a.x.sq, Value.slice a.a.am a.x.ms.length a.a.cm] : Bx } =
      some
      { ty := (28 : TypeId), cs := [Value.int IntKind.i64 x.s.x.ix, Value.slice x.s.a.ap x.s.x.ps.length x.s.a.cp, Value.int IntKind.i64 x.s.x.nx, Value.int IntKind.i64 x.s.x.la, Value.int IntKind.i64 x.s.x.nu, Value.int IntKind.i64 x.s.x.fr, Value.int IntKind.i64 x.s.x.to, Value.string x.s.x.lo, Value.string x.s.x.hi, Value.int IntKind.i64 x.s.x.cl, Value.int IntKind.i64 x.s.x.sq, Value.slice x.s.a.am x.s.x.ms.length x.s.a.cm] : Bx } ∧
      true = true) ∧
      (some
      { ty := (25 : Nat), cs := [Value.int IntKind.i64 a.x.nu, Value.int IntKind.i64 a.x.fr, Value.int IntKind.i64 a.x.to, Value.string a.x.lo, Value.string a.x.hi, Value.int IntKind.i64 a.x.cl, Value.int IntKind.i64 a.x.sq] : Bx } =
      some
      { ty := (25 : TypeId), cs := [Value.int IntKind.i64 x.s.x.nu, Value.int IntKind.i64 x.s.x.fr, Value.int IntKind.i64 x.s.x.to, Value.string x.s.x.lo, Value.string x.s.x.hi, Value.int IntKind.i64 x.s.x.cl, Value.int IntKind.i64 x.s.x.sq] : Bx } ∧
      true = true) ∧
      (some
      { ty := (28 : Nat), cs := [Value.int IntKind.i64 n, Value.slice a_4 n_10 c, Value.int IntKind.i64 n_11, Value.int IntKind.i64 n_12, Value.int IntKind.i64 n_13, Value.int IntKind.i64 n_14, Value.int IntKind.i64 n_15, Value.string s, Value.string s_2, Value.int IntKind.i64 n_16, Value.int IntKind.i64 n_17, Value.slice a_5 n_18 c_2] : Bx } =
      some
      { ty := (28 : TypeId), cs := [Value.int IntKind.i64 x.s.iy, Value.slice x.s.b.ap x.s.x.ps.length x.s.b.cp, Value.int IntKind.i64 x.s.x.nx, Value.int IntKind.i64 x.s.x.la, Value.int IntKind.i64 x.s.x.nu, Value.int IntKind.i64 x.s.x.fr, Value.int IntKind.i64 x.s.x.to, Value.string x.s.x.lo, Value.string x.s.x.hi, Value.int IntKind.i64 x.s.x.cl, Value.int IntKind.i64 x.s.x.sq, Value.slice x.s.b.am x.s.ms.length x.s.b.cm] : Bx } ∧
      true = true) ∧
      (some
      { ty := (56 : Nat), cs := [Value.int IntKind.i64 n_21, Value.int IntKind.i64 n_22, Value.bool b, Value.int IntKind.i64 n_23, Value.int IntKind.i64 n_24, Value.int IntKind.i64 n_25, Value.int IntKind.i64 n_26] : Bx } =
      some
      { ty := (56 : TypeId), cs := [Value.int IntKind.i64 x.me.cl, Value.int IntKind.i64 x.me.sq, Value.bool x.me.op, Value.int IntKind.i64 x.me.an_er, Value.int IntKind.i64 x.me.an_va, Value.int IntKind.i64 x.me.an_le, Value.int IntKind.i64 x.me.an_mo] : Bx } ∧
      true = true) ∧
      True)))) ∧
      ∀ (x : OpZ1),
      OpK1 cl sq x →
      (true = true ∧
      ifB ((↑x.l.length : Int) == (1 : Int))
      (ifB x.ag
      (∃ (b : Nat),
      ∃ (off : Nat),
      x.al =
      some
      { block := b, off := off : Addr } ∧
      ((0 : Int) ≤ (0 : Int) ∧
      (0 : Int) <
      (↑x.l.length : Int)) ∧
      ∃ (n : Int),
      ∃ (n_27 : Int),
      ∃ (n_28 : Int),
      ∃ (n_29 : Int),
      ∃ (n_30 : Int),
      ∃ (n_31 : Int),
      ∃ (n_32 : Int),
      CellsAt x.s.m b
      (off +
      (0 : Nat))
      [Value.int
      IntKind.i64
      n,
      Value.int
      IntKind.i64
      n_27,
      Value.int
      IntKind.i64
      n_28,
      Value.int
      IntKind.i64
      n_29,
      Value.int
      IntKind.i64
      n_30,
      Value.int
      IntKind.i64
      n_31,
      Value.int
      IntKind.i64
      n_32] ∧
      ifB
      (!(n ==
      (1 :
      Int) &&
      (n_27 ==
      cl &&
      (n_28 ==
      sq &&
      (n_29 ==
      x.me.an_er &&
      (n_30 ==
      x.me.an_va &&
      (n_31 ==
      x.me.an_le &&
      (n_32 ==
      x.me.an_mo &&
      true))) &&
      true)))))
      (Done
      (Value.bool
      false =
      Value.bool
      true))
      (∃ (x_1 :
      OpY1),
      OpJ1 x_1 ∧
      x.s.m =
      x_1.m ∧
      ((SV.own
      (33 :
      Nat)
      (0 :
      Nat) =
      SV.own
      (33 :
      Nat)
      (0 :
      Nat) ∧
      true =
      true) ∧
      (SV.own
      (17 :
      Nat)
      (0 :
      Nat) =
      SV.own
      (17 :
      Nat)
      (0 :
      Nat) ∧
      true =
      true) ∧
      (SV.val
      (Value.bool
      sh) =
      SV.val
      (Value.bool
      sh) ∧
      true =
      true) ∧
      (SV.own
      (2 :
      Nat)
      (0 :
      Nat) =
      SV.own
      (2 :
      Nat)
      (0 :
      Nat) ∧
      true =
      true) ∧
      True) ∧
      (some
      { ty := (28 : TypeId), cs := [Value.int IntKind.i64 x.s.x.ix, Value.slice x.s.a.ap x.s.x.ps.length x.s.a.cp, Value.int IntKind.i64 x.s.x.nx, Value.int IntKind.i64 x.s.x.la, Value.int IntKind.i64 x.s.x.nu, Value.int IntKind.i64 x.s.x.fr, Value.int IntKind.i64 x.s.x.to, Value.string x.s.x.lo, Value.string x.s.x.hi, Value.int IntKind.i64 x.s.x.cl, Value.int IntKind.i64 x.s.x.sq, Value.slice x.s.a.am x.s.x.ms.length x.s.a.cm] : Bx } =
      some
      { ty := (28 : TypeId), cs := [Value.int IntKind.i64 x_1.x.ix, Value.slice x_1.a.ap x_1.x.ps.length x_1.a.cp, Value.int IntKind.i64 x_1.x.nx, Value.int IntKind.i64 x_1.x.la, Value.int IntKind.i64 x_1.x.nu, Value.int IntKind.i64 x_1.x.fr, Value.int IntKind.i64 x_1.x.to, Value.string x_1.x.lo, Value.string x_1.x.hi, Value.int IntKind.i64 x_1.x.cl, Value.int IntKind.i64 x_1.x.sq, Value.slice x_1.a.am x_1.x.ms.length x_1.a.cm] : Bx } ∧
      true =
      true) ∧
      (some
      { ty := (25 : TypeId), cs := [Value.int IntKind.i64 x.s.x.nu, Value.int IntKind.i64 x.s.x.fr, Value.int IntKind.i64 x.s.x.to, Value.string x.s.x.lo, Value.string x.s.x.hi, Value.int IntKind.i64 x.s.x.cl, Value.int IntKind.i64 x.s.x.sq] : Bx } =
      some
      { ty := (25 : TypeId), cs := [Value.int IntKind.i64 x_1.x.nu, Value.int IntKind.i64 x_1.x.fr, Value.int IntKind.i64 x_1.x.to, Value.string x_1.x.lo, Value.string x_1.x.hi, Value.int IntKind.i64 x_1.x.cl, Value.int IntKind.i64 x_1.x.sq] : Bx } ∧
      true =
      true) ∧
      (some
      { ty := (28 : TypeId), cs := [Value.int IntKind.i64 x.s.iy, Value.slice x.s.b.ap x.s.x.ps.length x.s.b.cp, Value.int IntKind.i64 x.s.x.nx, Value.int IntKind.i64 x.s.x.la, Value.int IntKind.i64 x.s.x.nu, Value.int IntKind.i64 x.s.x.fr, Value.int IntKind.i64 x.s.x.to, Value.string x.s.x.lo, Value.string x.s.x.hi, Value.int IntKind.i64 x.s.x.cl, Value.int IntKind.i64 x.s.x.sq, Value.slice x.s.b.am x.s.ms.length x.s.b.cm] : Bx } =
      some
      { ty := (28 : TypeId), cs := [Value.int IntKind.i64 x_1.iy, Value.slice x_1.b.ap x_1.x.ps.length x_1.b.cp, Value.int IntKind.i64 x_1.x.nx, Value.int IntKind.i64 x_1.x.la, Value.int IntKind.i64 x_1.x.nu, Value.int IntKind.i64 x_1.x.fr, Value.int IntKind.i64 x_1.x.to, Value.string x_1.x.lo, Value.string x_1.x.hi, Value.int IntKind.i64 x_1.x.cl, Value.int IntKind.i64 x_1.x.sq, Value.slice x_1.b.am x_1.ms.length x_1.b.cm] : Bx } ∧
      true =
      true) ∧
      True))
      (∃ (x_1 : OpY1),
      OpJ1 x_1 ∧
      x.s.m = x_1.m ∧
      ((SV.own (33 : Nat) (0 : Nat) =
      SV.own (33 : Nat)
      (0 : Nat) ∧
      true = true) ∧
      (SV.own (17 : Nat) (0 : Nat) =
      SV.own (17 : Nat)
      (0 : Nat) ∧
      true = true) ∧
      (SV.val (Value.bool sh) =
      SV.val
      (Value.bool sh) ∧
      true = true) ∧
      (SV.own (2 : Nat)
      (0 : Nat) =
      SV.own (2 : Nat)
      (0 : Nat) ∧
      true = true) ∧
      True) ∧
      (some
      { ty := (28 : TypeId), cs := [Value.int IntKind.i64 x.s.x.ix, Value.slice x.s.a.ap x.s.x.ps.length x.s.a.cp, Value.int IntKind.i64 x.s.x.nx, Value.int IntKind.i64 x.s.x.la, Value.int IntKind.i64 x.s.x.nu, Value.int IntKind.i64 x.s.x.fr, Value.int IntKind.i64 x.s.x.to, Value.string x.s.x.lo, Value.string x.s.x.hi, Value.int IntKind.i64 x.s.x.cl, Value.int IntKind.i64 x.s.x.sq, Value.slice x.s.a.am x.s.x.ms.length x.s.a.cm] : Bx } =
      some
      { ty := (28 : TypeId), cs := [Value.int IntKind.i64 x_1.x.ix, Value.slice x_1.a.ap x_1.x.ps.length x_1.a.cp, Value.int IntKind.i64 x_1.x.nx, Value.int IntKind.i64 x_1.x.la, Value.int IntKind.i64 x_1.x.nu, Value.int IntKind.i64 x_1.x.fr, Value.int IntKind.i64 x_1.x.to, Value.string x_1.x.lo, Value.string x_1.x.hi, Value.int IntKind.i64 x_1.x.cl, Value.int IntKind.i64 x_1.x.sq, Value.slice x_1.a.am x_1.x.ms.length x_1.a.cm] : Bx } ∧
      true = true) ∧
      (some
      { ty := (25 : TypeId), cs := [Value.int IntKind.i64 x.s.x.nu, Value.int IntKind.i64 x.s.x.fr, Value.int IntKind.i64 x.s.x.to, Value.string x.s.x.lo, Value.string x.s.x.hi, Value.int IntKind.i64 x.s.x.cl, Value.int IntKind.i64 x.s.x.sq] : Bx } =
      some
      { ty := (25 : TypeId), cs := [Value.int IntKind.i64 x_1.x.nu, Value.int IntKind.i64 x_1.x.fr, Value.int IntKind.i64 x_1.x.to, Value.string x_1.x.lo, Value.string x_1.x.hi, Value.int IntKind.i64 x_1.x.cl, Value.int IntKind.i64 x_1.x.sq] : Bx } ∧
      true = true) ∧
      (some
      { ty := (28 : TypeId), cs := [Value.int IntKind.i64 x.s.iy, Value.slice x.s.b.ap x.s.x.ps.length x.s.b.cp, Value.int IntKind.i64 x.s.x.nx, Value.int IntKind.i64 x.s.x.la, Value.int IntKind.i64 x.s.x.nu, Value.int IntKind.i64 x.s.x.fr, Value.int IntKind.i64 x.s.x.to, Value.string x.s.x.lo, Value.string x.s.x.hi, Value.int IntKind.i64 x.s.x.cl, Value.int IntKind.i64 x.s.x.sq, Value.slice x.s.b.am x.s.ms.length x.s.b.cm] : Bx } =
      some
      { ty := (28 : TypeId), cs := [Value.int IntKind.i64 x_1.iy, Value.slice x_1.b.ap x_1.x.ps.length x_1.b.cp, Value.int IntKind.i64 x_1.x.nx, Value.int IntKind.i64 x_1.x.la, Value.int IntKind.i64 x_1.x.nu, Value.int IntKind.i64 x_1.x.fr, Value.int IntKind.i64 x_1.x.to, Value.string x_1.x.lo, Value.string x_1.x.hi, Value.int IntKind.i64 x_1.x.cl, Value.int IntKind.i64 x_1.x.sq, Value.slice x_1.b.am x_1.ms.length x_1.b.cm] : Bx } ∧
      true = true) ∧
      True))
      (∃ (x_1 : OpY1),
      OpJ1 x_1 ∧
      x.s.m = x_1.m ∧
      ((SV.own (33 : Nat) (0 : Nat) =
      SV.own (33 : Nat)
      (0 : Nat) ∧
      true = true) ∧
      (SV.own (17 : Nat) (0 : Nat) =
      SV.own (17 : Nat)
      (0 : Nat) ∧
      true = true) ∧
      (SV.val (Value.bool sh) =
      SV.val (Value.bool sh) ∧
      true = true) ∧
      (SV.own (2 : Nat)
      (0 : Nat) =
      SV.own (2 : Nat)
      (0 : Nat) ∧
      true = true) ∧
      True) ∧
      (some
      { ty := (28 : TypeId), cs := [Value.int IntKind.i64 x.s.x.ix, Value.slice x.s.a.ap x.s.x.ps.length x.s.a.cp, Value.int IntKind.i64 x.s.x.nx, Value.int IntKind.i64 x.s.x.la, Value.int IntKind.i64 x.s.x.nu, Value.int IntKind.i64 x.s.x.fr, Value.int IntKind.i64 x.s.x.to, Value.string x.s.x.lo, Value.string x.s.x.hi, Value.int IntKind.i64 x.s.x.cl, Value.int IntKind.i64 x.s.x.sq, Value.slice x.s.a.am x.s.x.ms.length x.s.a.cm] : Bx } =
      some
      { ty := (28 : TypeId), cs := [Value.int IntKind.i64 x_1.x.ix, Value.slice x_1.a.ap x_1.x.ps.length x_1.a.cp, Value.int IntKind.i64 x_1.x.nx, Value.int IntKind.i64 x_1.x.la, Value.int IntKind.i64 x_1.x.nu, Value.int IntKind.i64 x_1.x.fr, Value.int IntKind.i64 x_1.x.to, Value.string x_1.x.lo, Value.string x_1.x.hi, Value.int IntKind.i64 x_1.x.cl, Value.int IntKind.i64 x_1.x.sq, Value.slice x_1.a.am x_1.x.ms.length x_1.a.cm] : Bx } ∧
      true = true) ∧
      (some
      { ty := (25 : TypeId), cs := [Value.int IntKind.i64 x.s.x.nu, Value.int IntKind.i64 x.s.x.fr, Value.int IntKind.i64 x.s.x.to, Value.string x.s.x.lo, Value.string x.s.x.hi, Value.int IntKind.i64 x.s.x.cl, Value.int IntKind.i64 x.s.x.sq] : Bx } =
      some
      { ty := (25 : TypeId), cs := [Value.int IntKind.i64 x_1.x.nu, Value.int IntKind.i64 x_1.x.fr, Value.int IntKind.i64 x_1.x.to, Value.string x_1.x.lo, Value.string x_1.x.hi, Value.int IntKind.i64 x_1.x.cl, Value.int IntKind.i64 x_1.x.sq] : Bx } ∧
      true = true) ∧
      (some
      { ty := (28 : TypeId), cs := [Value.int IntKind.i64 x.s.iy, Value.slice x.s.b.ap x.s.x.ps.length x.s.b.cp, Value.int IntKind.i64 x.s.x.nx, Value.int IntKind.i64 x.s.x.la, Value.int IntKind.i64 x.s.x.nu, Value.int IntKind.i64 x.s.x.fr, Value.int IntKind.i64 x.s.x.to, Value.string x.s.x.lo, Value.string x.s.x.hi, Value.int IntKind.i64 x.s.x.cl, Value.int IntKind.i64 x.s.x.sq, Value.slice x.s.b.am x.s.ms.length x.s.b.cm] : Bx } =
      some
      { ty := (28 : TypeId), cs := [Value.int IntKind.i64 x_1.iy, Value.slice x_1.b.ap x_1.x.ps.length x_1.b.cp, Value.int IntKind.i64 x_1.x.nx, Value.int IntKind.i64 x_1.x.la, Value.int IntKind.i64 x_1.x.nu, Value.int IntKind.i64 x_1.x.fr, Value.int IntKind.i64 x_1.x.to, Value.string x_1.x.lo, Value.string x_1.x.hi, Value.int IntKind.i64 x_1.x.cl, Value.int IntKind.i64 x_1.x.sq, Value.slice x_1.b.am x_1.ms.length x_1.b.cm] : Bx } ∧
      true = true) ∧
      True)) ∧
      ∀ (x : OpY1),
      OpJ1 x →
      ifB sh
      (∃ (x_1 : OpY1),
      OpJ1 x_1 ∧
      x.m = x_1.m ∧
      ((SV.own (33 : Nat) (0 : Nat) =
      SV.own (33 : Nat)
      (0 : Nat) ∧
      true = true) ∧
      (SV.val
      (Value.int
      IntKind.i64
      (13 : Int)) =
      SV.val
      (Value.int
      IntKind.i64
      (if sh = true then
      (13 : Int)
      else
      (14 : Int))) ∧
      true = true) ∧
      (SV.own (17 : Nat)
      (0 : Nat) =
      SV.own (17 : Nat)
      (0 : Nat) ∧
      true = true) ∧
      (SV.val
      (Value.int
      IntKind.i64
      (0 : Int)) =
      SV.val
      (Value.int
      IntKind.i64
      (if
      sh =
      true then
      (0 : Int)
      else
      (190 :
      Int))) ∧
      true = true) ∧
      (SV.val
      (Value.bool
      sh) =
      SV.val
      (Value.bool
      sh) ∧
      true = true) ∧
      (SV.own (2 : Nat)
      (0 : Nat) =
      SV.own
      (2 : Nat)
      (0 : Nat) ∧
      true = true) ∧
      True) ∧
      (some
      { ty := (28 : TypeId), cs := [Value.int IntKind.i64 x.x.ix, Value.slice x.a.ap x.x.ps.length x.a.cp, Value.int IntKind.i64 x.x.nx, Value.int IntKind.i64 x.x.la, Value.int IntKind.i64 x.x.nu, Value.int IntKind.i64 x.x.fr, Value.int IntKind.i64 x.x.to, Value.string x.x.lo, Value.string x.x.hi, Value.int IntKind.i64 x.x.cl, Value.int IntKind.i64 x.x.sq, Value.slice x.a.am x.x.ms.length x.a.cm] : Bx } =
      some
      { ty := (28 : TypeId), cs := [Value.int IntKind.i64 x_1.x.ix, Value.slice x_1.a.ap x_1.x.ps.length x_1.a.cp, Value.int IntKind.i64 x_1.x.nx, Value.int IntKind.i64 x_1.x.la, Value.int IntKind.i64 x_1.x.nu, Value.int IntKind.i64 x_1.x.fr, Value.int IntKind.i64 x_1.x.to, Value.string x_1.x.lo, Value.string x_1.x.hi, Value.int IntKind.i64 x_1.x.cl, Value.int IntKind.i64 x_1.x.sq, Value.slice x_1.a.am x_1.x.ms.length x_1.a.cm] : Bx } ∧
      true = true) ∧
      (some
      { ty := (25 : TypeId), cs := [Value.int IntKind.i64 x.x.nu, Value.int IntKind.i64 x.x.fr, Value.int IntKind.i64 x.x.to, Value.string x.x.lo, Value.string x.x.hi, Value.int IntKind.i64 x.x.cl, Value.int IntKind.i64 x.x.sq] : Bx } =
      some
      { ty := (25 : TypeId), cs := [Value.int IntKind.i64 x_1.x.nu, Value.int IntKind.i64 x_1.x.fr, Value.int IntKind.i64 x_1.x.to, Value.string x_1.x.lo, Value.string x_1.x.hi, Value.int IntKind.i64 x_1.x.cl, Value.int IntKind.i64 x_1.x.sq] : Bx } ∧
      true = true) ∧
      (some
      { ty := (28 : TypeId), cs := [Value.int IntKind.i64 x.iy, Value.slice x.b.ap x.x.ps.length x.b.cp, Value.int IntKind.i64 x.x.nx, Value.int IntKind.i64 x.x.la, Value.int IntKind.i64 x.x.nu, Value.int IntKind.i64 x.x.fr, Value.int IntKind.i64 x.x.to, Value.string x.x.lo, Value.string x.x.hi, Value.int IntKind.i64 x.x.cl, Value.int IntKind.i64 x.x.sq, Value.slice x.b.am x.ms.length x.b.cm] : Bx } =
      some
      { ty := (28 : TypeId), cs := [Value.int IntKind.i64 x_1.iy, Value.slice x_1.b.ap x_1.x.ps.length x_1.b.cp, Value.int IntKind.i64 x_1.x.nx, Value.int IntKind.i64 x_1.x.la, Value.int IntKind.i64 x_1.x.nu, Value.int IntKind.i64 x_1.x.fr, Value.int IntKind.i64 x_1.x.to, Value.string x_1.x.lo, Value.string x_1.x.hi, Value.int IntKind.i64 x_1.x.cl, Value.int IntKind.i64 x_1.x.sq, Value.slice x_1.b.am x_1.ms.length x_1.b.cm] : Bx } ∧
      true = true) ∧
      True)
      (∃ (x_1 : OpY1),
      OpJ1 x_1 ∧
      x.m = x_1.m ∧
      ((SV.own (33 : Nat) (0 : Nat) =
      SV.own (33 : Nat)
      (0 : Nat) ∧
      true = true) ∧
      (SV.val
      (Value.int
      IntKind.i64
      (14 : Int)) =
      SV.val
      (Value.int
      IntKind.i64
      (if sh = true then
      (13 : Int)
      else
      (14 : Int))) ∧
      true = true) ∧
      (SV.own (17 : Nat)
      (0 : Nat) =
      SV.own (17 : Nat)
      (0 : Nat) ∧
      true = true) ∧
      (SV.val
      (Value.int
      IntKind.i64
      (190 : Int)) =
      SV.val
      (Value.int
      IntKind.i64
      (if
      sh =
      true then
      (0 : Int)
      else
      (190 :
      Int))) ∧
      true = true) ∧
      (SV.val
      (Value.bool
      sh) =
      SV.val
      (Value.bool
      sh) ∧
      true = true) ∧
      (SV.own (2 : Nat)
      (0 : Nat) =
      SV.own
      (2 : Nat)
      (0 : Nat) ∧
      true = true) ∧
      True) ∧
      (some
      { ty := (28 : TypeId), cs := [Value.int IntKind.i64 x.x.ix, Value.slice x.a.ap x.x.ps.length x.a.cp, Value.int IntKind.i64 x.x.nx, Value.int IntKind.i64 x.x.la, Value.int IntKind.i64 x.x.nu, Value.int IntKind.i64 x.x.fr, Value.int IntKind.i64 x.x.to, Value.string x.x.lo, Value.string x.x.hi, Value.int IntKind.i64 x.x.cl, Value.int IntKind.i64 x.x.sq, Value.slice x.a.am x.x.ms.length x.a.cm] : Bx } =
      some
      { ty := (28 : TypeId), cs := [Value.int IntKind.i64 x_1.x.ix, Value.slice x_1.a.ap x_1.x.ps.length x_1.a.cp, Value.int IntKind.i64 x_1.x.nx, Value.int IntKind.i64 x_1.x.la, Value.int IntKind.i64 x_1.x.nu, Value.int IntKind.i64 x_1.x.fr, Value.int IntKind.i64 x_1.x.to, Value.string x_1.x.lo, Value.string x_1.x.hi, Value.int IntKind.i64 x_1.x.cl, Value.int IntKind.i64 x_1.x.sq, Value.slice x_1.a.am x_1.x.ms.length x_1.a.cm] : Bx } ∧
      true = true) ∧
      (some
      { ty := (25 : TypeId), cs := [Value.int IntKind.i64 x.x.nu, Value.int IntKind.i64 x.x.fr, Value.int IntKind.i64 x.x.to, Value.string x.x.lo, Value.string x.x.hi, Value.int IntKind.i64 x.x.cl, Value.int IntKind.i64 x.x.sq] : Bx } =
      some
      { ty := (25 : TypeId), cs := [Value.int IntKind.i64 x_1.x.nu, Value.int IntKind.i64 x_1.x.fr, Value.int IntKind.i64 x_1.x.to, Value.string x_1.x.lo, Value.string x_1.x.hi, Value.int IntKind.i64 x_1.x.cl, Value.int IntKind.i64 x_1.x.sq] : Bx } ∧
      true = true) ∧
      (some
      { ty := (28 : TypeId), cs := [Value.int IntKind.i64 x.iy, Value.slice x.b.ap x.x.ps.length x.b.cp, Value.int IntKind.i64 x.x.nx, Value.int IntKind.i64 x.x.la, Value.int IntKind.i64 x.x.nu, Value.int IntKind.i64 x.x.fr, Value.int IntKind.i64 x.x.to, Value.string x.x.lo, Value.string x.x.hi, Value.int IntKind.i64 x.x.cl, Value.int IntKind.i64 x.x.sq, Value.slice x.b.am x.ms.length x.b.cm] : Bx } =
      some
      { ty := (28 : TypeId), cs := [Value.int IntKind.i64 x_1.iy, Value.slice x_1.b.ap x_1.x.ps.length x_1.b.cp, Value.int IntKind.i64 x_1.x.nx, Value.int IntKind.i64 x_1.x.la, Value.int IntKind.i64 x_1.x.nu, Value.int IntKind.i64 x_1.x.fr, Value.int IntKind.i64 x_1.x.to, Value.string x_1.x.lo, Value.string x_1.x.hi, Value.int IntKind.i64 x_1.x.cl, Value.int IntKind.i64 x_1.x.sq, Value.slice x_1.b.am x_1.ms.length x_1.b.cm] : Bx } ∧
      true = true) ∧
      True) ∧
      ∀ (x : OpY1),
      OpJ1 x →
      ∀ (n : Nat),
      x.m.sz ≤ n →
      Vc.Spec Try.prog (11 : Nat)
      [Value.agg
      #[Value.int IntKind.i64
      x.iy,
      Value.slice x.b.ap
      x.x.ps.length x.b.cp,
      Value.int IntKind.i64
      x.x.nx,
      Value.int IntKind.i64
      x.x.la,
      Value.int IntKind.i64
      x.x.nu,
      Value.int IntKind.i64
      x.x.fr,
      Value.int IntKind.i64
      x.x.to,
      Value.string x.x.lo,
      Value.string x.x.hi,
      Value.int IntKind.i64
      x.x.cl,
      Value.int IntKind.i64
      x.x.sq,
      Value.slice x.b.am
      x.ms.length x.b.cm],
      Value.agg
      #[Value.int IntKind.i64
      (if sh = true then
      (13 : Int)
      else (14 : Int)),
      Value.int IntKind.i64
      (0 : Int),
      Value.int IntKind.i64
      (0 : Int),
      Value.int IntKind.i64
      (0 : Int),
      Value.int IntKind.i64
      (0 : Int),
      Value.int IntKind.i64
      (0 : Int),
      Value.string
      { data := #[] : ByteArray },
      Value.int IntKind.i64
      (0 : Int),
      Value.int IntKind.i64
      (0 : Int),
      Value.int IntKind.i64
      (0 : Int),
      Value.bool false,
      Value.int IntKind.i64
      (0 : Int),
      Value.string
      { data := #[] : ByteArray },
      Value.string
      { data := #[] : ByteArray },
      Value.int IntKind.i64
      (0 : Int),
      Value.int IntKind.i64
      (0 : Int),
      Value.int IntKind.i64
      (0 : Int),
      Value.int IntKind.i64
      (IntKind.i64.wrap
      (x.x.nu +
      (1 : Int))),
      Value.int IntKind.i64
      (0 : Int),
      Value.int IntKind.i64
      (0 : Int),
      Value.string
      { data := #[] : ByteArray },
      Value.string
      { data := #[] : ByteArray },
      Value.int IntKind.i64
      (0 : Int),
      Value.int IntKind.i64
      (0 : Int),
      Value.slice none
      (0 : Nat) (0 : Nat)],
      Value.int IntKind.i64
      (IntKind.i64.wrap
      (x.iy + (1 : Int)))]
      { π := x.m.π, sz := n, uf := x.m.uf : M }
      fun (v : Value) (m' : M) =>
      ∃ (n : Int),
      ∃ (a : Option Addr),
      ∃ (n_27 : Nat),
      ∃ (c : Nat),
      ∃ (n_28 : Int),
      ∃ (n_29 : Int),
      ∃ (n_30 : Int),
      ∃ (n_31 : Int),
      ∃ (n_32 :
      Int),
      ∃ (s :
      ByteArray),
      ∃ (s_3 :
      ByteArray),
      ∃ (n_33
      :
      Int),
      ∃
      (n_34
      :
      Int),
      ∃
      (a_7
      :
      Option
      Addr),
      ∃
      (n_35
      :
      Nat),
      ∃
      (c_4
      :
      Nat),
      ∃
      (a_8
      :
      Option
      Addr),
      ∃
      (n_36
      :
      Nat),
      ∃
      (c_5
      :
      Nat),
      ∃
      (n_37
      :
      Int),
      v =
      Value.tuple
      #[Value.agg
      #[Value.int
      IntKind.i64
      n,
      Value.slice
      a
      n_27
      c,
      Value.int
      IntKind.i64
      n_28,
      Value.int
      IntKind.i64
      n_29,
      Value.int
      IntKind.i64
      n_30,
      Value.int
      IntKind.i64
      n_31,
      Value.int
      IntKind.i64
      n_32,
      Value.string
      s,
      Value.string
      s_3,
      Value.int
      IntKind.i64
      n_33,
      Value.int
      IntKind.i64
      n_34,
      Value.slice
      a_7
      n_35
      c_4],
      Value.slice
      a_8
      n_36
      c_5,
      Value.int
      IntKind.i64
      n_37] ∧
      ifB
      (n_37 !=
      (0 :
      Int))
      (Done
      (Value.bool
      false =
      Value.bool
      true))
      (ifB
      (decide
      ((↑n_36 :
      Int) >
      (0 :
      Int)))
      (Done
      (Value.bool
      false =
      Value.bool
      true))
      (ifB
      (!(n_30 ==
      x.x.nu &&
      (n_31 ==
      x.x.fr &&
      (n_32 ==
      x.x.to &&
      (s.toList ==
      x.x.lo.toList &&
      (s_3.toList ==
      x.x.hi.toList &&
      (n_33 ==
      x.x.cl &&
      (n_34 ==
      x.x.sq &&
      true))))))))
      (Done
      (Value.bool
      false =
      Value.bool
      true))
      (∀
      (n_38 :
      Nat),
      m'.sz ≤
      n_38 →
      Vc.Spec
      Try.prog
      (11 :
      Nat)
      [Value.agg
      #[Value.int
      IntKind.i64
      n,
      Value.slice
      a
      n_27
      c,
      Value.int
      IntKind.i64
      n_28,
      Value.int
      IntKind.i64
      n_29,
      Value.int
      IntKind.i64
      n_30,
      Value.int
      IntKind.i64
      n_31,
      Value.int
      IntKind.i64
      n_32,
      Value.string
      s,
      Value.string
      s_3,
      Value.int
      IntKind.i64
      n_33,
      Value.int
      IntKind.i64
      n_34,
      Value.slice
      a_7
      n_35
      c_4],
      Value.agg
      #[Value.int
      IntKind.i64
      (if
      sh =
      true then
      (13 :
      Int)
      else
      (14 :
      Int)),
      Value.int
      IntKind.i64
      (0 :
      Int),
      Value.int
      IntKind.i64
      (0 :
      Int),
      Value.int
      IntKind.i64
      (0 :
      Int),
      Value.int
      IntKind.i64
      (0 :
      Int),
      Value.int
      IntKind.i64
      (0 :
      Int),
      Value.string
      { data := #[] : ByteArray },
      Value.int
      IntKind.i64
      (0 :
      Int),
      Value.int
      IntKind.i64
      (0 :
      Int),
      Value.int
      IntKind.i64
      (0 :
      Int),
      Value.bool
      false,
      Value.int
      IntKind.i64
      (0 :
      Int),
      Value.string
      { data := #[] : ByteArray },
      Value.string
      { data := #[] : ByteArray },
      Value.int
      IntKind.i64
      (0 :
      Int),
      Value.int
      IntKind.i64
      (0 :
      Int),
      Value.int
      IntKind.i64
      (0 :
      Int),
      Value.int
      IntKind.i64
      x.x.nu,
      Value.int
      IntKind.i64
      x.x.fr,
      Value.int
      IntKind.i64
      x.x.to,
      Value.string
      x.x.lo,
      Value.string
      x.x.hi,
      Value.int
      IntKind.i64
      x.x.cl,
      Value.int
      IntKind.i64
      x.x.sq,
      Value.slice
      none
      (0 :
      Nat)
      (0 :
      Nat)],
      Value.int
      IntKind.i64
      (IntKind.i64.wrap
      (n +
      (1 :
      Int)))]
      { π := m'.π, sz := n_38, uf := m'.uf : M }
      fun
      (v :
      Value)
      (m' :
      M) =>
      ∃
      (n
      :
      Int),
      ∃
      (a
      :
      Option
      Addr),
      ∃
      (n_39
      :
      Nat),
      ∃
      (c
      :
      Nat),
      ∃
      (n_40
      :
      Int),
      ∃
      (n_41
      :
      Int),
      ∃
      (n_42
      :
      Int),
      ∃
      (n_43
      :
      Int),
      ∃
      (n_44
      :
      Int),
      ∃
      (s
      :
      ByteArray),
      ∃
      (s_4
      :
      ByteArray),
      ∃
      (n_45
      :
      Int),
      ∃
      (n_46
      :
      Int),
      ∃
      (a_10
      :
      Option
      Addr),
      ∃
      (n_47
      :
      Nat),
      ∃
      (c_6
      :
      Nat),
      ∃
      (a_11
      :
      Option
      Addr),
      ∃
      (n_48
      :
      Nat),
      ∃
      (c_7
      :
      Nat),
      ∃
      (n_49
      :
      Int),
      v =
      Value.tuple
      #[Value.agg
      #[Value.int
      IntKind.i64
      n,
      Value.slice
      a
      n_39
      c,
      Value.int
      IntKind.i64
      n_40,
      Value.int
      IntKind.i64
      n_41,
      Value.int
      IntKind.i64
      n_42,
      Value.int
      IntKind.i64
      n_43,
      Value.int
      IntKind.i64
      n_44,
      Value.string
      s,
      Value.string
      s_4,
      Value.int
      IntKind.i64
      n_45,
      Value.int
      IntKind.i64
      n_46,
      Value.slice
      a_10
      n_47
      c_6],
      Value.slice
      a_11
      n_48
      c_7,
      Value.int
      IntKind.i64
      n_49] ∧
      true =
      true ∧
      ifB
      (n_49 !=
      (0 :
      Int))
      (Done
      (Value.bool
      false =
      Value.bool
      true))
      (ifB
      (n_42 !=
      (0 :
      Int))
      (Done
      (Value.bool
      false =
      Value.bool
      true))
      (ifB
      ((↑n_48 :
      Int) !=
      (1 :
      Int))
      (Done
      (Value.bool
      false =
      Value.bool
      true))
      (∃
      (b
      :
      Nat),
      ∃
      (off
      :
      Nat),
      a_11 =
      some
      { block := b, off := off : Addr } ∧
      ((0 :
      Int) ≤
      (0 :
      Int) ∧
      (0 :
      Int) <
      (↑n_48 :
      Int)) ∧
      ∃
      (n_50
      :
      Int),
      ∃
      (n_51
      :
      Int),
      ∃
      (n_52
      :
      Int),
      ∃
      (n_53
      :
      Int),
      ∃
      (n_54
      :
      Int),
      ∃
      (n_55
      :
      Int),
      ∃
      (n_56
      :
      Int),
      CellsAt
      m'
      b
      (off +
      (0 :
      Nat))
      [Value.int
      IntKind.i64
      n_50,
      Value.int
      IntKind.i64
      n_51,
      Value.int
      IntKind.i64
      n_52,
      Value.int
      IntKind.i64
      n_53,
      Value.int
      IntKind.i64
      n_54,
      Value.int
      IntKind.i64
      n_55,
      Value.int
      IntKind.i64
      n_56] ∧
      ifB
      (!(n_50 ==
      (1 :
      Int) &&
      (n_51 ==
      x.x.cl &&
      (n_52 ==
      x.x.sq &&
      ((n_53 ==
      if
      sh =
      true then
      (0 :
      Int)
      else
      (190 :
      Int)) &&
      (n_54 ==
      (0 :
      Int) &&
      (n_55 ==
      (0 :
      Int) &&
      (n_56 ==
      (0 :
      Int) &&
      true))) &&
      true)))))
      (Done
      (Value.bool
      false =
      Value.bool
      true))
      (∀
      (n_57 :
      Nat),
      m'.sz ≤
      n_57 →
      Vc.Spec
      Try.prog
      (11 :
      Nat)
      [Value.agg
      #[Value.int
      IntKind.i64
      n,
      Value.slice
      a
      n_39
      c,
      Value.int
      IntKind.i64
      n_40,
      Value.int
      IntKind.i64
      n_41,
      Value.int
      IntKind.i64
      n_42,
      Value.int
      IntKind.i64
      n_43,
      Value.int
      IntKind.i64
      n_44,
      Value.string
      s,
      Value.string
      s_4,
      Value.int
      IntKind.i64
      n_45,
      Value.int
      IntKind.i64
      n_46,
      Value.slice
      a_10
      n_47
      c_6],
      Value.agg
      #[Value.int
      IntKind.i64
      (if
      sh =
      true then
      (13 :
      Int)
      else
      (14 :
      Int)),
      Value.int
      IntKind.i64
      (0 :
      Int),
      Value.int
      IntKind.i64
      (0 :
      Int),
      Value.int
      IntKind.i64
      (0 :
      Int),
      Value.int
      IntKind.i64
      (0 :
      Int),
      Value.int
      IntKind.i64
      (0 :
      Int),
      Value.string
      { data := #[] : ByteArray },
      Value.int
      IntKind.i64
      (0 :
      Int),
      Value.int
      IntKind.i64
      (0 :
      Int),
      Value.int
      IntKind.i64
      (0 :
      Int),
      Value.bool
      false,
      Value.int
      IntKind.i64
      (0 :
      Int),
      Value.string
      { data := #[] : ByteArray },
      Value.string
      { data := #[] : ByteArray },
      Value.int
      IntKind.i64
      (0 :
      Int),
      Value.int
      IntKind.i64
      (0 :
      Int),
      Value.int
      IntKind.i64
      (0 :
      Int),
      Value.int
      IntKind.i64
      x.x.nu,
      Value.int
      IntKind.i64
      x.x.fr,
      Value.int
      IntKind.i64
      x.x.to,
      Value.string
      x.x.lo,
      Value.string
      x.x.hi,
      Value.int
      IntKind.i64
      x.x.cl,
      Value.int
      IntKind.i64
      x.x.sq,
      Value.slice
      none
      (0 :
      Nat)
      (0 :
      Nat)],
      Value.int
      IntKind.i64
      (IntKind.i64.wrap
      (n +
      (1 :
      Int)))]
      { π := m'.π, sz := n_57, uf := m'.uf : M }
      fun
      (v :
      Value)
      (m' :
      M) =>
      ∃
      (n
      :
      Int),
      ∃
      (a_13
      :
      Option
      Addr),
      ∃
      (n_58
      :
      Nat),
      ∃
      (c_8
      :
      Nat),
      ∃
      (n_59
      :
      Int),
      ∃
      (n_60
      :
      Int),
      ∃
      (n_61
      :
      Int),
      ∃
      (n_62
      :
      Int),
      ∃
      (n_63
      :
      Int),
      ∃
      (s
      :
      ByteArray),
      ∃
      (s_5
      :
      ByteArray),
      ∃
      (n_64
      :
      Int),
      ∃
      (n_65
      :
      Int),
      ∃
      (a_14
      :
      Option
      Addr),
      ∃
      (n_66
      :
      Nat),
      ∃
      (c_9
      :
      Nat),
      ∃
      (a_15
      :
      Option
      Addr),
      ∃
      (n_67
      :
      Nat),
      ∃
      (c_10
      :
      Nat),
      ∃
      (n_68
      :
      Int),
      v =
      Value.tuple
      #[Value.agg
      #[Value.int
      IntKind.i64
      n,
      Value.slice
      a_13
      n_58
      c_8,
      Value.int
      IntKind.i64
      n_59,
      Value.int
      IntKind.i64
      n_60,
      Value.int
      IntKind.i64
      n_61,
      Value.int
      IntKind.i64
      n_62,
      Value.int
      IntKind.i64
      n_63,
      Value.string
      s,
      Value.string
      s_5,
      Value.int
      IntKind.i64
      n_64,
      Value.int
      IntKind.i64
      n_65,
      Value.slice
      a_14
      n_66
      c_9],
      Value.slice
      a_15
      n_67
      c_10,
      Value.int
      IntKind.i64
      n_68] ∧
      ∃
      (n
      :
      Int),
      QSpec
      Try.prog
      (20 :
      Nat)
      [Value.slice
      a
      n_39
      c,
      Value.string
      x.x.lo]
      m'
      (Value.int
      IntKind.i64
      n) ∧
      true =
      true ∧
      ∃
      (b
      :
      Nat),
      ∃
      (off
      :
      Nat),
      a =
      some
      { block := b, off := off : Addr } ∧
      ((0 :
      Int) ≤
      n ∧
      n <
      (↑n_39 :
      Int)) ∧
      ∃
      (n_69
      :
      Int),
      CellsAt
      m'
      b
      (off +
      n.toNat *
      (3 :
      Nat) +
      (0 :
      Nat))
      [Value.int
      IntKind.i64
      n_69] ∧
      ifB
      (n_68 ==
      (0 :
      Int))
      (ifB
      ((↑n_67 :
      Int) ==
      (0 :
      Int))
      (ifB
      ((n_69 ==
      x.x.to) ==
      sh)
      (∃
      (b
      :
      Bool),
      QSpec
      Try.prog
      (21 :
      Nat)
      [Value.slice
      x.b.ap
      x.x.ps.length
      x.b.cp,
      Value.slice
      x.a.ap
      x.x.ps.length
      x.a.cp]
      m'
      (Value.bool
      b) ∧
      Done
      (Value.bool
      b =
      Value.bool
      true))
      (Done
      (Value.bool
      false =
      Value.bool
      true)))
      (Done
      (Value.bool
      false =
      Value.bool
      true)))
      (Done
      (Value.bool
      false =
      Value.bool
      true))))))))))
      (ifB (n_20 != (0 : Int))
      (Done (Value.bool false = Value.bool true))
      (ifB
      (!(n_13 == a.x.nu &&
      (n_14 == a.x.fr &&
      (n_15 == a.x.to &&
      (s.toList == a.x.lo.toList &&
      (s_2.toList == a.x.hi.toList &&
      (n_16 == a.x.cl &&
      (n_17 == a.x.sq && true))))))))
      (Done (Value.bool false = Value.bool true))
      (ifB (decide ((↑n_19 : Int) > (1 : Int)))
      (Done (Value.bool false = Value.bool true))
      (ifB ((↑n_19 : Int) == (1 : Int))
      (∃ (b_2 : Nat),
      ∃ (off : Nat),
      a_6 =
      some
      { block := b_2, off := off : Addr } ∧
      ((0 : Int) ≤ (0 : Int) ∧
      (0 : Int) < (↑n_19 : Int)) ∧
      ∃ (n_27 : Int),
      ∃ (n_28 : Int),
      ∃ (n_29 : Int),
      ∃ (n_30 : Int),
      ∃ (n_31 : Int),
      ∃ (n_32 : Int),
      ∃ (n_33 : Int),
      CellsAt m' b_2
      (off + (0 : Nat))
      [Value.int
      IntKind.i64
      n_27,
      Value.int
      IntKind.i64
      n_28,
      Value.int
      IntKind.i64
      n_29,
      Value.int
      IntKind.i64
      n_30,
      Value.int
      IntKind.i64
      n_31,
      Value.int
      IntKind.i64
      n_32,
      Value.int
      IntKind.i64
      n_33] ∧
      ifB
      (!(n_27 ==
      (1 : Int) &&
      (n_28 == cl &&
      (n_29 ==
      sq &&
      (n_30 ==
      (190 :
      Int) &&
      (n_31 ==
      (0 :
      Int) &&
      (n_32 ==
      (0 :
      Int) &&
      (n_33 ==
      (0 :
      Int) &&
      true))) &&
      true)))))
      (Done
      (Value.bool
      false =
      Value.bool
      true))
      (∃ (x : OpZ1),
      OpK1 cl sq x ∧
      m' = x.s.m ∧
      ((SV.val
      (Value.slice
      a_6
      n_19
      c_3) =
      SV.val
      (Value.slice
      x.al
      x.l.length
      x.ll) ∧
      true =
      true) ∧
      (SV.val
      (Value.bool
      false) =
      SV.val
      (Value.bool
      x.ag) ∧
      true =
      true) ∧
      (SV.val
      (Value.int
      IntKind.i64
      cl) =
      SV.val
      (Value.int
      IntKind.i64
      cl) ∧
      true =
      true) ∧
      (SV.val
      (Value.int
      IntKind.i64
      sq) =
      SV.val
      (Value.int
      IntKind.i64
      sq) ∧
      true =
      true) ∧
      (SV.own
      ((0 :
      Nat) +
      (1 :
      Nat) +
      (3 :
      Nat) +
      (2 :
      Nat) +
      (1 :
      Nat) +
      (4 :
      Nat) +
      (4 :
      Nat) +
      (4 :
      Nat) +
      (18 :
      Nat) +
      (7 :
      Nat))
      (0 :
      Nat) =
      SV.own
      (44 :
      Nat)
      (0 :
      Nat) ∧
      true =
      true) ∧
      (SV.val
      (Value.bool
      sh) =
      SV.val
      (Value.bool
      sh) ∧
      true =
      true) ∧
      (SV.own
      ((0 :
      Nat) +
      (1 :
      Nat) +
      (3 :
      Nat) +
      (2 :
      Nat) +
      (1 :
      Nat) +
      (4 :
      Nat) +
      (4 :
      Nat) +
      (4 :
      Nat) +
      (14 :
      Nat))
      (0 :
      Nat) =
      SV.own
      (33 :
      Nat)
      (0 :
      Nat) ∧
      true =
      true) ∧
      (SV.own
      ((0 :
      Nat) +
      (1 :
      Nat) +
      (3 :
      Nat) +
      (2 :
      Nat) +
      (1 :
      Nat) +
      (4 :
      Nat) +
      (4 :
      Nat) +
      (2 :
      Nat))
      (0 :
      Nat) =
      SV.own
      (17 :
      Nat)
      (0 :
      Nat) ∧
      true =
      true) ∧
      (SV.own
      (2 :
      Nat)
      (0 :
      Nat) =
      SV.own
      (2 :
      Nat)
      (0 :
      Nat) ∧
      true =
      true) ∧
      True) ∧
      (some
      { ty := (28 : TypeId), cs := [Value.int IntKind.i64 a.x.ix, Value.slice a.a.ap a.x.ps.length a.a.cp, Value.int IntKind.i64 a.x.nx, Value.int IntKind.i64 a.x.la, Value.int IntKind.i64 a.x.nu, Value.int IntKind.i64 a.x.fr, Value.int IntKind.i64 a.x.to, Value.string a.x.lo, Value.string a.x.hi, Value.int IntKind.i64 a.x.cl, Value.int IntKind.i64 a.x.sq, Value.slice a.a.am a.x.ms.length a.a.cm] : Bx } =
      some
      { ty := (28 : TypeId), cs := [Value.int IntKind.i64 x.s.x.ix, Value.slice x.s.a.ap x.s.x.ps.length x.s.a.cp, Value.int IntKind.i64 x.s.x.nx, Value.int IntKind.i64 x.s.x.la, Value.int IntKind.i64 x.s.x.nu, Value.int IntKind.i64 x.s.x.fr, Value.int IntKind.i64 x.s.x.to, Value.string x.s.x.lo, Value.string x.s.x.hi, Value.int IntKind.i64 x.s.x.cl, Value.int IntKind.i64 x.s.x.sq, Value.slice x.s.a.am x.s.x.ms.length x.s.a.cm] : Bx } ∧
      true =
      true) ∧
      (some
      { ty := (25 : Nat), cs := [Value.int IntKind.i64 a.x.nu, Value.int IntKind.i64 a.x.fr, Value.int IntKind.i64 a.x.to, Value.string a.x.lo, Value.string a.x.hi, Value.int IntKind.i64 a.x.cl, Value.int IntKind.i64 a.x.sq] : Bx } =
      some
      { ty := (25 : TypeId), cs := [Value.int IntKind.i64 x.s.x.nu, Value.int IntKind.i64 x.s.x.fr, Value.int IntKind.i64 x.s.x.to, Value.string x.s.x.lo, Value.string x.s.x.hi, Value.int IntKind.i64 x.s.x.cl, Value.int IntKind.i64 x.s.x.sq] : Bx } ∧
      true =
      true) ∧
      (some
      { ty := (28 : Nat), cs := [Value.int IntKind.i64 n, Value.slice a_4 n_10 c, Value.int IntKind.i64 n_11, Value.int IntKind.i64 n_12, Value.int IntKind.i64 n_13, Value.int IntKind.i64 n_14, Value.int IntKind.i64 n_15, Value.string s, Value.string s_2, Value.int IntKind.i64 n_16, Value.int IntKind.i64 n_17, Value.slice a_5 n_18 c_2] : Bx } =
      some
      { ty := (28 : TypeId), cs := [Value.int IntKind.i64 x.s.iy, Value.slice x.s.b.ap x.s.x.ps.length x.s.b.cp, Value.int IntKind.i64 x.s.x.nx, Value.int IntKind.i64 x.s.x.la, Value.int IntKind.i64 x.s.x.nu, Value.int IntKind.i64 x.s.x.fr, Value.int IntKind.i64 x.s.x.to, Value.string x.s.x.lo, Value.string x.s.x.hi, Value.int IntKind.i64 x.s.x.cl, Value.int IntKind.i64 x.s.x.sq, Value.slice x.s.b.am x.s.ms.length x.s.b.cm] : Bx } ∧
      true =
      true) ∧
      (some
      { ty := (56 : Nat), cs := [Value.int IntKind.i64 n_21, Value.int IntKind.i64 n_22, Value.bool b, Value.int IntKind.i64 n_23, Value.int IntKind.i64 n_24, Value.int IntKind.i64 n_25, Value.int IntKind.i64 n_26] : Bx } =
      some
      { ty := (56 : TypeId), cs := [Value.int IntKind.i64 x.me.cl, Value.int IntKind.i64 x.me.sq, Value.bool x.me.op, Value.int IntKind.i64 x.me.an_er, Value.int IntKind.i64 x.me.an_va, Value.int IntKind.i64 x.me.an_le, Value.int IntKind.i64 x.me.an_mo] : Bx } ∧
      true =
      true) ∧
      True))
      (∃ (x : OpZ1),
      OpK1 cl sq x ∧
      m' = x.s.m ∧
      ((SV.val (Value.slice a_6 n_19 c_3) =
      SV.val
      (Value.slice x.al x.l.length
      x.ll) ∧
      true = true) ∧
      (SV.val (Value.bool false) =
      SV.val (Value.bool x.ag) ∧
      true = true) ∧
      (SV.val
      (Value.int IntKind.i64
      cl) =
      SV.val
      (Value.int IntKind.i64
      cl) ∧
      true = true) ∧
      (SV.val
      (Value.int IntKind.i64
      sq) =
      SV.val
      (Value.int IntKind.i64
      sq) ∧
      true = true) ∧
      (SV.own
      ((0 : Nat) +
      (1 :
      Nat) +
      (3 :
      Nat) +
      (2 :
      Nat) +
      (1 :
      Nat) +
      (4 :
      Nat) +
      (4 : Nat) +
      (4 : Nat) +
      (18 : Nat) +
      (7 : Nat))
      (0 : Nat) =
      SV.own (44 : Nat)
      (0 : Nat) ∧
      true = true) ∧
      (SV.val (Value.bool sh) =
      SV.val
      (Value.bool sh) ∧
      true = true) ∧
      (SV.own
      ((0 : Nat) +
      (1 :
      Nat) +
      (3 :
      Nat) +
      (2 :
      Nat) +
      (1 :
      Nat) +
      (4 :
      Nat) +
      (4 :
      Nat) +
      (4 : Nat) +
      (14 : Nat))
      (0 : Nat) =
      SV.own (33 : Nat)
      (0 : Nat) ∧
      true = true) ∧
      (SV.own
      ((0 : Nat) +
      (1 :
      Nat) +
      (3 :
      Nat) +
      (2 :
      Nat) +
      (1 :
      Nat) +
      (4 :
      Nat) +
      (4 :
      Nat) +
      (2 : Nat))
      (0 : Nat) =
      SV.own
      (17 : Nat)
      (0 : Nat) ∧
      true = true) ∧
      (SV.own (2 : Nat)
      (0 : Nat) =
      SV.own
      (2 : Nat)
      (0 : Nat) ∧
      true = true) ∧
      True) ∧
      (some
      { ty := (28 : TypeId), cs := [Value.int IntKind.i64 a.x.ix, Value.slice a.a.ap a.x.ps.length a.a.cp, Value.int IntKind.i64 a.x.nx, Value.int IntKind.i64 a.x.la, Value.int IntKind.i64 a.x.nu, Value.int IntKind.i64 a.x.fr, Value.int IntKind.i64 a.x.to, Value.string a.x.lo, Value.string a.x.hi, Value.int IntKind.i64 a.x.cl, Value.int IntKind.i64 a.x.sq, Value.slice a.a.am a.x.ms.length a.a.cm] : Bx } =
      some
      { ty := (28 : TypeId), cs := [Value.int IntKind.i64 x.s.x.ix, Value.slice x.s.a.ap x.s.x.ps.length x.s.a.cp, Value.int IntKind.i64 x.s.x.nx, Value.int IntKind.i64 x.s.x.la, Value.int IntKind.i64 x.s.x.nu, Value.int IntKind.i64 x.s.x.fr, Value.int IntKind.i64 x.s.x.to, Value.string x.s.x.lo, Value.string x.s.x.hi, Value.int IntKind.i64 x.s.x.cl, Value.int IntKind.i64 x.s.x.sq, Value.slice x.s.a.am x.s.x.ms.length x.s.a.cm] : Bx } ∧
      true = true) ∧
      (some
      { ty := (25 : Nat), cs := [Value.int IntKind.i64 a.x.nu, Value.int IntKind.i64 a.x.fr, Value.int IntKind.i64 a.x.to, Value.string a.x.lo, Value.string a.x.hi, Value.int IntKind.i64 a.x.cl, Value.int IntKind.i64 a.x.sq] : Bx } =
      some
      { ty := (25 : TypeId), cs := [Value.int IntKind.i64 x.s.x.nu, Value.int IntKind.i64 x.s.x.fr, Value.int IntKind.i64 x.s.x.to, Value.string x.s.x.lo, Value.string x.s.x.hi, Value.int IntKind.i64 x.s.x.cl, Value.int IntKind.i64 x.s.x.sq] : Bx } ∧
      true = true) ∧
      (some
      { ty := (28 : Nat), cs := [Value.int IntKind.i64 n, Value.slice a_4 n_10 c, Value.int IntKind.i64 n_11, Value.int IntKind.i64 n_12, Value.int IntKind.i64 n_13, Value.int IntKind.i64 n_14, Value.int IntKind.i64 n_15, Value.string s, Value.string s_2, Value.int IntKind.i64 n_16, Value.int IntKind.i64 n_17, Value.slice a_5 n_18 c_2] : Bx } =
      some
      { ty := (28 : TypeId), cs := [Value.int IntKind.i64 x.s.iy, Value.slice x.s.b.ap x.s.x.ps.length x.s.b.cp, Value.int IntKind.i64 x.s.x.nx, Value.int IntKind.i64 x.s.x.la, Value.int IntKind.i64 x.s.x.nu, Value.int IntKind.i64 x.s.x.fr, Value.int IntKind.i64 x.s.x.to, Value.string x.s.x.lo, Value.string x.s.x.hi, Value.int IntKind.i64 x.s.x.cl, Value.int IntKind.i64 x.s.x.sq, Value.slice x.s.b.am x.s.ms.length x.s.b.cm] : Bx } ∧
      true = true) ∧
      (some
      { ty := (56 : Nat), cs := [Value.int IntKind.i64 n_21, Value.int IntKind.i64 n_22, Value.bool b, Value.int IntKind.i64 n_23, Value.int IntKind.i64 n_24, Value.int IntKind.i64 n_25, Value.int IntKind.i64 n_26] : Bx } =
      some
      { ty := (56 : TypeId), cs := [Value.int IntKind.i64 x.me.cl, Value.int IntKind.i64 x.me.sq, Value.bool x.me.op, Value.int IntKind.i64 x.me.an_er, Value.int IntKind.i64 x.me.an_va, Value.int IntKind.i64 x.me.an_le, Value.int IntKind.i64 x.me.an_mo] : Bx } ∧
      true = true) ∧
      True)))) ∧
      ∀ (x : OpZ1),
      OpK1 cl sq x →
      (true = true ∧
      ifB ((↑x.l.length : Int) == (1 : Int))
      (ifB x.ag
      (∃ (b : Nat),
      ∃ (off : Nat),
      x.al =
      some
      { block := b, off := off : Addr } ∧
      ((0 : Int) ≤ (0 : Int) ∧
      (0 : Int) <
      (↑x.l.length : Int)) ∧
      ∃ (n : Int),
      ∃ (n_27 : Int),
      ∃ (n_28 : Int),
      ∃ (n_29 : Int),
      ∃ (n_30 : Int),
      ∃ (n_31 : Int),
      ∃ (n_32 : Int),
      CellsAt x.s.m b
      (off +
      (0 : Nat))
      [Value.int
      IntKind.i64
      n,
      Value.int
      IntKind.i64
      n_27,
      Value.int
      IntKind.i64
      n_28,
      Value.int
      IntKind.i64
      n_29,
      Value.int
      IntKind.i64
      n_30,
      Value.int
      IntKind.i64
      n_31,
      Value.int
      IntKind.i64
      n_32] ∧
      ifB
      (!(n ==
      (1 :
      Int) &&
      (n_27 ==
      cl &&
      (n_28 ==
      sq &&
      (n_29 ==
      x.me.an_er &&
      (n_30 ==
      x.me.an_va &&
      (n_31 ==
      x.me.an_le &&
      (n_32 ==
      x.me.an_mo &&
      true))) &&
      true)))))
      (Done
      (Value.bool
      false =
      Value.bool
      true))
      (∃ (x_1 :
      OpY1),
      OpJ1 x_1 ∧
      x.s.m =
      x_1.m ∧
      ((SV.own
      (33 :
      Nat)
      (0 :
      Nat) =
      SV.own
      (33 :
      Nat)
      (0 :
      Nat) ∧
      true =
      true) ∧
      (SV.own
      (17 :
      Nat)
      (0 :
      Nat) =
      SV.own
      (17 :
      Nat)
      (0 :
      Nat) ∧
      true =
      true) ∧
      (SV.val
      (Value.bool
      sh) =
      SV.val
      (Value.bool
      sh) ∧
      true =
      true) ∧
      (SV.own
      (2 :
      Nat)
      (0 :
      Nat) =
      SV.own
      (2 :
      Nat)
      (0 :
      Nat) ∧
      true =
      true) ∧
      True) ∧
      (some
      { ty := (28 : TypeId), cs := [Value.int IntKind.i64 x.s.x.ix, Value.slice x.s.a.ap x.s.x.ps.length x.s.a.cp, Value.int IntKind.i64 x.s.x.nx, Value.int IntKind.i64 x.s.x.la, Value.int IntKind.i64 x.s.x.nu, Value.int IntKind.i64 x.s.x.fr, Value.int IntKind.i64 x.s.x.to, Value.string x.s.x.lo, Value.string x.s.x.hi, Value.int IntKind.i64 x.s.x.cl, Value.int IntKind.i64 x.s.x.sq, Value.slice x.s.a.am x.s.x.ms.length x.s.a.cm] : Bx } =
      some
      { ty := (28 : TypeId), cs := [Value.int IntKind.i64 x_1.x.ix, Value.slice x_1.a.ap x_1.x.ps.length x_1.a.cp, Value.int IntKind.i64 x_1.x.nx, Value.int IntKind.i64 x_1.x.la, Value.int IntKind.i64 x_1.x.nu, Value.int IntKind.i64 x_1.x.fr, Value.int IntKind.i64 x_1.x.to, Value.string x_1.x.lo, Value.string x_1.x.hi, Value.int IntKind.i64 x_1.x.cl, Value.int IntKind.i64 x_1.x.sq, Value.slice x_1.a.am x_1.x.ms.length x_1.a.cm] : Bx } ∧
      true =
      true) ∧
      (some
      { ty := (25 : TypeId), cs := [Value.int IntKind.i64 x.s.x.nu, Value.int IntKind.i64 x.s.x.fr, Value.int IntKind.i64 x.s.x.to, Value.string x.s.x.lo, Value.string x.s.x.hi, Value.int IntKind.i64 x.s.x.cl, Value.int IntKind.i64 x.s.x.sq] : Bx } =
      some
      { ty := (25 : TypeId), cs := [Value.int IntKind.i64 x_1.x.nu, Value.int IntKind.i64 x_1.x.fr, Value.int IntKind.i64 x_1.x.to, Value.string x_1.x.lo, Value.string x_1.x.hi, Value.int IntKind.i64 x_1.x.cl, Value.int IntKind.i64 x_1.x.sq] : Bx } ∧
      true =
      true) ∧
      (some
      { ty := (28 : TypeId), cs := [Value.int IntKind.i64 x.s.iy, Value.slice x.s.b.ap x.s.x.ps.length x.s.b.cp, Value.int IntKind.i64 x.s.x.nx, Value.int IntKind.i64 x.s.x.la, Value.int IntKind.i64 x.s.x.nu, Value.int IntKind.i64 x.s.x.fr, Value.int IntKind.i64 x.s.x.to, Value.string x.s.x.lo, Value.string x.s.x.hi, Value.int IntKind.i64 x.s.x.cl, Value.int IntKind.i64 x.s.x.sq, Value.slice x.s.b.am x.s.ms.length x.s.b.cm] : Bx } =
      some
      { ty := (28 : TypeId), cs := [Value.int IntKind.i64 x_1.iy, Value.slice x_1.b.ap x_1.x.ps.length x_1.b.cp, Value.int IntKind.i64 x_1.x.nx, Value.int IntKind.i64 x_1.x.la, Value.int IntKind.i64 x_1.x.nu, Value.int IntKind.i64 x_1.x.fr, Value.int IntKind.i64 x_1.x.to, Value.string x_1.x.lo, Value.string x_1.x.hi, Value.int IntKind.i64 x_1.x.cl, Value.int IntKind.i64 x_1.x.sq, Value.slice x_1.b.am x_1.ms.length x_1.b.cm] : Bx } ∧
      true =
      true) ∧
      True))
      (∃ (x_1 : OpY1),
      OpJ1 x_1 ∧
      x.s.m = x_1.m ∧
      ((SV.own (33 : Nat) (0 : Nat) =
      SV.own (33 : Nat)
      (0 : Nat) ∧
      true = true) ∧
      (SV.own (17 : Nat) (0 : Nat) =
      SV.own (17 : Nat)
      (0 : Nat) ∧
      true = true) ∧
      (SV.val (Value.bool sh) =
      SV.val
      (Value.bool sh) ∧
      true = true) ∧
      (SV.own (2 : Nat)
      (0 : Nat) =
      SV.own (2 : Nat)
      (0 : Nat) ∧
      true = true) ∧
      True) ∧
      (some
      { ty := (28 : TypeId), cs := [Value.int IntKind.i64 x.s.x.ix, Value.slice x.s.a.ap x.s.x.ps.length x.s.a.cp, Value.int IntKind.i64 x.s.x.nx, Value.int IntKind.i64 x.s.x.la, Value.int IntKind.i64 x.s.x.nu, Value.int IntKind.i64 x.s.x.fr, Value.int IntKind.i64 x.s.x.to, Value.string x.s.x.lo, Value.string x.s.x.hi, Value.int IntKind.i64 x.s.x.cl, Value.int IntKind.i64 x.s.x.sq, Value.slice x.s.a.am x.s.x.ms.length x.s.a.cm] : Bx } =
      some
      { ty := (28 : TypeId), cs := [Value.int IntKind.i64 x_1.x.ix, Value.slice x_1.a.ap x_1.x.ps.length x_1.a.cp, Value.int IntKind.i64 x_1.x.nx, Value.int IntKind.i64 x_1.x.la, Value.int IntKind.i64 x_1.x.nu, Value.int IntKind.i64 x_1.x.fr, Value.int IntKind.i64 x_1.x.to, Value.string x_1.x.lo, Value.string x_1.x.hi, Value.int IntKind.i64 x_1.x.cl, Value.int IntKind.i64 x_1.x.sq, Value.slice x_1.a.am x_1.x.ms.length x_1.a.cm] : Bx } ∧
      true = true) ∧
      (some
      { ty := (25 : TypeId), cs := [Value.int IntKind.i64 x.s.x.nu, Value.int IntKind.i64 x.s.x.fr, Value.int IntKind.i64 x.s.x.to, Value.string x.s.x.lo, Value.string x.s.x.hi, Value.int IntKind.i64 x.s.x.cl, Value.int IntKind.i64 x.s.x.sq] : Bx } =
      some
      { ty := (25 : TypeId), cs := [Value.int IntKind.i64 x_1.x.nu, Value.int IntKind.i64 x_1.x.fr, Value.int IntKind.i64 x_1.x.to, Value.string x_1.x.lo, Value.string x_1.x.hi, Value.int IntKind.i64 x_1.x.cl, Value.int IntKind.i64 x_1.x.sq] : Bx } ∧
      true = true) ∧
      (some
      { ty := (28 : TypeId), cs := [Value.int IntKind.i64 x.s.iy, Value.slice x.s.b.ap x.s.x.ps.length x.s.b.cp, Value.int IntKind.i64 x.s.x.nx, Value.int IntKind.i64 x.s.x.la, Value.int IntKind.i64 x.s.x.nu, Value.int IntKind.i64 x.s.x.fr, Value.int IntKind.i64 x.s.x.to, Value.string x.s.x.lo, Value.string x.s.x.hi, Value.int IntKind.i64 x.s.x.cl, Value.int IntKind.i64 x.s.x.sq, Value.slice x.s.b.am x.s.ms.length x.s.b.cm] : Bx } =
      some
      { ty := (28 : TypeId), cs := [Value.int IntKind.i64 x_1.iy, Value.slice x_1.b.ap x_1.x.ps.length x_1.b.cp, Value.int IntKind.i64 x_1.x.nx, Value.int IntKind.i64 x_1.x.la, Value.int IntKind.i64 x_1.x.nu, Value.int IntKind.i64 x_1.x.fr, Value.int IntKind.i64 x_1.x.to, Value.string x_1.x.lo, Value.string x_1.x.hi, Value.int IntKind.i64 x_1.x.cl, Value.int IntKind.i64 x_1.x.sq, Value.slice x_1.b.am x_1.ms.length x_1.b.cm] : Bx } ∧
      true = true) ∧
      True))
      (∃ (x_1 : OpY1),
      OpJ1 x_1 ∧
      x.s.m = x_1.m ∧
      ((SV.own (33 : Nat) (0 : Nat) =
      SV.own (33 : Nat)
      (0 : Nat) ∧
      true = true) ∧
      (SV.own (17 : Nat) (0 : Nat) =
      SV.own (17 : Nat)
      (0 : Nat) ∧
      true = true) ∧
      (SV.val (Value.bool sh) =
      SV.val (Value.bool sh) ∧
      true = true) ∧
      (SV.own (2 : Nat)
      (0 : Nat) =
      SV.own (2 : Nat)
      (0 : Nat) ∧
      true = true) ∧
      True) ∧
      (some
      { ty := (28 : TypeId), cs := [Value.int IntKind.i64 x.s.x.ix, Value.slice x.s.a.ap x.s.x.ps.length x.s.a.cp, Value.int IntKind.i64 x.s.x.nx, Value.int IntKind.i64 x.s.x.la, Value.int IntKind.i64 x.s.x.nu, Value.int IntKind.i64 x.s.x.fr, Value.int IntKind.i64 x.s.x.to, Value.string x.s.x.lo, Value.string x.s.x.hi, Value.int IntKind.i64 x.s.x.cl, Value.int IntKind.i64 x.s.x.sq, Value.slice x.s.a.am x.s.x.ms.length x.s.a.cm] : Bx } =
      some
      { ty := (28 : TypeId), cs := [Value.int IntKind.i64 x_1.x.ix, Value.slice x_1.a.ap x_1.x.ps.length x_1.a.cp, Value.int IntKind.i64 x_1.x.nx, Value.int IntKind.i64 x_1.x.la, Value.int IntKind.i64 x_1.x.nu, Value.int IntKind.i64 x_1.x.fr, Value.int IntKind.i64 x_1.x.to, Value.string x_1.x.lo, Value.string x_1.x.hi, Value.int IntKind.i64 x_1.x.cl, Value.int IntKind.i64 x_1.x.sq, Value.slice x_1.a.am x_1.x.ms.length x_1.a.cm] : Bx } ∧
      true = true) ∧
      (some
      { ty := (25 : TypeId), cs := [Value.int IntKind.i64 x.s.x.nu, Value.int IntKind.i64 x.s.x.fr, Value.int IntKind.i64 x.s.x.to, Value.string x.s.x.lo, Value.string x.s.x.hi, Value.int IntKind.i64 x.s.x.cl, Value.int IntKind.i64 x.s.x.sq] : Bx } =
      some
      { ty := (25 : TypeId), cs := [Value.int IntKind.i64 x_1.x.nu, Value.int IntKind.i64 x_1.x.fr, Value.int IntKind.i64 x_1.x.to, Value.string x_1.x.lo, Value.string x_1.x.hi, Value.int IntKind.i64 x_1.x.cl, Value.int IntKind.i64 x_1.x.sq] : Bx } ∧
      true = true) ∧
      (some
      { ty := (28 : TypeId), cs := [Value.int IntKind.i64 x.s.iy, Value.slice x.s.b.ap x.s.x.ps.length x.s.b.cp, Value.int IntKind.i64 x.s.x.nx, Value.int IntKind.i64 x.s.x.la, Value.int IntKind.i64 x.s.x.nu, Value.int IntKind.i64 x.s.x.fr, Value.int IntKind.i64 x.s.x.to, Value.string x.s.x.lo, Value.string x.s.x.hi, Value.int IntKind.i64 x.s.x.cl, Value.int IntKind.i64 x.s.x.sq, Value.slice x.s.b.am x.s.ms.length x.s.b.cm] : Bx } =
      some
      { ty := (28 : TypeId), cs := [Value.int IntKind.i64 x_1.iy, Value.slice x_1.b.ap x_1.x.ps.length x_1.b.cp, Value.int IntKind.i64 x_1.x.nx, Value.int IntKind.i64 x_1.x.la, Value.int IntKind.i64 x_1.x.nu, Value.int IntKind.i64 x_1.x.fr, Value.int IntKind.i64 x_1.x.to, Value.string x_1.x.lo, Value.string x_1.x.hi, Value.int IntKind.i64 x_1.x.cl, Value.int IntKind.i64 x_1.x.sq, Value.slice x_1.b.am x_1.ms.length x_1.b.cm] : Bx } ∧
      true = true) ∧
      True)) ∧
      ∀ (x : OpY1),
      OpJ1 x →
      ifB sh
      (∃ (x_1 : OpY1),
      OpJ1 x_1 ∧
      x.m = x_1.m ∧
      ((SV.own (33 : Nat) (0 : Nat) =
      SV.own (33 : Nat)
      (0 : Nat) ∧
      true = true) ∧
      (SV.val
      (Value.int
      IntKind.i64
      (13 : Int)) =
      SV.val
      (Value.int
      IntKind.i64
      (if sh = true then
      (13 : Int)
      else
      (14 : Int))) ∧
      true = true) ∧
      (SV.own (17 : Nat)
      (0 : Nat) =
      SV.own (17 : Nat)
      (0 : Nat) ∧
      true = true) ∧
      (SV.val
      (Value.int
      IntKind.i64
      (0 : Int)) =
      SV.val
      (Value.int
      IntKind.i64
      (if
      sh =
      true then
      (0 : Int)
      else
      (190 :
      Int))) ∧
      true = true) ∧
      (SV.val
      (Value.bool
      sh) =
      SV.val
      (Value.bool
      sh) ∧
      true = true) ∧
      (SV.own (2 : Nat)
      (0 : Nat) =
      SV.own
      (2 : Nat)
      (0 : Nat) ∧
      true = true) ∧
      True) ∧
      (some
      { ty := (28 : TypeId), cs := [Value.int IntKind.i64 x.x.ix, Value.slice x.a.ap x.x.ps.length x.a.cp, Value.int IntKind.i64 x.x.nx, Value.int IntKind.i64 x.x.la, Value.int IntKind.i64 x.x.nu, Value.int IntKind.i64 x.x.fr, Value.int IntKind.i64 x.x.to, Value.string x.x.lo, Value.string x.x.hi, Value.int IntKind.i64 x.x.cl, Value.int IntKind.i64 x.x.sq, Value.slice x.a.am x.x.ms.length x.a.cm] : Bx } =
      some
      { ty := (28 : TypeId), cs := [Value.int IntKind.i64 x_1.x.ix, Value.slice x_1.a.ap x_1.x.ps.length x_1.a.cp, Value.int IntKind.i64 x_1.x.nx, Value.int IntKind.i64 x_1.x.la, Value.int IntKind.i64 x_1.x.nu, Value.int IntKind.i64 x_1.x.fr, Value.int IntKind.i64 x_1.x.to, Value.string x_1.x.lo, Value.string x_1.x.hi, Value.int IntKind.i64 x_1.x.cl, Value.int IntKind.i64 x_1.x.sq, Value.slice x_1.a.am x_1.x.ms.length x_1.a.cm] : Bx } ∧
      true = true) ∧
      (some
      { ty := (25 : TypeId), cs := [Value.int IntKind.i64 x.x.nu, Value.int IntKind.i64 x.x.fr, Value.int IntKind.i64 x.x.to, Value.string x.x.lo, Value.string x.x.hi, Value.int IntKind.i64 x.x.cl, Value.int IntKind.i64 x.x.sq] : Bx } =
      some
      { ty := (25 : TypeId), cs := [Value.int IntKind.i64 x_1.x.nu, Value.int IntKind.i64 x_1.x.fr, Value.int IntKind.i64 x_1.x.to, Value.string x_1.x.lo, Value.string x_1.x.hi, Value.int IntKind.i64 x_1.x.cl, Value.int IntKind.i64 x_1.x.sq] : Bx } ∧
      true = true) ∧
      (some
      { ty := (28 : TypeId), cs := [Value.int IntKind.i64 x.iy, Value.slice x.b.ap x.x.ps.length x.b.cp, Value.int IntKind.i64 x.x.nx, Value.int IntKind.i64 x.x.la, Value.int IntKind.i64 x.x.nu, Value.int IntKind.i64 x.x.fr, Value.int IntKind.i64 x.x.to, Value.string x.x.lo, Value.string x.x.hi, Value.int IntKind.i64 x.x.cl, Value.int IntKind.i64 x.x.sq, Value.slice x.b.am x.ms.length x.b.cm] : Bx } =
      some
      { ty := (28 : TypeId), cs := [Value.int IntKind.i64 x_1.iy, Value.slice x_1.b.ap x_1.x.ps.length x_1.b.cp, Value.int IntKind.i64 x_1.x.nx, Value.int IntKind.i64 x_1.x.la, Value.int IntKind.i64 x_1.x.nu, Value.int IntKind.i64 x_1.x.fr, Value.int IntKind.i64 x_1.x.to, Value.string x_1.x.lo, Value.string x_1.x.hi, Value.int IntKind.i64 x_1.x.cl, Value.int IntKind.i64 x_1.x.sq, Value.slice x_1.b.am x_1.ms.length x_1.b.cm] : Bx } ∧
      true = true) ∧
      True)
      (∃ (x_1 : OpY1),
      OpJ1 x_1 ∧
      x.m = x_1.m ∧
      ((SV.own (33 : Nat) (0 : Nat) =
      SV.own (33 : Nat)
      (0 : Nat) ∧
      true = true) ∧
      (SV.val
      (Value.int
      IntKind.i64
      (14 : Int)) =
      SV.val
      (Value.int
      IntKind.i64
      (if sh = true then
      (13 : Int)
      else
      (14 : Int))) ∧
      true = true) ∧
      (SV.own (17 : Nat)
      (0 : Nat) =
      SV.own (17 : Nat)
      (0 : Nat) ∧
      true = true) ∧
      (SV.val
      (Value.int
      IntKind.i64
      (190 : Int)) =
      SV.val
      (Value.int
      IntKind.i64
      (if
      sh =
      true then
      (0 : Int)
      else
      (190 :
      Int))) ∧
      true = true) ∧
      (SV.val
      (Value.bool
      sh) =
      SV.val
      (Value.bool
      sh) ∧
      true = true) ∧
      (SV.own (2 : Nat)
      (0 : Nat) =
      SV.own
      (2 : Nat)
      (0 : Nat) ∧
      true = true) ∧
      True) ∧
      (some
      { ty := (28 : TypeId), cs := [Value.int IntKind.i64 x.x.ix, Value.slice x.a.ap x.x.ps.length x.a.cp, Value.int IntKind.i64 x.x.nx, Value.int IntKind.i64 x.x.la, Value.int IntKind.i64 x.x.nu, Value.int IntKind.i64 x.x.fr, Value.int IntKind.i64 x.x.to, Value.string x.x.lo, Value.string x.x.hi, Value.int IntKind.i64 x.x.cl, Value.int IntKind.i64 x.x.sq, Value.slice x.a.am x.x.ms.length x.a.cm] : Bx } =
      some
      { ty := (28 : TypeId), cs := [Value.int IntKind.i64 x_1.x.ix, Value.slice x_1.a.ap x_1.x.ps.length x_1.a.cp, Value.int IntKind.i64 x_1.x.nx, Value.int IntKind.i64 x_1.x.la, Value.int IntKind.i64 x_1.x.nu, Value.int IntKind.i64 x_1.x.fr, Value.int IntKind.i64 x_1.x.to, Value.string x_1.x.lo, Value.string x_1.x.hi, Value.int IntKind.i64 x_1.x.cl, Value.int IntKind.i64 x_1.x.sq, Value.slice x_1.a.am x_1.x.ms.length x_1.a.cm] : Bx } ∧
      true = true) ∧
      (some
      { ty := (25 : TypeId), cs := [Value.int IntKind.i64 x.x.nu, Value.int IntKind.i64 x.x.fr, Value.int IntKind.i64 x.x.to, Value.string x.x.lo, Value.string x.x.hi, Value.int IntKind.i64 x.x.cl, Value.int IntKind.i64 x.x.sq] : Bx } =
      some
      { ty := (25 : TypeId), cs := [Value.int IntKind.i64 x_1.x.nu, Value.int IntKind.i64 x_1.x.fr, Value.int IntKind.i64 x_1.x.to, Value.string x_1.x.lo, Value.string x_1.x.hi, Value.int IntKind.i64 x_1.x.cl, Value.int IntKind.i64 x_1.x.sq] : Bx } ∧
      true = true) ∧
      (some
      { ty := (28 : TypeId), cs := [Value.int IntKind.i64 x.iy, Value.slice x.b.ap x.x.ps.length x.b.cp, Value.int IntKind.i64 x.x.nx, Value.int IntKind.i64 x.x.la, Value.int IntKind.i64 x.x.nu, Value.int IntKind.i64 x.x.fr, Value.int IntKind.i64 x.x.to, Value.string x.x.lo, Value.string x.x.hi, Value.int IntKind.i64 x.x.cl, Value.int IntKind.i64 x.x.sq, Value.slice x.b.am x.ms.length x.b.cm] : Bx } =
      some
      { ty := (28 : TypeId), cs := [Value.int IntKind.i64 x_1.iy, Value.slice x_1.b.ap x_1.x.ps.length x_1.b.cp, Value.int IntKind.i64 x_1.x.nx, Value.int IntKind.i64 x_1.x.la, Value.int IntKind.i64 x_1.x.nu, Value.int IntKind.i64 x_1.x.fr, Value.int IntKind.i64 x_1.x.to, Value.string x_1.x.lo, Value.string x_1.x.hi, Value.int IntKind.i64 x_1.x.cl, Value.int IntKind.i64 x_1.x.sq, Value.slice x_1.b.am x_1.ms.length x_1.b.cm] : Bx } ∧
      true = true) ∧
      True) ∧
      ∀ (x : OpY1),
      OpJ1 x →
      ∀ (n : Nat),
      x.m.sz ≤ n →
      Vc.Spec Try.prog (11 : Nat)
      [Value.agg
      #[Value.int IntKind.i64
      x.iy,
      Value.slice x.b.ap
      x.x.ps.length x.b.cp,
      Value.int IntKind.i64
      x.x.nx,
      Value.int IntKind.i64
      x.x.la,
      Value.int IntKind.i64
      x.x.nu,
      Value.int IntKind.i64
      x.x.fr,
      Value.int IntKind.i64
      x.x.to,
      Value.string x.x.lo,
      Value.string x.x.hi,
      Value.int IntKind.i64
      x.x.cl,
      Value.int IntKind.i64
      x.x.sq,
      Value.slice x.b.am
      x.ms.length x.b.cm],
      Value.agg
      #[Value.int IntKind.i64
      (if sh = true then
      (13 : Int)
      else (14 : Int)),
      Value.int IntKind.i64
      (0 : Int),
      Value.int IntKind.i64
      (0 : Int),
      Value.int IntKind.i64
      (0 : Int),
      Value.int IntKind.i64
      (0 : Int),
      Value.int IntKind.i64
      (0 : Int),
      Value.string
      { data := #[] : ByteArray },
      Value.int IntKind.i64
      (0 : Int),
      Value.int IntKind.i64
      (0 : Int),
      Value.int IntKind.i64
      (0 : Int),
      Value.bool false,
      Value.int IntKind.i64
      (0 : Int),
      Value.string
      { data := #[] : ByteArray },
      Value.string
      { data := #[] : ByteArray },
      Value.int IntKind.i64
      (0 : Int),
      Value.int IntKind.i64
      (0 : Int),
      Value.int IntKind.i64
      (0 : Int),
      Value.int IntKind.i64
      (IntKind.i64.wrap
      (x.x.nu +
      (1 : Int))),
      Value.int IntKind.i64
      (0 : Int),
      Value.int IntKind.i64
      (0 : Int),
      Value.string
      { data := #[] : ByteArray },
      Value.string
      { data := #[] : ByteArray },
      Value.int IntKind.i64
      (0 : Int),
      Value.int IntKind.i64
      (0 : Int),
      Value.slice none
      (0 : Nat) (0 : Nat)],
      Value.int IntKind.i64
      (IntKind.i64.wrap
      (x.iy + (1 : Int)))]
      { π := x.m.π, sz := n, uf := x.m.uf : M }
      fun (v : Value) (m' : M) =>
      ∃ (n : Int),
      ∃ (a : Option Addr),
      ∃ (n_27 : Nat),
      ∃ (c : Nat),
      ∃ (n_28 : Int),
      ∃ (n_29 : Int),
      ∃ (n_30 : Int),
      ∃ (n_31 : Int),
      ∃ (n_32 :
      Int),
      ∃ (s :
      ByteArray),
      ∃ (s_3 :
      ByteArray),
      ∃ (n_33
      :
      Int),
      ∃
      (n_34
      :
      Int),
      ∃
      (a_7
      :
      Option
      Addr),
      ∃
      (n_35
      :
      Nat),
      ∃
      (c_4
      :
      Nat),
      ∃
      (a_8
      :
      Option
      Addr),
      ∃
      (n_36
      :
      Nat),
      ∃
      (c_5
      :
      Nat),
      ∃
      (n_37
      :
      Int),
      v =
      Value.tuple
      #[Value.agg
      #[Value.int
      IntKind.i64
      n,
      Value.slice
      a
      n_27
      c,
      Value.int
      IntKind.i64
      n_28,
      Value.int
      IntKind.i64
      n_29,
      Value.int
      IntKind.i64
      n_30,
      Value.int
      IntKind.i64
      n_31,
      Value.int
      IntKind.i64
      n_32,
      Value.string
      s,
      Value.string
      s_3,
      Value.int
      IntKind.i64
      n_33,
      Value.int
      IntKind.i64
      n_34,
      Value.slice
      a_7
      n_35
      c_4],
      Value.slice
      a_8
      n_36
      c_5,
      Value.int
      IntKind.i64
      n_37] ∧
      ifB
      (n_37 !=
      (0 :
      Int))
      (Done
      (Value.bool
      false =
      Value.bool
      true))
      (ifB
      (decide
      ((↑n_36 :
      Int) >
      (0 :
      Int)))
      (Done
      (Value.bool
      false =
      Value.bool
      true))
      (ifB
      (!(n_30 ==
      x.x.nu &&
      (n_31 ==
      x.x.fr &&
      (n_32 ==
      x.x.to &&
      (s.toList ==
      x.x.lo.toList &&
      (s_3.toList ==
      x.x.hi.toList &&
      (n_33 ==
      x.x.cl &&
      (n_34 ==
      x.x.sq &&
      true))))))))
      (Done
      (Value.bool
      false =
      Value.bool
      true))
      (∀
      (n_38 :
      Nat),
      m'.sz ≤
      n_38 →
      Vc.Spec
      Try.prog
      (11 :
      Nat)
      [Value.agg
      #[Value.int
      IntKind.i64
      n,
      Value.slice
      a
      n_27
      c,
      Value.int
      IntKind.i64
      n_28,
      Value.int
      IntKind.i64
      n_29,
      Value.int
      IntKind.i64
      n_30,
      Value.int
      IntKind.i64
      n_31,
      Value.int
      IntKind.i64
      n_32,
      Value.string
      s,
      Value.string
      s_3,
      Value.int
      IntKind.i64
      n_33,
      Value.int
      IntKind.i64
      n_34,
      Value.slice
      a_7
      n_35
      c_4],
      Value.agg
      #[Value.int
      IntKind.i64
      (if
      sh =
      true then
      (13 :
      Int)
      else
      (14 :
      Int)),
      Value.int
      IntKind.i64
      (0 :
      Int),
      Value.int
      IntKind.i64
      (0 :
      Int),
      Value.int
      IntKind.i64
      (0 :
      Int),
      Value.int
      IntKind.i64
      (0 :
      Int),
      Value.int
      IntKind.i64
      (0 :
      Int),
      Value.string
      { data := #[] : ByteArray },
      Value.int
      IntKind.i64
      (0 :
      Int),
      Value.int
      IntKind.i64
      (0 :
      Int),
      Value.int
      IntKind.i64
      (0 :
      Int),
      Value.bool
      false,
      Value.int
      IntKind.i64
      (0 :
      Int),
      Value.string
      { data := #[] : ByteArray },
      Value.string
      { data := #[] : ByteArray },
      Value.int
      IntKind.i64
      (0 :
      Int),
      Value.int
      IntKind.i64
      (0 :
      Int),
      Value.int
      IntKind.i64
      (0 :
      Int),
      Value.int
      IntKind.i64
      x.x.nu,
      Value.int
      IntKind.i64
      x.x.fr,
      Value.int
      IntKind.i64
      x.x.to,
      Value.string
      x.x.lo,
      Value.string
      x.x.hi,
      Value.int
      IntKind.i64
      x.x.cl,
      Value.int
      IntKind.i64
      x.x.sq,
      Value.slice
      none
      (0 :
      Nat)
      (0 :
      Nat)],
      Value.int
      IntKind.i64
      (IntKind.i64.wrap
      (n +
      (1 :
      Int)))]
      { π := m'.π, sz := n_38, uf := m'.uf : M }
      fun
      (v :
      Value)
      (m' :
      M) =>
      ∃
      (n
      :
      Int),
      ∃
      (a
      :
      Option
      Addr),
      ∃
      (n_39
      :
      Nat),
      ∃
      (c
      :
      Nat),
      ∃
      (n_40
      :
      Int),
      ∃
      (n_41
      :
      Int),
      ∃
      (n_42
      :
      Int),
      ∃
      (n_43
      :
      Int),
      ∃
      (n_44
      :
      Int),
      ∃
      (s
      :
      ByteArray),
      ∃
      (s_4
      :
      ByteArray),
      ∃
      (n_45
      :
      Int),
      ∃
      (n_46
      :
      Int),
      ∃
      (a_10
      :
      Option
      Addr),
      ∃
      (n_47
      :
      Nat),
      ∃
      (c_6
      :
      Nat),
      ∃
      (a_11
      :
      Option
      Addr),
      ∃
      (n_48
      :
      Nat),
      ∃
      (c_7
      :
      Nat),
      ∃
      (n_49
      :
      Int),
      v =
      Value.tuple
      #[Value.agg
      #[Value.int
      IntKind.i64
      n,
      Value.slice
      a
      n_39
      c,
      Value.int
      IntKind.i64
      n_40,
      Value.int
      IntKind.i64
      n_41,
      Value.int
      IntKind.i64
      n_42,
      Value.int
      IntKind.i64
      n_43,
      Value.int
      IntKind.i64
      n_44,
      Value.string
      s,
      Value.string
      s_4,
      Value.int
      IntKind.i64
      n_45,
      Value.int
      IntKind.i64
      n_46,
      Value.slice
      a_10
      n_47
      c_6],
      Value.slice
      a_11
      n_48
      c_7,
      Value.int
      IntKind.i64
      n_49] ∧
      true =
      true ∧
      ifB
      (n_49 !=
      (0 :
      Int))
      (Done
      (Value.bool
      false =
      Value.bool
      true))
      (ifB
      (n_42 !=
      (0 :
      Int))
      (Done
      (Value.bool
      false =
      Value.bool
      true))
      (ifB
      ((↑n_48 :
      Int) !=
      (1 :
      Int))
      (Done
      (Value.bool
      false =
      Value.bool
      true))
      (∃
      (b
      :
      Nat),
      ∃
      (off
      :
      Nat),
      a_11 =
      some
      { block := b, off := off : Addr } ∧
      ((0 :
      Int) ≤
      (0 :
      Int) ∧
      (0 :
      Int) <
      (↑n_48 :
      Int)) ∧
      ∃
      (n_50
      :
      Int),
      ∃
      (n_51
      :
      Int),
      ∃
      (n_52
      :
      Int),
      ∃
      (n_53
      :
      Int),
      ∃
      (n_54
      :
      Int),
      ∃
      (n_55
      :
      Int),
      ∃
      (n_56
      :
      Int),
      CellsAt
      m'
      b
      (off +
      (0 :
      Nat))
      [Value.int
      IntKind.i64
      n_50,
      Value.int
      IntKind.i64
      n_51,
      Value.int
      IntKind.i64
      n_52,
      Value.int
      IntKind.i64
      n_53,
      Value.int
      IntKind.i64
      n_54,
      Value.int
      IntKind.i64
      n_55,
      Value.int
      IntKind.i64
      n_56] ∧
      ifB
      (!(n_50 ==
      (1 :
      Int) &&
      (n_51 ==
      x.x.cl &&
      (n_52 ==
      x.x.sq &&
      ((n_53 ==
      if
      sh =
      true then
      (0 :
      Int)
      else
      (190 :
      Int)) &&
      (n_54 ==
      (0 :
      Int) &&
      (n_55 ==
      (0 :
      Int) &&
      (n_56 ==
      (0 :
      Int) &&
      true))) &&
      true)))))
      (Done
      (Value.bool
      false =
      Value.bool
      true))
      (∀
      (n_57 :
      Nat),
      m'.sz ≤
      n_57 →
      Vc.Spec
      Try.prog
      (11 :
      Nat)
      [Value.agg
      #[Value.int
      IntKind.i64
      n,
      Value.slice
      a
      n_39
      c,
      Value.int
      IntKind.i64
      n_40,
      Value.int
      IntKind.i64
      n_41,
      Value.int
      IntKind.i64
      n_42,
      Value.int
      IntKind.i64
      n_43,
      Value.int
      IntKind.i64
      n_44,
      Value.string
      s,
      Value.string
      s_4,
      Value.int
      IntKind.i64
      n_45,
      Value.int
      IntKind.i64
      n_46,
      Value.slice
      a_10
      n_47
      c_6],
      Value.agg
      #[Value.int
      IntKind.i64
      (if
      sh =
      true then
      (13 :
      Int)
      else
      (14 :
      Int)),
      Value.int
      IntKind.i64
      (0 :
      Int),
      Value.int
      IntKind.i64
      (0 :
      Int),
      Value.int
      IntKind.i64
      (0 :
      Int),
      Value.int
      IntKind.i64
      (0 :
      Int),
      Value.int
      IntKind.i64
      (0 :
      Int),
      Value.string
      { data := #[] : ByteArray },
      Value.int
      IntKind.i64
      (0 :
      Int),
      Value.int
      IntKind.i64
      (0 :
      Int),
      Value.int
      IntKind.i64
      (0 :
      Int),
      Value.bool
      false,
      Value.int
      IntKind.i64
      (0 :
      Int),
      Value.string
      { data := #[] : ByteArray },
      Value.string
      { data := #[] : ByteArray },
      Value.int
      IntKind.i64
      (0 :
      Int),
      Value.int
      IntKind.i64
      (0 :
      Int),
      Value.int
      IntKind.i64
      (0 :
      Int),
      Value.int
      IntKind.i64
      x.x.nu,
      Value.int
      IntKind.i64
      x.x.fr,
      Value.int
      IntKind.i64
      x.x.to,
      Value.string
      x.x.lo,
      Value.string
      x.x.hi,
      Value.int
      IntKind.i64
      x.x.cl,
      Value.int
      IntKind.i64
      x.x.sq,
      Value.slice
      none
      (0 :
      Nat)
      (0 :
      Nat)],
      Value.int
      IntKind.i64
      (IntKind.i64.wrap
      (n +
      (1 :
      Int)))]
      { π := m'.π, sz := n_57, uf := m'.uf : M }
      fun
      (v :
      Value)
      (m' :
      M) =>
      ∃
      (n
      :
      Int),
      ∃
      (a_13
      :
      Option
      Addr),
      ∃
      (n_58
      :
      Nat),
      ∃
      (c_8
      :
      Nat),
      ∃
      (n_59
      :
      Int),
      ∃
      (n_60
      :
      Int),
      ∃
      (n_61
      :
      Int),
      ∃
      (n_62
      :
      Int),
      ∃
      (n_63
      :
      Int),
      ∃
      (s
      :
      ByteArray),
      ∃
      (s_5
      :
      ByteArray),
      ∃
      (n_64
      :
      Int),
      ∃
      (n_65
      :
      Int),
      ∃
      (a_14
      :
      Option
      Addr),
      ∃
      (n_66
      :
      Nat),
      ∃
      (c_9
      :
      Nat),
      ∃
      (a_15
      :
      Option
      Addr),
      ∃
      (n_67
      :
      Nat),
      ∃
      (c_10
      :
      Nat),
      ∃
      (n_68
      :
      Int),
      v =
      Value.tuple
      #[Value.agg
      #[Value.int
      IntKind.i64
      n,
      Value.slice
      a_13
      n_58
      c_8,
      Value.int
      IntKind.i64
      n_59,
      Value.int
      IntKind.i64
      n_60,
      Value.int
      IntKind.i64
      n_61,
      Value.int
      IntKind.i64
      n_62,
      Value.int
      IntKind.i64
      n_63,
      Value.string
      s,
      Value.string
      s_5,
      Value.int
      IntKind.i64
      n_64,
      Value.int
      IntKind.i64
      n_65,
      Value.slice
      a_14
      n_66
      c_9],
      Value.slice
      a_15
      n_67
      c_10,
      Value.int
      IntKind.i64
      n_68] ∧
      ∃
      (n
      :
      Int),
      QSpec
      Try.prog
      (20 :
      Nat)
      [Value.slice
      a
      n_39
      c,
      Value.string
      x.x.lo]
      m'
      (Value.int
      IntKind.i64
      n) ∧
      true =
      true ∧
      ∃
      (b
      :
      Nat),
      ∃
      (off
      :
      Nat),
      a =
      some
      { block := b, off := off : Addr } ∧
      ((0 :
      Int) ≤
      n ∧
      n <
      (↑n_39 :
      Int)) ∧
      ∃
      (n_69
      :
      Int),
      CellsAt
      m'
      b
      (off +
      n.toNat *
      (3 :
      Nat) +
      (0 :
      Nat))
      [Value.int
      IntKind.i64
      n_69] ∧
      ifB
      (n_68 ==
      (0 :
      Int))
      (ifB
      ((↑n_67 :
      Int) ==
      (0 :
      Int))
      (ifB
      ((n_69 ==
      x.x.to) ==
      sh)
      (∃
      (b
      :
      Bool),
      QSpec
      Try.prog
      (21 :
      Nat)
      [Value.slice
      x.b.ap
      x.x.ps.length
      x.b.cp,
      Value.slice
      x.a.ap
      x.x.ps.length
      x.a.cp]
      m'
      (Value.bool
      b) ∧
      Done
      (Value.bool
      b =
      Value.bool
      true))
      (Done
      (Value.bool
      false =
      Value.bool
      true)))
      (Done
      (Value.bool
      false =
      Value.bool
      true)))
      (Done
      (Value.bool
      false =
      Value.bool
      true)))))))))))))) (by kernel_rfl) ?_
  refine ⟨rfl, fun n1 g1 => (new_s _).mono fun v m1 ag1 ⟨a1, e1, r1⟩ => ⟨_, _, _, _, _, _, _, _, _, _, _, _, _, _, _, _, e1, _, pawake_q _, ifB_false ⟨?_, ?_⟩⟩⟩
  · exact ⟨⟨0, newC, a1, m1⟩, ⟨Nat.zero_le _, new_ric, by simp [newC], r1, ((hz.sz hN).sz g1).agree ag1⟩, rfl, by simp⟩
  rintro ⟨k, x, a, mx⟩ ⟨hk, hr, hix, ra, rz⟩
  simp only at hk hr hix ra rz ⊢
  have hl9 : x.ps.length ≤ 9223372036854775807 := by have := right_len hr.ps; omega
  have hm9 : x.ms.length ≤ 9223372036854775807 := by have := tab8 hr.ms; omega
  refine ifB_intro (fun hb => ?_) (fun _ => ifB_intro (fun _ => ⟨trivial⟩) (fun g => ?_))
  · have hk2 : k < z.length := by simpa using hb
    have w1 : IntKind.i64.wrap ((k : Int) + 1) = ((k + 1 : Nat) : Int) := by simp [IntKind.wrap_i64]; omega
    have A := apply_ric hr z[k].c (ix := ((k + 1 : Nat) : Int)) (by omega) (by omega)
    rw [w1]
    obtain ⟨bz, oz, rfl, hc⟩ := rz.cells (by rw [cxs_len]; omega)
    refine ⟨trivial, bz, oz, rfl, by omega, _, _, _, _, _, _, _, _, _, _, _, _, _, _, _, _, _, _, _, _, _, _, _, _, _, _, _, by simpa using cx_at hc hk2, ?_, trivial⟩
    refine fun n1 g1 => (apply_s x a z[k].c _ _ _ _ hl9 hm9 _ (ra.sz g1)).mono fun v m1 ag1 q1 => ?_
    obtain ⟨a3, av, cv, e3, r3, w3⟩ := q1.out
    refine ⟨_, _, _, _, _, _, _, _, _, _, _, _, _, _, _, _, _, _, _, _, e3, ifB_false' (by rw [A.2.1]; rfl) ⟨⟨k + 1, _, a3, m1⟩, ⟨⟨hk2, A.1, by rw [A.2.2]; exact Int.le_refl _, r3, (rz.sz g1).agree ag1⟩, rfl, by simp⟩, by simp only; omega⟩⟩
  have hn : x.nu ≠ 0 := by simpa using g
  have hx0 := hr.ix0
  have w1 : IntKind.i64.wrap (x.ix + 1) = x.ix + 1 := by simp [IntKind.wrap_i64]; omega
  rw [w1]
  refine fun n1 g1 => (apply_s x a (wishC cl sq ky 7) none 0 0 _ hl9 hm9 _ (ra.sz g1)).mono fun v m1 ag1 q1 => ?_
  obtain ⟨a3, av, cv, e3, r3, w3⟩ := q1.out
  obtain ⟨B1, B2⟩ := busy_law hr hn (wishC cl sq ky 7) rfl (ix := x.ix + 1) (by omega) (by omega)
  obtain ⟨A1, A2, A3⟩ := apply_ric hr (wishC cl sq ky 7) (ix := x.ix + 1) (by omega) (by omega)
  generalize applyE x (wishC cl sq ky 7) (x.ix + 1) = y0 at *
  obtain ⟨y, l, e⟩ := y0
  simp only at e3 r3 w3 B1 B2 A1 A2 A3
  subst A2
  generalize y.ms = ms at B1
  subst B1
  refine ⟨_, _, _, _, _, _, _, _, _, _, _, _, _, _, _, _, _, _, _, _, e3, _, _, _, _, _, _, _, _, find_q _ _ x.ms cl hm9 _ ((ra.sz g1).agree ag1).ms, ?_⟩
  have J : OpJ1 ⟨x, a, x.ix + 1, ms, a3, m1⟩ := ⟨hn, hr, A1, by simp only; omega, (ra.sz g1).agree ag1, r3⟩
  have hlen : l.length ≤ 1 := by rcases B2 with e | e <;> rw [e] <;> simp
  clear hix rz e3 A1 A3 r3
  dsimp only
  refine ifB_dup ?rest (fun g => ?k) (fun g => ?u)
  case k =>
    have say : ∀ e, l[0]? = some e → (((findO x.ms cl).getD m0).sq == sq) = true → e = ⟨1, cl, sq, ((findO x.ms cl).getD m0).an_er, ((findO x.ms cl).getD m0).an_va, ((findO x.ms cl).getD m0).an_le, ((findO x.ms cl).getD m0).an_mo⟩ := fun e he ha => by
      rcases B2 with e2 | e2
      · rw [e2] at he; simp at he
      · rw [e2] at he
        have he : busyE x.ms cl sq = e := by simpa using he
        rw [← he]
        unfold busyE
        rw [if_pos ⟨g, by simpa using ha⟩]
    refine ifB_false' rfl (ifB_false' (by simp) (ifB_false' (by simp; omega) (ifB_intro (fun q => ifB_intro (fun q2 => ?_) (fun _ => ⟨⟨⟨x, a, x.ix + 1, ms, a3, m1⟩, l, av, cv, (((findO x.ms cl).getD m0).sq == sq), (findO x.ms cl).getD m0⟩, ⟨J, w3, hlen, say⟩, rfl, by simp⟩)) (fun _ => ⟨⟨⟨x, a, x.ix + 1, ms, a3, m1⟩, l, av, cv, (((findO x.ms cl).getD m0).sq == sq), (findO x.ms cl).getD m0⟩, ⟨J, w3, hlen, say⟩, rfl, by simp⟩))))
    have hne : ¬ ((findO x.ms cl).isSome = true ∧ ((findO x.ms cl).getD m0).sq = sq) := fun e => by
      have := e.2
      simp [this] at q2
    rcases B2 with e | e
    · rw [e] at q; simp at q
    have w3' := w3
    rw [e] at w3'
    obtain ⟨b, o, eb, hc⟩ := w3'.cells (by simp)
    have ee : busyE x.ms cl sq = ⟨1, cl, sq, 190, 0, 0, 0⟩ := by unfold busyE; rw [if_neg hne]
    have hc : CellsAt m1 b o (efs [busyE x.ms cl sq]) := hc
    rw [ee] at hc
    exact ⟨b, o, eb, by rw [e]; simp, _, _, _, _, _, _, _, by simpa using hc, ifB_false' (by simp) ⟨⟨⟨x, a, x.ix + 1, ms, a3, m1⟩, l, av, cv, (((findO x.ms cl).getD m0).sq == sq), (findO x.ms cl).getD m0⟩, ⟨J, w3, hlen, say⟩, rfl, by simp⟩⟩
  case u =>
    refine ifB_false' rfl (ifB_false' (by simp) (ifB_false' (by simp; omega) (ifB_intro (fun q => ?_) (fun _ => ⟨⟨⟨x, a, x.ix + 1, ms, a3, m1⟩, l, av, cv, false, (findO x.ms cl).getD m0⟩, ⟨J, w3, hlen, fun _ _ e => by cases e⟩, rfl, by simp⟩))))
    rcases B2 with e | e
    · rw [e] at q; simp at q
    have w3' := w3
    rw [e] at w3'
    obtain ⟨b, o, eb, hc⟩ := w3'.cells (by simp)
    have ee : busyE x.ms cl sq = ⟨1, cl, sq, 190, 0, 0, 0⟩ := by unfold busyE; rw [if_neg (by rw [g]; simp)]
    have hc : CellsAt m1 b o (efs [busyE x.ms cl sq]) := hc
    rw [ee] at hc
    exact ⟨b, o, eb, by rw [e]; simp, _, _, _, _, _, _, _, by simpa using hc, ifB_false' (by simp) ⟨⟨⟨x, a, x.ix + 1, ms, a3, m1⟩, l, av, cv, false, (findO x.ms cl).getD m0⟩, ⟨J, w3, hlen, fun _ _ e => by cases e⟩, rfl, by simp⟩⟩
  case rest =>
  clear B2 w3 hlen J ag1 g1 w1 hn hr hm9 hl9 ra
  rintro ⟨s, l, al, ll, ag, me⟩ ⟨J, row, len, say⟩
  simp only at J row len say ⊢
  refine ⟨⟨trivial, ifB_intro (fun q => ifB_intro (fun q2 => ?_) (fun _ => ⟨s, J, rfl, by simp⟩)) (fun _ => ⟨s, J, rfl, by simp⟩)⟩, ?_⟩
  · obtain ⟨e, rfl⟩ := List.length_eq_one_iff.1 (show l.length = 1 by simp at q; omega)
    have ee := say e rfl q2
    subst ee
    obtain ⟨b, o, eb, hc⟩ := row.cells (by simp)
    exact ⟨b, o, eb, by simp, _, _, _, _, _, _, _, by simpa using hc, ifB_false' (by simp) ⟨s, J, rfl, by simp⟩⟩
  clear row len say
  rintro ⟨x, a, iy, ms, b, mx⟩ ⟨hn, hr, hry, hix, ra, rb⟩
  simp only [OpY1.y] at hn hr hry hix ra rb ⊢
  refine ⟨ifB_intro (fun q => ?_) (fun q => ?_), ?_⟩
  · subst q; exact ⟨⟨x, a, iy, ms, b, mx⟩, ⟨hn, hr, hry, hix, ra, rb⟩, rfl, by simp⟩
  · subst q; exact ⟨⟨x, a, iy, ms, b, mx⟩, ⟨hn, hr, hry, hix, ra, rb⟩, rfl, by simp⟩
  clear hn hr hry hix ra rb
  rintro ⟨x, a, iy, ms, b, mx⟩ ⟨hn, hr, hry, hix, ra, rb⟩
  simp only [OpY1.y] at hn hr hry hix ra rb ⊢
  have hiy : 0 ≤ iy := hry.ix0
  have hla0 := hr.la0
  have hla1 := hr.la1
  have hnl := (hr.go hn).nu
  have wn : IntKind.i64.wrap (x.nu + 1) = x.nu + 1 := by simp [IntKind.wrap_i64]; omega
  have wi : IntKind.i64.wrap (iy + 1) = iy + 1 := by simp [IntKind.wrap_i64]; omega
  have wi2 : IntKind.i64.wrap (iy + 1 + 1) = iy + 1 + 1 := by simp [IntKind.wrap_i64]; omega
  have wi3 : IntKind.i64.wrap (iy + 1 + 1 + 1) = iy + 1 + 1 + 1 := by simp [IntKind.wrap_i64]; omega
  have hl9 : x.ps.length ≤ 9223372036854775807 := by have := right_len hr.ps; omega
  have hm9 : ms.length ≤ 9223372036854775807 := by have := tab8 hry.ms; simp only at this; omega
  have k12 : ∀ (nu fr to : Int) (lo hi : ByteArray) (c2 q2 : Int), (endC (if sh = true then 13 else 14) nu fr to lo hi c2 q2).kd ≠ 12 := fun _ _ _ _ _ _ _ => by cases sh <;> simp
  rw [wn, wi]
  refine fun n1 g1 => (apply_s { x with ix := iy, ms := ms } b (endC (if sh = true then 13 else 14) (x.nu + 1) 0 0 ⟨#[]⟩ ⟨#[]⟩ 0 0) none 0 0 (iy + 1) hl9 hm9 _ (rb.sz g1)).mono fun v m1 ag1 q1 => ?_
  obtain ⟨a1, av1, cv1, e1, r1, w1⟩ := q1.out
  rw [other_law hry _ (k12 _ _ _ _ _ _ _) (.inr (by simp only; omega)) (by simp only; omega) (by omega)] at e1 r1 w1
  refine ⟨_, _, _, _, _, _, _, _, _, _, _, _, _, _, _, _, _, _, _, _, e1, ifB_false' rfl (ifB_false' (by simp) (ifB_false' (by simp) ?_))⟩
  have hry1 : RiC { x with ix := iy + 1, ms := ms } := hry.ix (by omega) (by omega)
  dsimp only
  rw [wi2]
  refine fun n2 g2 => (apply_s { x with ix := iy + 1, ms := ms } a1 (endC (if sh = true then 13 else 14) x.nu x.fr x.to x.lo x.hi x.cl x.sq) none 0 0 (iy + 1 + 1) hl9 hm9 _ (r1.sz g2)).mono fun v m2 ag2 q2 => ?_
  obtain ⟨a2, av2, cv2, e2, r2, w2⟩ := q2.out
  obtain ⟨O1, O2⟩ := own_law hry1 hn (endC (if sh = true then 13 else 14) x.nu x.fr x.to x.lo x.hi x.cl x.sq) sh rfl rfl (ix := iy + 1 + 1) (by simp only; omega) (by omega)
  obtain ⟨A1, A2, A3⟩ := apply_ric hry1 (endC (if sh = true then 13 else 14) x.nu x.fr x.to x.lo x.hi x.cl x.sq) (ix := iy + 1 + 1) (by simp only; omega) (by omega)
  generalize applyE { x with ix := iy + 1, ms := ms } (endC (if sh = true then 13 else 14) x.nu x.fr x.to x.lo x.hi x.cl x.sq) (iy + 1 + 1) = y0 at *
  obtain ⟨y, l, e⟩ := y0
  simp only at e2 r2 w2 O1 O2 A1 A2 A3
  subst A2
  subst O1
  generalize y.ms = ms2 at O2
  subst O2
  obtain ⟨bw, ow, ew, hw⟩ := w2.cells (by simp)
  refine ⟨_, _, _, _, _, _, _, _, _, _, _, _, _, _, _, _, _, _, _, _, e2, trivial, ifB_false' rfl (ifB_false' (by simp [clrP]) (ifB_false' (by simp) ⟨bw, ow, ew, by simp, _, _, _, _, _, _, _, by simpa using hw, ifB_false' (by simp) ?_⟩))⟩
  have hl2 := right_len A1.ps
  have hm2 := tab8 A1.ms
  dsimp only [clrP]
  rw [wi3]
  refine fun n3 g3 => (apply_s _ a2 (endC (if sh = true then 13 else 14) x.nu x.fr x.to x.lo x.hi x.cl x.sq) none 0 0 (iy + 1 + 1 + 1) (by omega) (by omega) _ (r2.sz g3)).mono fun v m3 ag3 q3 => ?_
  obtain ⟨a3, av3, cv3, e3, r3, w3⟩ := q3.out
  rw [other_law A1 _ (k12 _ _ _ _ _ _ _) (.inl rfl) (by simp only; omega) (by omega)] at e3 r3 w3
  have r23 := (r2.sz g3).agree ag3
  have rb3 := (((((rb.sz g1).agree ag1).sz g2).agree ag2).sz g3).agree ag3
  have ra3 := (((((ra.sz g1).agree ag1).sz g2).agree ag2).sz g3).agree ag3
  refine ⟨_, _, _, _, _, _, _, _, _, _, _, _, _, _, _, _, _, _, _, _, e3, _, rg_find (endL x sh) a2.ap a2.cp x.lo (by exact Nat.le_trans hl2 (by decide)) _ r23.ps, trivial, ?_⟩
  have E : (plAt (endL x sh) (fnd (endL x sh) x.lo)).gr = x.to ↔ sh = true := end_at hr (hr.go hn) sh
  have rp : Row m3 a2.ap (pls (endL x sh)) := r23.ps
  have hpos : 0 < (endL x sh).length := right_pos A1.ps
  have hlt : fnd (endL x sh) x.lo < (endL x sh).length := findL_len x.lo hpos
  obtain ⟨bp, op, ep, hp⟩ := rp.cells (by rw [pl_len]; omega)
  have hcg : CellsAt m3 bp (op + fnd (endL x sh) x.lo * 3 + 0) [I (plAt (endL x sh) (fnd (endL x sh) x.lo)).gr] := ⟨fun j hj => by
    have hj : j = 0 := by simpa using hj
    subst hj
    have := (pl_at2 hp hlt).out 0 (by simp)
    simpa using this⟩
  refine ⟨bp, op, ep, ⟨Int.natCast_nonneg _, Int.ofNat_lt.2 hlt⟩, _, hcg, ifB_true' rfl (ifB_true' rfl (ifB_true' ?_ ⟨_, pl_plain b.ap a.ap b.cp a.cp x.ps x.ps hl9 _ rb3.ps ra3.ps, ⟨by simp⟩⟩))⟩
  cases sh
  · simp at E ⊢; exact E
  · simp at E ⊢; exact E

end Go.Proofs.Ytjjfcaigonomiaa
