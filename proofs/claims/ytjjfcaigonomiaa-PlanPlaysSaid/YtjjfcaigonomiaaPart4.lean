/-
  Contracts of functions of this seat: what each hands back, and what it leaves of memory (pln8, pln9, pln11, pln10). Nothing here is trusted: Lean checks it.
-/
import Derived.Test.YtjjfcaigonomiaaPart3
set_option linter.unusedVariables false
set_option linter.unusedSimpArgs false
namespace Go.Proofs.Ytjjfcaigonomiaa
open Go.Vc Go.RowKit
set_option maxRecDepth 100000

theorem rapply_s (x : Ct) (a : Ca) (c : Cd) (ai : Option Addr) (ni ci : Nat) (ix : Int) (hl : x.ps.length ≤ 9223372036854775807) (hm : x.ms.length ≤ 9223372036854775807) (m : M) (h : CtR m x a) :
    Vc.Spec Try.prog 12 [ctv x a, cdv c ai ni ci, I ix] m (ApR (applyE x c ix)) := by
  refine Vc.Spec.of_vc Try.func12 (ann := noAnn) ?_
  refine vc_by (X :=
      true = true ∧
      ∃ (b : Bool),
      QSpec Try.prog (16 : Nat)
      [Value.agg
      #[Value.int IntKind.i64 x.ix, Value.slice a.ap x.ps.length a.cp, Value.int IntKind.i64 x.nx, Value.int IntKind.i64 x.la, Value.int IntKind.i64 x.nu,
      Value.int IntKind.i64 x.fr, Value.int IntKind.i64 x.to, Value.string x.lo, Value.string x.hi, Value.int IntKind.i64 x.cl, Value.int IntKind.i64 x.sq,
      Value.slice a.am x.ms.length a.cm]]
      m (Value.bool b) ∧
      ifB (!b)
      (Done
      (ApR (applyE x c ix)
      (Value.tuple
      #[Value.agg
      #[Value.int IntKind.i64 (0 : Int), Value.slice none (0 : Nat) (0 : Nat), Value.int IntKind.i64 (0 : Int), Value.int IntKind.i64 (0 : Int),
      Value.int IntKind.i64 (0 : Int), Value.int IntKind.i64 (0 : Int), Value.int IntKind.i64 (0 : Int), Value.string { data := #[] : ByteArray },
      Value.string { data := #[] : ByteArray }, Value.int IntKind.i64 (0 : Int), Value.int IntKind.i64 (0 : Int), Value.slice none (0 : Nat) (0 : Nat)],
      Value.slice none (0 : Nat) (0 : Nat), Value.int IntKind.i64 (21 : Int)])
      m))
      (ifB (decide (ix ≤ x.ix))
      (Done
      (ApR (applyE x c ix)
      (Value.tuple
      #[Value.agg
      #[Value.int IntKind.i64 (0 : Int), Value.slice none (0 : Nat) (0 : Nat), Value.int IntKind.i64 (0 : Int), Value.int IntKind.i64 (0 : Int),
      Value.int IntKind.i64 (0 : Int), Value.int IntKind.i64 (0 : Int), Value.int IntKind.i64 (0 : Int), Value.string { data := #[] : ByteArray },
      Value.string { data := #[] : ByteArray }, Value.int IntKind.i64 (0 : Int), Value.int IntKind.i64 (0 : Int), Value.slice none (0 : Nat) (0 : Nat)],
      Value.slice none (0 : Nat) (0 : Nat), Value.int IntKind.i64 (80 : Int)])
      m))
      (ifB (decide (ix > (4611686018427387904 : Int)))
      (Done
      (ApR (applyE x c ix)
      (Value.tuple
      #[Value.agg
      #[Value.int IntKind.i64 (0 : Int), Value.slice none (0 : Nat) (0 : Nat), Value.int IntKind.i64 (0 : Int), Value.int IntKind.i64 (0 : Int),
      Value.int IntKind.i64 (0 : Int), Value.int IntKind.i64 (0 : Int), Value.int IntKind.i64 (0 : Int), Value.string { data := #[] : ByteArray },
      Value.string { data := #[] : ByteArray }, Value.int IntKind.i64 (0 : Int), Value.int IntKind.i64 (0 : Int), Value.slice none (0 : Nat) (0 : Nat)],
      Value.slice none (0 : Nat) (0 : Nat), Value.int IntKind.i64 (80 : Int)])
      m))
      (∀ (n : Nat),
      m.sz ≤ n →
      Vc.Spec Try.prog (22 : Nat)
      [Value.agg
      #[Value.int IntKind.i64 x.ix, Value.slice a.ap x.ps.length a.cp, Value.int IntKind.i64 x.nx, Value.int IntKind.i64 x.la, Value.int IntKind.i64 x.nu,
      Value.int IntKind.i64 x.fr, Value.int IntKind.i64 x.to, Value.string x.lo, Value.string x.hi, Value.int IntKind.i64 x.cl, Value.int IntKind.i64 x.sq,
      Value.slice a.am x.ms.length a.cm]]
      { π := m.π, sz := n, uf := m.uf : M } fun (v : Value) (m' : M) =>
      ∃ (n : Int),
      ∃ (a : Option Addr),
      ∃ (n_1 : Nat),
      ∃ (c_1 : Nat),
      ∃ (n_2 : Int),
      ∃ (n_3 : Int),
      ∃ (n_4 : Int),
      ∃ (n_5 : Int),
      ∃ (n_6 : Int),
      ∃ (s : ByteArray),
      ∃ (s_1 : ByteArray),
      ∃ (n_7 : Int),
      ∃ (n_8 : Int),
      ∃ (a_2 : Option Addr),
      ∃ (n_9 : Nat),
      ∃ (c_2 : Nat),
      v =
      Value.agg
      #[Value.int IntKind.i64 n, Value.slice a n_1 c_1, Value.int IntKind.i64 n_2, Value.int IntKind.i64 n_3,
      Value.int IntKind.i64 n_4, Value.int IntKind.i64 n_5, Value.int IntKind.i64 n_6, Value.string s, Value.string s_1,
      Value.int IntKind.i64 n_7, Value.int IntKind.i64 n_8, Value.slice a_2 n_9 c_2] ∧
      ifB (n_4 != (0 : Int))
      (ifB (c.kd == (12 : Int))
      (∀ (b : Nat),
      Fresh m.sz m' b →
      ∃ (S' : Nat → Prop),
      (∀ (b_1 : Nat),
      S' b_1 →
      (m'.newBlock b
      [Value.int IntKind.i64 ix, Value.slice a n_1 c_1, Value.int IntKind.i64 n_2, Value.int IntKind.i64 n_3,
      Value.int IntKind.i64 n_4, Value.int IntKind.i64 n_5, Value.int IntKind.i64 n_6, Value.string s,
      Value.string s_1, Value.int IntKind.i64 n_7, Value.int IntKind.i64 n_8, Value.slice a_2 n_9 c_2]).uf
      b_1 ∧
      (m.sz ≤ b_1 ∨ False)) ∧
      ∀ (n : Nat),
      max m'.sz (b + (1 : Nat)) ≤ n →
      SpecW Try.prog (34 : Nat)
      [Value.pointer (some { block := b, off := (0 : Nat) : Addr }),
      Value.agg
      #[Value.int IntKind.i64 c.kd, Value.int IntKind.i64 c.cl, Value.int IntKind.i64 c.sq,
      Value.int IntKind.i64 c.ep, Value.int IntKind.i64 c.nd, Value.int IntKind.i64 c.hm, Value.string c.ky,
      Value.int IntKind.i64 c.le, Value.int IntKind.i64 c.rn, Value.int IntKind.i64 c.ne, Value.bool c.ys,
      Value.int IntKind.i64 c.op_kd, Value.string c.op_ky, Value.string c.op_ot, Value.int IntKind.i64 c.op_n,
      Value.int IntKind.i64 c.op_lo, Value.int IntKind.i64 c.op_hi, Value.int IntKind.i64 c.pl_nu,
      Value.int IntKind.i64 c.pl_fr, Value.int IntKind.i64 c.pl_to, Value.string c.pl_lo,
      Value.string c.pl_hi, Value.int IntKind.i64 c.pl_cl, Value.int IntKind.i64 c.pl_sq,
      Value.slice ai ni ci]]
      { π := (m'.newBlock b [Value.int IntKind.i64 ix, Value.slice a n_1 c_1, Value.int IntKind.i64 n_2, Value.int IntKind.i64 n_3, Value.int IntKind.i64 n_4, Value.int IntKind.i64 n_5, Value.int IntKind.i64 n_6, Value.string s, Value.string s_1, Value.int IntKind.i64 n_7, Value.int IntKind.i64 n_8, Value.slice a_2 n_9 c_2]).π, sz := n, uf := (m'.newBlock b [Value.int IntKind.i64 ix, Value.slice a n_1 c_1, Value.int IntKind.i64 n_2, Value.int IntKind.i64 n_3, Value.int IntKind.i64 n_4, Value.int IntKind.i64 n_5, Value.int IntKind.i64 n_6, Value.string s, Value.string s_1, Value.int IntKind.i64 n_7, Value.int IntKind.i64 n_8, Value.slice a_2 n_9 c_2]).uf : M }
      S' fun (v : Value) (m' : M) =>
      ∃ (a : Option Addr),
      ∃ (n : Nat),
      ∃ (c_3 : Nat),
      v = Value.slice a n c_3 ∧
      ∃ (n_10 : Int),
      ∃ (a_5 : Option Addr),
      ∃ (n_11 : Nat),
      ∃ (c_4 : Nat),
      ∃ (n_12 : Int),
      ∃ (n_13 : Int),
      ∃ (n_14 : Int),
      ∃ (n_15 : Int),
      ∃ (n_16 : Int),
      ∃ (s : ByteArray),
      ∃ (s_2 : ByteArray),
      ∃ (n_17 : Int),
      ∃ (n_18 : Int),
      ∃ (a_6 : Option Addr),
      ∃ (n_19 : Nat),
      ∃ (c_5 : Nat),
      CellsAt m' b (0 : Nat)
      [Value.int IntKind.i64 n_10, Value.slice a_5 n_11 c_4,
      Value.int IntKind.i64 n_12, Value.int IntKind.i64 n_13,
      Value.int IntKind.i64 n_14, Value.int IntKind.i64 n_15,
      Value.int IntKind.i64 n_16, Value.string s, Value.string s_2,
      Value.int IntKind.i64 n_17, Value.int IntKind.i64 n_18,
      Value.slice a_6 n_19 c_5] ∧
      Done
      (ApR (applyE x c ix)
      (Value.tuple
      #[Value.agg
      #[Value.int IntKind.i64 n_10, Value.slice a_5 n_11 c_4,
      Value.int IntKind.i64 n_12, Value.int IntKind.i64 n_13,
      Value.int IntKind.i64 n_14, Value.int IntKind.i64 n_15,
      Value.int IntKind.i64 n_16, Value.string s,
      Value.string s_2, Value.int IntKind.i64 n_17,
      Value.int IntKind.i64 n_18, Value.slice a_6 n_19 c_5],
      Value.slice a n c_3, Value.int IntKind.i64 (0 : Int)])
      m'))
      (ifB (c.kd == (13 : Int))
      (ifB (c.pl_nu == n_4)
      (∀ (b : Nat),
      Fresh m.sz m' b →
      ∃ (S' : Nat → Prop),
      (∀ (b_1 : Nat),
      S' b_1 →
      (m'.newBlock b
      [Value.int IntKind.i64 ix, Value.slice a n_1 c_1, Value.int IntKind.i64 n_2,
      Value.int IntKind.i64 n_3, Value.int IntKind.i64 n_4, Value.int IntKind.i64 n_5,
      Value.int IntKind.i64 n_6, Value.string s, Value.string s_1, Value.int IntKind.i64 n_7,
      Value.int IntKind.i64 n_8, Value.slice a_2 n_9 c_2]).uf
      b_1 ∧
      (m.sz ≤ b_1 ∨ False)) ∧
      ∀ (n : Nat),
      max m'.sz (b + (1 : Nat)) ≤ n →
      SpecW Try.prog (35 : Nat) [Value.pointer (some { block := b, off := (0 : Nat) : Addr })]
      { π := (m'.newBlock b [Value.int IntKind.i64 ix, Value.slice a n_1 c_1, Value.int IntKind.i64 n_2, Value.int IntKind.i64 n_3, Value.int IntKind.i64 n_4, Value.int IntKind.i64 n_5, Value.int IntKind.i64 n_6, Value.string s, Value.string s_1, Value.int IntKind.i64 n_7, Value.int IntKind.i64 n_8, Value.slice a_2 n_9 c_2]).π, sz := n, uf := (m'.newBlock b [Value.int IntKind.i64 ix, Value.slice a n_1 c_1, Value.int IntKind.i64 n_2, Value.int IntKind.i64 n_3, Value.int IntKind.i64 n_4, Value.int IntKind.i64 n_5, Value.int IntKind.i64 n_6, Value.string s, Value.string s_1, Value.int IntKind.i64 n_7, Value.int IntKind.i64 n_8, Value.slice a_2 n_9 c_2]).uf : M }
      S' fun (v : Value) (m' : M) =>
      ∃ (a : Option Addr),
      ∃ (n : Nat),
      ∃ (c_3 : Nat),
      v = Value.slice a n c_3 ∧
      ∃ (n_10 : Int),
      ∃ (a_5 : Option Addr),
      ∃ (n_11 : Nat),
      ∃ (c_4 : Nat),
      ∃ (n_12 : Int),
      ∃ (n_13 : Int),
      ∃ (n_14 : Int),
      ∃ (n_15 : Int),
      ∃ (n_16 : Int),
      ∃ (s : ByteArray),
      ∃ (s_2 : ByteArray),
      ∃ (n_17 : Int),
      ∃ (n_18 : Int),
      ∃ (a_6 : Option Addr),
      ∃ (n_19 : Nat),
      ∃ (c_5 : Nat),
      CellsAt m' b (0 : Nat)
      [Value.int IntKind.i64 n_10, Value.slice a_5 n_11 c_4,
      Value.int IntKind.i64 n_12, Value.int IntKind.i64 n_13,
      Value.int IntKind.i64 n_14, Value.int IntKind.i64 n_15,
      Value.int IntKind.i64 n_16, Value.string s,
      Value.string s_2, Value.int IntKind.i64 n_17,
      Value.int IntKind.i64 n_18, Value.slice a_6 n_19 c_5] ∧
      Done
      (ApR (applyE x c ix)
      (Value.tuple
      #[Value.agg
      #[Value.int IntKind.i64 n_10,
      Value.slice a_5 n_11 c_4,
      Value.int IntKind.i64 n_12,
      Value.int IntKind.i64 n_13,
      Value.int IntKind.i64 n_14,
      Value.int IntKind.i64 n_15,
      Value.int IntKind.i64 n_16, Value.string s,
      Value.string s_2, Value.int IntKind.i64 n_17,
      Value.int IntKind.i64 n_18,
      Value.slice a_6 n_19 c_5],
      Value.slice a n c_3, Value.int IntKind.i64 (0 : Int)])
      m'))
      (ifB (c.kd == (14 : Int))
      (ifB (c.pl_nu == n_4)
      (∀ (b : Nat),
      Fresh m.sz m' b →
      ∃ (S' : Nat → Prop),
      (∀ (b_1 : Nat),
      S' b_1 →
      (m'.newBlock b
      [Value.int IntKind.i64 ix, Value.slice a n_1 c_1, Value.int IntKind.i64 n_2,
      Value.int IntKind.i64 n_3, Value.int IntKind.i64 (0 : Int), Value.int IntKind.i64 (0 : Int),
      Value.int IntKind.i64 (0 : Int), Value.string { data := #[] : ByteArray },
      Value.string { data := #[] : ByteArray }, Value.int IntKind.i64 (0 : Int),
      Value.int IntKind.i64 (0 : Int), Value.slice a_2 n_9 c_2]).uf
      b_1 ∧
      (m.sz ≤ b_1 ∨ False)) ∧
      ∀ (n : Nat),
      max m'.sz (b + (1 : Nat)) ≤ n →
      SpecW Try.prog (36 : Nat)
      [Value.pointer (some { block := b, off := (0 : Nat) : Addr }), Value.int IntKind.i64 n_7,
      Value.int IntKind.i64 n_8, Value.int IntKind.i64 (190 : Int)]
      { π := (m'.newBlock b [Value.int IntKind.i64 ix, Value.slice a n_1 c_1, Value.int IntKind.i64 n_2, Value.int IntKind.i64 n_3, Value.int IntKind.i64 (0 : Int), Value.int IntKind.i64 (0 : Int), Value.int IntKind.i64 (0 : Int), Value.string { data := #[] : ByteArray }, Value.string { data := #[] : ByteArray }, Value.int IntKind.i64 (0 : Int), Value.int IntKind.i64 (0 : Int), Value.slice a_2 n_9 c_2]).π, sz := n, uf := (m'.newBlock b [Value.int IntKind.i64 ix, Value.slice a n_1 c_1, Value.int IntKind.i64 n_2, Value.int IntKind.i64 n_3, Value.int IntKind.i64 (0 : Int), Value.int IntKind.i64 (0 : Int), Value.int IntKind.i64 (0 : Int), Value.string { data := #[] : ByteArray }, Value.string { data := #[] : ByteArray }, Value.int IntKind.i64 (0 : Int), Value.int IntKind.i64 (0 : Int), Value.slice a_2 n_9 c_2]).uf : M }
      S' fun (v : Value) (m' : M) =>
      ∃ (a : Option Addr),
      ∃ (n : Nat),
      ∃ (c_3 : Nat),
      v = Value.slice a n c_3 ∧
      ∃ (n_10 : Int),
      ∃ (a_5 : Option Addr),
      ∃ (n_11 : Nat),
      ∃ (c_4 : Nat),
      ∃ (n_12 : Int),
      ∃ (n_13 : Int),
      ∃ (n_14 : Int),
      ∃ (n_15 : Int),
      ∃ (n_16 : Int),
      ∃ (s : ByteArray),
      ∃ (s_2 : ByteArray),
      ∃ (n_17 : Int),
      ∃ (n_18 : Int),
      ∃ (a_6 : Option Addr),
      ∃ (n_19 : Nat),
      ∃ (c_5 : Nat),
      CellsAt m' b (0 : Nat)
      [Value.int IntKind.i64 n_10, Value.slice a_5 n_11 c_4,
      Value.int IntKind.i64 n_12, Value.int IntKind.i64 n_13,
      Value.int IntKind.i64 n_14, Value.int IntKind.i64 n_15,
      Value.int IntKind.i64 n_16, Value.string s,
      Value.string s_2, Value.int IntKind.i64 n_17,
      Value.int IntKind.i64 n_18, Value.slice a_6 n_19 c_5] ∧
      Done
      (ApR (applyE x c ix)
      (Value.tuple
      #[Value.agg
      #[Value.int IntKind.i64 n_10,
      Value.slice a_5 n_11 c_4,
      Value.int IntKind.i64 n_12,
      Value.int IntKind.i64 n_13,
      Value.int IntKind.i64 n_14,
      Value.int IntKind.i64 n_15,
      Value.int IntKind.i64 n_16, Value.string s,
      Value.string s_2, Value.int IntKind.i64 n_17,
      Value.int IntKind.i64 n_18,
      Value.slice a_6 n_19 c_5],
      Value.slice a n c_3,
      Value.int IntKind.i64 (0 : Int)])
      m'))
      (Done
      (ApR (applyE x c ix)
      (Value.tuple
      #[Value.agg
      #[Value.int IntKind.i64 ix, Value.slice a n_1 c_1, Value.int IntKind.i64 n_2, Value.int IntKind.i64 n_3,
      Value.int IntKind.i64 n_4, Value.int IntKind.i64 n_5, Value.int IntKind.i64 n_6, Value.string s,
      Value.string s_1, Value.int IntKind.i64 n_7, Value.int IntKind.i64 n_8, Value.slice a_2 n_9 c_2],
      Value.slice none (0 : Nat) (0 : Nat), Value.int IntKind.i64 (0 : Int)])
      m')))
      (Done
      (ApR (applyE x c ix)
      (Value.tuple
      #[Value.agg
      #[Value.int IntKind.i64 ix, Value.slice a n_1 c_1, Value.int IntKind.i64 n_2, Value.int IntKind.i64 n_3,
      Value.int IntKind.i64 n_4, Value.int IntKind.i64 n_5, Value.int IntKind.i64 n_6, Value.string s,
      Value.string s_1, Value.int IntKind.i64 n_7, Value.int IntKind.i64 n_8, Value.slice a_2 n_9 c_2],
      Value.slice none (0 : Nat) (0 : Nat), Value.int IntKind.i64 (0 : Int)])
      m'))))
      (ifB (c.kd == (14 : Int))
      (ifB (c.pl_nu == n_4)
      (∀ (b : Nat),
      Fresh m.sz m' b →
      ∃ (S' : Nat → Prop),
      (∀ (b_1 : Nat),
      S' b_1 →
      (m'.newBlock b
      [Value.int IntKind.i64 ix, Value.slice a n_1 c_1, Value.int IntKind.i64 n_2,
      Value.int IntKind.i64 n_3, Value.int IntKind.i64 (0 : Int), Value.int IntKind.i64 (0 : Int),
      Value.int IntKind.i64 (0 : Int), Value.string { data := #[] : ByteArray },
      Value.string { data := #[] : ByteArray }, Value.int IntKind.i64 (0 : Int),
      Value.int IntKind.i64 (0 : Int), Value.slice a_2 n_9 c_2]).uf
      b_1 ∧
      (m.sz ≤ b_1 ∨ False)) ∧
      ∀ (n : Nat),
      max m'.sz (b + (1 : Nat)) ≤ n →
      SpecW Try.prog (36 : Nat)
      [Value.pointer (some { block := b, off := (0 : Nat) : Addr }), Value.int IntKind.i64 n_7,
      Value.int IntKind.i64 n_8, Value.int IntKind.i64 (190 : Int)]
      { π := (m'.newBlock b [Value.int IntKind.i64 ix, Value.slice a n_1 c_1, Value.int IntKind.i64 n_2, Value.int IntKind.i64 n_3, Value.int IntKind.i64 (0 : Int), Value.int IntKind.i64 (0 : Int), Value.int IntKind.i64 (0 : Int), Value.string { data := #[] : ByteArray }, Value.string { data := #[] : ByteArray }, Value.int IntKind.i64 (0 : Int), Value.int IntKind.i64 (0 : Int), Value.slice a_2 n_9 c_2]).π, sz := n, uf := (m'.newBlock b [Value.int IntKind.i64 ix, Value.slice a n_1 c_1, Value.int IntKind.i64 n_2, Value.int IntKind.i64 n_3, Value.int IntKind.i64 (0 : Int), Value.int IntKind.i64 (0 : Int), Value.int IntKind.i64 (0 : Int), Value.string { data := #[] : ByteArray }, Value.string { data := #[] : ByteArray }, Value.int IntKind.i64 (0 : Int), Value.int IntKind.i64 (0 : Int), Value.slice a_2 n_9 c_2]).uf : M }
      S' fun (v : Value) (m' : M) =>
      ∃ (a : Option Addr),
      ∃ (n : Nat),
      ∃ (c_3 : Nat),
      v = Value.slice a n c_3 ∧
      ∃ (n_10 : Int),
      ∃ (a_5 : Option Addr),
      ∃ (n_11 : Nat),
      ∃ (c_4 : Nat),
      ∃ (n_12 : Int),
      ∃ (n_13 : Int),
      ∃ (n_14 : Int),
      ∃ (n_15 : Int),
      ∃ (n_16 : Int),
      ∃ (s : ByteArray),
      ∃ (s_2 : ByteArray),
      ∃ (n_17 : Int),
      ∃ (n_18 : Int),
      ∃ (a_6 : Option Addr),
      ∃ (n_19 : Nat),
      ∃ (c_5 : Nat),
      CellsAt m' b (0 : Nat)
      [Value.int IntKind.i64 n_10, Value.slice a_5 n_11 c_4,
      Value.int IntKind.i64 n_12, Value.int IntKind.i64 n_13,
      Value.int IntKind.i64 n_14, Value.int IntKind.i64 n_15,
      Value.int IntKind.i64 n_16, Value.string s,
      Value.string s_2, Value.int IntKind.i64 n_17,
      Value.int IntKind.i64 n_18, Value.slice a_6 n_19 c_5] ∧
      Done
      (ApR (applyE x c ix)
      (Value.tuple
      #[Value.agg
      #[Value.int IntKind.i64 n_10,
      Value.slice a_5 n_11 c_4,
      Value.int IntKind.i64 n_12,
      Value.int IntKind.i64 n_13,
      Value.int IntKind.i64 n_14,
      Value.int IntKind.i64 n_15,
      Value.int IntKind.i64 n_16, Value.string s,
      Value.string s_2, Value.int IntKind.i64 n_17,
      Value.int IntKind.i64 n_18,
      Value.slice a_6 n_19 c_5],
      Value.slice a n c_3, Value.int IntKind.i64 (0 : Int)])
      m'))
      (Done
      (ApR (applyE x c ix)
      (Value.tuple
      #[Value.agg
      #[Value.int IntKind.i64 ix, Value.slice a n_1 c_1, Value.int IntKind.i64 n_2, Value.int IntKind.i64 n_3,
      Value.int IntKind.i64 n_4, Value.int IntKind.i64 n_5, Value.int IntKind.i64 n_6, Value.string s,
      Value.string s_1, Value.int IntKind.i64 n_7, Value.int IntKind.i64 n_8, Value.slice a_2 n_9 c_2],
      Value.slice none (0 : Nat) (0 : Nat), Value.int IntKind.i64 (0 : Int)])
      m')))
      (Done
      (ApR (applyE x c ix)
      (Value.tuple
      #[Value.agg
      #[Value.int IntKind.i64 ix, Value.slice a n_1 c_1, Value.int IntKind.i64 n_2, Value.int IntKind.i64 n_3,
      Value.int IntKind.i64 n_4, Value.int IntKind.i64 n_5, Value.int IntKind.i64 n_6, Value.string s,
      Value.string s_1, Value.int IntKind.i64 n_7, Value.int IntKind.i64 n_8, Value.slice a_2 n_9 c_2],
      Value.slice none (0 : Nat) (0 : Nat), Value.int IntKind.i64 (0 : Int)])
      m')))))
      (ifB (c.kd == (12 : Int))
      (∀ (b : Nat),
      Fresh m.sz m' b →
      ∃ (S' : Nat → Prop),
      (∀ (b_1 : Nat),
      S' b_1 →
      (m'.newBlock b
      [Value.int IntKind.i64 ix, Value.slice a n_1 c_1, Value.int IntKind.i64 n_2, Value.int IntKind.i64 n_3,
      Value.int IntKind.i64 n_4, Value.int IntKind.i64 n_5, Value.int IntKind.i64 n_6, Value.string s,
      Value.string s_1, Value.int IntKind.i64 n_7, Value.int IntKind.i64 n_8, Value.slice a_2 n_9 c_2]).uf
      b_1 ∧
      (m.sz ≤ b_1 ∨ False)) ∧
      ∀ (n : Nat),
      max m'.sz (b + (1 : Nat)) ≤ n →
      SpecW Try.prog (34 : Nat)
      [Value.pointer (some { block := b, off := (0 : Nat) : Addr }),
      Value.agg
      #[Value.int IntKind.i64 c.kd, Value.int IntKind.i64 c.cl, Value.int IntKind.i64 c.sq,
      Value.int IntKind.i64 c.ep, Value.int IntKind.i64 c.nd, Value.int IntKind.i64 c.hm, Value.string c.ky,
      Value.int IntKind.i64 c.le, Value.int IntKind.i64 c.rn, Value.int IntKind.i64 c.ne, Value.bool c.ys,
      Value.int IntKind.i64 c.op_kd, Value.string c.op_ky, Value.string c.op_ot, Value.int IntKind.i64 c.op_n,
      Value.int IntKind.i64 c.op_lo, Value.int IntKind.i64 c.op_hi, Value.int IntKind.i64 c.pl_nu,
      Value.int IntKind.i64 c.pl_fr, Value.int IntKind.i64 c.pl_to, Value.string c.pl_lo,
      Value.string c.pl_hi, Value.int IntKind.i64 c.pl_cl, Value.int IntKind.i64 c.pl_sq,
      Value.slice ai ni ci]]
      { π := (m'.newBlock b [Value.int IntKind.i64 ix, Value.slice a n_1 c_1, Value.int IntKind.i64 n_2, Value.int IntKind.i64 n_3, Value.int IntKind.i64 n_4, Value.int IntKind.i64 n_5, Value.int IntKind.i64 n_6, Value.string s, Value.string s_1, Value.int IntKind.i64 n_7, Value.int IntKind.i64 n_8, Value.slice a_2 n_9 c_2]).π, sz := n, uf := (m'.newBlock b [Value.int IntKind.i64 ix, Value.slice a n_1 c_1, Value.int IntKind.i64 n_2, Value.int IntKind.i64 n_3, Value.int IntKind.i64 n_4, Value.int IntKind.i64 n_5, Value.int IntKind.i64 n_6, Value.string s, Value.string s_1, Value.int IntKind.i64 n_7, Value.int IntKind.i64 n_8, Value.slice a_2 n_9 c_2]).uf : M }
      S' fun (v : Value) (m' : M) =>
      ∃ (a : Option Addr),
      ∃ (n : Nat),
      ∃ (c_3 : Nat),
      v = Value.slice a n c_3 ∧
      ∃ (n_10 : Int),
      ∃ (a_5 : Option Addr),
      ∃ (n_11 : Nat),
      ∃ (c_4 : Nat),
      ∃ (n_12 : Int),
      ∃ (n_13 : Int),
      ∃ (n_14 : Int),
      ∃ (n_15 : Int),
      ∃ (n_16 : Int),
      ∃ (s : ByteArray),
      ∃ (s_2 : ByteArray),
      ∃ (n_17 : Int),
      ∃ (n_18 : Int),
      ∃ (a_6 : Option Addr),
      ∃ (n_19 : Nat),
      ∃ (c_5 : Nat),
      CellsAt m' b (0 : Nat)
      [Value.int IntKind.i64 n_10, Value.slice a_5 n_11 c_4,
      Value.int IntKind.i64 n_12, Value.int IntKind.i64 n_13,
      Value.int IntKind.i64 n_14, Value.int IntKind.i64 n_15,
      Value.int IntKind.i64 n_16, Value.string s, Value.string s_2,
      Value.int IntKind.i64 n_17, Value.int IntKind.i64 n_18,
      Value.slice a_6 n_19 c_5] ∧
      Done
      (ApR (applyE x c ix)
      (Value.tuple
      #[Value.agg
      #[Value.int IntKind.i64 n_10, Value.slice a_5 n_11 c_4,
      Value.int IntKind.i64 n_12, Value.int IntKind.i64 n_13,
      Value.int IntKind.i64 n_14, Value.int IntKind.i64 n_15,
      Value.int IntKind.i64 n_16, Value.string s,
      Value.string s_2, Value.int IntKind.i64 n_17,
      Value.int IntKind.i64 n_18, Value.slice a_6 n_19 c_5],
      Value.slice a n c_3, Value.int IntKind.i64 (0 : Int)])
      m'))
      (ifB (c.kd == (13 : Int))
      (ifB (c.kd == (14 : Int))
      (Done
      (ApR (applyE x c ix)
      (Value.tuple
      #[Value.agg
      #[Value.int IntKind.i64 ix, Value.slice a n_1 c_1, Value.int IntKind.i64 n_2, Value.int IntKind.i64 n_3,
      Value.int IntKind.i64 n_4, Value.int IntKind.i64 n_5, Value.int IntKind.i64 n_6, Value.string s,
      Value.string s_1, Value.int IntKind.i64 n_7, Value.int IntKind.i64 n_8, Value.slice a_2 n_9 c_2],
      Value.slice none (0 : Nat) (0 : Nat), Value.int IntKind.i64 (0 : Int)])
      m'))
      (Done
      (ApR (applyE x c ix)
      (Value.tuple
      #[Value.agg
      #[Value.int IntKind.i64 ix, Value.slice a n_1 c_1, Value.int IntKind.i64 n_2, Value.int IntKind.i64 n_3,
      Value.int IntKind.i64 n_4, Value.int IntKind.i64 n_5, Value.int IntKind.i64 n_6, Value.string s,
      Value.string s_1, Value.int IntKind.i64 n_7, Value.int IntKind.i64 n_8, Value.slice a_2 n_9 c_2],
      Value.slice none (0 : Nat) (0 : Nat), Value.int IntKind.i64 (0 : Int)])
      m')))
      (ifB (c.kd == (14 : Int))
      (Done
      (ApR (applyE x c ix)
      (Value.tuple
      #[Value.agg
      #[Value.int IntKind.i64 ix, Value.slice a n_1 c_1, Value.int IntKind.i64 n_2, Value.int IntKind.i64 n_3,
      Value.int IntKind.i64 n_4, Value.int IntKind.i64 n_5, Value.int IntKind.i64 n_6, Value.string s,
      Value.string s_1, Value.int IntKind.i64 n_7, Value.int IntKind.i64 n_8, Value.slice a_2 n_9 c_2],
      Value.slice none (0 : Nat) (0 : Nat), Value.int IntKind.i64 (0 : Int)])
      m'))
      (Done
      (ApR (applyE x c ix)
      (Value.tuple
      #[Value.agg
      #[Value.int IntKind.i64 ix, Value.slice a n_1 c_1, Value.int IntKind.i64 n_2, Value.int IntKind.i64 n_3,
      Value.int IntKind.i64 n_4, Value.int IntKind.i64 n_5, Value.int IntKind.i64 n_6, Value.string s,
      Value.string s_1, Value.int IntKind.i64 n_7, Value.int IntKind.i64 n_8, Value.slice a_2 n_9 c_2],
      Value.slice none (0 : Nat) (0 : Nat), Value.int IntKind.i64 (0 : Int)])
      m'))))))))) (by kernel_rfl) ?_
  refine ⟨rfl, _, rright_c x a hl hm _ h, ?_⟩
  cases hrc : rightC x with
  | false =>
    have e : applyE x c ix = (c0, [], 21) := by unfold applyE; rw [if_pos hrc]
    exact ifB_true ⟨by rw [e]; exact ⟨a0, none, 0, rfl, ⟨.nil _, .nil _⟩, .nil _⟩⟩
  | true =>
  have hr := ric_iff.1 hrc
  have hbad : (ix ≤ x.ix ∨ ix > 4611686018427387904) → applyE x c ix = (c0, [], 80) := fun q => by unfold applyE; rw [if_neg (by rw [hrc]; simp), if_pos q]
  refine ifB_false (ifB_intro (fun g => ⟨?_⟩) (fun g => ifB_intro (fun g2 => ⟨?_⟩) (fun g2 => ?_)))
  · rw [hbad (.inl (of_decide_eq_true g))]; exact ⟨a0, none, 0, rfl, ⟨.nil _, .nil _⟩, .nil _⟩
  · rw [hbad (.inr (of_decide_eq_true g2))]; exact ⟨a0, none, 0, rfl, ⟨.nil _, .nil _⟩, .nil _⟩
  have k1 := of_decide_eq_false g
  have k2 := of_decide_eq_false g2
  have hix0 := hr.ix0
  have hry : RiC { x with ix := ix } := hr.ix (by omega) (by omega)
  refine fun N hN => (rcopy_s x a (by have := right_len hr.ps; omega) (by have := tab8 hr.ms; omega) _ (h.sz hN)).mono fun v m1 hag1 ⟨a1, hv, r1⟩ => ?_
  have r1 : CtR m1 { x with ix := ix } a1 := ⟨r1.ps, r1.ms⟩
  have eA : applyE x c ix = (let y := { x with ix := ix }
     let g := y.nu ≠ 0 ∧ c.pl_nu = y.nu
     if c.kd = 12 then ((startE y c).1, (startE y c).2, 0)
     else if c.kd = 13 ∧ g then ((shfE y).1, (shfE y).2, 0)
     else if c.kd = 14 ∧ g then ((doneE (clrP y) y.cl y.sq 190).1, (doneE (clrP y) y.cl y.sq 190).2, 0)
     else (y, [], 0)) := by unfold applyE; rw [if_neg (by rw [hrc]; simp), if_neg (by omega)]
  generalize hyy : ({ x with ix := ix } : Ct) = y at *
  have yix : ix = y.ix := by rw [← hyy]
  subst yix
  have ynu : y.nu = x.nu := by rw [← hyy]
  have ycl : y.cl = x.cl := by rw [← hyy]
  have ysq : y.sq = x.sq := by rw [← hyy]
  have hmy : y.ms.length ≤ 9223372036854775807 := by rw [← hyy]; exact hm
  have eA : applyE x c y.ix = (if c.kd = 12 then ((startE y c).1, (startE y c).2, 0)
     else if c.kd = 13 ∧ (y.nu ≠ 0 ∧ c.pl_nu = y.nu) then ((shfE y).1, (shfE y).2, 0)
     else if c.kd = 14 ∧ (y.nu ≠ 0 ∧ c.pl_nu = y.nu) then ((doneE (clrP y) y.cl y.sq 190).1, (doneE (clrP y) y.cl y.sq 190).2, 0)
     else (y, [], 0)) := eA
  have lf : applyE x c y.ix = (y, [], 0) → Done (ApR (applyE x c y.ix) (.tuple #[ctv y a1, .slice none 0 0, I 0]) m1) := fun e => ⟨by rw [e]; exact ⟨a1, none, 0, rfl, r1, .nil _⟩⟩
  have hsz1 : m.sz ≤ m1.sz := by have := hag1.2.2; simp only at this; omega
  have fin : ∀ (b : Nat) (z : Ct × List Ef) (v : Value) (m' : M), PtR b z v m' → applyE x c y.ix = (z.1, z.2, 0) → ∃ a n c_3, v = .slice a n c_3 ∧ ∃ n_10 a_5 n_11 c_4 n_12 n_13 n_14 n_15 n_16 s s_2 n_17 n_18 a_6 n_19 c_5, CellsAt m' b 0 [I n_10, .slice a_5 n_11 c_4, I n_12, I n_13, I n_14, I n_15, I n_16, .string s, .string s_2, I n_17, I n_18, .slice a_6 n_19 c_5] ∧ Done (ApR (applyE x c y.ix) (.tuple #[.agg #[I n_10, .slice a_5 n_11 c_4, I n_12, I n_13, I n_14, I n_15, I n_16, .string s, .string s_2, I n_17, I n_18, .slice a_6 n_19 c_5], .slice a n c_3, I 0]) m') := fun b z v m' ⟨⟨a', av, cv, q1, q2, q3⟩⟩ e => by
    refine ⟨_, _, _, q2, _, _, _, _, _, _, _, _, _, _, _, _, _, _, _, _, q1.cells, ⟨?_⟩⟩
    rw [e]
    exact ⟨a', av, cv, rfl, q1.r, q3⟩
  have st : c.kd = 12 → ∀ b, Fresh m.sz m1 b → ∃ S' : Nat → Prop, (∀ z, S' z → (m1.newBlock b (encCt y a1)).uf z ∧ (m.sz ≤ z ∨ False)) ∧ ∀ n, (m1.newBlock b (encCt y a1)).sz ≤ n → SpecW Try.prog 34 [.pointer (some ⟨b, 0, none⟩), cdv c ai ni ci] { m1.newBlock b (encCt y a1) with sz := n } S' fun v m' => ∃ a n c_3, v = .slice a n c_3 ∧ ∃ n_10 a_5 n_11 c_4 n_12 n_13 n_14 n_15 n_16 s s_2 n_17 n_18 a_6 n_19 c_5, CellsAt m' b 0 [I n_10, .slice a_5 n_11 c_4, I n_12, I n_13, I n_14, I n_15, I n_16, .string s, .string s_2, I n_17, I n_18, .slice a_6 n_19 c_5] ∧ Done (ApR (applyE x c y.ix) (.tuple #[.agg #[I n_10, .slice a_5 n_11 c_4, I n_12, I n_13, I n_14, I n_15, I n_16, .string s, .string s_2, I n_17, I n_18, .slice a_6 n_19 c_5], .slice a n c_3, I 0]) m') := fun k b hb => by
    have P := PtC.newC hb r1
    exact ⟨fun z => z = b, fun z e => by subst e; exact ⟨P.uf, .inl hb.lo⟩, fun n hn => (rplan_s y a1 b c ai ni ci hry hmy _ (P.sz hn)).mono fun v m' hag q => fin b _ v m' q (by rw [eA, if_pos k])⟩
  have dn : ∀ (b : Nat) (z : Ct) (a2 : Ca) (er : Int) (m2 : M), PtC b z a2 m2 → m.sz ≤ b → z.ms.length ≤ 9223372036854775807 → applyE x c y.ix = ((doneE z y.cl y.sq er).1, (doneE z y.cl y.sq er).2, 0) → ∃ S' : Nat → Prop, (∀ z, S' z → m2.uf z ∧ (m.sz ≤ z ∨ False)) ∧ ∀ n, m2.sz ≤ n → SpecW Try.prog 36 [.pointer (some ⟨b, 0, none⟩), I y.cl, I y.sq, I er] { m2 with sz := n } S' fun v m' => ∃ a n c_3, v = .slice a n c_3 ∧ ∃ n_10 a_5 n_11 c_4 n_12 n_13 n_14 n_15 n_16 s s_2 n_17 n_18 a_6 n_19 c_5, CellsAt m' b 0 [I n_10, .slice a_5 n_11 c_4, I n_12, I n_13, I n_14, I n_15, I n_16, .string s, .string s_2, I n_17, I n_18, .slice a_6 n_19 c_5] ∧ Done (ApR (applyE x c y.ix) (.tuple #[.agg #[I n_10, .slice a_5 n_11 c_4, I n_12, I n_13, I n_14, I n_15, I n_16, .string s, .string s_2, I n_17, I n_18, .slice a_6 n_19 c_5], .slice a n c_3, I 0]) m') := fun b z a2 er m2 P hlo hms e =>
    ⟨fun z => z = b, fun z e => by subst e; exact ⟨P.uf, .inl hlo⟩, fun n hn => (rdone_s z a2 b y.cl y.sq er hms _ (P.sz hn)).mono fun v m' hag q => fin b _ v m' q e⟩
  have hv : v = ctv { y with ix := x.ix } a1 := by rw [← hyy]; exact hv
  refine ⟨_, _, _, _, _, _, _, _, _, _, _, _, _, _, _, _, hv, ifB_intro (fun g3 => ifB_intro (fun g4 => st (by simpa using g4)) (fun g4 => ifB_intro (fun g5 => ifB_intro (fun g6 b hb => ?e1) (fun g6 => ifB_intro (fun g7 => ifB_intro (fun g8 => ?e2) (fun g8 => lf ?e3)) (fun g7 => lf ?e4))) (fun g5 => ifB_intro (fun g6 => ifB_intro (fun g7 b hb => ?e5) (fun g7 => lf ?e6)) (fun g6 => lf ?e7)))) (fun g3 => ifB_intro (fun g4 => st (by simpa using g4)) (fun g4 => ifB_intro (fun g5 => ifB_intro (fun g6 => lf ?e8) (fun g6 => lf ?e9)) (fun g5 => ifB_intro (fun g6 => lf ?e10) (fun g6 => lf ?e11))))⟩
  case e1 =>
    have q3 : y.nu ≠ 0 := by simpa using g3
    have q4 : ¬ c.kd = 12 := by simpa using g4
    have q5 : c.kd = 13 := by simpa using g5
    have q6 : c.pl_nu = y.nu := by simpa using g6
    have P := PtC.newC hb r1
    refine ⟨fun z => z = b, fun z e => by subst e; exact ⟨P.uf, .inl hb.lo⟩, fun n hn => (rshift_s y a1 b hry q3 hmy _ (P.sz hn)).mono fun v m2 hag2 q => fin b _ v m2 q (by rw [eA, if_neg q4, if_pos ⟨q5, q3, q6⟩])⟩
  case e2 =>
    have q5 : c.kd = 13 := by simpa using g5
    have q6 : c.kd = 14 := by simpa using g7
    omega
  case e3 =>
    have q4 : ¬ c.kd = 12 := by simpa using g4
    have q6 : ¬ c.pl_nu = y.nu := by simpa using g6
    rw [eA, if_neg q4, if_neg (fun e => q6 e.2.2), if_neg (fun e => q6 e.2.2)]
  case e4 =>
    have q4 : ¬ c.kd = 12 := by simpa using g4
    have q6 : ¬ c.pl_nu = y.nu := by simpa using g6
    rw [eA, if_neg q4, if_neg (fun e => q6 e.2.2), if_neg (fun e => q6 e.2.2)]
  case e5 =>
    have q3 : y.nu ≠ 0 := by simpa using g3
    have q4 : ¬ c.kd = 12 := by simpa using g4
    have q5 : ¬ c.kd = 13 := by simpa using g5
    have q6 : c.kd = 14 := by simpa using g6
    have q7 : c.pl_nu = y.nu := by simpa using g7
    have r2 : CtR m1 (clrP y) a1 := ⟨r1.ps, r1.ms⟩
    exact dn b (clrP y) a1 190 _ (PtC.newC hb r2) hb.lo hmy (by rw [eA, if_neg q4, if_neg (fun e => q5 e.1), if_pos ⟨q6, q3, q7⟩])
  case e6 =>
    have q4 : ¬ c.kd = 12 := by simpa using g4
    have q7 : ¬ c.pl_nu = y.nu := by simpa using g7
    rw [eA, if_neg q4, if_neg (fun e => q7 e.2.2), if_neg (fun e => q7 e.2.2)]
  case e7 =>
    have q4 : ¬ c.kd = 12 := by simpa using g4
    have q5 : ¬ c.kd = 13 := by simpa using g5
    have q6 : ¬ c.kd = 14 := by simpa using g6
    rw [eA, if_neg q4, if_neg (fun e => q5 e.1), if_neg (fun e => q6 e.1)]
  all_goals
    have q3 : y.nu = 0 := by simpa using g3
    have q4 : ¬ c.kd = 12 := by simpa using g4
    rw [eA, if_neg q4, if_neg (fun e => e.2.1 q3), if_neg (fun e => e.2.1 q3)]

def newC : Ct := ⟨0, [⟨1, .empty, 1⟩], 2, 0, 0, 0, 0, .empty, .empty, 0, 0, []⟩

theorem new_s (m : M) : Vc.Spec Try.prog 8 [] m fun v m' => ∃ a', v = ctv newC a' ∧ CtR m' newC a' := by
  refine Vc.Spec.of_vc Try.func8 (ann := noAnn) ?_
  refine vc_by (X :=
      true = true ∧
      true = true ∧
      ∀ (b : Nat),
      m.sz ≤ b →
      Done
      (∃ (a' : Ca),
      Value.agg
      #[Value.int IntKind.i64 (0 : Int), Value.slice (some { block := b, off := (0 : Nat) : Addr }) (1 : Nat) (1 : Nat), Value.int IntKind.i64 (2 : Int),
      Value.int IntKind.i64 (0 : Int), Value.int IntKind.i64 (0 : Int), Value.int IntKind.i64 (0 : Int), Value.int IntKind.i64 (0 : Int),
      Value.string { data := #[] : ByteArray }, Value.string { data := #[] : ByteArray }, Value.int IntKind.i64 (0 : Int), Value.int IntKind.i64 (0 : Int),
      Value.slice none (0 : Nat) (0 : Nat)] =
      Value.agg
      #[Value.int IntKind.i64 (0 : Int), Value.slice a'.ap (1 : Nat) a'.cp, Value.int IntKind.i64 (2 : Int), Value.int IntKind.i64 (0 : Int),
      Value.int IntKind.i64 (0 : Int), Value.int IntKind.i64 (0 : Int), Value.int IntKind.i64 (0 : Int), Value.string ByteArray.empty, Value.string ByteArray.empty,
      Value.int IntKind.i64 (0 : Int), Value.int IntKind.i64 (0 : Int), Value.slice a'.am (0 : Nat) a'.cm] ∧
      CtR (m.newBlock b [Value.int IntKind.i64 (1 : Int), Value.string { data := #[] : ByteArray }, Value.int IntKind.i64 (1 : Int)]) newC a')) (by kernel_rfl) ?_
  exact ⟨rfl, rfl, fun b hb => ⟨⟨⟨some ⟨b, 0, none⟩, 1, none, 0⟩, rfl, .at _ _ _ (by simp only [M.newBlock]; omega) cellsAt_new, .nil _⟩⟩⟩

theorem rnew_s (m : M) : Vc.Spec Try.prog 9 [] m fun v m' => ∃ a', v = ctv newC a' ∧ CtR m' newC a' := by
  refine Vc.Spec.of_vc Try.func9 (ann := noAnn) ?_
  refine vc_by (X :=
      true = true ∧
      true = true ∧
      ∀ (b : Nat),
      m.sz ≤ b →
      Done
      (∃ (a' : Ca),
      Value.agg
      #[Value.int IntKind.i64 (0 : Int), Value.slice (some { block := b, off := (0 : Nat) : Addr }) (1 : Nat) (1 : Nat), Value.int IntKind.i64 (2 : Int),
      Value.int IntKind.i64 (0 : Int), Value.int IntKind.i64 (0 : Int), Value.int IntKind.i64 (0 : Int), Value.int IntKind.i64 (0 : Int),
      Value.string { data := #[] : ByteArray }, Value.string { data := #[] : ByteArray }, Value.int IntKind.i64 (0 : Int), Value.int IntKind.i64 (0 : Int),
      Value.slice none (0 : Nat) (0 : Nat)] =
      Value.agg
      #[Value.int IntKind.i64 (0 : Int), Value.slice a'.ap (1 : Nat) a'.cp, Value.int IntKind.i64 (2 : Int), Value.int IntKind.i64 (0 : Int),
      Value.int IntKind.i64 (0 : Int), Value.int IntKind.i64 (0 : Int), Value.int IntKind.i64 (0 : Int), Value.string ByteArray.empty, Value.string ByteArray.empty,
      Value.int IntKind.i64 (0 : Int), Value.int IntKind.i64 (0 : Int), Value.slice a'.am (0 : Nat) a'.cm] ∧
      CtR (m.newBlock b [Value.int IntKind.i64 (1 : Int), Value.string { data := #[] : ByteArray }, Value.int IntKind.i64 (1 : Int)]) newC a')) (by kernel_rfl) ?_
  exact ⟨rfl, rfl, fun b hb => ⟨⟨⟨some ⟨b, 0, none⟩, 1, none, 0⟩, rfl, .at _ _ _ (by simp only [M.newBlock]; omega) cellsAt_new, .nil _⟩⟩⟩

theorem check_q (x : Ct) (a : Ca) (hl : x.ps.length ≤ 9223372036854775807) (hm : x.ms.length ≤ 9223372036854775807) (m : M) (h : CtR m x a) : QSpec Try.prog 15 [ctv x a] m (I (if rightC x then 0 else 21)) := by
  refine QSpec.of_vc Try.func15 (ann := fun _ => noAnn) fun n hn => ?_
  refine vc_by (X :=
      true = true ∧
      ∃ (b : Bool),
      QSpec Try.prog (29 : Nat)
      [Value.agg
      #[Value.int IntKind.i64 x.ix, Value.slice a.ap x.ps.length a.cp, Value.int IntKind.i64 x.nx, Value.int IntKind.i64 x.la, Value.int IntKind.i64 x.nu,
      Value.int IntKind.i64 x.fr, Value.int IntKind.i64 x.to, Value.string x.lo, Value.string x.hi, Value.int IntKind.i64 x.cl, Value.int IntKind.i64 x.sq,
      Value.slice a.am x.ms.length a.cm]]
      { π := m.π, sz := n, uf := m.uf : M } (Value.bool b) ∧
      ifB (!b) (Done (Value.int IntKind.i64 (21 : Int) = Value.int IntKind.i64 (if rightC x = true then (0 : Int) else (21 : Int))))
      (Done (Value.int IntKind.i64 (0 : Int) = Value.int IntKind.i64 (if rightC x = true then (0 : Int) else (21 : Int))))) (by kernel_rfl) ?_
  refine ⟨rfl, _, right_q x a hl hm _ (h.sz hn), ?_⟩
  cases rightC x
  · exact ifB_true ⟨rfl⟩
  · exact ifB_false ⟨rfl⟩

theorem epoch_q (x : Ct) (a : Ca) (hl : x.ps.length ≤ 9223372036854775807) (hm : x.ms.length ≤ 9223372036854775807) (m : M) (h : CtR m x a) : QSpec Try.prog 24 [ctv x a] m (I (if rightC x then epochL x.ps + 1 else 0)) := by
  refine QSpec.of_vc Try.func24 (ann := fun _ => noAnn) fun n hn => ?_
  refine vc_by (X :=
      true = true ∧
      ∃ (b : Bool),
      QSpec Try.prog (29 : Nat)
      [Value.agg
      #[Value.int IntKind.i64 x.ix, Value.slice a.ap x.ps.length a.cp, Value.int IntKind.i64 x.nx, Value.int IntKind.i64 x.la, Value.int IntKind.i64 x.nu,
      Value.int IntKind.i64 x.fr, Value.int IntKind.i64 x.to, Value.string x.lo, Value.string x.hi, Value.int IntKind.i64 x.cl, Value.int IntKind.i64 x.sq,
      Value.slice a.am x.ms.length a.cm]]
      { π := m.π, sz := n, uf := m.uf : M } (Value.bool b) ∧
      ifB (!b) (Done (Value.int IntKind.i64 (0 : Int) = Value.int IntKind.i64 (if rightC x = true then epochL x.ps + (1 : Int) else (0 : Int))))
      (∃ (n_1 : Int),
      QSpec Try.prog (17 : Nat) [Value.slice a.ap x.ps.length a.cp] { π := m.π, sz := n, uf := m.uf : M } (Value.int IntKind.i64 n_1) ∧
      Done (Value.int IntKind.i64 (IntKind.i64.wrap (n_1 + (1 : Int))) = Value.int IntKind.i64 (if rightC x = true then epochL x.ps + (1 : Int) else (0 : Int))))) (by kernel_rfl) ?_
  have h' := h.sz hn
  refine ⟨rfl, _, right_q x a hl hm _ h', ?_⟩
  cases hr : rightC x with
  | false => exact ifB_true ⟨rfl⟩
  | true =>
    have hlen := right_len (ric_iff.1 hr).ps
    refine ifB_false ⟨_, rg_epoch x.ps a.ap a.cp (by omega) (row_h0 h.ps) _ h'.ps, ⟨?_⟩⟩
    have h1 := epoch_le (ric_iff.1 hr).ps
    have h2 := epoch_nn x.ps 0
    have e : epochL x.ps = x.ps.foldl (fun e p => max e p.ep) 0 := rfl
    rw [if_pos rfl, show IntKind.i64.wrap (epochL x.ps + 1) = epochL x.ps + 1 by simp [IntKind.wrap_i64]; omega]

theorem chart_q (x : Ct) (a a2 : Ca) (hl : x.ps.length ≤ 9223372036854775807) (hm : x.ms.length ≤ 9223372036854775807) (m : M) (h : CtR m x a) (h2 : CtR m x a2) : QSpec Try.prog 13 [ctv x a, ctv x a2] m (.bool true) := by
  refine QSpec.of_vc Try.func13 (ann := fun _ => noAnn) fun n hn => ?_
  refine vc_by (X :=
      true = true ∧
      ifB (x.ix == x.ix)
      (∃ (b : Bool),
      QSpec Try.prog (21 : Nat) [Value.slice a.ap x.ps.length a.cp, Value.slice a2.ap x.ps.length a2.cp] { π := m.π, sz := n, uf := m.uf : M } (Value.bool b) ∧
      ifB b
      (ifB (x.nx == x.nx)
      (ifB (x.la == x.la)
      (ifB (x.nu == x.nu && (x.fr == x.fr && (x.to == x.to && (x.lo.toList == x.lo.toList && (x.hi.toList == x.hi.toList && (x.cl == x.cl && (x.sq == x.sq && true)))))))
      (∃ (b : Bool),
      QSpec Try.prog (37 : Nat) [Value.slice a.am x.ms.length a.cm, Value.slice a2.am x.ms.length a2.cm] { π := m.π, sz := n, uf := m.uf : M } (Value.bool b) ∧
      Done (Value.bool b = Value.bool true))
      (Done (Value.bool false = Value.bool true)))
      (Done (Value.bool false = Value.bool true)))
      (Done (Value.bool false = Value.bool true)))
      (Done (Value.bool false = Value.bool true)))
      (Done (Value.bool false = Value.bool true))) (by kernel_rfl) ?_
  have h' := h.sz hn
  have h2' := h2.sz hn
  have e1 := pl_plain a.ap a2.ap a.cp a2.cp x.ps x.ps hl _ h'.ps h2'.ps
  have e2 := mk_plain a.am a2.am a.cm a2.cm x.ms x.ms hm _ h'.ms h2'.ms
  rw [decide_eq_true rfl] at e1 e2
  exact ⟨rfl, ifB_true' (by simp) ⟨_, e1, ifB_true (ifB_true' (by simp) (ifB_true' (by simp) (ifB_true' (by simp) ⟨_, e2, ⟨rfl⟩⟩)))⟩⟩

theorem pawake_q (m : M) : QSpec Try.prog 10 [] m (.bool true) := by
  refine QSpec.of_vc Try.func10 (ann := fun _ => noAnn) fun n hn => ?_
  refine vc_by (X :=
      true = true ∧
      ∀ (n_1 : Nat),
      n ≤ n_1 →
      Vc.Spec Try.prog (8 : Nat) [] { π := m.π, sz := n_1, uf := m.uf : M } fun (v : Value) (m' : M) =>
      ∃ (n : Int),
      ∃ (a : Option Addr),
      ∃ (n_2 : Nat),
      ∃ (c : Nat),
      ∃ (n_3 : Int),
      ∃ (n_4 : Int),
      ∃ (n_5 : Int),
      ∃ (n_6 : Int),
      ∃ (n_7 : Int),
      ∃ (s : ByteArray),
      ∃ (s_1 : ByteArray),
      ∃ (n_8 : Int),
      ∃ (n_9 : Int),
      ∃ (a_1 : Option Addr),
      ∃ (n_10 : Nat),
      ∃ (c_1 : Nat),
      v =
      Value.agg
      #[Value.int IntKind.i64 n, Value.slice a n_2 c, Value.int IntKind.i64 n_3, Value.int IntKind.i64 n_4, Value.int IntKind.i64 n_5,
      Value.int IntKind.i64 n_6, Value.int IntKind.i64 n_7, Value.string s, Value.string s_1, Value.int IntKind.i64 n_8,
      Value.int IntKind.i64 n_9, Value.slice a_1 n_10 c_1] ∧
      ifB ((↑n_2 : Int) == (1 : Int))
      (ifB (n_3 == (2 : Int))
      (∃ (n : Int),
      QSpec Try.prog (15 : Nat)
      [Value.agg
      #[Value.int IntKind.i64 (0 : Int), Value.slice none (0 : Nat) (0 : Nat), Value.int IntKind.i64 (0 : Int),
      Value.int IntKind.i64 (0 : Int), Value.int IntKind.i64 (0 : Int), Value.int IntKind.i64 (0 : Int),
      Value.int IntKind.i64 (0 : Int), Value.string { data := #[] : ByteArray }, Value.string { data := #[] : ByteArray },
      Value.int IntKind.i64 (0 : Int), Value.int IntKind.i64 (0 : Int), Value.slice none (0 : Nat) (0 : Nat)]]
      m' (Value.int IntKind.i64 n) ∧
      Done (Value.bool (n == (21 : Int)) = Value.bool true))
      (Done (Value.bool false = Value.bool true)))
      (Done (Value.bool false = Value.bool true))) (by kernel_rfl) ?_
  refine ⟨rfl, fun n1 h1 => (new_s _).mono fun v m' hag ⟨a', hv, hr⟩ => ⟨_, _, _, _, _, _, _, _, _, _, _, _, _, _, _, _, hv, ifB_true' (by simp [newC]) (ifB_true' (by simp [newC]) ⟨_, check_q c0 a0 (by decide) (by decide) _ ⟨.nil _, .nil _⟩, ⟨?_⟩⟩)⟩⟩
  have e : rightC c0 = false := by
    cases h : rightC c0 with
    | false => rfl
    | true => exact absurd (ric_iff.1 h).nx0 (by decide)
  rw [e]; rfl

end Go.Proofs.Ytjjfcaigonomiaa
set_option linter.unusedVariables false
set_option linter.unusedSimpArgs false
namespace Go.Proofs.Ytjjfcaigonomiaa
open Go.Vc Go.RowKit Go.ChangeShapes Go.WideShapes Go.ChangeAt
set_option maxRecDepth 100000

abbrev encBt (n : Int) : List Value := [.int .u8 n]
abbrev bts (l : List Int) : List Value := l.flatMap encBt
theorem bt_k (x : Int) : (encBt x).length = 1 := rfl
theorem bt_len (l : List Int) : (bts l).length = l.length := by rw [flat_len bt_k]; omega
theorem bt_len1 (l : List Int) : (bts l).length = l.length * 1 := by rw [bt_len]; omega
theorem bt_at {m : M} {b o i : Nat} {l : List Int} (h : CellsAt m b o (bts l)) (hi : i < l.length) : CellsAt m b (o + i) (encBt l[i]) := by have := CellsAt.elem bt_k l o i hi h; rw [Nat.mul_one] at this; exact this
theorem bt_one (l : List Int) : oneCells (bts l) = true := by
  rw [oneCells_iff]; intro v hv
  obtain ⟨w, -, hw⟩ := List.mem_flatMap.1 hv
  exact oneCells_iff.1 (rfl : oneCells (encBt w) = true) v hw

theorem bt_zr (k : Nat) : (zeroRow Try.prog 5 k).length = k * 1 := zrLen (by kernel_rfl) k

theorem bt_plain (a a2 : Option Addr) (c c2 : Nat) (l : List Int) (hn1 : l.length ≤ 9223372036854775807) (m : M) (h : Row m a (bts l)) (h2 : Row m a2 (bts l)) :
    QSpec Try.prog 76 [.slice a l.length c, .slice a2 l.length c2] m (.bool true) := by
  refine QSpec.of_vc Try.func76 (ann := fun n _ => { A := Nat, inv := fun k => k ≤ l.length, st := fun k => [(5, .val (I k)), (0, .val (.slice a l.length c)), (1, .val (.slice a2 l.length c2))], own := fun _ => [], m := fun _ => { m with sz := n }, μ := fun k => (l.length - k) }) fun n hn => ?_
  refine vc_by (X :=
      true = true ∧
      ifB ((↑l.length : Int) != (↑l.length : Int)) (Done (Value.bool false = Value.bool true))
      ((∃ (a_1 : Nat),
      a_1 ≤ l.length ∧
      { π := m.π, sz := n, uf := m.uf : M } = { π := m.π, sz := n, uf := m.uf : M } ∧
      ((SV.val (Value.int IntKind.i64 (0 : Int)) = SV.val (Value.int IntKind.i64 (↑a_1 : Int)) ∧ true = true) ∧
      (SV.val (Value.slice a l.length c) = SV.val (Value.slice a l.length c) ∧ true = true) ∧
      (SV.val (Value.slice a2 l.length c2) = SV.val (Value.slice a2 l.length c2) ∧ true = true) ∧ True) ∧
      True) ∧
      ∀ (a_1 : Nat),
      a_1 ≤ l.length →
      ifB (decide ((↑a_1 : Int) < (↑l.length : Int)))
      (true = true ∧
      ∃ (b : Nat),
      ∃ (off : Nat),
      a = some { block := b, off := off : Addr } ∧
      ((0 : Int) ≤ (↑a_1 : Int) ∧ (↑a_1 : Int) < (↑l.length : Int)) ∧
      ∃ (n_1 : Int),
      CellsAt { π := m.π, sz := n, uf := m.uf : M } b (off + (↑a_1 : Int).toNat * (1 : Nat)) [Value.int IntKind.u8 n_1] ∧
      ∃ (b : Nat),
      ∃ (off : Nat),
      a2 = some { block := b, off := off : Addr } ∧
      ((0 : Int) ≤ (↑a_1 : Int) ∧ (↑a_1 : Int) < (↑l.length : Int)) ∧
      ∃ (n_2 : Int),
      CellsAt { π := m.π, sz := n, uf := m.uf : M } b (off + (↑a_1 : Int).toNat * (1 : Nat)) [Value.int IntKind.u8 n_2] ∧
      ifB (n_1 != n_2) (Done (Value.bool false = Value.bool true))
      (∃ (a' : Nat),
      (a' ≤ l.length ∧
      { π := m.π, sz := n, uf := m.uf : M } = { π := m.π, sz := n, uf := m.uf : M } ∧
      ((SV.val (Value.int IntKind.i64 (IntKind.i64.wrap ((↑a_1 : Int) + (1 : Int)))) = SV.val (Value.int IntKind.i64 (↑a' : Int)) ∧
      true = true) ∧
      (SV.val (Value.slice a l.length c) = SV.val (Value.slice a l.length c) ∧ true = true) ∧
      (SV.val (Value.slice a2 l.length c2) = SV.val (Value.slice a2 l.length c2) ∧ true = true) ∧ True) ∧
      True) ∧
      l.length - a' < l.length - a_1))
      (Done (Value.bool true = Value.bool true)))) (by kernel_rfl) ?_
  have h' := h.sz hn
  have h2' := h2.sz hn
  refine ⟨rfl, ifB_false' (by simp) ⟨⟨0, by simp⟩, fun k hk => ifB_intro (fun hb2 => ?_) (fun hb2 => ⟨rfl⟩)⟩⟩
  have hk2 : k < l.length := by simpa using hb2
  obtain ⟨b, o, rfl, hc⟩ := h'.cells (by rw [bt_len]; omega)
  obtain ⟨b2, o2, rfl, hc2⟩ := h2'.cells (by rw [bt_len]; omega)
  have w1 : IntKind.i64.wrap ((k : Int) + 1) = ((k + 1 : Nat) : Int) := by simp [IntKind.wrap_i64]; omega
  have e : ∀ o : Nat, o + ((k : Int)).toNat * 1 = o + k := fun o => by simp
  exact ⟨rfl, b, o, rfl, by omega, _, by rw [e]; exact bt_at hc hk2, b2, o2, rfl, by omega, _, by rw [e]; exact bt_at hc2 hk2, ifB_false' (by simp) ⟨k + 1, ⟨hk2, rfl, by rw [w1]; simp, trivial⟩, by omega⟩⟩

theorem bytes_q (a a2 : Option Addr) (c c2 : Nat) (l : List Int) (hn1 : l.length ≤ 9223372036854775807) (m : M) (h : Row m a (bts l)) (h2 : Row m a2 (bts l)) :
    QSpec Try.prog 46 [.slice a l.length c, .slice a2 l.length c2] m (.bool true) := by
  refine QSpec.of_vc Try.func46 (ann := fun _ => noAnn) fun n hn => ?_
  refine vc_by (X :=
      true = true ∧
      ∃ (b : Bool),
      QSpec Try.prog (76 : Nat) [Value.slice a l.length c, Value.slice a2 l.length c2] { π := m.π, sz := n, uf := m.uf : M } (Value.bool b) ∧ Done (Value.bool b = Value.bool true)) (by kernel_rfl) ?_
  exact ⟨rfl, _, bt_plain a a2 c c2 l hn1 _ (h.sz hn) (h2.sz hn), ⟨rfl⟩⟩

theorem command_q (x : Cd) (a a2 : Option Addr) (c c2 : Nat) (l : List Int) (hn1 : l.length ≤ 9223372036854775807) (m : M) (h : Row m a (bts l)) (h2 : Row m a2 (bts l)) : QSpec Try.prog 26 [cdv x a l.length c, cdv x a2 l.length c2] m (.bool true) := by
  refine QSpec.of_vc Try.func26 (ann := fun _ => noAnn) fun n hn => ?_
  refine vc_by (X :=
      true = true ∧
      ifB (x.kd == x.kd)
      (ifB (x.cl == x.cl)
      (ifB (x.sq == x.sq)
      (ifB (x.ep == x.ep)
      (ifB (x.nd == x.nd)
      (ifB (x.hm == x.hm)
      (ifB (x.ky.toList == x.ky.toList)
      (ifB (x.le == x.le)
      (ifB (x.rn == x.rn)
      (ifB (x.ne == x.ne)
      (ifB (x.ys == x.ys)
      (ifB
      (x.op_kd == x.op_kd &&
      (x.op_ky.toList == x.op_ky.toList && (x.op_ot.toList == x.op_ot.toList && (x.op_n == x.op_n && (x.op_lo == x.op_lo && (x.op_hi == x.op_hi && true))))))
      (ifB
      (x.pl_nu == x.pl_nu &&
      (x.pl_fr == x.pl_fr &&
      (x.pl_to == x.pl_to &&
      (x.pl_lo.toList == x.pl_lo.toList && (x.pl_hi.toList == x.pl_hi.toList && (x.pl_cl == x.pl_cl && (x.pl_sq == x.pl_sq && true)))))))
      (∃ (b : Bool),
      QSpec Try.prog (46 : Nat) [Value.slice a l.length c, Value.slice a2 l.length c2] { π := m.π, sz := n, uf := m.uf : M } (Value.bool b) ∧
      Done (Value.bool b = Value.bool true))
      (Done (Value.bool false = Value.bool true)))
      (Done (Value.bool false = Value.bool true)))
      (Done (Value.bool false = Value.bool true)))
      (Done (Value.bool false = Value.bool true)))
      (Done (Value.bool false = Value.bool true)))
      (Done (Value.bool false = Value.bool true)))
      (Done (Value.bool false = Value.bool true)))
      (Done (Value.bool false = Value.bool true)))
      (Done (Value.bool false = Value.bool true)))
      (Done (Value.bool false = Value.bool true)))
      (Done (Value.bool false = Value.bool true)))
      (Done (Value.bool false = Value.bool true)))
      (Done (Value.bool false = Value.bool true))) (by kernel_rfl) ?_
  simp only [bne_self_eq_false, beq_self_eq_true, Bool.not_true, Bool.not_false, Bool.and_self, Bool.and_true, decide_true]
  exact ⟨trivial, ifB_true (ifB_true (ifB_true (ifB_true (ifB_true (ifB_true (ifB_true (ifB_true (ifB_true (ifB_true (ifB_true (ifB_true (ifB_true ⟨_, bytes_q a a2 c c2 l hn1 _ (h.sz hn) (h2.sz hn), ⟨rfl⟩⟩))))))))))))⟩

theorem ccopy_s (x : Cd) (a : Option Addr) (c : Nat) (l : List Int) (hn1 : l.length ≤ 140737488351232) (m : M) (h : Row m a (bts l)) : Vc.Spec Try.prog 23 [cdv x a l.length c] m fun v m' => ∃ a' c', v = cdv x a' l.length c' ∧ Row m' a' (bts l) := by
  refine Vc.Spec.of_vc Try.func23 (ann := noAnn) ?_
  refine vc_by (X :=
      true = true ∧
      ∃ (old : List Value),
      ∃ (src : List Value),
      AppPre m.sz (fun (x : Nat) => False) m (1 : Nat) (1 : Nat) none (0 : Nat) (0 : Nat) a l.length old src ∧
      ∀ (a' : Option Addr) (c' : Nat) (m' : M),
      AppPost Try.prog (5 : Nat) m (1 : Nat) none (0 : Nat) (0 : Nat) l.length old src a' c' m' →
      Done
      (∃ (a'_1 : Option Addr),
      ∃ (c'_1 : Nat),
      Value.agg
      #[Value.int IntKind.i64 x.kd, Value.int IntKind.i64 x.cl, Value.int IntKind.i64 x.sq, Value.int IntKind.i64 x.ep, Value.int IntKind.i64 x.nd,
      Value.int IntKind.i64 x.hm, Value.string x.ky, Value.int IntKind.i64 x.le, Value.int IntKind.i64 x.rn, Value.int IntKind.i64 x.ne, Value.bool x.ys,
      Value.int IntKind.i64 x.op_kd, Value.string x.op_ky, Value.string x.op_ot, Value.int IntKind.i64 x.op_n, Value.int IntKind.i64 x.op_lo,
      Value.int IntKind.i64 x.op_hi, Value.int IntKind.i64 x.pl_nu, Value.int IntKind.i64 x.pl_fr, Value.int IntKind.i64 x.pl_to, Value.string x.pl_lo,
      Value.string x.pl_hi, Value.int IntKind.i64 x.pl_cl, Value.int IntKind.i64 x.pl_sq, Value.slice a' ((0 : Nat) + l.length) c'] =
      Value.agg
      #[Value.int IntKind.i64 x.kd, Value.int IntKind.i64 x.cl, Value.int IntKind.i64 x.sq, Value.int IntKind.i64 x.ep, Value.int IntKind.i64 x.nd,
      Value.int IntKind.i64 x.hm, Value.string x.ky, Value.int IntKind.i64 x.le, Value.int IntKind.i64 x.rn, Value.int IntKind.i64 x.ne, Value.bool x.ys,
      Value.int IntKind.i64 x.op_kd, Value.string x.op_ky, Value.string x.op_ot, Value.int IntKind.i64 x.op_n, Value.int IntKind.i64 x.op_lo,
      Value.int IntKind.i64 x.op_hi, Value.int IntKind.i64 x.pl_nu, Value.int IntKind.i64 x.pl_fr, Value.int IntKind.i64 x.pl_to, Value.string x.pl_lo,
      Value.string x.pl_hi, Value.int IntKind.i64 x.pl_cl, Value.int IntKind.i64 x.pl_sq, Value.slice a'_1 l.length c'_1] ∧
      Row m' a'_1 (bts l))) (by kernel_rfl) ?_
  have o1 : NewR m.sz (fun _ => False) m 1 none 0 0 [] := .nil _
  refine ⟨rfl, _, _, o1.appPre h (bt_len1 _) (bt_one _) (by omega), fun a1 c1 m1 hp1 => ⟨⟨a1, c1, ?_, ?_⟩⟩⟩
  · simp only [Nat.zero_add]
  · have := (o1.append hp1 (bt_len1 _) bt_zr (Nat.le_refl _)).row
    simpa using this

theorem cells_ct : Try.prog.cellsOf 28 = 12 := by kernel_rfl
theorem cells_cd : Try.prog.cellsOf 39 = 25 := by kernel_rfl

/-- cells that are read as a chart -/
theorem rd_ct {m : M} {N d : Nat} {cs : List Value} (h : Rd Try.prog m N (d + 5) 28 cs) (hN : N ≤ 9223372036854775807) :
    ∃ (x : Ct) (a : Ca), cs = encCt x a ∧ x.wf ∧ x.ps.length ≤ N ∧ x.ms.length ≤ N ∧ CtR m x a := by
  have k1 := (by kernel_rfl : Try.prog.cellsOf 3 = 1)
  have k2 := (by kernel_rfl : Try.prog.cellsOf 9 = 1)
  have k3 := (by kernel_rfl : Try.prog.cellsOf 23 = 1)
  have k4 := (by kernel_rfl : Try.prog.cellsOf 26 = 1)
  have k5 := (by kernel_rfl : Try.prog.cellsOf 25 = 7)
  rw [Rd] at h
  simp only [Try.underlying28, fieldsD, cells_ct, k1, k2, k3, k4, k5] at h
  obtain ⟨hl, q1, q2, q3, q4, q5, q6, -⟩ := h
  simp only [Rd, Try.underlying3] at q1 q3 q4
  rw [Rd] at q2 q5 q6
  simp only [Try.underlying23] at q2
  simp only [Try.underlying26] at q6
  simp only [Rd, Try.underlying25, Try.underlying3, Try.underlying9, fieldsD, k1, k2, k5] at q5
  obtain ⟨ix, e1, w1⟩ := q1
  obtain ⟨ap, cp, r1, e2, l2, b2, -, g2, f2⟩ := q2
  obtain ⟨nx, e3, w3⟩ := q3
  obtain ⟨la, e4, w4⟩ := q4
  obtain ⟨-, ⟨nu, e5, w5⟩, ⟨fr, e6, w6⟩, ⟨to, e7, w7⟩, ⟨lo, e8, w8⟩, ⟨hi, e9, w9⟩, ⟨cl, e10, w10⟩, ⟨sq, e11, w11⟩, -⟩ := q5
  obtain ⟨am, cm, r2, e12, l12, b12, -, g12, f12⟩ := q6
  obtain ⟨ps, hz, he, hw⟩ := rows_list (α := Pl) (e := encPl) (p := Pl.wf) r1 fun r hr => pl_rd (g2 r hr).2 hN
  obtain ⟨ms, hz2, he2, hw2⟩ := rows_list (α := Mk) (e := encMk) (p := Mk.wf) r2 fun r hr => mk_rd (g12 r hr).2 hN
  obtain ⟨c1, c2, c3, c4, c5, c6, c7, c8, c9, c10, c11, c12, rfl⟩ : ∃ c1 c2 c3 c4 c5 c6 c7 c8 c9 c10 c11 c12, cs = [c1, c2, c3, c4, c5, c6, c7, c8, c9, c10, c11, c12] := by
    match cs, hl with
    | [c1, c2, c3, c4, c5, c6, c7, c8, c9, c10, c11, c12], _ => exact ⟨_, _, _, _, _, _, _, _, _, _, _, _, rfl⟩
  simp at e1 e2 e3 e4 e5 e6 e7 e8 e9 e10 e11 e12
  subst e1 e2 e3 e4 e5 e6 e7 e8 e9 e10 e11 e12
  have hN1 : ps.length ≤ N := by simp only [hz]; omega
  have hN2 : ms.length ≤ N := by simp only [hz2]; omega
  rw [he] at f2
  rw [he2] at f12
  exact ⟨⟨ix, ps, nx, la, nu, fr, to, lo, hi, cl, sq, ms⟩, ⟨ap, cp, am, cm⟩, by simp [encCt, hz, hz2], ⟨in64_of w1, in64_of w3, in64_of w4, in64_of w5, in64_of w6, in64_of w7, in64_of w10, in64_of w11, Nat.le_trans w8 hN, Nat.le_trans w9 hN, Nat.le_trans hN1 hN, hw, Nat.le_trans hN2 hN⟩, hN1, hN2, ⟨f2, f12⟩⟩

/-- a command where its image stands -/
structure Cx where
  c : Cd
  l : List Int
  a : Option Addr
  k : Nat

abbrev encCx (y : Cx) : List Value := encCd y.c y.a y.l.length y.k
abbrev cxv (y : Cx) : Value := cdv y.c y.a y.l.length y.k

/-- cells that are read as a command -/
theorem rd_cx {m : M} {N d : Nat} {cs : List Value} (h : Rd Try.prog m N (d + 4) 39 cs) (hN : N ≤ 9223372036854775807) :
    ∃ y : Cx, cs = encCx y ∧ y.c.wf ∧ y.l.length ≤ N ∧ Row m y.a (bts y.l) := by
  have k1 := (by kernel_rfl : Try.prog.cellsOf 3 = 1)
  have k2 := (by kernel_rfl : Try.prog.cellsOf 9 = 1)
  have k3 := (by kernel_rfl : Try.prog.cellsOf 4 = 1)
  have k4 := (by kernel_rfl : Try.prog.cellsOf 37 = 1)
  have k5 := (by kernel_rfl : Try.prog.cellsOf 25 = 7)
  have k6 := (by kernel_rfl : Try.prog.cellsOf 36 = 6)
  have k7 := (by kernel_rfl : Try.prog.cellsOf 5 = 1)
  rw [Rd] at h
  simp only [Try.underlying39, fieldsD, cells_cd, k1, k2, k3, k4, k5, k6] at h
  obtain ⟨hl, q1, q2, q3, q4, q5, q6, q7, q8, q9, q10, q11, q12, q13, q14, -⟩ := h
  simp only [Rd, Try.underlying3, Try.underlying9, Try.underlying4] at q1 q2 q3 q4 q5 q6 q7 q8 q9 q10 q11
  simp only [Rd, Try.underlying37, Try.underlying5, k7] at q14
  simp only [Rd, Try.underlying25, Try.underlying36, Try.underlying3, Try.underlying9, fieldsD, k1, k2, k5, k6] at q12 q13
  obtain ⟨n1, e1, w1⟩ := q1
  obtain ⟨n2, e2, w2⟩ := q2
  obtain ⟨n3, e3, w3⟩ := q3
  obtain ⟨n4, e4, w4⟩ := q4
  obtain ⟨n5, e5, w5⟩ := q5
  obtain ⟨n6, e6, w6⟩ := q6
  obtain ⟨n7, e7, w7⟩ := q7
  obtain ⟨n8, e8, w8⟩ := q8
  obtain ⟨n9, e9, w9⟩ := q9
  obtain ⟨n10, e10, w10⟩ := q10
  obtain ⟨n11, e11⟩ := q11
  obtain ⟨-, ⟨o1, d1, v1⟩, ⟨o2, d2, v2⟩, ⟨o3, d3, v3⟩, ⟨o4, d4, v4⟩, ⟨o5, d5, v5⟩, ⟨o6, d6, v6⟩, -⟩ := q12
  obtain ⟨-, ⟨p1, f1, u1⟩, ⟨p2, f2, u2⟩, ⟨p3, f3, u3⟩, ⟨p4, f4, u4⟩, ⟨p5, f5, u5⟩, ⟨p6, f6, u6⟩, ⟨p7, f7, u7⟩, -⟩ := q13
  obtain ⟨a, k, rows, e14, l14, b14, -, g14, f14⟩ := q14
  obtain ⟨l, hz, he, -⟩ := rows_list (α := Int) (e := encBt) (p := fun _ => True) rows fun r hr => by
    obtain ⟨n, hn, -⟩ := (g14 r hr).2
    exact ⟨n, hn, trivial⟩
  obtain ⟨c1, c2, c3, c4, c5, c6, c7, c8, c9, c10, c11, c12, c13, c14, c15, c16, c17, c18, c19, c20, c21, c22, c23, c24, c25, rfl⟩ : ∃ c1 c2 c3 c4 c5 c6 c7 c8 c9 c10 c11 c12 c13 c14 c15 c16 c17 c18 c19 c20 c21 c22 c23 c24 c25, cs = [c1, c2, c3, c4, c5, c6, c7, c8, c9, c10, c11, c12, c13, c14, c15, c16, c17, c18, c19, c20, c21, c22, c23, c24, c25] := by
    match cs, hl with
    | [c1, c2, c3, c4, c5, c6, c7, c8, c9, c10, c11, c12, c13, c14, c15, c16, c17, c18, c19, c20, c21, c22, c23, c24, c25], _ => exact ⟨_, _, _, _, _, _, _, _, _, _, _, _, _, _, _, _, _, _, _, _, _, _, _, _, _, rfl⟩
  simp at e1 e2 e3 e4 e5 e6 e7 e8 e9 e10 e11 d1 d2 d3 d4 d5 d6 f1 f2 f3 f4 f5 f6 f7 e14
  subst e1 e2 e3 e4 e5 e6 e7 e8 e9 e10 e11 d1 d2 d3 d4 d5 d6 f1 f2 f3 f4 f5 f6 f7 e14
  rw [he] at f14
  have q := fun {n : Int} (h : IntKind.min .i64 ≤ n ∧ n ≤ IntKind.max .i64) => in64_of h
  exact ⟨⟨⟨n1, n2, n3, n4, n5, n6, n7, n8, n9, n10, n11, o1, o2, o3, o4, o5, o6, p1, p2, p3, p4, p5, p6, p7⟩, l, a, k⟩, by simp [encCx, hz], ⟨q w1, q w2, q w3, q w4, q w5, q w6, Nat.le_trans w7 hN, q w8, q w9, q w10, q v1, Nat.le_trans v2 hN, Nat.le_trans v3 hN, q v4, q v5, q v6, q u1, q u2, q u3, Nat.le_trans u4 hN, Nat.le_trans u5 hN, q u6, q u7⟩, by simp only [hz]; omega, f14⟩

variable {H : Type} {enc : TypeId × Value → H} {W : World} {r : Reach} {b0 : Nat} {v : Value} {d : DataW H} {p : List MemPlace} {N : Nat} {Bd : DataW H → Prop}

theorem open_ct (B : Bound N Bd) (hN : N ≤ 9223372036854775807) (hv : Value.okWide Try.prog W r b0 28 v) (h : DataW.Trod enc Try.prog W 0 (fun _ => true) true 28 v d p) (hb : Bd d) :
    ∃ (x : Ct) (a : Ca), v = ctv x a ∧ x.wf ∧ x.ps.length ≤ N ∧ x.ms.length ≤ N ∧ CtR (M.all W) x a := by
  obtain ⟨cs, rfl, hl⟩ := open_agg Try.underlying28 cells_ct hv
  obtain ⟨fuel, hf⟩ := h
  have hr := rd_of_trod B 5 fuel 28 _ _ hf hb
  simp only [Value.cells] at hr
  obtain ⟨x, a, he, hw⟩ := rd_ct (d := 0) hr hN
  exact ⟨x, a, by rw [show cs = encCt x a from he], hw⟩

theorem open_cx (B : Bound N Bd) (hN : N ≤ 9223372036854775807) (hv : Value.okWide Try.prog W r b0 39 v) (h : DataW.Trod enc Try.prog W 0 (fun _ => true) true 39 v d p) (hb : Bd d) :
    ∃ y : Cx, v = cxv y ∧ y.c.wf ∧ y.l.length ≤ N ∧ Row (M.all W) y.a (bts y.l) := by
  obtain ⟨cs, rfl, hl⟩ := open_agg Try.underlying39 cells_cd hv
  obtain ⟨fuel, hf⟩ := h
  have hr := rd_of_trod B 4 fuel 39 _ _ hf hb
  simp only [Value.cells] at hr
  obtain ⟨y, he, hw⟩ := rd_cx (d := 0) hr hN
  exact ⟨y, by rw [show cs = encCx y from he], hw⟩

abbrev cxs (l : List Cx) : List Value := l.flatMap encCx
theorem cx_k (y : Cx) : (encCx y).length = 25 := rfl
theorem cxs_len (l : List Cx) : (cxs l).length = l.length * 25 := flat_len cx_k l
theorem cx_at {m : M} {b o i : Nat} {l : List Cx} (h : CellsAt m b o (cxs l)) (hi : i < l.length) : CellsAt m b (o + i * 25) (encCx l[i]) := CellsAt.elem cx_k l o i hi h

theorem open_cxs (B : Bound N Bd) (hN : N ≤ 9223372036854775807) (hv : Value.okWide Try.prog W r b0 22 v) (h : DataW.Trod enc Try.prog W 0 (fun _ => true) true 22 v d p) (hb : Bd d) :
    ∃ (a : Option Addr) (c : Nat) (z : List Cx), v = .slice a z.length c ∧ z.length ≤ N ∧ (∀ y ∈ z, y.c.wf) ∧ (a = none → z = []) ∧ Row (M.all W) a (cxs z) := by
  obtain ⟨a, len, cap, rfl⟩ := okWide_slice Try.underlying22 hv
  obtain ⟨fuel, hf⟩ := h
  have hr := rd_of_trod B 5 fuel 22 _ _ hf hb
  rw [Rd] at hr
  simp only [Try.underlying22] at hr
  obtain ⟨a', cap', rows, hcs, h1, h2, h3, h4, h5⟩ := hr
  obtain ⟨z, hz, he, hi⟩ := rows_list (α := Cx) (e := encCx) (p := fun y => y.c.wf) rows fun r hr => by
    obtain ⟨y, he, hw, -⟩ := rd_cx (d := 0) (h4 r hr).2 hN
    exact ⟨y, he, hw⟩
  simp [Value.cells] at hcs
  obtain ⟨rfl, rfl, rfl⟩ := hcs
  rw [he] at h5
  exact ⟨a, cap, z, by rw [hz], by omega, hi, fun e => List.eq_nil_of_length_eq_zero (by have := h3 e; omega), h5⟩

end Go.Proofs.Ytjjfcaigonomiaa
set_option linter.unusedVariables false
set_option linter.unusedSimpArgs false
namespace Go.Proofs.Ytjjfcaigonomiaa
open Go.Vc Go.RowKit
set_option maxRecDepth 100000

theorem ofI_is {l : List Pl} (hr : rightB l = true) {k : Nat} {p : Pl} (h : l[k]? = some p) : ofI l p.gr = k := by
  obtain ⟨-, -, h3⟩ := right_iff.1 hr
  obtain ⟨hk, e⟩ := List.getElem?_eq_some_iff.1 h
  exact ofI_at hk (by rw [e]) fun j hj hjk => by
    have := (pw_lt h3 hjk (List.getElem?_eq_getElem hj) h).1
    exact this

theorem ofI_none {l : List Pl} {g : Int} (h : ∀ p ∈ l, p.gr ≠ g) : ofI l g = l.length := ofI_no fun j hj _ => h _ (List.getElem_mem hj)

theorem ofI_mem {l : List Pl} {g : Int} (h : ∃ p ∈ l, p.gr = g) : ofI l g < l.length := List.findIdx_lt_length_of_exists (by obtain ⟨p, h1, h2⟩ := h; exact ⟨p, h1, by simpa using h2⟩)

theorem ofI_get {l : List Pl} {g : Int} (h : ofI l g < l.length) : l[ofI l g].gr = g := by
  have := List.findIdx_getElem (w := h)
  exact of_decide_eq_true this

theorem no_of {l : List Pl} {g : Int} (h : ¬ ofI l g < l.length) : ∀ p ∈ l, p.gr ≠ g := fun p hp e => h (ofI_mem ⟨p, hp, e⟩)

theorem plAt_some {l : List Pl} {k : Nat} (h : k < l.length) : l[k]? = some (plAt l k) := by unfold plAt; rw [List.getElem?_eq_getElem h]; rfl

theorem epM_spec : ∀ (l : List Pl) (e : Int), (∀ x ∈ l, x.ep ≤ l.foldl (fun e p => max e p.ep) e) ∧ e ≤ l.foldl (fun e p => max e p.ep) e
  | [], e => by simp
  | x :: xs, e => by
    obtain ⟨h1, h2⟩ := epM_spec xs (max e x.ep)
    refine ⟨fun y hy => ?_, ?_⟩
    · rcases List.mem_cons.1 hy with rfl | hy
      · simp only [List.foldl_cons]; omega
      · simpa using h1 y hy
    · simp only [List.foldl_cons]; omega

theorem epM_ge {l : List Pl} {x : Pl} (h : x ∈ l) : x.ep ≤ epochL l := (epM_spec l 0).1 x h

/-- other marks -/
theorem RiC.marks {x : Ct} (h : RiC x) {l : List Mk} (ht : tabB 0 l = true) : RiC { x with ms := l } := ⟨h.ix0, h.ix1, h.la0, h.la1, h.nx0, h.nx1, h.ps, ht, h.gr, h.pn⟩

theorem RiC.done {x : Ct} (h : RiC x) (cl sq er : Int) : RiC (doneE x cl sq er).1 := by
  by_cases h0 : openE x.ms cl sq = 0
  · obtain ⟨k1, k2⟩ := edM_ok (an := ⟨er, 0, 0, 0⟩) h0
    have e : (doneE x cl sq er).1 = { x with ms := insM x.ms (edM cl sq ⟨er, 0, 0, 0⟩) } := by simp [doneE, endM, h0]
    rw [e]
    exact h.marks (ins_tab k1 k2 h.ms)
  · have e : (doneE x cl sq er).1 = x := by simp [doneE, endM, h0]
    rw [e]; exact h

theorem begin_tab {l : List Mk} {c s : Int} (ht : tabB 0 l = true) (h0 : (beginM l c s).2.2 = 0) : tabB 0 (beginM l c s).1 = true := by
  rcases begin_cases l c s with ⟨-, h, -⟩ | ⟨h1, h2, h3, h4⟩
  · rw [(h h0).1]; exact ht
  · rw [h3]; exact (fresh_of h1 h2 h4).btab

/-- the plan that a wish starts is right -/
theorem begP_ric {x : Ct} {c : Cd} (h : RiC x) (ha : argB c.cl c.sq = true) (hk : keyB c.op_ky = true) (hz : RefZ x c.op_kd c.op_ky) : RiC (begP x c) := by
  have hf := findL_len c.op_ky (right_pos h.ps)
  have hla0 := h.la0
  have hla := hz.la
  have hk' : 1 ≤ c.op_ky.size ∧ c.op_ky.size ≤ 16 := by simpa [keyB] using hk
  unfold begP
  by_cases e : c.op_kd = 7
  · simp only [if_pos e]
    have hnx := hz.nx e
    have hnx0 := h.nx0
    refine ⟨h.ix0, h.ix1, by simp only; omega, by simp only; omega, by simp only; omega, by simp only; omega, h.ps, h.ms, fun p hp => by have := h.gr p hp; simp only; omega, .inr (goc_iff.2 ⟨rfl, by simp only; omega, ha, hz.ep, .inl (spl_iff.2 ⟨?_, ?_, hnx.2, hk'.1, hk'.2, rfl, fun e2 => hz.fr e e2.symm, rfl⟩)⟩)⟩
    · simp only
      rw [ofI_none fun p hp e2 => by have := h.gr p hp; omega]
      omega
    · simp only; omega
  · simp only [if_neg e]
    have hn := hz.nxt e
    have ei : ofI x.ps (plAt x.ps (fnd x.ps c.op_ky)).gr = fnd x.ps c.op_ky := ofI_is h.ps (plAt_some hf)
    refine ⟨h.ix0, h.ix1, by simp only; omega, by simp only; omega, h.nx0, h.nx1, h.ps, h.ms, h.gr, .inr (goc_iff.2 ⟨rfl, by simp only; omega, ha, hz.ep, .inr (mrg_iff.2 ⟨?_, ?_, ?_, ?_, ?_⟩)⟩)⟩
    all_goals simp only [ei]
    · exact hf
    · exact hn

theorem start_ric {x : Ct} (h : RiC x) (c : Cd) : RiC (startE x c).1 := by
  unfold startE
  split
  · exact h
  rename_i h1
  split
  · exact h
  rename_i h2
  split
  · simp only
    split
    · exact h
    · exact h
  rename_i h3
  have hy : RiC { x with ms := (beginM x.ms c.cl c.sq).1 } := h.marks (begin_tab h.ms (by omega))
  simp only
  split
  · exact hy.done _ _ _
  · rename_i h4
    have h1 : argB c.cl c.sq = true ∧ (decide (c.op_kd = 7) || decide (c.op_kd = 8)) = true ∧ keyB c.op_ky = true := by simpa using h1
    exact begP_ric hy h1.1 h1.2.2 (refE_zero.1 (by omega))

theorem noPl_clr (x : Ct) : noPl (clrP x) = true := by simp [noPl, clrP, emptyB]

theorem clr_ric {x : Ct} (h : RiC x) : RiC (clrP x) := ⟨h.ix0, h.ix1, h.la0, h.la1, h.nx0, h.nx1, h.ps, h.ms, h.gr, .inl (noPl_clr x)⟩

theorem mem_shift {x : Ct} (h : RiC x) (hg : GoC x) {p : Pl} (hp : p ∈ shiftL x) : p ∈ x.ps ∨ (p.ep = epochL x.ps + 1 ∧ ((∃ q ∈ x.ps, q.gr = p.gr) ∨ p.gr = x.to ∧ x.to = x.nx - 1)) := by
  unfold shiftL at hp
  cases hh : hasG x.ps x.to with
  | true =>
    have F := hg.mrg hh
    rw [if_pos hh, del_form F.yes] at hp
    rcases List.mem_append.1 hp with hp | hp
    · exact .inl (List.mem_of_mem_take hp)
    · rcases List.mem_cons.1 hp with rfl | hp
      · exact .inr ⟨rfl, .inl ⟨_, List.getElem_mem F.yes, rfl⟩⟩
      · exact .inl (List.mem_of_mem_drop hp)
  | false =>
    have F := hg.spl hh
    have hf : fnd x.ps x.lo < x.ps.length := findL_len x.lo (right_pos h.ps)
    rw [if_neg (by simp [hh]), ins_form hf] at hp
    rcases List.mem_append.1 hp with hp | hp
    · exact .inl (List.mem_of_mem_take hp)
    · rcases List.mem_cons.1 hp with rfl | hp
      · exact .inr ⟨rfl, .inl ⟨_, List.getElem_mem hf, rfl⟩⟩
      · rcases List.mem_cons.1 hp with rfl | hp
        · exact .inr ⟨rfl, .inr ⟨rfl, F.to⟩⟩
        · exact .inl (List.mem_of_mem_drop hp)

theorem shift_right {x : Ct} (h : RiC x) (hg : GoC x) : rightB (shiftL x) = true := by
  unfold shiftL
  have he0 := epoch_nn x.ps 0
  have he : (0 : Int) ≤ epochL x.ps := he0
  have he1 := hg.ep
  cases hh : hasG x.ps x.to with
  | true =>
    have F := hg.mrg hh
    rw [if_pos rfl]
    exact del_right h.ps (by omega) F.nxt
  | false =>
    have F := hg.spl hh
    have hto := F.to
    have h0 := h.nx0
    have h1 := h.nx1
    rw [if_neg (by simp)]
    refine ins_right h.ps F.k2 (by simp [grpB]; omega) (by omega) (no_of F.no) fun p hp e => F.ne ?_
    have ep : plAt x.ps (fnd x.ps x.lo) = p := by unfold plAt fnd; rw [hp]; rfl
    rw [ep]; exact e.symm

theorem shift_ric {x : Ct} (h : RiC x) (hg : GoC x) : RiC (clrP { x with ps := shiftL x }) :=
  ⟨h.ix0, h.ix1, h.la0, h.la1, h.nx0, h.nx1, shift_right h hg, h.ms, fun p hp => by
    rcases mem_shift h hg hp with hp | ⟨-, ⟨q, hq, e⟩ | ⟨e1, e2⟩⟩
    · exact h.gr p hp
    · show p.gr < x.nx
      rw [← e]; exact h.gr q hq
    · show p.gr < x.nx
      omega, .inl (noPl_clr _)⟩

theorem shf_ric {x : Ct} (h : RiC x) (hn : x.nu ≠ 0) : RiC (shfE x).1 := (shift_ric h (h.go hn)).done _ _ _

/-- what Apply makes of a right chart -/
theorem apply_eq {x : Ct} (h : RiC x) (c : Cd) {ix : Int} (h1 : x.ix < ix) (h2 : ix ≤ 4611686018427387904) : applyE x c ix = (let y := { x with ix := ix }
     if c.kd = 12 then ((startE y c).1, (startE y c).2, 0)
     else if c.kd = 13 ∧ (x.nu ≠ 0 ∧ c.pl_nu = x.nu) then ((shfE y).1, (shfE y).2, 0)
     else if c.kd = 14 ∧ (x.nu ≠ 0 ∧ c.pl_nu = x.nu) then ((doneE (clrP y) x.cl x.sq 190).1, (doneE (clrP y) x.cl x.sq 190).2, 0)
     else (y, [], 0)) := by
  unfold applyE
  rw [if_neg (by rw [ric_iff.2 h]; simp), if_neg (by omega)]

theorem start_ix (x : Ct) (c : Cd) : (startE x c).1.ix = x.ix := by
  unfold startE
  split
  · rfl
  split
  · rfl
  split
  · simp only; split <;> rfl
  simp only
  split
  · rfl
  · unfold begP; split <;> rfl

/-- a right chart stays right -/
theorem apply_ric {x : Ct} (h : RiC x) (c : Cd) {ix : Int} (h1 : x.ix < ix) (h2 : ix ≤ 4611686018427387904) : RiC (applyE x c ix).1 ∧ (applyE x c ix).2.2 = 0 ∧ (applyE x c ix).1.ix = ix := by
  have h0 := h.ix0
  have hy : RiC { x with ix := ix } := h.ix (by omega) h2
  rw [apply_eq h c h1 h2]
  simp only
  split
  · exact ⟨start_ric hy c, rfl, start_ix _ _⟩
  split
  · rename_i g
    exact ⟨shf_ric hy g.2.1, rfl, rfl⟩
  split
  · exact ⟨(clr_ric hy).done _ _ _, rfl, rfl⟩
  · exact ⟨hy, rfl, rfl⟩

theorem apply_len {x : Ct} (c : Cd) (ix : Int) : (applyE x c ix).1.ps.length ≤ 8 ∧ (applyE x c ix).1.ms.length ≤ 8 := by
  cases hr : rightC x with
  | false =>
    have e : applyE x c ix = (c0, [], 21) := by unfold applyE; rw [if_pos hr]
    rw [e]; simp [c0]
  | true =>
    by_cases hb : ix ≤ x.ix ∨ ix > 4611686018427387904
    · have e : applyE x c ix = (c0, [], 80) := by unfold applyE; rw [if_neg (by rw [hr]; simp), if_pos hb]
      rw [e]; simp [c0]
    · obtain ⟨h, -, -⟩ := apply_ric (ric_iff.1 hr) c (ix := ix) (by omega) (by omega)
      have := right_len h.ps
      have := tab8 h.ms
      omega

theorem eff_len (x : Ct) (c : Cd) (ix : Int) : (applyE x c ix).2.1.length ≤ 1 := by
  unfold applyE
  split
  · simp
  split
  · simp
  simp only
  split
  · unfold startE
    split
    · simp
    split
    · simp
    split
    · simp only; split <;> simp
    simp only
    split <;> simp [doneE]
  split
  · simp [shfE, doneE]
  split <;> simp [doneE]

theorem new_ric : RiC newC := ⟨by decide, by decide, by decide, by decide, by decide, by decide, right_iff.2 ⟨⟨by decide, by simp [newC, hdF, emptyB]⟩, fun p hp => by
  have e : p = ⟨1, .empty, 1⟩ := by simpa [newC] using hp
  subst e; rfl, List.pairwise_singleton _ _⟩, rfl, fun p hp => by
  have e : p = ⟨1, .empty, 1⟩ := by simpa [newC] using hp
  subst e; decide, .inl (noPl_clr newC)⟩

end Go.Proofs.Ytjjfcaigonomiaa
set_option linter.unusedVariables false
set_option linter.unusedSimpArgs false
namespace Go.Proofs.Ytjjfcaigonomiaa
open Go.Vc Go.RowKit
set_option maxRecDepth 100000

set_option maxHeartbeats 1000000 in
theorem planplays (x : Ct) (a : Ca) (y : Cx) (ix : Int) (hl : x.ps.length ≤ 4398046510976) (hm : x.ms.length ≤ 2513169434843) (hy : y.l.length ≤ 140737488351232) (m : M) (h : CtR m x a) (h2 : Row m y.a (bts y.l)) : QSpec Try.prog 6 [ctv x a, cxv y, I ix] m (.bool true) := by
  refine QSpec.of_vc Try.func6 (ann := fun _ => noAnn) fun N hN => ?_
  refine vc_by (X :=
      true = true ∧
      true = true ∧
      (∀ (n : Nat),
      N ≤ n →
      Vc.Spec Try.prog (22 : Nat)
      [Value.agg
      #[Value.int IntKind.i64 x.ix, Value.slice a.ap x.ps.length a.cp, Value.int IntKind.i64 x.nx, Value.int IntKind.i64 x.la, Value.int IntKind.i64 x.nu,
      Value.int IntKind.i64 x.fr, Value.int IntKind.i64 x.to, Value.string x.lo, Value.string x.hi, Value.int IntKind.i64 x.cl, Value.int IntKind.i64 x.sq,
      Value.slice a.am x.ms.length a.cm]]
      { π := m.π, sz := n, uf := m.uf : M } fun (v : Value) (m' : M) =>
      ∃ (n : Int),
      ∃ (a_2 : Option Addr),
      ∃ (n_1 : Nat),
      ∃ (c : Nat),
      ∃ (n_2 : Int),
      ∃ (n_3 : Int),
      ∃ (n_4 : Int),
      ∃ (n_5 : Int),
      ∃ (n_6 : Int),
      ∃ (s : ByteArray),
      ∃ (s_1 : ByteArray),
      ∃ (n_7 : Int),
      ∃ (n_8 : Int),
      ∃ (a_3 : Option Addr),
      ∃ (n_9 : Nat),
      ∃ (c_1 : Nat),
      v =
      Value.agg
      #[Value.int IntKind.i64 n, Value.slice a_2 n_1 c, Value.int IntKind.i64 n_2, Value.int IntKind.i64 n_3, Value.int IntKind.i64 n_4,
      Value.int IntKind.i64 n_5, Value.int IntKind.i64 n_6, Value.string s, Value.string s_1, Value.int IntKind.i64 n_7,
      Value.int IntKind.i64 n_8, Value.slice a_3 n_9 c_1] ∧
      MLe { π := m.π, sz := N, uf := m.uf : M } m' ∧
      (∀ (n_10 : Nat),
      m'.sz ≤ n_10 →
      Vc.Spec Try.prog (23 : Nat)
      [Value.agg
      #[Value.int IntKind.i64 y.c.kd, Value.int IntKind.i64 y.c.cl, Value.int IntKind.i64 y.c.sq,
      Value.int IntKind.i64 y.c.ep, Value.int IntKind.i64 y.c.nd, Value.int IntKind.i64 y.c.hm, Value.string y.c.ky,
      Value.int IntKind.i64 y.c.le, Value.int IntKind.i64 y.c.rn, Value.int IntKind.i64 y.c.ne, Value.bool y.c.ys,
      Value.int IntKind.i64 y.c.op_kd, Value.string y.c.op_ky, Value.string y.c.op_ot, Value.int IntKind.i64 y.c.op_n,
      Value.int IntKind.i64 y.c.op_lo, Value.int IntKind.i64 y.c.op_hi, Value.int IntKind.i64 y.c.pl_nu,
      Value.int IntKind.i64 y.c.pl_fr, Value.int IntKind.i64 y.c.pl_to, Value.string y.c.pl_lo, Value.string y.c.pl_hi,
      Value.int IntKind.i64 y.c.pl_cl, Value.int IntKind.i64 y.c.pl_sq, Value.slice y.a y.l.length y.k]]
      { π := m'.π, sz := n_10, uf := m'.uf : M } fun (v : Value) (m' : M) =>
      ∃ (n_11 : Int),
      ∃ (n_12 : Int),
      ∃ (n_13 : Int),
      ∃ (n_14 : Int),
      ∃ (n_15 : Int),
      ∃ (n_16 : Int),
      ∃ (s_2 : ByteArray),
      ∃ (n_17 : Int),
      ∃ (n_18 : Int),
      ∃ (n_19 : Int),
      ∃ (b : Bool),
      ∃ (n_20 : Int),
      ∃ (s_3 : ByteArray),
      ∃ (s_4 : ByteArray),
      ∃ (n_21 : Int),
      ∃ (n_22 : Int),
      ∃ (n_23 : Int),
      ∃ (n_24 : Int),
      ∃ (n_25 : Int),
      ∃ (n_26 : Int),
      ∃ (s_5 : ByteArray),
      ∃ (s_6 : ByteArray),
      ∃ (n_27 : Int),
      ∃ (n_28 : Int),
      ∃ (a_5 : Option Addr),
      ∃ (n_29 : Nat),
      ∃ (c_2 : Nat),
      v =
      Value.agg
      #[Value.int IntKind.i64 n_11, Value.int IntKind.i64 n_12,
      Value.int IntKind.i64 n_13, Value.int IntKind.i64 n_14,
      Value.int IntKind.i64 n_15, Value.int IntKind.i64 n_16,
      Value.string s_2, Value.int IntKind.i64 n_17,
      Value.int IntKind.i64 n_18, Value.int IntKind.i64 n_19,
      Value.bool b, Value.int IntKind.i64 n_20, Value.string s_3,
      Value.string s_4, Value.int IntKind.i64 n_21,
      Value.int IntKind.i64 n_22, Value.int IntKind.i64 n_23,
      Value.int IntKind.i64 n_24, Value.int IntKind.i64 n_25,
      Value.int IntKind.i64 n_26, Value.string s_5,
      Value.string s_6, Value.int IntKind.i64 n_27,
      Value.int IntKind.i64 n_28, Value.slice a_5 n_29 c_2] ∧
      ∃ (b_1 : Bool),
      QSpec Try.prog (16 : Nat)
      [Value.agg
      #[Value.int IntKind.i64 x.ix,
      Value.slice a.ap x.ps.length a.cp,
      Value.int IntKind.i64 x.nx, Value.int IntKind.i64 x.la,
      Value.int IntKind.i64 x.nu, Value.int IntKind.i64 x.fr,
      Value.int IntKind.i64 x.to, Value.string x.lo,
      Value.string x.hi, Value.int IntKind.i64 x.cl,
      Value.int IntKind.i64 x.sq,
      Value.slice a.am x.ms.length a.cm]]
      m' (Value.bool b_1) ∧
      ifB (!b_1)
      (∀ (n_30 : Nat),
      m'.sz ≤ n_30 →
      Vc.Spec Try.prog (11 : Nat)
      [Value.agg
      #[Value.int IntKind.i64 n, Value.slice a_2 n_1 c,
      Value.int IntKind.i64 n_2,
      Value.int IntKind.i64 n_3,
      Value.int IntKind.i64 n_4,
      Value.int IntKind.i64 n_5,
      Value.int IntKind.i64 n_6, Value.string s,
      Value.string s_1, Value.int IntKind.i64 n_7,
      Value.int IntKind.i64 n_8,
      Value.slice a_3 n_9 c_1],
      Value.agg
      #[Value.int IntKind.i64 n_11,
      Value.int IntKind.i64 n_12,
      Value.int IntKind.i64 n_13,
      Value.int IntKind.i64 n_14,
      Value.int IntKind.i64 n_15,
      Value.int IntKind.i64 n_16, Value.string s_2,
      Value.int IntKind.i64 n_17,
      Value.int IntKind.i64 n_18,
      Value.int IntKind.i64 n_19, Value.bool b,
      Value.int IntKind.i64 n_20, Value.string s_3,
      Value.string s_4, Value.int IntKind.i64 n_21,
      Value.int IntKind.i64 n_22,
      Value.int IntKind.i64 n_23,
      Value.int IntKind.i64 n_24,
      Value.int IntKind.i64 n_25,
      Value.int IntKind.i64 n_26, Value.string s_5,
      Value.string s_6, Value.int IntKind.i64 n_27,
      Value.int IntKind.i64 n_28,
      Value.slice a_5 n_29 c_2],
      Value.int IntKind.i64 ix]
      { π := m'.π, sz := n_30, uf := m'.uf : M }
      fun (v : Value) (m' : M) =>
      ∃ (n_31 : Int),
      ∃ (a_7 : Option Addr),
      ∃ (n_32 : Nat),
      ∃ (c_3 : Nat),
      ∃ (n_33 : Int),
      ∃ (n_34 : Int),
      ∃ (n_35 : Int),
      ∃ (n_36 : Int),
      ∃ (n_37 : Int),
      ∃ (s_7 : ByteArray),
      ∃ (s_8 : ByteArray),
      ∃ (n_38 : Int),
      ∃ (n_39 : Int),
      ∃ (a_8 : Option Addr),
      ∃ (n_40 : Nat),
      ∃ (c_4 : Nat),
      ∃ (a_9 : Option Addr),
      ∃ (n_41 : Nat),
      ∃ (c_5 : Nat),
      ∃ (n_42 : Int),
      v =
      Value.tuple
      #[Value.agg
      #[Value.int
      IntKind.i64
      n_31,
      Value.slice
      a_7
      n_32
      c_3,
      Value.int
      IntKind.i64
      n_33,
      Value.int
      IntKind.i64
      n_34,
      Value.int
      IntKind.i64
      n_35,
      Value.int
      IntKind.i64
      n_36,
      Value.int
      IntKind.i64
      n_37,
      Value.string
      s_7,
      Value.string
      s_8,
      Value.int
      IntKind.i64
      n_38,
      Value.int
      IntKind.i64
      n_39,
      Value.slice
      a_8
      n_40
      c_4],
      Value.slice
      a_9
      n_41
      c_5,
      Value.int
      IntKind.i64
      n_42] ∧
      ∀
      (n_43 :
      Nat),
      m'.sz ≤
      n_43 →
      Vc.Spec
      Try.prog
      (12 :
      Nat)
      [Value.agg
      #[Value.int
      IntKind.i64
      x.ix,
      Value.slice
      a.ap
      x.ps.length
      a.cp,
      Value.int
      IntKind.i64
      x.nx,
      Value.int
      IntKind.i64
      x.la,
      Value.int
      IntKind.i64
      x.nu,
      Value.int
      IntKind.i64
      x.fr,
      Value.int
      IntKind.i64
      x.to,
      Value.string
      x.lo,
      Value.string
      x.hi,
      Value.int
      IntKind.i64
      x.cl,
      Value.int
      IntKind.i64
      x.sq,
      Value.slice
      a.am
      x.ms.length
      a.cm],
      Value.agg
      #[Value.int
      IntKind.i64
      y.c.kd,
      Value.int
      IntKind.i64
      y.c.cl,
      Value.int
      IntKind.i64
      y.c.sq,
      Value.int
      IntKind.i64
      y.c.ep,
      Value.int
      IntKind.i64
      y.c.nd,
      Value.int
      IntKind.i64
      y.c.hm,
      Value.string
      y.c.ky,
      Value.int
      IntKind.i64
      y.c.le,
      Value.int
      IntKind.i64
      y.c.rn,
      Value.int
      IntKind.i64
      y.c.ne,
      Value.bool
      y.c.ys,
      Value.int
      IntKind.i64
      y.c.op_kd,
      Value.string
      y.c.op_ky,
      Value.string
      y.c.op_ot,
      Value.int
      IntKind.i64
      y.c.op_n,
      Value.int
      IntKind.i64
      y.c.op_lo,
      Value.int
      IntKind.i64
      y.c.op_hi,
      Value.int
      IntKind.i64
      y.c.pl_nu,
      Value.int
      IntKind.i64
      y.c.pl_fr,
      Value.int
      IntKind.i64
      y.c.pl_to,
      Value.string
      y.c.pl_lo,
      Value.string
      y.c.pl_hi,
      Value.int
      IntKind.i64
      y.c.pl_cl,
      Value.int
      IntKind.i64
      y.c.pl_sq,
      Value.slice
      y.a
      y.l.length
      y.k],
      Value.int
      IntKind.i64
      ix]
      { π := m'.π, sz := n_43, uf := m'.uf : M }
      fun
      (v :
      Value)
      (m' :
      M) =>
      ∃ (n_44
      :
      Int),
      ∃
      (a_11
      :
      Option
      Addr),
      ∃
      (n_45
      :
      Nat),
      ∃
      (c_6
      :
      Nat),
      ∃
      (n_46
      :
      Int),
      ∃
      (n_47
      :
      Int),
      ∃
      (n_48
      :
      Int),
      ∃
      (n_49
      :
      Int),
      ∃
      (n_50
      :
      Int),
      ∃
      (s_9
      :
      ByteArray),
      ∃
      (s_10
      :
      ByteArray),
      ∃
      (n_51
      :
      Int),
      ∃
      (n_52
      :
      Int),
      ∃
      (a_12
      :
      Option
      Addr),
      ∃
      (n_53
      :
      Nat),
      ∃
      (c_7
      :
      Nat),
      ∃
      (a_13
      :
      Option
      Addr),
      ∃
      (n_54
      :
      Nat),
      ∃
      (c_8
      :
      Nat),
      ∃
      (n_55
      :
      Int),
      v =
      Value.tuple
      #[Value.agg
      #[Value.int
      IntKind.i64
      n_44,
      Value.slice
      a_11
      n_45
      c_6,
      Value.int
      IntKind.i64
      n_46,
      Value.int
      IntKind.i64
      n_47,
      Value.int
      IntKind.i64
      n_48,
      Value.int
      IntKind.i64
      n_49,
      Value.int
      IntKind.i64
      n_50,
      Value.string
      s_9,
      Value.string
      s_10,
      Value.int
      IntKind.i64
      n_51,
      Value.int
      IntKind.i64
      n_52,
      Value.slice
      a_12
      n_53
      c_7],
      Value.slice
      a_13
      n_54
      c_8,
      Value.int
      IntKind.i64
      n_55] ∧
      true =
      true ∧
      ∃
      (b_2
      :
      Bool),
      QSpec
      Try.prog
      (10 :
      Nat)
      []
      m'
      (Value.bool
      b_2) ∧
      ifB
      b_2
      (∃
      (n_56
      :
      Int),
      QSpec
      Try.prog
      (15 :
      Nat)
      [Value.agg
      #[Value.int
      IntKind.i64
      n,
      Value.slice
      a_2
      n_1
      c,
      Value.int
      IntKind.i64
      n_2,
      Value.int
      IntKind.i64
      n_3,
      Value.int
      IntKind.i64
      n_4,
      Value.int
      IntKind.i64
      n_5,
      Value.int
      IntKind.i64
      n_6,
      Value.string
      s,
      Value.string
      s_1,
      Value.int
      IntKind.i64
      n_7,
      Value.int
      IntKind.i64
      n_8,
      Value.slice
      a_3
      n_9
      c_1]]
      m'
      (Value.int
      IntKind.i64
      n_56) ∧
      ifB
      (n_56 ==
      (21 :
      Int))
      (∃
      (n_57
      :
      Int),
      QSpec
      Try.prog
      (24 :
      Nat)
      [Value.agg
      #[Value.int
      IntKind.i64
      n,
      Value.slice
      a_2
      n_1
      c,
      Value.int
      IntKind.i64
      n_2,
      Value.int
      IntKind.i64
      n_3,
      Value.int
      IntKind.i64
      n_4,
      Value.int
      IntKind.i64
      n_5,
      Value.int
      IntKind.i64
      n_6,
      Value.string
      s,
      Value.string
      s_1,
      Value.int
      IntKind.i64
      n_7,
      Value.int
      IntKind.i64
      n_8,
      Value.slice
      a_3
      n_9
      c_1]]
      m'
      (Value.int
      IntKind.i64
      n_57) ∧
      ∃
      (n_58
      :
      Int),
      QSpec
      Try.prog
      (25 :
      Nat)
      [Value.agg
      #[Value.int
      IntKind.i64
      x.ix,
      Value.slice
      a.ap
      x.ps.length
      a.cp,
      Value.int
      IntKind.i64
      x.nx,
      Value.int
      IntKind.i64
      x.la,
      Value.int
      IntKind.i64
      x.nu,
      Value.int
      IntKind.i64
      x.fr,
      Value.int
      IntKind.i64
      x.to,
      Value.string
      x.lo,
      Value.string
      x.hi,
      Value.int
      IntKind.i64
      x.cl,
      Value.int
      IntKind.i64
      x.sq,
      Value.slice
      a.am
      x.ms.length
      a.cm]]
      m'
      (Value.int
      IntKind.i64
      n_58) ∧
      ifB
      (n_57 ==
      n_58)
      (∀
      (n_59 :
      Nat),
      m'.sz ≤
      n_59 →
      Vc.Spec
      Try.prog
      (8 :
      Nat)
      []
      { π := m'.π, sz := n_59, uf := m'.uf : M }
      fun
      (v :
      Value)
      (m' :
      M) =>
      ∃
      (n_60
      :
      Int),
      ∃
      (a_15
      :
      Option
      Addr),
      ∃
      (n_61
      :
      Nat),
      ∃
      (c_9
      :
      Nat),
      ∃
      (n_62
      :
      Int),
      ∃
      (n_63
      :
      Int),
      ∃
      (n_64
      :
      Int),
      ∃
      (n_65
      :
      Int),
      ∃
      (n_66
      :
      Int),
      ∃
      (s_11
      :
      ByteArray),
      ∃
      (s_12
      :
      ByteArray),
      ∃
      (n_67
      :
      Int),
      ∃
      (n_68
      :
      Int),
      ∃
      (a_16
      :
      Option
      Addr),
      ∃
      (n_69
      :
      Nat),
      ∃
      (c_10
      :
      Nat),
      v =
      Value.agg
      #[Value.int
      IntKind.i64
      n_60,
      Value.slice
      a_15
      n_61
      c_9,
      Value.int
      IntKind.i64
      n_62,
      Value.int
      IntKind.i64
      n_63,
      Value.int
      IntKind.i64
      n_64,
      Value.int
      IntKind.i64
      n_65,
      Value.int
      IntKind.i64
      n_66,
      Value.string
      s_11,
      Value.string
      s_12,
      Value.int
      IntKind.i64
      n_67,
      Value.int
      IntKind.i64
      n_68,
      Value.slice
      a_16
      n_69
      c_10] ∧
      (∀
      (n_70 :
      Nat),
      m'.sz ≤
      n_70 →
      Vc.Spec
      Try.prog
      (9 :
      Nat)
      []
      { π := m'.π, sz := n_70, uf := m'.uf : M }
      fun
      (v :
      Value)
      (m' :
      M) =>
      ∃
      (n_71
      :
      Int),
      ∃
      (a_18
      :
      Option
      Addr),
      ∃
      (n_72
      :
      Nat),
      ∃
      (c_11
      :
      Nat),
      ∃
      (n_73
      :
      Int),
      ∃
      (n_74
      :
      Int),
      ∃
      (n_75
      :
      Int),
      ∃
      (n_76
      :
      Int),
      ∃
      (n_77
      :
      Int),
      ∃
      (s_13
      :
      ByteArray),
      ∃
      (s_14
      :
      ByteArray),
      ∃
      (n_78
      :
      Int),
      ∃
      (n_79
      :
      Int),
      ∃
      (a_19
      :
      Option
      Addr),
      ∃
      (n_80
      :
      Nat),
      ∃
      (c_12
      :
      Nat),
      v =
      Value.agg
      #[Value.int
      IntKind.i64
      n_71,
      Value.slice
      a_18
      n_72
      c_11,
      Value.int
      IntKind.i64
      n_73,
      Value.int
      IntKind.i64
      n_74,
      Value.int
      IntKind.i64
      n_75,
      Value.int
      IntKind.i64
      n_76,
      Value.int
      IntKind.i64
      n_77,
      Value.string
      s_13,
      Value.string
      s_14,
      Value.int
      IntKind.i64
      n_78,
      Value.int
      IntKind.i64
      n_79,
      Value.slice
      a_19
      n_80
      c_12] ∧
      ∃
      (b_3
      :
      Bool),
      QSpec
      Try.prog
      (13 :
      Nat)
      [Value.agg
      #[Value.int
      IntKind.i64
      n_60,
      Value.slice
      a_15
      n_61
      c_9,
      Value.int
      IntKind.i64
      n_62,
      Value.int
      IntKind.i64
      n_63,
      Value.int
      IntKind.i64
      n_64,
      Value.int
      IntKind.i64
      n_65,
      Value.int
      IntKind.i64
      n_66,
      Value.string
      s_11,
      Value.string
      s_12,
      Value.int
      IntKind.i64
      n_67,
      Value.int
      IntKind.i64
      n_68,
      Value.slice
      a_16
      n_69
      c_10],
      Value.agg
      #[Value.int
      IntKind.i64
      n_71,
      Value.slice
      a_18
      n_72
      c_11,
      Value.int
      IntKind.i64
      n_73,
      Value.int
      IntKind.i64
      n_74,
      Value.int
      IntKind.i64
      n_75,
      Value.int
      IntKind.i64
      n_76,
      Value.int
      IntKind.i64
      n_77,
      Value.string
      s_13,
      Value.string
      s_14,
      Value.int
      IntKind.i64
      n_78,
      Value.int
      IntKind.i64
      n_79,
      Value.slice
      a_19
      n_80
      c_12]]
      m'
      (Value.bool
      b_3) ∧
      ifB
      b_3
      (∃
      (b_4
      :
      Bool),
      QSpec
      Try.prog
      (13 :
      Nat)
      [Value.agg
      #[Value.int
      IntKind.i64
      n_31,
      Value.slice
      a_7
      n_32
      c_3,
      Value.int
      IntKind.i64
      n_33,
      Value.int
      IntKind.i64
      n_34,
      Value.int
      IntKind.i64
      n_35,
      Value.int
      IntKind.i64
      n_36,
      Value.int
      IntKind.i64
      n_37,
      Value.string
      s_7,
      Value.string
      s_8,
      Value.int
      IntKind.i64
      n_38,
      Value.int
      IntKind.i64
      n_39,
      Value.slice
      a_8
      n_40
      c_4],
      Value.agg
      #[Value.int
      IntKind.i64
      n_44,
      Value.slice
      a_11
      n_45
      c_6,
      Value.int
      IntKind.i64
      n_46,
      Value.int
      IntKind.i64
      n_47,
      Value.int
      IntKind.i64
      n_48,
      Value.int
      IntKind.i64
      n_49,
      Value.int
      IntKind.i64
      n_50,
      Value.string
      s_9,
      Value.string
      s_10,
      Value.int
      IntKind.i64
      n_51,
      Value.int
      IntKind.i64
      n_52,
      Value.slice
      a_12
      n_53
      c_7]]
      m'
      (Value.bool
      b_4) ∧
      ifB
      b_4
      (∃
      (b_5
      :
      Bool),
      QSpec
      Try.prog
      (14 :
      Nat)
      [Value.slice
      a_9
      n_41
      c_5,
      Value.slice
      a_13
      n_54
      c_8]
      m'
      (Value.bool
      b_5) ∧
      ifB
      b_5
      (ifB
      (n_42 ==
      n_55)
      (∃
      (b_6
      :
      Bool),
      QSpec
      Try.prog
      (13 :
      Nat)
      [Value.agg
      #[Value.int
      IntKind.i64
      n,
      Value.slice
      a_2
      n_1
      c,
      Value.int
      IntKind.i64
      n_2,
      Value.int
      IntKind.i64
      n_3,
      Value.int
      IntKind.i64
      n_4,
      Value.int
      IntKind.i64
      n_5,
      Value.int
      IntKind.i64
      n_6,
      Value.string
      s,
      Value.string
      s_1,
      Value.int
      IntKind.i64
      n_7,
      Value.int
      IntKind.i64
      n_8,
      Value.slice
      a_3
      n_9
      c_1],
      Value.agg
      #[Value.int
      IntKind.i64
      x.ix,
      Value.slice
      a.ap
      x.ps.length
      a.cp,
      Value.int
      IntKind.i64
      x.nx,
      Value.int
      IntKind.i64
      x.la,
      Value.int
      IntKind.i64
      x.nu,
      Value.int
      IntKind.i64
      x.fr,
      Value.int
      IntKind.i64
      x.to,
      Value.string
      x.lo,
      Value.string
      x.hi,
      Value.int
      IntKind.i64
      x.cl,
      Value.int
      IntKind.i64
      x.sq,
      Value.slice
      a.am
      x.ms.length
      a.cm]]
      m'
      (Value.bool
      b_6) ∧
      ifB
      b_6
      (∃
      (b_7
      :
      Bool),
      QSpec
      Try.prog
      (26 :
      Nat)
      [Value.agg
      #[Value.int
      IntKind.i64
      n_11,
      Value.int
      IntKind.i64
      n_12,
      Value.int
      IntKind.i64
      n_13,
      Value.int
      IntKind.i64
      n_14,
      Value.int
      IntKind.i64
      n_15,
      Value.int
      IntKind.i64
      n_16,
      Value.string
      s_2,
      Value.int
      IntKind.i64
      n_17,
      Value.int
      IntKind.i64
      n_18,
      Value.int
      IntKind.i64
      n_19,
      Value.bool
      b,
      Value.int
      IntKind.i64
      n_20,
      Value.string
      s_3,
      Value.string
      s_4,
      Value.int
      IntKind.i64
      n_21,
      Value.int
      IntKind.i64
      n_22,
      Value.int
      IntKind.i64
      n_23,
      Value.int
      IntKind.i64
      n_24,
      Value.int
      IntKind.i64
      n_25,
      Value.int
      IntKind.i64
      n_26,
      Value.string
      s_5,
      Value.string
      s_6,
      Value.int
      IntKind.i64
      n_27,
      Value.int
      IntKind.i64
      n_28,
      Value.slice
      a_5
      n_29
      c_2],
      Value.agg
      #[Value.int
      IntKind.i64
      y.c.kd,
      Value.int
      IntKind.i64
      y.c.cl,
      Value.int
      IntKind.i64
      y.c.sq,
      Value.int
      IntKind.i64
      y.c.ep,
      Value.int
      IntKind.i64
      y.c.nd,
      Value.int
      IntKind.i64
      y.c.hm,
      Value.string
      y.c.ky,
      Value.int
      IntKind.i64
      y.c.le,
      Value.int
      IntKind.i64
      y.c.rn,
      Value.int
      IntKind.i64
      y.c.ne,
      Value.bool
      y.c.ys,
      Value.int
      IntKind.i64
      y.c.op_kd,
      Value.string
      y.c.op_ky,
      Value.string
      y.c.op_ot,
      Value.int
      IntKind.i64
      y.c.op_n,
      Value.int
      IntKind.i64
      y.c.op_lo,
      Value.int
      IntKind.i64
      y.c.op_hi,
      Value.int
      IntKind.i64
      y.c.pl_nu,
      Value.int
      IntKind.i64
      y.c.pl_fr,
      Value.int
      IntKind.i64
      y.c.pl_to,
      Value.string
      y.c.pl_lo,
      Value.string
      y.c.pl_hi,
      Value.int
      IntKind.i64
      y.c.pl_cl,
      Value.int
      IntKind.i64
      y.c.pl_sq,
      Value.slice
      y.a
      y.l.length
      y.k]]
      m'
      (Value.bool
      b_7) ∧
      Done
      (Value.bool
      b_7 =
      Value.bool
      true))
      (Done
      (Value.bool
      false =
      Value.bool
      true)))
      (Done
      (Value.bool
      false =
      Value.bool
      true)))
      (Done
      (Value.bool
      false =
      Value.bool
      true)))
      (Done
      (Value.bool
      false =
      Value.bool
      true)))
      (Done
      (Value.bool
      false =
      Value.bool
      true))) ∧
      True)
      (Done
      (Value.bool
      false =
      Value.bool
      true) ∧
      True) ∧
      True)
      ((Done
      (Value.bool
      false =
      Value.bool
      true) ∧
      True) ∧
      True))
      ((Done
      (Value.bool
      false =
      Value.bool
      true) ∧
      True) ∧
      True))
      (∀ (n_30 : Nat),
      m'.sz ≤ n_30 →
      Vc.Spec Try.prog (11 : Nat)
      [Value.agg
      #[Value.int IntKind.i64 n, Value.slice a_2 n_1 c,
      Value.int IntKind.i64 n_2,
      Value.int IntKind.i64 n_3,
      Value.int IntKind.i64 n_4,
      Value.int IntKind.i64 n_5,
      Value.int IntKind.i64 n_6, Value.string s,
      Value.string s_1, Value.int IntKind.i64 n_7,
      Value.int IntKind.i64 n_8,
      Value.slice a_3 n_9 c_1],
      Value.agg
      #[Value.int IntKind.i64 n_11,
      Value.int IntKind.i64 n_12,
      Value.int IntKind.i64 n_13,
      Value.int IntKind.i64 n_14,
      Value.int IntKind.i64 n_15,
      Value.int IntKind.i64 n_16, Value.string s_2,
      Value.int IntKind.i64 n_17,
      Value.int IntKind.i64 n_18,
      Value.int IntKind.i64 n_19, Value.bool b,
      Value.int IntKind.i64 n_20, Value.string s_3,
      Value.string s_4, Value.int IntKind.i64 n_21,
      Value.int IntKind.i64 n_22,
      Value.int IntKind.i64 n_23,
      Value.int IntKind.i64 n_24,
      Value.int IntKind.i64 n_25,
      Value.int IntKind.i64 n_26, Value.string s_5,
      Value.string s_6, Value.int IntKind.i64 n_27,
      Value.int IntKind.i64 n_28,
      Value.slice a_5 n_29 c_2],
      Value.int IntKind.i64 ix]
      { π := m'.π, sz := n_30, uf := m'.uf : M }
      fun (v : Value) (m' : M) =>
      ∃ (n_31 : Int),
      ∃ (a_7 : Option Addr),
      ∃ (n_32 : Nat),
      ∃ (c_3 : Nat),
      ∃ (n_33 : Int),
      ∃ (n_34 : Int),
      ∃ (n_35 : Int),
      ∃ (n_36 : Int),
      ∃ (n_37 : Int),
      ∃ (s_7 : ByteArray),
      ∃ (s_8 : ByteArray),
      ∃ (n_38 : Int),
      ∃ (n_39 : Int),
      ∃ (a_8 : Option Addr),
      ∃ (n_40 : Nat),
      ∃ (c_4 : Nat),
      ∃ (a_9 : Option Addr),
      ∃ (n_41 : Nat),
      ∃ (c_5 : Nat),
      ∃ (n_42 : Int),
      v =
      Value.tuple
      #[Value.agg
      #[Value.int
      IntKind.i64
      n_31,
      Value.slice
      a_7
      n_32
      c_3,
      Value.int
      IntKind.i64
      n_33,
      Value.int
      IntKind.i64
      n_34,
      Value.int
      IntKind.i64
      n_35,
      Value.int
      IntKind.i64
      n_36,
      Value.int
      IntKind.i64
      n_37,
      Value.string
      s_7,
      Value.string
      s_8,
      Value.int
      IntKind.i64
      n_38,
      Value.int
      IntKind.i64
      n_39,
      Value.slice
      a_8
      n_40
      c_4],
      Value.slice
      a_9
      n_41
      c_5,
      Value.int
      IntKind.i64
      n_42] ∧
      ∀
      (n_43 :
      Nat),
      m'.sz ≤
      n_43 →
      Vc.Spec
      Try.prog
      (12 :
      Nat)
      [Value.agg
      #[Value.int
      IntKind.i64
      x.ix,
      Value.slice
      a.ap
      x.ps.length
      a.cp,
      Value.int
      IntKind.i64
      x.nx,
      Value.int
      IntKind.i64
      x.la,
      Value.int
      IntKind.i64
      x.nu,
      Value.int
      IntKind.i64
      x.fr,
      Value.int
      IntKind.i64
      x.to,
      Value.string
      x.lo,
      Value.string
      x.hi,
      Value.int
      IntKind.i64
      x.cl,
      Value.int
      IntKind.i64
      x.sq,
      Value.slice
      a.am
      x.ms.length
      a.cm],
      Value.agg
      #[Value.int
      IntKind.i64
      y.c.kd,
      Value.int
      IntKind.i64
      y.c.cl,
      Value.int
      IntKind.i64
      y.c.sq,
      Value.int
      IntKind.i64
      y.c.ep,
      Value.int
      IntKind.i64
      y.c.nd,
      Value.int
      IntKind.i64
      y.c.hm,
      Value.string
      y.c.ky,
      Value.int
      IntKind.i64
      y.c.le,
      Value.int
      IntKind.i64
      y.c.rn,
      Value.int
      IntKind.i64
      y.c.ne,
      Value.bool
      y.c.ys,
      Value.int
      IntKind.i64
      y.c.op_kd,
      Value.string
      y.c.op_ky,
      Value.string
      y.c.op_ot,
      Value.int
      IntKind.i64
      y.c.op_n,
      Value.int
      IntKind.i64
      y.c.op_lo,
      Value.int
      IntKind.i64
      y.c.op_hi,
      Value.int
      IntKind.i64
      y.c.pl_nu,
      Value.int
      IntKind.i64
      y.c.pl_fr,
      Value.int
      IntKind.i64
      y.c.pl_to,
      Value.string
      y.c.pl_lo,
      Value.string
      y.c.pl_hi,
      Value.int
      IntKind.i64
      y.c.pl_cl,
      Value.int
      IntKind.i64
      y.c.pl_sq,
      Value.slice
      y.a
      y.l.length
      y.k],
      Value.int
      IntKind.i64
      ix]
      { π := m'.π, sz := n_43, uf := m'.uf : M }
      fun
      (v :
      Value)
      (m' :
      M) =>
      ∃ (n_44
      :
      Int),
      ∃
      (a_11
      :
      Option
      Addr),
      ∃
      (n_45
      :
      Nat),
      ∃
      (c_6
      :
      Nat),
      ∃
      (n_46
      :
      Int),
      ∃
      (n_47
      :
      Int),
      ∃
      (n_48
      :
      Int),
      ∃
      (n_49
      :
      Int),
      ∃
      (n_50
      :
      Int),
      ∃
      (s_9
      :
      ByteArray),
      ∃
      (s_10
      :
      ByteArray),
      ∃
      (n_51
      :
      Int),
      ∃
      (n_52
      :
      Int),
      ∃
      (a_12
      :
      Option
      Addr),
      ∃
      (n_53
      :
      Nat),
      ∃
      (c_7
      :
      Nat),
      ∃
      (a_13
      :
      Option
      Addr),
      ∃
      (n_54
      :
      Nat),
      ∃
      (c_8
      :
      Nat),
      ∃
      (n_55
      :
      Int),
      v =
      Value.tuple
      #[Value.agg
      #[Value.int
      IntKind.i64
      n_44,
      Value.slice
      a_11
      n_45
      c_6,
      Value.int
      IntKind.i64
      n_46,
      Value.int
      IntKind.i64
      n_47,
      Value.int
      IntKind.i64
      n_48,
      Value.int
      IntKind.i64
      n_49,
      Value.int
      IntKind.i64
      n_50,
      Value.string
      s_9,
      Value.string
      s_10,
      Value.int
      IntKind.i64
      n_51,
      Value.int
      IntKind.i64
      n_52,
      Value.slice
      a_12
      n_53
      c_7],
      Value.slice
      a_13
      n_54
      c_8,
      Value.int
      IntKind.i64
      n_55] ∧
      true =
      true ∧
      ∃
      (b_2
      :
      Bool),
      QSpec
      Try.prog
      (10 :
      Nat)
      []
      m'
      (Value.bool
      b_2) ∧
      ifB
      b_2
      (∃
      (n_56
      :
      Int),
      QSpec
      Try.prog
      (15 :
      Nat)
      [Value.agg
      #[Value.int
      IntKind.i64
      n,
      Value.slice
      a_2
      n_1
      c,
      Value.int
      IntKind.i64
      n_2,
      Value.int
      IntKind.i64
      n_3,
      Value.int
      IntKind.i64
      n_4,
      Value.int
      IntKind.i64
      n_5,
      Value.int
      IntKind.i64
      n_6,
      Value.string
      s,
      Value.string
      s_1,
      Value.int
      IntKind.i64
      n_7,
      Value.int
      IntKind.i64
      n_8,
      Value.slice
      a_3
      n_9
      c_1]]
      m'
      (Value.int
      IntKind.i64
      n_56) ∧
      ifB
      (n_56 ==
      (0 :
      Int))
      (∃
      (n_57
      :
      Int),
      QSpec
      Try.prog
      (24 :
      Nat)
      [Value.agg
      #[Value.int
      IntKind.i64
      n,
      Value.slice
      a_2
      n_1
      c,
      Value.int
      IntKind.i64
      n_2,
      Value.int
      IntKind.i64
      n_3,
      Value.int
      IntKind.i64
      n_4,
      Value.int
      IntKind.i64
      n_5,
      Value.int
      IntKind.i64
      n_6,
      Value.string
      s,
      Value.string
      s_1,
      Value.int
      IntKind.i64
      n_7,
      Value.int
      IntKind.i64
      n_8,
      Value.slice
      a_3
      n_9
      c_1]]
      m'
      (Value.int
      IntKind.i64
      n_57) ∧
      ∃
      (n_58
      :
      Int),
      QSpec
      Try.prog
      (25 :
      Nat)
      [Value.agg
      #[Value.int
      IntKind.i64
      x.ix,
      Value.slice
      a.ap
      x.ps.length
      a.cp,
      Value.int
      IntKind.i64
      x.nx,
      Value.int
      IntKind.i64
      x.la,
      Value.int
      IntKind.i64
      x.nu,
      Value.int
      IntKind.i64
      x.fr,
      Value.int
      IntKind.i64
      x.to,
      Value.string
      x.lo,
      Value.string
      x.hi,
      Value.int
      IntKind.i64
      x.cl,
      Value.int
      IntKind.i64
      x.sq,
      Value.slice
      a.am
      x.ms.length
      a.cm]]
      m'
      (Value.int
      IntKind.i64
      n_58) ∧
      ifB
      (n_57 ==
      n_58)
      (∀
      (n_59 :
      Nat),
      m'.sz ≤
      n_59 →
      Vc.Spec
      Try.prog
      (8 :
      Nat)
      []
      { π := m'.π, sz := n_59, uf := m'.uf : M }
      fun
      (v :
      Value)
      (m' :
      M) =>
      ∃
      (n_60
      :
      Int),
      ∃
      (a_15
      :
      Option
      Addr),
      ∃
      (n_61
      :
      Nat),
      ∃
      (c_9
      :
      Nat),
      ∃
      (n_62
      :
      Int),
      ∃
      (n_63
      :
      Int),
      ∃
      (n_64
      :
      Int),
      ∃
      (n_65
      :
      Int),
      ∃
      (n_66
      :
      Int),
      ∃
      (s_11
      :
      ByteArray),
      ∃
      (s_12
      :
      ByteArray),
      ∃
      (n_67
      :
      Int),
      ∃
      (n_68
      :
      Int),
      ∃
      (a_16
      :
      Option
      Addr),
      ∃
      (n_69
      :
      Nat),
      ∃
      (c_10
      :
      Nat),
      v =
      Value.agg
      #[Value.int
      IntKind.i64
      n_60,
      Value.slice
      a_15
      n_61
      c_9,
      Value.int
      IntKind.i64
      n_62,
      Value.int
      IntKind.i64
      n_63,
      Value.int
      IntKind.i64
      n_64,
      Value.int
      IntKind.i64
      n_65,
      Value.int
      IntKind.i64
      n_66,
      Value.string
      s_11,
      Value.string
      s_12,
      Value.int
      IntKind.i64
      n_67,
      Value.int
      IntKind.i64
      n_68,
      Value.slice
      a_16
      n_69
      c_10] ∧
      (∀
      (n_70 :
      Nat),
      m'.sz ≤
      n_70 →
      Vc.Spec
      Try.prog
      (9 :
      Nat)
      []
      { π := m'.π, sz := n_70, uf := m'.uf : M }
      fun
      (v :
      Value)
      (m' :
      M) =>
      ∃
      (n_71
      :
      Int),
      ∃
      (a_18
      :
      Option
      Addr),
      ∃
      (n_72
      :
      Nat),
      ∃
      (c_11
      :
      Nat),
      ∃
      (n_73
      :
      Int),
      ∃
      (n_74
      :
      Int),
      ∃
      (n_75
      :
      Int),
      ∃
      (n_76
      :
      Int),
      ∃
      (n_77
      :
      Int),
      ∃
      (s_13
      :
      ByteArray),
      ∃
      (s_14
      :
      ByteArray),
      ∃
      (n_78
      :
      Int),
      ∃
      (n_79
      :
      Int),
      ∃
      (a_19
      :
      Option
      Addr),
      ∃
      (n_80
      :
      Nat),
      ∃
      (c_12
      :
      Nat),
      v =
      Value.agg
      #[Value.int
      IntKind.i64
      n_71,
      Value.slice
      a_18
      n_72
      c_11,
      Value.int
      IntKind.i64
      n_73,
      Value.int
      IntKind.i64
      n_74,
      Value.int
      IntKind.i64
      n_75,
      Value.int
      IntKind.i64
      n_76,
      Value.int
      IntKind.i64
      n_77,
      Value.string
      s_13,
      Value.string
      s_14,
      Value.int
      IntKind.i64
      n_78,
      Value.int
      IntKind.i64
      n_79,
      Value.slice
      a_19
      n_80
      c_12] ∧
      ∃
      (b_3
      :
      Bool),
      QSpec
      Try.prog
      (13 :
      Nat)
      [Value.agg
      #[Value.int
      IntKind.i64
      n_60,
      Value.slice
      a_15
      n_61
      c_9,
      Value.int
      IntKind.i64
      n_62,
      Value.int
      IntKind.i64
      n_63,
      Value.int
      IntKind.i64
      n_64,
      Value.int
      IntKind.i64
      n_65,
      Value.int
      IntKind.i64
      n_66,
      Value.string
      s_11,
      Value.string
      s_12,
      Value.int
      IntKind.i64
      n_67,
      Value.int
      IntKind.i64
      n_68,
      Value.slice
      a_16
      n_69
      c_10],
      Value.agg
      #[Value.int
      IntKind.i64
      n_71,
      Value.slice
      a_18
      n_72
      c_11,
      Value.int
      IntKind.i64
      n_73,
      Value.int
      IntKind.i64
      n_74,
      Value.int
      IntKind.i64
      n_75,
      Value.int
      IntKind.i64
      n_76,
      Value.int
      IntKind.i64
      n_77,
      Value.string
      s_13,
      Value.string
      s_14,
      Value.int
      IntKind.i64
      n_78,
      Value.int
      IntKind.i64
      n_79,
      Value.slice
      a_19
      n_80
      c_12]]
      m'
      (Value.bool
      b_3) ∧
      ifB
      b_3
      (∃
      (b_4
      :
      Bool),
      QSpec
      Try.prog
      (13 :
      Nat)
      [Value.agg
      #[Value.int
      IntKind.i64
      n_31,
      Value.slice
      a_7
      n_32
      c_3,
      Value.int
      IntKind.i64
      n_33,
      Value.int
      IntKind.i64
      n_34,
      Value.int
      IntKind.i64
      n_35,
      Value.int
      IntKind.i64
      n_36,
      Value.int
      IntKind.i64
      n_37,
      Value.string
      s_7,
      Value.string
      s_8,
      Value.int
      IntKind.i64
      n_38,
      Value.int
      IntKind.i64
      n_39,
      Value.slice
      a_8
      n_40
      c_4],
      Value.agg
      #[Value.int
      IntKind.i64
      n_44,
      Value.slice
      a_11
      n_45
      c_6,
      Value.int
      IntKind.i64
      n_46,
      Value.int
      IntKind.i64
      n_47,
      Value.int
      IntKind.i64
      n_48,
      Value.int
      IntKind.i64
      n_49,
      Value.int
      IntKind.i64
      n_50,
      Value.string
      s_9,
      Value.string
      s_10,
      Value.int
      IntKind.i64
      n_51,
      Value.int
      IntKind.i64
      n_52,
      Value.slice
      a_12
      n_53
      c_7]]
      m'
      (Value.bool
      b_4) ∧
      ifB
      b_4
      (∃
      (b_5
      :
      Bool),
      QSpec
      Try.prog
      (14 :
      Nat)
      [Value.slice
      a_9
      n_41
      c_5,
      Value.slice
      a_13
      n_54
      c_8]
      m'
      (Value.bool
      b_5) ∧
      ifB
      b_5
      (ifB
      (n_42 ==
      n_55)
      (∃
      (b_6
      :
      Bool),
      QSpec
      Try.prog
      (13 :
      Nat)
      [Value.agg
      #[Value.int
      IntKind.i64
      n,
      Value.slice
      a_2
      n_1
      c,
      Value.int
      IntKind.i64
      n_2,
      Value.int
      IntKind.i64
      n_3,
      Value.int
      IntKind.i64
      n_4,
      Value.int
      IntKind.i64
      n_5,
      Value.int
      IntKind.i64
      n_6,
      Value.string
      s,
      Value.string
      s_1,
      Value.int
      IntKind.i64
      n_7,
      Value.int
      IntKind.i64
      n_8,
      Value.slice
      a_3
      n_9
      c_1],
      Value.agg
      #[Value.int
      IntKind.i64
      x.ix,
      Value.slice
      a.ap
      x.ps.length
      a.cp,
      Value.int
      IntKind.i64
      x.nx,
      Value.int
      IntKind.i64
      x.la,
      Value.int
      IntKind.i64
      x.nu,
      Value.int
      IntKind.i64
      x.fr,
      Value.int
      IntKind.i64
      x.to,
      Value.string
      x.lo,
      Value.string
      x.hi,
      Value.int
      IntKind.i64
      x.cl,
      Value.int
      IntKind.i64
      x.sq,
      Value.slice
      a.am
      x.ms.length
      a.cm]]
      m'
      (Value.bool
      b_6) ∧
      ifB
      b_6
      (∃
      (b_7
      :
      Bool),
      QSpec
      Try.prog
      (26 :
      Nat)
      [Value.agg
      #[Value.int
      IntKind.i64
      n_11,
      Value.int
      IntKind.i64
      n_12,
      Value.int
      IntKind.i64
      n_13,
      Value.int
      IntKind.i64
      n_14,
      Value.int
      IntKind.i64
      n_15,
      Value.int
      IntKind.i64
      n_16,
      Value.string
      s_2,
      Value.int
      IntKind.i64
      n_17,
      Value.int
      IntKind.i64
      n_18,
      Value.int
      IntKind.i64
      n_19,
      Value.bool
      b,
      Value.int
      IntKind.i64
      n_20,
      Value.string
      s_3,
      Value.string
      s_4,
      Value.int
      IntKind.i64
      n_21,
      Value.int
      IntKind.i64
      n_22,
      Value.int
      IntKind.i64
      n_23,
      Value.int
      IntKind.i64
      n_24,
      Value.int
      IntKind.i64
      n_25,
      Value.int
      IntKind.i64
      n_26,
      Value.string
      s_5,
      Value.string
      s_6,
      Value.int
      IntKind.i64
      n_27,
      Value.int
      IntKind.i64
      n_28,
      Value.slice
      a_5
      n_29
      c_2],
      Value.agg
      #[Value.int
      IntKind.i64
      y.c.kd,
      Value.int
      IntKind.i64
      y.c.cl,
      Value.int
      IntKind.i64
      y.c.sq,
      Value.int
      IntKind.i64
      y.c.ep,
      Value.int
      IntKind.i64
      y.c.nd,
      Value.int
      IntKind.i64
      y.c.hm,
      Value.string
      y.c.ky,
      Value.int
      IntKind.i64
      y.c.le,
      Value.int
      IntKind.i64
      y.c.rn,
      Value.int
      IntKind.i64
      y.c.ne,
      Value.bool
      y.c.ys,
      Value.int
      IntKind.i64
      y.c.op_kd,
      Value.string
      y.c.op_ky,
      Value.string
      y.c.op_ot,
      Value.int
      IntKind.i64
      y.c.op_n,
      Value.int
      IntKind.i64
      y.c.op_lo,
      Value.int
      IntKind.i64
      y.c.op_hi,
      Value.int
      IntKind.i64
      y.c.pl_nu,
      Value.int
      IntKind.i64
      y.c.pl_fr,
      Value.int
      IntKind.i64
      y.c.pl_to,
      Value.string
      y.c.pl_lo,
      Value.string
      y.c.pl_hi,
      Value.int
      IntKind.i64
      y.c.pl_cl,
      Value.int
      IntKind.i64
      y.c.pl_sq,
      Value.slice
      y.a
      y.l.length
      y.k]]
      m'
      (Value.bool
      b_7) ∧
      Done
      (Value.bool
      b_7 =
      Value.bool
      true))
      (Done
      (Value.bool
      false =
      Value.bool
      true)))
      (Done
      (Value.bool
      false =
      Value.bool
      true)))
      (Done
      (Value.bool
      false =
      Value.bool
      true)))
      (Done
      (Value.bool
      false =
      Value.bool
      true)))
      (Done
      (Value.bool
      false =
      Value.bool
      true))) ∧
      True)
      (Done
      (Value.bool
      false =
      Value.bool
      true) ∧
      True) ∧
      True)
      ((Done
      (Value.bool
      false =
      Value.bool
      true) ∧
      True) ∧
      True))
      ((Done
      (Value.bool
      false =
      Value.bool
      true) ∧
      True) ∧
      True))) ∧
      True) ∧
      True) (by kernel_rfl) ?_
  have h' := h.sz hN
  have h2' := h2.sz hN
  have hl9 : x.ps.length ≤ 9223372036854775807 := by omega
  have hm9 : x.ms.length ≤ 9223372036854775807 := by omega
  obtain ⟨z1, z2⟩ := apply_len (x := x) y.c ix
  have z3 := eff_len x y.c ix
  refine ⟨rfl, rfl, fun n1 g1 => (rcopy_s x a hl hm _ (h'.sz g1)).mono fun v m1 ag1 ⟨a1, e1, r1⟩ => ⟨_, _, _, _, _, _, _, _, _, _, _, _, _, _, _, _, e1, MLe.ofAgree g1 ag1, ?_⟩, trivial⟩
  have h1 := (h'.sz g1).agree ag1
  have b1 := (h2'.sz g1).agree ag1
  refine ⟨fun n2 g2 => (ccopy_s y.c y.a y.k y.l hy _ (b1.sz g2)).mono fun v m2 ag2 ⟨a2, c2, e2, r2⟩ => ⟨_, _, _, _, _, _, _, _, _, _, _, _, _, _, _, _, _, _, _, _, _, _, _, _, _, _, _, e2, ?_⟩, trivial⟩
  have h2 := (h1.sz g2).agree ag2
  have b2 := (b1.sz g2).agree ag2
  have s2 := (r1.sz g2).agree ag2
  refine ⟨_, rright_c x a hl9 hm9 _ h2, ?_⟩
  cases hrc : rightC x
  · refine ifB_true ?_
    refine fun n3 g3 => (apply_s x a1 y.c a2 y.l.length c2 ix hl9 hm9 _ (s2.sz g3)).mono fun v m3 ag3 q3 => ?_
    obtain ⟨a3, av, cv, e3, r3, w3⟩ := q3.out
    refine ⟨_, _, _, _, _, _, _, _, _, _, _, _, _, _, _, _, _, _, _, _, e3, ?_⟩
    have h3 := (h2.sz g3).agree ag3
    have b3 := (b2.sz g3).agree ag3
    have s3 := (s2.sz g3).agree ag3
    have t3 := (r2.sz g3).agree ag3
    refine fun n4 g4 => (rapply_s x a y.c y.a y.l.length y.k ix hl9 hm9 _ (h3.sz g4)).mono fun v m4 ag4 q4 => ?_
    obtain ⟨a4, av4, cv4, e4, r4, w4⟩ := q4.out
    refine ⟨_, _, _, _, _, _, _, _, _, _, _, _, _, _, _, _, _, _, _, _, e4, ?_⟩
    have h4 := (h3.sz g4).agree ag4
    have b4 := (b3.sz g4).agree ag4
    have s4 := (s3.sz g4).agree ag4
    have t4 := (t3.sz g4).agree ag4
    have r34 := (r3.sz g4).agree ag4
    have w34 := (w3.sz g4).agree ag4
    refine ⟨rfl, _, pawake_q _, ifB_true ⟨_, check_q x a1 hl9 hm9 _ s4, ifB_true' (by rw [hrc]; rfl) ⟨_, epoch_q x a1 hl9 hm9 _ s4, _, repoch_q x a hm9 hl9 _ h4, ifB_true' (by simp) ?_, trivial⟩⟩⟩
    refine fun n5 g5 => (new_s _).mono fun v m5 ag5 ⟨a5, e5, r5⟩ => ⟨_, _, _, _, _, _, _, _, _, _, _, _, _, _, _, _, e5, ?_, trivial⟩
    refine fun n6 g6 => (rnew_s _).mono fun v m6 ag6 ⟨a6, e6, r6⟩ => ⟨_, _, _, _, _, _, _, _, _, _, _, _, _, _, _, _, e6, ?_⟩
    have h6 := (((h4.sz g5).agree ag5).sz g6).agree ag6
    have b6 := (((b4.sz g5).agree ag5).sz g6).agree ag6
    have s6 := (((s4.sz g5).agree ag5).sz g6).agree ag6
    have t6 := (((t4.sz g5).agree ag5).sz g6).agree ag6
    have r36 := (((r34.sz g5).agree ag5).sz g6).agree ag6
    have w36 := (((w34.sz g5).agree ag5).sz g6).agree ag6
    have r46 := (((r4.sz g5).agree ag5).sz g6).agree ag6
    have w46 := (((w4.sz g5).agree ag5).sz g6).agree ag6
    have r56 := (r5.sz g6).agree ag6
    refine ⟨_, chart_q newC a5 a6 (by decide) (by decide) _ r56 r6, ifB_true ⟨_, chart_q _ a3 a4 (by omega) (by omega) _ r36 r46, ifB_true ⟨_, ef_plain av av4 cv cv4 _ _ (by omega) _ w36 w46, ifB_true' (by simp) (ifB_true' (by simp) ⟨_, chart_q x a1 a hl9 hm9 _ s6 h6, ifB_true ⟨_, command_q y.c a2 y.a c2 y.k y.l (by omega) _ t6 b6, ⟨rfl⟩⟩⟩)⟩⟩⟩
  · refine ifB_false ?_
    refine fun n3 g3 => (apply_s x a1 y.c a2 y.l.length c2 ix hl9 hm9 _ (s2.sz g3)).mono fun v m3 ag3 q3 => ?_
    obtain ⟨a3, av, cv, e3, r3, w3⟩ := q3.out
    refine ⟨_, _, _, _, _, _, _, _, _, _, _, _, _, _, _, _, _, _, _, _, e3, ?_⟩
    have h3 := (h2.sz g3).agree ag3
    have b3 := (b2.sz g3).agree ag3
    have s3 := (s2.sz g3).agree ag3
    have t3 := (r2.sz g3).agree ag3
    refine fun n4 g4 => (rapply_s x a y.c y.a y.l.length y.k ix hl9 hm9 _ (h3.sz g4)).mono fun v m4 ag4 q4 => ?_
    obtain ⟨a4, av4, cv4, e4, r4, w4⟩ := q4.out
    refine ⟨_, _, _, _, _, _, _, _, _, _, _, _, _, _, _, _, _, _, _, _, e4, ?_⟩
    have h4 := (h3.sz g4).agree ag4
    have b4 := (b3.sz g4).agree ag4
    have s4 := (s3.sz g4).agree ag4
    have t4 := (t3.sz g4).agree ag4
    have r34 := (r3.sz g4).agree ag4
    have w34 := (w3.sz g4).agree ag4
    refine ⟨rfl, _, pawake_q _, ifB_true ⟨_, check_q x a1 hl9 hm9 _ s4, ifB_true' (by rw [hrc]; rfl) ⟨_, epoch_q x a1 hl9 hm9 _ s4, _, repoch_q x a hm9 hl9 _ h4, ifB_true' (by simp) ?_, trivial⟩⟩⟩
    refine fun n5 g5 => (new_s _).mono fun v m5 ag5 ⟨a5, e5, r5⟩ => ⟨_, _, _, _, _, _, _, _, _, _, _, _, _, _, _, _, e5, ?_, trivial⟩
    refine fun n6 g6 => (rnew_s _).mono fun v m6 ag6 ⟨a6, e6, r6⟩ => ⟨_, _, _, _, _, _, _, _, _, _, _, _, _, _, _, _, e6, ?_⟩
    have h6 := (((h4.sz g5).agree ag5).sz g6).agree ag6
    have b6 := (((b4.sz g5).agree ag5).sz g6).agree ag6
    have s6 := (((s4.sz g5).agree ag5).sz g6).agree ag6
    have t6 := (((t4.sz g5).agree ag5).sz g6).agree ag6
    have r36 := (((r34.sz g5).agree ag5).sz g6).agree ag6
    have w36 := (((w34.sz g5).agree ag5).sz g6).agree ag6
    have r46 := (((r4.sz g5).agree ag5).sz g6).agree ag6
    have w46 := (((w4.sz g5).agree ag5).sz g6).agree ag6
    have r56 := (r5.sz g6).agree ag6
    refine ⟨_, chart_q newC a5 a6 (by decide) (by decide) _ r56 r6, ifB_true ⟨_, chart_q _ a3 a4 (by omega) (by omega) _ r36 r46, ifB_true ⟨_, ef_plain av av4 cv cv4 _ _ (by omega) _ w36 w46, ifB_true' (by simp) (ifB_true' (by simp) ⟨_, chart_q x a1 a hl9 hm9 _ s6 h6, ifB_true ⟨_, command_q y.c a2 y.a c2 y.k y.l (by omega) _ t6 b6, ⟨rfl⟩⟩⟩)⟩⟩⟩

end Go.Proofs.Ytjjfcaigonomiaa
