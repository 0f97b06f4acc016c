/-
  Contracts of functions of this seat: what each hands back, and what it leaves of memory (rng2). Nothing here is trusted: Lean checks it.
-/
import Derived.Test.YtpnpebefcmgjoaaRng15
import Derived.Test.YtpnpebefcmgjoaaVcGrow
set_option linter.unusedVariables false
set_option linter.unusedSimpArgs false
namespace Go.Proofs.Ytpnpebefcmgjoaa
open Go.Vc Go.RowKit
set_option maxRecDepth 100000

structure ToX where
  m : M

def stv (l : List (ByteArray × Pl)) : List Value := l.map fun e => .string e.1

def plv2 (l : List (ByteArray × Pl)) : List Value := l.flatMap fun e => encPl e.2

def ToldR (l : List Pl) (v : Value) (m' : M) : Prop :=
  ∃ ea ec pa pc, v = .tuple #[.slice ea l.length ec, .slice pa l.length pc, .bool true] ∧ Row m' ea (stv (endsL l)) ∧ Row m' pa (pls l)

structure ToG (b b1 b2 b3 b4 b5 : Nat) (m' : M) (x : Nat) : Prop where
  out : x = b ∨ x = b1 ∨ x = b2 ∨ x = b3 ∨ x = b4 ∨ x = b5 ∨ (x < m'.sz ∧ ∃ o v, m'.π x o = some v)

structure ToJ (B : Nat) (l : List Pl) (a : Option Addr) (c : Nat) (b b1 b2 b3 b4 b5 : Nat) (m' : M) (pre : List (ByteArray × Pl)) (x : M) : Prop where
  out : ∃ ea ec pa pc, Gr B (ToG b b1 b2 b3 b4 b5 m') x 1 ea pre.length ec (stv pre) 3 pa pre.length pc (plv2 pre) ∧ x.π b4 0 = some (.slice ea pre.length ec) ∧ x.π b5 0 = some (.slice pa pre.length pc)
  hd : x.π b 0 = some (.slice a l.length c)
  r1 : ∃ v, x.π b1 0 = some v
  r2 : ∃ v, x.π b2 0 = some v
  r3 : ∃ v, x.π b3 0 = some v
  uf : x.uf b1 ∧ x.uf b2 ∧ x.uf b3 ∧ x.uf b4 ∧ x.uf b5
  kn : ∀ bb o v, bb < m'.sz → m'.π bb o = some v → x.π bb o = some v

theorem rg_told (l : List Pl) (a : Option Addr) (c : Nat) (hl : l.length ≤ 1048576) (h0 : a = none → l = []) (m : M) (h : Row m a (pls l)) :
    Vc.Spec Try.prog 10 [.slice a l.length c] m (fun v m' => ToldR l v m') := by
  refine Vc.Spec.of_vc Try.func10 (ann := fun _ => { A := ToX, inv := fun _ => True, st := fun _ => [], own := fun _ => [], m := fun x => x.m, μ := fun _ => 0, esc := [0, 1, 2, 3, 9, 10], sh := [.str, .agg [.int .i64, .str, .int .i64]], loose := true }) ?_
  refine vc_by (X :=
      true = true ∧
      ∃ (S' : Nat → Prop),
      (∀ (b : Nat), S' b → m.uf b ∧ (m.sz ≤ b ∨ False)) ∧
      ∀ (n : Nat),
      m.sz ≤ n →
      SpecW Try.prog (31 : Nat) [Value.slice a l.length c] { π := m.π, sz := n, uf := m.uf : M } S' fun (v : Value) (m' : M) =>
      ∃ (f : FuncId),
      ∃ (caps : List Value),
      v = Value.func (Fn.func f) #[] caps.toArray ∧
      ∀ (b : Nat),
      Fresh m.sz m' b →
      ∀ (b_1 : Nat),
      Fresh m.sz (m'.newBlock b [Value.slice a l.length c]) b_1 →
      ∀ (b_2 : Nat),
      Fresh m.sz ((m'.newBlock b [Value.slice a l.length c]).newBlock b_1 [Value.slice none (0 : Nat) (0 : Nat)]) b_2 →
      ∀ (b_3 : Nat),
      Fresh m.sz
      (((m'.newBlock b [Value.slice a l.length c]).newBlock b_1 [Value.slice none (0 : Nat) (0 : Nat)]).newBlock b_2
      [Value.slice none (0 : Nat) (0 : Nat)])
      b_3 →
      ∀ (b_4 : Nat),
      Fresh m.sz
      ((((m'.newBlock b [Value.slice a l.length c]).newBlock b_1 [Value.slice none (0 : Nat) (0 : Nat)]).newBlock b_2
      [Value.slice none (0 : Nat) (0 : Nat)]).newBlock
      b_3 [Value.bool false])
      b_4 →
      ∀ (b_5 : Nat),
      Fresh m.sz
      (((((m'.newBlock b [Value.slice a l.length c]).newBlock b_1 [Value.slice none (0 : Nat) (0 : Nat)]).newBlock b_2
      [Value.slice none (0 : Nat) (0 : Nat)]).newBlock
      b_3 [Value.bool false]).newBlock
      b_4 [Value.slice none (0 : Nat) (0 : Nat)])
      b_5 →
      ∃ (gf : FuncId),
      ∃ (caps_1 : List Value),
      Value.func (Fn.func f) #[] caps.toArray = Value.func (Fn.func gf) #[] caps_1.toArray ∧
      ∃ (E : Type),
      ∃ (enc : E → List Value),
      ∃ (xs : List E),
      ∃ (mi : M),
      ∃ (J : List E → ToX → Prop),
      IterC Try.prog gf caps_1 mi enc xs ∧
      (∀ (e : E),
      (enc e).length = (2 : Nat) ∧
      ∃ (s : ByteArray),
      ∃ (n : Int),
      ∃ (s_1 : ByteArray),
      ∃ (n_1 : Int),
      enc e =
      [Value.string s, Value.agg #[Value.int IntKind.i64 n, Value.string s_1, Value.int IntKind.i64 n_1]]) ∧
      (∃ (x : ToX),
      (J [] x ∧ True) ∧
      (((((m'.newBlock b [Value.slice a l.length c]).newBlock b_1 [Value.slice none (0 : Nat) (0 : Nat)]).newBlock b_2
      [Value.slice none (0 : Nat) (0 : Nat)]).newBlock
      b_3 [Value.bool false]).newBlock
      b_4 [Value.slice none (0 : Nat) (0 : Nat)]).newBlock
      b_5 [Value.slice none (0 : Nat) (0 : Nat)] =
      x.m) ∧
      (∀ (pre : List E) (x : ToX), J pre x → True → Kn mi x.m) ∧
      (∀ (pre : List E) (e : E) (x : ToX),
      pre ++ [e] <+: xs →
      J pre x →
      True →
      ∀ (s : ByteArray) (n : Int) (s_1 : ByteArray) (n_1 : Int),
      enc e =
      [Value.string s,
      Value.agg #[Value.int IntKind.i64 n, Value.string s_1, Value.int IntKind.i64 n_1]] →
      true = true ∧
      ∃ (a : Option Addr),
      ∃ (n_2 : Nat),
      ∃ (c : Nat),
      CellsAt x.m b_4 (0 : Nat) [Value.slice a n_2 c] ∧
      ∃ (a_8 : Option Addr),
      ∃ (n_3 : Nat),
      ∃ (c_1 : Nat),
      CellsAt x.m b_5 (0 : Nat) [Value.slice a_8 n_3 c_1] ∧
      (true = true ∧
      ∀ (b_6 : Nat),
      x.m.sz ≤ b_6 →
      (KeepB b_4 x.m (x.m.newBlock b_6 [Value.string s]) ∧
      KeepB b_5 x.m (x.m.newBlock b_6 [Value.string s]) ∧ True ∧ True) ∧
      (∃ (old : List Value),
      ∃ (src : List Value),
      AppPre m.sz (fun (x : Nat) => False)
      (x.m.newBlock b_6 [Value.string s]) (1 : Nat) (16 : Nat) a n_2
      c (some { block := b_6, off := (0 : Nat) : Addr }) (1 : Nat)
      old src ∧
      ∀ (a' : Option Addr) (c' : Nat) (m' : M),
      AppPost Try.prog (9 : Nat) (x.m.newBlock b_6 [Value.string s])
      (1 : Nat) a n_2 c (1 : Nat) old src a' c' m' →
      (KeepB b_5 (x.m.newBlock b_6 [Value.string s]) m' ∧
      True ∧ True) ∧
      (true = true ∧
      ∀ (b_7 : Nat),
      m'.sz ≤ b_7 →
      (KeepB b_4 m'
      (m'.newBlock b_7
      [Value.int IntKind.i64 n,
      Value.string s_1,
      Value.int IntKind.i64 n_1]) ∧
      KeepB b_5 m'
      (m'.newBlock b_7
      [Value.int IntKind.i64 n,
      Value.string s_1,
      Value.int IntKind.i64 n_1]) ∧
      True) ∧
      (∃ (old : List Value),
      ∃ (src : List Value),
      AppPre m.sz (fun (x : Nat) => False)
      (m'.newBlock b_7
      [Value.int IntKind.i64 n,
      Value.string s_1,
      Value.int IntKind.i64 n_1])
      (3 : Nat) (32 : Nat) a_8 n_3 c_1
      (some
      { block := b_7, off := (0 : Nat) : Addr })
      (1 : Nat) old src ∧
      ∀ (a'_1 : Option Addr) (c'_1 : Nat)
      (m'_1 : M),
      AppPost Try.prog (39 : Nat)
      (m'.newBlock b_7
      [Value.int IntKind.i64 n,
      Value.string s_1,
      Value.int IntKind.i64 n_1])
      (3 : Nat) a_8 n_3 c_1 (1 : Nat)
      old src a'_1 c'_1 m'_1 →
      (Wr m.sz (fun (x : Nat) => False)
      m'_1 b_4 (0 : Nat)
      #[Value.slice a'
      (n_2 + (1 : Nat))
      c'].size ∧
      (Wr m.sz
      (fun (x : Nat) => False)
      (m'_1.setCells b_4
      (0 : Nat)
      [Value.slice a'
      (n_2 + (1 : Nat))
      c'])
      b_5 (0 : Nat)
      #[Value.slice a'_1
      (n_3 + (1 : Nat))
      c'_1].size ∧
      ∃ (a : Option Addr),
      ∃ (n : Nat),
      ∃ (c : Nat),
      CellsAt
      ((m'_1.setCells
      b_4
      (0 : Nat)
      [Value.slice
      a'
      (n_2 +
      (1 :
      Nat))
      c']).setCells
      b_5 (0 : Nat)
      [Value.slice
      a'_1
      (n_3 +
      (1 : Nat))
      c'_1])
      b_4 (0 : Nat)
      [Value.slice a n
      c] ∧
      ∃ (a : Option Addr),
      ∃ (n_4 : Nat),
      ∃ (c : Nat),
      CellsAt
      ((m'_1.setCells
      b_4
      (0 :
      Nat)
      [Value.slice
      a'
      (n_2 +
      (1 :
      Nat))
      c']).setCells
      b_5
      (0 :
      Nat)
      [Value.slice
      a'_1
      (n_3 +
      (1 :
      Nat))
      c'_1])
      b
      (0 : Nat)
      [Value.slice
      a n_4
      c] ∧
      ifB
      (decide
      ((↑n :
      Int) >
      (↑n_4 :
      Int)))
      (Wr m.sz
      (fun
      (x :
      Nat) =>
      False)
      ((m'_1.setCells
      b_4
      (0 :
      Nat)
      [Value.slice
      a'
      (n_2 +
      (1 :
      Nat))
      c']).setCells
      b_5
      (0 :
      Nat)
      [Value.slice
      a'_1
      (n_3 +
      (1 :
      Nat))
      c'_1])
      b_1
      (0 :
      Nat)
      (1 :
      Nat) ∧
      Wr m.sz
      (fun
      (x :
      Nat) =>
      False)
      (((m'_1.setCells
      b_4
      (0 :
      Nat)
      [Value.slice
      a'
      (n_2 +
      (1 :
      Nat))
      c']).setCells
      b_5
      (0 :
      Nat)
      [Value.slice
      a'_1
      (n_3 +
      (1 :
      Nat))
      c'_1]).setCells
      b_1
      (0 :
      Nat)
      [Value.slice
      none
      (0 :
      Nat)
      (0 :
      Nat)])
      b_2
      (0 :
      Nat)
      (1 :
      Nat) ∧
      Wr
      m.sz
      (fun
      (x :
      Nat) =>
      False)
      ((((m'_1.setCells
      b_4
      (0 :
      Nat)
      [Value.slice
      a'
      (n_2 +
      (1 :
      Nat))
      c']).setCells
      b_5
      (0 :
      Nat)
      [Value.slice
      a'_1
      (n_3 +
      (1 :
      Nat))
      c'_1]).setCells
      b_1
      (0 :
      Nat)
      [Value.slice
      none
      (0 :
      Nat)
      (0 :
      Nat)]).setCells
      b_2
      (0 :
      Nat)
      [Value.slice
      none
      (0 :
      Nat)
      (0 :
      Nat)])
      b_3
      (0 :
      Nat)
      (1 :
      Nat) ∧
      ∃ (a
      :
      Option
      Addr),
      ∃
      (n
      :
      Nat),
      ∃
      (c
      :
      Nat),
      CellsAt
      (((((m'_1.setCells
      b_4
      (0 :
      Nat)
      [Value.slice
      a'
      (n_2 +
      (1 :
      Nat))
      c']).setCells
      b_5
      (0 :
      Nat)
      [Value.slice
      a'_1
      (n_3 +
      (1 :
      Nat))
      c'_1]).setCells
      b_1
      (0 :
      Nat)
      [Value.slice
      none
      (0 :
      Nat)
      (0 :
      Nat)]).setCells
      b_2
      (0 :
      Nat)
      [Value.slice
      none
      (0 :
      Nat)
      (0 :
      Nat)]).setCells
      b_3
      (0 :
      Nat)
      [Value.bool
      false])
      b_1
      (0 :
      Nat)
      [Value.slice
      a
      n
      c] ∧
      ∃
      (a_10
      :
      Option
      Addr),
      ∃
      (n_5
      :
      Nat),
      ∃
      (c_2
      :
      Nat),
      CellsAt
      (((((m'_1.setCells
      b_4
      (0 :
      Nat)
      [Value.slice
      a'
      (n_2 +
      (1 :
      Nat))
      c']).setCells
      b_5
      (0 :
      Nat)
      [Value.slice
      a'_1
      (n_3 +
      (1 :
      Nat))
      c'_1]).setCells
      b_1
      (0 :
      Nat)
      [Value.slice
      none
      (0 :
      Nat)
      (0 :
      Nat)]).setCells
      b_2
      (0 :
      Nat)
      [Value.slice
      none
      (0 :
      Nat)
      (0 :
      Nat)]).setCells
      b_3
      (0 :
      Nat)
      [Value.bool
      false])
      b_2
      (0 :
      Nat)
      [Value.slice
      a_10
      n_5
      c_2] ∧
      ∃
      (b
      :
      Bool),
      CellsAt
      (((((m'_1.setCells
      b_4
      (0 :
      Nat)
      [Value.slice
      a'
      (n_2 +
      (1 :
      Nat))
      c']).setCells
      b_5
      (0 :
      Nat)
      [Value.slice
      a'_1
      (n_3 +
      (1 :
      Nat))
      c'_1]).setCells
      b_1
      (0 :
      Nat)
      [Value.slice
      none
      (0 :
      Nat)
      (0 :
      Nat)]).setCells
      b_2
      (0 :
      Nat)
      [Value.slice
      none
      (0 :
      Nat)
      (0 :
      Nat)]).setCells
      b_3
      (0 :
      Nat)
      [Value.bool
      false])
      b_3
      (0 :
      Nat)
      [Value.bool
      b] ∧
      Done
      (ToldR
      l
      (Value.tuple
      #[Value.slice
      a
      n
      c,
      Value.slice
      a_10
      n_5
      c_2,
      Value.bool
      b])
      (((((m'_1.setCells
      b_4
      (0 :
      Nat)
      [Value.slice
      a'
      (n_2 +
      (1 :
      Nat))
      c']).setCells
      b_5
      (0 :
      Nat)
      [Value.slice
      a'_1
      (n_3 +
      (1 :
      Nat))
      c'_1]).setCells
      b_1
      (0 :
      Nat)
      [Value.slice
      none
      (0 :
      Nat)
      (0 :
      Nat)]).setCells
      b_2
      (0 :
      Nat)
      [Value.slice
      none
      (0 :
      Nat)
      (0 :
      Nat)]).setCells
      b_3
      (0 :
      Nat)
      [Value.bool
      false])))
      (∃ (x' :
      ToX),
      (J
      (pre ++
      [e])
      x' ∧
      True) ∧
      (m'_1.setCells
      b_4
      (0 :
      Nat)
      [Value.slice
      a'
      (n_2 +
      (1 :
      Nat))
      c']).setCells
      b_5
      (0 :
      Nat)
      [Value.slice
      a'_1
      (n_3 +
      (1 :
      Nat))
      c'_1] =
      x'.m)) ∧
      True) ∧
      True) ∧
      True) ∧
      True) ∧
      (true = true ∧
      ∀ (b_7 : Nat),
      max x.m.sz (b_6 + (1 : Nat)) ≤ b_7 →
      (KeepB b_4 (x.m.newBlock b_6 [Value.string s])
      ((x.m.newBlock b_6 [Value.string s]).newBlock b_7
      [Value.int IntKind.i64 n, Value.string s_1,
      Value.int IntKind.i64 n_1]) ∧
      KeepB b_5 (x.m.newBlock b_6 [Value.string s])
      ((x.m.newBlock b_6 [Value.string s]).newBlock b_7
      [Value.int IntKind.i64 n, Value.string s_1,
      Value.int IntKind.i64 n_1]) ∧
      True) ∧
      (∃ (old : List Value),
      ∃ (src : List Value),
      AppPre m.sz (fun (x : Nat) => False)
      ((x.m.newBlock b_6 [Value.string s]).newBlock b_7
      [Value.int IntKind.i64 n, Value.string s_1,
      Value.int IntKind.i64 n_1])
      (1 : Nat) (16 : Nat) a n_2 c
      (some { block := b_6, off := (0 : Nat) : Addr })
      (1 : Nat) old src ∧
      ∀ (a' : Option Addr) (c' : Nat) (m' : M),
      AppPost Try.prog (9 : Nat)
      ((x.m.newBlock b_6 [Value.string s]).newBlock
      b_7
      [Value.int IntKind.i64 n, Value.string s_1,
      Value.int IntKind.i64 n_1])
      (1 : Nat) a n_2 c (1 : Nat) old src a' c' m' →
      (KeepB b_5
      ((x.m.newBlock b_6
      [Value.string s]).newBlock
      b_7
      [Value.int IntKind.i64 n,
      Value.string s_1,
      Value.int IntKind.i64 n_1])
      m' ∧
      True ∧ True) ∧
      (∃ (old : List Value),
      ∃ (src : List Value),
      AppPre m.sz (fun (x : Nat) => False) m'
      (3 : Nat) (32 : Nat) a_8 n_3 c_1
      (some
      { block := b_7, off := (0 : Nat) : Addr })
      (1 : Nat) old src ∧
      ∀ (a'_1 : Option Addr) (c'_1 : Nat)
      (m'_1 : M),
      AppPost Try.prog (39 : Nat) m'
      (3 : Nat) a_8 n_3 c_1 (1 : Nat)
      old src a'_1 c'_1 m'_1 →
      (Wr m.sz (fun (x : Nat) => False)
      m'_1 b_4 (0 : Nat)
      #[Value.slice a'
      (n_2 + (1 : Nat))
      c'].size ∧
      (Wr m.sz
      (fun (x : Nat) => False)
      (m'_1.setCells b_4
      (0 : Nat)
      [Value.slice a'
      (n_2 + (1 : Nat))
      c'])
      b_5 (0 : Nat)
      #[Value.slice a'_1
      (n_3 + (1 : Nat))
      c'_1].size ∧
      ∃ (a : Option Addr),
      ∃ (n : Nat),
      ∃ (c : Nat),
      CellsAt
      ((m'_1.setCells
      b_4
      (0 : Nat)
      [Value.slice
      a'
      (n_2 +
      (1 :
      Nat))
      c']).setCells
      b_5 (0 : Nat)
      [Value.slice
      a'_1
      (n_3 +
      (1 :
      Nat))
      c'_1])
      b_4 (0 : Nat)
      [Value.slice a n
      c] ∧
      ∃ (a :
      Option Addr),
      ∃ (n_4 : Nat),
      ∃ (c : Nat),
      CellsAt
      ((m'_1.setCells
      b_4
      (0 :
      Nat)
      [Value.slice
      a'
      (n_2 +
      (1 :
      Nat))
      c']).setCells
      b_5
      (0 :
      Nat)
      [Value.slice
      a'_1
      (n_3 +
      (1 :
      Nat))
      c'_1])
      b
      (0 :
      Nat)
      [Value.slice
      a
      n_4
      c] ∧
      ifB
      (decide
      ((↑n :
      Int) >
      (↑n_4 :
      Int)))
      (Wr m.sz
      (fun
      (x :
      Nat) =>
      False)
      ((m'_1.setCells
      b_4
      (0 :
      Nat)
      [Value.slice
      a'
      (n_2 +
      (1 :
      Nat))
      c']).setCells
      b_5
      (0 :
      Nat)
      [Value.slice
      a'_1
      (n_3 +
      (1 :
      Nat))
      c'_1])
      b_1
      (0 :
      Nat)
      (1 :
      Nat) ∧
      Wr
      m.sz
      (fun
      (x :
      Nat) =>
      False)
      (((m'_1.setCells
      b_4
      (0 :
      Nat)
      [Value.slice
      a'
      (n_2 +
      (1 :
      Nat))
      c']).setCells
      b_5
      (0 :
      Nat)
      [Value.slice
      a'_1
      (n_3 +
      (1 :
      Nat))
      c'_1]).setCells
      b_1
      (0 :
      Nat)
      [Value.slice
      none
      (0 :
      Nat)
      (0 :
      Nat)])
      b_2
      (0 :
      Nat)
      (1 :
      Nat) ∧
      Wr
      m.sz
      (fun
      (x :
      Nat) =>
      False)
      ((((m'_1.setCells
      b_4
      (0 :
      Nat)
      [Value.slice
      a'
      (n_2 +
      (1 :
      Nat))
      c']).setCells
      b_5
      (0 :
      Nat)
      [Value.slice
      a'_1
      (n_3 +
      (1 :
      Nat))
      c'_1]).setCells
      b_1
      (0 :
      Nat)
      [Value.slice
      none
      (0 :
      Nat)
      (0 :
      Nat)]).setCells
      b_2
      (0 :
      Nat)
      [Value.slice
      none
      (0 :
      Nat)
      (0 :
      Nat)])
      b_3
      (0 :
      Nat)
      (1 :
      Nat) ∧
      ∃
      (a
      :
      Option
      Addr),
      ∃
      (n
      :
      Nat),
      ∃
      (c
      :
      Nat),
      CellsAt
      (((((m'_1.setCells
      b_4
      (0 :
      Nat)
      [Value.slice
      a'
      (n_2 +
      (1 :
      Nat))
      c']).setCells
      b_5
      (0 :
      Nat)
      [Value.slice
      a'_1
      (n_3 +
      (1 :
      Nat))
      c'_1]).setCells
      b_1
      (0 :
      Nat)
      [Value.slice
      none
      (0 :
      Nat)
      (0 :
      Nat)]).setCells
      b_2
      (0 :
      Nat)
      [Value.slice
      none
      (0 :
      Nat)
      (0 :
      Nat)]).setCells
      b_3
      (0 :
      Nat)
      [Value.bool
      false])
      b_1
      (0 :
      Nat)
      [Value.slice
      a
      n
      c] ∧
      ∃
      (a_11
      :
      Option
      Addr),
      ∃
      (n_5
      :
      Nat),
      ∃
      (c_2
      :
      Nat),
      CellsAt
      (((((m'_1.setCells
      b_4
      (0 :
      Nat)
      [Value.slice
      a'
      (n_2 +
      (1 :
      Nat))
      c']).setCells
      b_5
      (0 :
      Nat)
      [Value.slice
      a'_1
      (n_3 +
      (1 :
      Nat))
      c'_1]).setCells
      b_1
      (0 :
      Nat)
      [Value.slice
      none
      (0 :
      Nat)
      (0 :
      Nat)]).setCells
      b_2
      (0 :
      Nat)
      [Value.slice
      none
      (0 :
      Nat)
      (0 :
      Nat)]).setCells
      b_3
      (0 :
      Nat)
      [Value.bool
      false])
      b_2
      (0 :
      Nat)
      [Value.slice
      a_11
      n_5
      c_2] ∧
      ∃
      (b
      :
      Bool),
      CellsAt
      (((((m'_1.setCells
      b_4
      (0 :
      Nat)
      [Value.slice
      a'
      (n_2 +
      (1 :
      Nat))
      c']).setCells
      b_5
      (0 :
      Nat)
      [Value.slice
      a'_1
      (n_3 +
      (1 :
      Nat))
      c'_1]).setCells
      b_1
      (0 :
      Nat)
      [Value.slice
      none
      (0 :
      Nat)
      (0 :
      Nat)]).setCells
      b_2
      (0 :
      Nat)
      [Value.slice
      none
      (0 :
      Nat)
      (0 :
      Nat)]).setCells
      b_3
      (0 :
      Nat)
      [Value.bool
      false])
      b_3
      (0 :
      Nat)
      [Value.bool
      b] ∧
      Done
      (ToldR
      l
      (Value.tuple
      #[Value.slice
      a
      n
      c,
      Value.slice
      a_11
      n_5
      c_2,
      Value.bool
      b])
      (((((m'_1.setCells
      b_4
      (0 :
      Nat)
      [Value.slice
      a'
      (n_2 +
      (1 :
      Nat))
      c']).setCells
      b_5
      (0 :
      Nat)
      [Value.slice
      a'_1
      (n_3 +
      (1 :
      Nat))
      c'_1]).setCells
      b_1
      (0 :
      Nat)
      [Value.slice
      none
      (0 :
      Nat)
      (0 :
      Nat)]).setCells
      b_2
      (0 :
      Nat)
      [Value.slice
      none
      (0 :
      Nat)
      (0 :
      Nat)]).setCells
      b_3
      (0 :
      Nat)
      [Value.bool
      false])))
      (∃ (x' :
      ToX),
      (J
      (pre ++
      [e])
      x' ∧
      True) ∧
      (m'_1.setCells
      b_4
      (0 :
      Nat)
      [Value.slice
      a'
      (n_2 +
      (1 :
      Nat))
      c']).setCells
      b_5
      (0 :
      Nat)
      [Value.slice
      a'_1
      (n_3 +
      (1 :
      Nat))
      c'_1] =
      x'.m)) ∧
      True) ∧
      True) ∧
      True) ∧
      True) ∧
      True) ∧
      (true = true ∧
      ∀ (b_6 : Nat),
      x.m.sz ≤ b_6 →
      (KeepB b_4 x.m
      (x.m.newBlock b_6
      [Value.int IntKind.i64 n, Value.string s_1,
      Value.int IntKind.i64 n_1]) ∧
      KeepB b_5 x.m
      (x.m.newBlock b_6
      [Value.int IntKind.i64 n, Value.string s_1,
      Value.int IntKind.i64 n_1]) ∧
      True) ∧
      (true = true ∧
      ∀ (b_7 : Nat),
      max x.m.sz (b_6 + (1 : Nat)) ≤ b_7 →
      (KeepB b_4
      (x.m.newBlock b_6
      [Value.int IntKind.i64 n, Value.string s_1,
      Value.int IntKind.i64 n_1])
      ((x.m.newBlock b_6
      [Value.int IntKind.i64 n, Value.string s_1,
      Value.int IntKind.i64 n_1]).newBlock
      b_7 [Value.string s]) ∧
      KeepB b_5
      (x.m.newBlock b_6
      [Value.int IntKind.i64 n, Value.string s_1,
      Value.int IntKind.i64 n_1])
      ((x.m.newBlock b_6
      [Value.int IntKind.i64 n, Value.string s_1,
      Value.int IntKind.i64 n_1]).newBlock
      b_7 [Value.string s]) ∧
      True ∧ True) ∧
      (∃ (old : List Value),
      ∃ (src : List Value),
      AppPre m.sz (fun (x : Nat) => False)
      ((x.m.newBlock b_6
      [Value.int IntKind.i64 n, Value.string s_1,
      Value.int IntKind.i64 n_1]).newBlock
      b_7 [Value.string s])
      (1 : Nat) (16 : Nat) a n_2 c
      (some { block := b_7, off := (0 : Nat) : Addr })
      (1 : Nat) old src ∧
      ∀ (a' : Option Addr) (c' : Nat) (m' : M),
      AppPost Try.prog (9 : Nat)
      ((x.m.newBlock b_6
      [Value.int IntKind.i64 n,
      Value.string s_1,
      Value.int IntKind.i64 n_1]).newBlock
      b_7 [Value.string s])
      (1 : Nat) a n_2 c (1 : Nat) old src a' c' m' →
      (KeepB b_5
      ((x.m.newBlock b_6
      [Value.int IntKind.i64 n,
      Value.string s_1,
      Value.int IntKind.i64
      n_1]).newBlock
      b_7 [Value.string s])
      m' ∧
      True ∧ True) ∧
      (∃ (old : List Value),
      ∃ (src : List Value),
      AppPre m.sz (fun (x : Nat) => False) m'
      (3 : Nat) (32 : Nat) a_8 n_3 c_1
      (some
      { block := b_6, off := (0 : Nat) : Addr })
      (1 : Nat) old src ∧
      ∀ (a'_1 : Option Addr) (c'_1 : Nat)
      (m'_1 : M),
      AppPost Try.prog (39 : Nat) m'
      (3 : Nat) a_8 n_3 c_1 (1 : Nat)
      old src a'_1 c'_1 m'_1 →
      (Wr m.sz (fun (x : Nat) => False)
      m'_1 b_4 (0 : Nat)
      #[Value.slice a'
      (n_2 + (1 : Nat))
      c'].size ∧
      (Wr m.sz
      (fun (x : Nat) => False)
      (m'_1.setCells b_4
      (0 : Nat)
      [Value.slice a'
      (n_2 + (1 : Nat))
      c'])
      b_5 (0 : Nat)
      #[Value.slice a'_1
      (n_3 + (1 : Nat))
      c'_1].size ∧
      ∃ (a : Option Addr),
      ∃ (n : Nat),
      ∃ (c : Nat),
      CellsAt
      ((m'_1.setCells
      b_4
      (0 : Nat)
      [Value.slice
      a'
      (n_2 +
      (1 :
      Nat))
      c']).setCells
      b_5 (0 : Nat)
      [Value.slice
      a'_1
      (n_3 +
      (1 :
      Nat))
      c'_1])
      b_4 (0 : Nat)
      [Value.slice a n
      c] ∧
      ∃ (a :
      Option Addr),
      ∃ (n_4 : Nat),
      ∃ (c : Nat),
      CellsAt
      ((m'_1.setCells
      b_4
      (0 :
      Nat)
      [Value.slice
      a'
      (n_2 +
      (1 :
      Nat))
      c']).setCells
      b_5
      (0 :
      Nat)
      [Value.slice
      a'_1
      (n_3 +
      (1 :
      Nat))
      c'_1])
      b
      (0 :
      Nat)
      [Value.slice
      a
      n_4
      c] ∧
      ifB
      (decide
      ((↑n :
      Int) >
      (↑n_4 :
      Int)))
      (Wr m.sz
      (fun
      (x :
      Nat) =>
      False)
      ((m'_1.setCells
      b_4
      (0 :
      Nat)
      [Value.slice
      a'
      (n_2 +
      (1 :
      Nat))
      c']).setCells
      b_5
      (0 :
      Nat)
      [Value.slice
      a'_1
      (n_3 +
      (1 :
      Nat))
      c'_1])
      b_1
      (0 :
      Nat)
      (1 :
      Nat) ∧
      Wr
      m.sz
      (fun
      (x :
      Nat) =>
      False)
      (((m'_1.setCells
      b_4
      (0 :
      Nat)
      [Value.slice
      a'
      (n_2 +
      (1 :
      Nat))
      c']).setCells
      b_5
      (0 :
      Nat)
      [Value.slice
      a'_1
      (n_3 +
      (1 :
      Nat))
      c'_1]).setCells
      b_1
      (0 :
      Nat)
      [Value.slice
      none
      (0 :
      Nat)
      (0 :
      Nat)])
      b_2
      (0 :
      Nat)
      (1 :
      Nat) ∧
      Wr
      m.sz
      (fun
      (x :
      Nat) =>
      False)
      ((((m'_1.setCells
      b_4
      (0 :
      Nat)
      [Value.slice
      a'
      (n_2 +
      (1 :
      Nat))
      c']).setCells
      b_5
      (0 :
      Nat)
      [Value.slice
      a'_1
      (n_3 +
      (1 :
      Nat))
      c'_1]).setCells
      b_1
      (0 :
      Nat)
      [Value.slice
      none
      (0 :
      Nat)
      (0 :
      Nat)]).setCells
      b_2
      (0 :
      Nat)
      [Value.slice
      none
      (0 :
      Nat)
      (0 :
      Nat)])
      b_3
      (0 :
      Nat)
      (1 :
      Nat) ∧
      ∃
      (a
      :
      Option
      Addr),
      ∃
      (n
      :
      Nat),
      ∃
      (c
      :
      Nat),
      CellsAt
      (((((m'_1.setCells
      b_4
      (0 :
      Nat)
      [Value.slice
      a'
      (n_2 +
      (1 :
      Nat))
      c']).setCells
      b_5
      (0 :
      Nat)
      [Value.slice
      a'_1
      (n_3 +
      (1 :
      Nat))
      c'_1]).setCells
      b_1
      (0 :
      Nat)
      [Value.slice
      none
      (0 :
      Nat)
      (0 :
      Nat)]).setCells
      b_2
      (0 :
      Nat)
      [Value.slice
      none
      (0 :
      Nat)
      (0 :
      Nat)]).setCells
      b_3
      (0 :
      Nat)
      [Value.bool
      false])
      b_1
      (0 :
      Nat)
      [Value.slice
      a
      n
      c] ∧
      ∃
      (a_11
      :
      Option
      Addr),
      ∃
      (n_5
      :
      Nat),
      ∃
      (c_2
      :
      Nat),
      CellsAt
      (((((m'_1.setCells
      b_4
      (0 :
      Nat)
      [Value.slice
      a'
      (n_2 +
      (1 :
      Nat))
      c']).setCells
      b_5
      (0 :
      Nat)
      [Value.slice
      a'_1
      (n_3 +
      (1 :
      Nat))
      c'_1]).setCells
      b_1
      (0 :
      Nat)
      [Value.slice
      none
      (0 :
      Nat)
      (0 :
      Nat)]).setCells
      b_2
      (0 :
      Nat)
      [Value.slice
      none
      (0 :
      Nat)
      (0 :
      Nat)]).setCells
      b_3
      (0 :
      Nat)
      [Value.bool
      false])
      b_2
      (0 :
      Nat)
      [Value.slice
      a_11
      n_5
      c_2] ∧
      ∃
      (b
      :
      Bool),
      CellsAt
      (((((m'_1.setCells
      b_4
      (0 :
      Nat)
      [Value.slice
      a'
      (n_2 +
      (1 :
      Nat))
      c']).setCells
      b_5
      (0 :
      Nat)
      [Value.slice
      a'_1
      (n_3 +
      (1 :
      Nat))
      c'_1]).setCells
      b_1
      (0 :
      Nat)
      [Value.slice
      none
      (0 :
      Nat)
      (0 :
      Nat)]).setCells
      b_2
      (0 :
      Nat)
      [Value.slice
      none
      (0 :
      Nat)
      (0 :
      Nat)]).setCells
      b_3
      (0 :
      Nat)
      [Value.bool
      false])
      b_3
      (0 :
      Nat)
      [Value.bool
      b] ∧
      Done
      (ToldR
      l
      (Value.tuple
      #[Value.slice
      a
      n
      c,
      Value.slice
      a_11
      n_5
      c_2,
      Value.bool
      b])
      (((((m'_1.setCells
      b_4
      (0 :
      Nat)
      [Value.slice
      a'
      (n_2 +
      (1 :
      Nat))
      c']).setCells
      b_5
      (0 :
      Nat)
      [Value.slice
      a'_1
      (n_3 +
      (1 :
      Nat))
      c'_1]).setCells
      b_1
      (0 :
      Nat)
      [Value.slice
      none
      (0 :
      Nat)
      (0 :
      Nat)]).setCells
      b_2
      (0 :
      Nat)
      [Value.slice
      none
      (0 :
      Nat)
      (0 :
      Nat)]).setCells
      b_3
      (0 :
      Nat)
      [Value.bool
      false])))
      (∃ (x' :
      ToX),
      (J
      (pre ++
      [e])
      x' ∧
      True) ∧
      (m'_1.setCells
      b_4
      (0 :
      Nat)
      [Value.slice
      a'
      (n_2 +
      (1 :
      Nat))
      c']).setCells
      b_5
      (0 :
      Nat)
      [Value.slice
      a'_1
      (n_3 +
      (1 :
      Nat))
      c'_1] =
      x'.m)) ∧
      True) ∧
      True) ∧
      True) ∧
      True) ∧
      True) ∧
      True) ∧
      ∀ (x : ToX),
      J xs x →
      True →
      true = true ∧
      ∃ (a : Option Addr),
      ∃ (n : Nat),
      ∃ (c : Nat),
      CellsAt x.m b_4 (0 : Nat) [Value.slice a n c] ∧
      ∃ (a_8 : Option Addr),
      ∃ (n_1 : Nat),
      ∃ (c_1 : Nat),
      CellsAt x.m b_5 (0 : Nat) [Value.slice a_8 n_1 c_1] ∧
      (Wr m.sz (fun (x : Nat) => False) x.m b_1 (0 : Nat) #[Value.slice a n c].size ∧
      (KeepB b_5 x.m (x.m.setCells b_1 (0 : Nat) [Value.slice a n c]) ∧ True) ∧
      (Wr m.sz (fun (x : Nat) => False) (x.m.setCells b_1 (0 : Nat) [Value.slice a n c])
      b_2 (0 : Nat) #[Value.slice a_8 n_1 c_1].size ∧
      (Wr m.sz (fun (x : Nat) => False)
      ((x.m.setCells b_1 (0 : Nat) [Value.slice a n c]).setCells b_2 (0 : Nat)
      [Value.slice a_8 n_1 c_1])
      b_3 (0 : Nat) (1 : Nat) ∧
      ∃ (a_9 : Option Addr),
      ∃ (n_2 : Nat),
      ∃ (c_2 : Nat),
      CellsAt
      (((x.m.setCells b_1 (0 : Nat) [Value.slice a n c]).setCells b_2
      (0 : Nat) [Value.slice a_8 n_1 c_1]).setCells
      b_3 (0 : Nat) [Value.bool true])
      b_1 (0 : Nat) [Value.slice a_9 n_2 c_2] ∧
      ∃ (a_10 : Option Addr),
      ∃ (n_3 : Nat),
      ∃ (c_3 : Nat),
      CellsAt
      (((x.m.setCells b_1 (0 : Nat)
      [Value.slice a n c]).setCells
      b_2 (0 : Nat) [Value.slice a_8 n_1 c_1]).setCells
      b_3 (0 : Nat) [Value.bool true])
      b_2 (0 : Nat) [Value.slice a_10 n_3 c_3] ∧
      ∃ (b : Bool),
      CellsAt
      (((x.m.setCells b_1 (0 : Nat)
      [Value.slice a n c]).setCells
      b_2 (0 : Nat)
      [Value.slice a_8 n_1 c_1]).setCells
      b_3 (0 : Nat) [Value.bool true])
      b_3 (0 : Nat) [Value.bool b] ∧
      Done
      (ToldR l
      (Value.tuple
      #[Value.slice a_9 n_2 c_2,
      Value.slice a_10 n_3 c_3, Value.bool b])
      (((x.m.setCells b_1 (0 : Nat)
      [Value.slice a n c]).setCells
      b_2 (0 : Nat)
      [Value.slice a_8 n_1 c_1]).setCells
      b_3 (0 : Nat) [Value.bool true]))) ∧
      True) ∧
      True) ∧
      True) (by kernel_rfl) ?_
  refine ⟨rfl, _, noS, fun n hn => (rg_all l a c hl h0 _ (h.sz hn)).monoW fun v m' hag ⟨kb, a', c', hv, hkb, hk0, hr⟩ => ⟨37, [.pointer (some ⟨kb, 0, none⟩)], hv, fun b f0 b1 f1 b2 f2 b3 f3 b4 f4 b5 f5 => ⟨37, [.pointer (some ⟨kb, 0, none⟩)], rfl, ByteArray × Pl, fun e => [.string e.1, plv e.2], endsL l, m'.cut,
    fun pre x => ToJ m.sz l a c b b1 b2 b3 b4 b5 m' pre x.m, all_it l (by omega) (by simp only [M.cut, if_pos hkb.2]; exact hk0) hr.cut, fun e => ⟨rfl, _, _, _, _, rfl⟩, ⟨⟨(((((m'.newBlock b [.slice a l.length c]).newBlock b1 [.slice none 0 0]).newBlock b2 [.slice none 0 0]).newBlock b3 [.bool false]).newBlock b4 [.slice none 0 0]).newBlock b5 [.slice none 0 0]⟩, ⟨?_, trivial⟩, rfl⟩, ?_, ?_, ?_⟩⟩⟩
  all_goals (
    have n01 : b ≠ b1 := fresh_ne2 f1 nb_same
    have n02 : b ≠ b2 := fresh_ne2 f2 (by rw [nb_ne n01, nb_same]; rfl)
    have n12 : b1 ≠ b2 := fresh_ne2 f2 nb_same
    have n03 : b ≠ b3 := fresh_ne2 f3 (by rw [nb_ne n02, nb_ne n01, nb_same]; rfl)
    have n13 : b1 ≠ b3 := fresh_ne2 f3 (by rw [nb_ne n12, nb_same]; rfl)
    have n23 : b2 ≠ b3 := fresh_ne2 f3 nb_same
    have n04 : b ≠ b4 := fresh_ne2 f4 (by rw [nb_ne n03, nb_ne n02, nb_ne n01, nb_same]; rfl)
    have n14 : b1 ≠ b4 := fresh_ne2 f4 (by rw [nb_ne n13, nb_ne n12, nb_same]; rfl)
    have n24 : b2 ≠ b4 := fresh_ne2 f4 (by rw [nb_ne n23, nb_same]; rfl)
    have n34 : b3 ≠ b4 := fresh_ne2 f4 nb_same
    have n05 : b ≠ b5 := fresh_ne2 f5 (by rw [nb_ne n04, nb_ne n03, nb_ne n02, nb_ne n01, nb_same]; rfl)
    have n15 : b1 ≠ b5 := fresh_ne2 f5 (by rw [nb_ne n14, nb_ne n13, nb_ne n12, nb_same]; rfl)
    have n25 : b2 ≠ b5 := fresh_ne2 f5 (by rw [nb_ne n24, nb_ne n23, nb_same]; rfl)
    have n35 : b3 ≠ b5 := fresh_ne2 f5 (by rw [nb_ne n34, nb_same]; rfl)
    have n45 : b4 ≠ b5 := fresh_ne2 f5 nb_same
    have k0 : ∀ o, m'.π b o = none := f0.cells
    have k1 : ∀ o, m'.π b1 o = none := fun o => by have := f1.cells o; rwa [nb_ne n01.symm] at this
    have k2 : ∀ o, m'.π b2 o = none := fun o => by have := f2.cells o; rwa [nb_ne n12.symm, nb_ne n02.symm] at this
    have k3 : ∀ o, m'.π b3 o = none := fun o => by have := f3.cells o; rwa [nb_ne n23.symm, nb_ne n13.symm, nb_ne n03.symm] at this
    have k4 : ∀ o, m'.π b4 o = none := fun o => by have := f4.cells o; rwa [nb_ne n34.symm, nb_ne n24.symm, nb_ne n14.symm, nb_ne n04.symm] at this
    have k5 : ∀ o, m'.π b5 o = none := fun o => by have := f5.cells o; rwa [nb_ne n45.symm, nb_ne n35.symm, nb_ne n25.symm, nb_ne n15.symm, nb_ne n05.symm] at this
    have hsz : m.sz ≤ m'.sz := Nat.le_trans hn hag.2.2)
  · dsimp only
    refine ⟨⟨none, 0, none, 0, ⟨Two.nil, fun _ _ e => (by cases e), fun _ _ e => (by cases e), fun x hx => ?_, by simp only [newBlock_sz]; omega⟩, ?_, ?_⟩, ?_, ⟨.slice none 0 0, ?_⟩, ⟨.slice none 0 0, ?_⟩, ⟨.bool false, ?_⟩, ?_, fun bb o v hlt hv => ?_⟩
    · simp only [newBlock_sz]
      rcases hx.out with e | e | e | e | e | e | ⟨e, -⟩ <;> omega
    · rw [nb_ne n45, nb_same]; rfl
    · rw [nb_same]; rfl
    · rw [nb_ne n05, nb_ne n04, nb_ne n03, nb_ne n02, nb_ne n01, nb_same]; rfl
    · rw [nb_ne n15, nb_ne n14, nb_ne n13, nb_ne n12, nb_same]; rfl
    · rw [nb_ne n25, nb_ne n24, nb_ne n23, nb_same]; rfl
    · rw [nb_ne n35, nb_ne n34, nb_same]; rfl
    · simp [M.newBlock]
    · have e0 : bb ≠ b := fun e => by subst e; rw [k0] at hv; cases hv
      have e1 : bb ≠ b1 := fun e => by subst e; rw [k1] at hv; cases hv
      have e2 : bb ≠ b2 := fun e => by subst e; rw [k2] at hv; cases hv
      have e3 : bb ≠ b3 := fun e => by subst e; rw [k3] at hv; cases hv
      have e4 : bb ≠ b4 := fun e => by subst e; rw [k4] at hv; cases hv
      have e5 : bb ≠ b5 := fun e => by subst e; rw [k5] at hv; cases hv
      rw [nb_ne e5, nb_ne e4, nb_ne e3, nb_ne e2, nb_ne e1, nb_ne e0]
      exact hv
  · rintro pre x hj - bb o v hv
    simp only [M.cut] at hv
    split at hv
    · rename_i hlt; exact hj.kn bb o v hlt hv
    · cases hv
  · rintro pre e x hpre ⟨⟨ea, ec, pa, pc, hG, h4, h5⟩, hd, ⟨v1, h1⟩, ⟨v2, h2⟩, ⟨v3, h3⟩, ⟨u1, u2, u3, u4, u5⟩, kn⟩ - s nn s1 n1 he
    have hlen : pre.length + 1 ≤ l.length := by
      have := hpre.length_le
      simpa [endsL] using this
    obtain ⟨xm⟩ := x
    simp only at hG h4 h5 hd h1 h2 h3 u1 u2 u3 u4 u5 kn ⊢
    simp only [List.cons.injEq, Value.string.injEq, Value.agg.injEq, Array.mk.injEq, Value.int.injEq, true_and, and_true] at he
    obtain ⟨he1, he2, he3, he4⟩ := he
    have hev : encPl e.2 = [I nn, .string s1, I n1] := by simp [encPl, he2, he3, he4]
    have gb : ToG b b1 b2 b3 b4 b5 m' b := ⟨.inl rfl⟩
    have gb1 : ToG b b1 b2 b3 b4 b5 m' b1 := ⟨.inr (.inl rfl)⟩
    have gb2 : ToG b b1 b2 b3 b4 b5 m' b2 := ⟨.inr (.inr (.inl rfl))⟩
    have gb3 : ToG b b1 b2 b3 b4 b5 m' b3 := ⟨.inr (.inr (.inr (.inl rfl)))⟩
    have gb4 : ToG b b1 b2 b3 b4 b5 m' b4 := ⟨.inr (.inr (.inr (.inr (.inl rfl))))⟩
    have gb5 : ToG b b1 b2 b3 b4 b5 m' b5 := ⟨.inr (.inr (.inr (.inr (.inr (.inl rfl)))))⟩
    have tl : ∀ (m2 : M) (x1 : Option Addr) (y1 : Nat) (x2 : Option Addr) (y2 : Nat), Gr m.sz (ToG b b1 b2 b3 b4 b5 m') m2 1 x1 (pre.length + 1) y1 (stv pre ++ [.string s]) 3 x2 (pre.length + 1) y2 (plv2 pre ++ [I nn, .string s1, I n1]) → Keep (ToG b b1 b2 b3 b4 b5 m') xm m2 →
        Wr m.sz (fun _ => False) m2 b4 0 1 ∧ Wr m.sz (fun _ => False) (m2.setCells b4 0 [.slice x1 (pre.length + 1) y1]) b5 0 1 ∧ ((m2.setCells b4 0 [.slice x1 (pre.length + 1) y1]).setCells b5 0 [.slice x2 (pre.length + 1) y2]).π b4 0 = some (.slice x1 (pre.length + 1) y1) ∧
          ((m2.setCells b4 0 [.slice x1 (pre.length + 1) y1]).setCells b5 0 [.slice x2 (pre.length + 1) y2]).π b 0 = some (.slice a l.length c) ∧
          ToJ m.sz l a c b b1 b2 b3 b4 b5 m' (pre ++ [e]) ((m2.setCells b4 0 [.slice x1 (pre.length + 1) y1]).setCells b5 0 [.slice x2 (pre.length + 1) y2]) := fun m2 x1 y1 x2 y2 hG2 hK => by
      have p4 : m2.π b4 0 = _ := (congrFun (hK.π b4 gb4) 0).trans h4
      have p5 : m2.π b5 0 = _ := (congrFun (hK.π b5 gb5) 0).trans h5
      refine ⟨wr1 f4.lo (hK.uf _ gb4 u4) p4, wr1 f5.lo (hK.uf _ gb5 u5) (by rw [sc_ne n45.symm]; exact p5), by rw [sc_ne n45, sc_same], ?_, ⟨⟨x1, y1, x2, y2, ?_, by rw [sc_ne n45, sc_same]; simp, by rw [sc_same]; simp⟩, ?_, ⟨v1, ?_⟩, ⟨v2, ?_⟩, ⟨v3, ?_⟩, ⟨hK.uf _ gb1 u1, hK.uf _ gb2 u2, hK.uf _ gb3 u3, hK.uf _ gb4 u4, hK.uf _ gb5 u5⟩, fun bb o v hlt hv => ?_⟩⟩
      · rw [sc_ne n05, sc_ne n04, hK.π b gb]; exact hd
      · have := (hG2.set (o := 0) (v := .slice x1 (pre.length + 1) y1) gb4).set (o := 0) (v := .slice x2 (pre.length + 1) y2) gb5
        simpa [stv, plv2, hev, he1] using this
      · rw [sc_ne n05, sc_ne n04, hK.π b gb]; exact hd
      · rw [sc_ne n15, sc_ne n14, hK.π b1 gb1]; exact h1
      · rw [sc_ne n25, sc_ne n24, hK.π b2 gb2]; exact h2
      · rw [sc_ne n35, sc_ne n34, hK.π b3 gb3]; exact h3
      · have e4 : bb ≠ b4 := fun e => by subst e; rw [k4] at hv; cases hv
        have e5 : bb ≠ b5 := fun e => by subst e; rw [k5] at hv; cases hv
        rw [sc_ne e5, sc_ne e4, hK.π bb ⟨.inr (.inr (.inr (.inr (.inr (.inr ⟨hlt, o, v, hv⟩)))))⟩]
        exact kn bb o v hlt hv
    have dec : decide (((pre.length + 1 : Nat) : Int) > (l.length : Int)) = false := by simp; omega
    have one1 : ∀ k, (zeroRow Try.prog 9 k).length = k * 1 := zrLen (by kernel_rfl)
    refine ⟨by trivial, ea, pre.length, ec, cell1 h4, pa, pre.length, pc, cell1 h5, ⟨by trivial, fun d6 hd6 => ?_⟩, ?_⟩
    · obtain ⟨g6, q6⟩ := hG.new (ds := [.string s]) hd6
      refine ⟨⟨q6.blk gb4, q6.blk gb5, trivial, trivial⟩, ?_, ?_⟩
      · obtain ⟨p1, p2⟩ := g6.app1 (P := Try.prog) (e := 9) (bytes := 16) (aw := some ⟨d6, 0, none⟩) (src := [.string s]) Row.new rfl rfl (by omega) one1
        refine ⟨_, _, p1, fun x1 y1 m1 hp => ?_⟩
        obtain ⟨g7, q7, -⟩ := p2 x1 y1 m1 hp
        refine ⟨⟨q7.blk (.inl gb5), trivial, trivial⟩, ⟨by trivial, fun d7 hd7 => ?_⟩, trivial⟩
        obtain ⟨g8, q8⟩ := g7.new (ds := [I nn, .string s1, I n1]) hd7
        refine ⟨⟨q8.blk (.inl gb4), q8.blk (.inl gb5), trivial⟩, ?_, trivial⟩
        obtain ⟨p3, p4⟩ := g8.symm.app1 (P := Try.prog) (e := 39) (bytes := 32) (aw := some ⟨d7, 0, none⟩) (src := [I nn, .string s1, I n1]) Row.new rfl rfl (by omega) pl_zr
        refine ⟨_, _, p3, fun x2 y2 m2 hp2 => ?_⟩
        obtain ⟨g9, q9, -⟩ := p4 x2 y2 m2 hp2
        obtain ⟨W4, W5, C4, C0, J'⟩ := tl m2 x1 y1 x2 y2 (g9.symm.weak fun z hz => .inl (.inl hz)) (((q6.trans (q7.weak fun z hz => .inl hz)).trans (q8.weak fun z hz => .inl hz)).trans (q9.weak fun z hz => .inl (.inl hz)))
        refine ⟨⟨W4, ⟨W5, _, _, _, cell1 C4, _, _, _, cell1 C0, ?_⟩, trivial⟩, trivial⟩
        rw [dec]
        exact ifB_false ⟨⟨_⟩, ⟨J', trivial⟩, rfl⟩
      · refine ⟨⟨by trivial, fun d7 hd7 => ?_⟩, trivial⟩
        obtain ⟨g7, q7⟩ := g6.new (ds := [I nn, .string s1, I n1]) hd7
        refine ⟨⟨q7.blk (.inl gb4), q7.blk (.inl gb5), trivial⟩, ?_, trivial⟩
        obtain ⟨p1, p2⟩ := g7.app1 (P := Try.prog) (e := 9) (bytes := 16) (aw := some ⟨d6, 0, none⟩) (src := [.string s]) (Row.new.newBlock hd7) rfl rfl (by omega) one1
        refine ⟨_, _, p1, fun x1 y1 m1 hp => ?_⟩
        obtain ⟨g8, q8, -⟩ := p2 x1 y1 m1 hp
        have r7 : Row m1 (some ⟨d7, 0, none⟩) [I nn, .string s1, I n1] := Row.new.of q8.sz fun b' o e _ => by cases e; exact q8.π d7 (.inr rfl)
        refine ⟨⟨q8.blk (.inl (.inl gb5)), trivial, trivial⟩, ?_, trivial⟩
        obtain ⟨p3, p4⟩ := g8.symm.app1 (P := Try.prog) (e := 39) (bytes := 32) (aw := some ⟨d7, 0, none⟩) (src := [I nn, .string s1, I n1]) r7 rfl rfl (by omega) pl_zr
        refine ⟨_, _, p3, fun x2 y2 m2 hp2 => ?_⟩
        obtain ⟨g9, q9, -⟩ := p4 x2 y2 m2 hp2
        obtain ⟨W4, W5, C4, C0, J'⟩ := tl m2 x1 y1 x2 y2 (g9.symm.weak fun z hz => .inl (.inl hz)) (((q6.trans (q7.weak fun z hz => .inl hz)).trans (q8.weak fun z hz => .inl (.inl hz))).trans (q9.weak fun z hz => .inl (.inl hz)))
        refine ⟨⟨W4, ⟨W5, _, _, _, cell1 C4, _, _, _, cell1 C0, ?_⟩, trivial⟩, trivial⟩
        rw [dec]
        exact ifB_false ⟨⟨_⟩, ⟨J', trivial⟩, rfl⟩
    · refine ⟨⟨by trivial, fun d7 hd7 => ?_⟩, trivial⟩
      obtain ⟨g6, q6⟩ := hG.new (ds := [I nn, .string s1, I n1]) hd7
      refine ⟨⟨q6.blk gb4, q6.blk gb5, trivial⟩, ⟨by trivial, fun d6 hd6 => ?_⟩, trivial⟩
      obtain ⟨g7, q7⟩ := g6.new (ds := [.string s]) hd6
      refine ⟨⟨q7.blk (.inl gb4), q7.blk (.inl gb5), trivial, trivial⟩, ?_, trivial⟩
      obtain ⟨p1, p2⟩ := g7.app1 (P := Try.prog) (e := 9) (bytes := 16) (aw := some ⟨d6, 0, none⟩) (src := [.string s]) Row.new rfl rfl (by omega) one1
      refine ⟨_, _, p1, fun x1 y1 m1 hp => ?_⟩
      obtain ⟨g8, q8, -⟩ := p2 x1 y1 m1 hp
      have r7 : Row m1 (some ⟨d7, 0, none⟩) [I nn, .string s1, I n1] := (Row.new.newBlock hd6).of q8.sz fun b' o e _ => by cases e; exact q8.π d7 (.inl (.inr rfl))
      refine ⟨⟨q8.blk (.inl (.inl gb5)), trivial, trivial⟩, ?_, trivial⟩
      obtain ⟨p3, p4⟩ := g8.symm.app1 (P := Try.prog) (e := 39) (bytes := 32) (aw := some ⟨d7, 0, none⟩) (src := [I nn, .string s1, I n1]) r7 rfl rfl (by omega) pl_zr
      refine ⟨_, _, p3, fun x2 y2 m2 hp2 => ?_⟩
      obtain ⟨g9, q9, -⟩ := p4 x2 y2 m2 hp2
      obtain ⟨W4, W5, C4, C0, J'⟩ := tl m2 x1 y1 x2 y2 (g9.symm.weak fun z hz => .inl (.inl hz)) (((q6.trans (q7.weak fun z hz => .inl hz)).trans (q8.weak fun z hz => .inl (.inl hz))).trans (q9.weak fun z hz => .inl (.inl hz)))
      refine ⟨⟨W4, ⟨W5, _, _, _, cell1 C4, _, _, _, cell1 C0, ?_⟩, trivial⟩, trivial⟩
      rw [dec]
      exact ifB_false ⟨⟨_⟩, ⟨J', trivial⟩, rfl⟩
  · rintro x ⟨⟨ea, ec, pa, pc, hG, h4, h5⟩, hd, ⟨v1, h1⟩, ⟨v2, h2⟩, ⟨v3, h3⟩, ⟨u1, u2, u3, u4, u5⟩, kn⟩ -
    have hlen : (endsL l).length = l.length := by simp [endsL]
    rw [hlen] at hG h4 h5
    refine ⟨by trivial, ea, l.length, ec, cell1 h4, pa, l.length, pc, cell1 h5, ⟨wr1 f1.lo u1 h1, ⟨⟨fun o v hv => by rw [sc_ne n15.symm]; exact hv, Nat.le_refl _⟩, trivial⟩, ⟨wr1 f2.lo u2 (by rw [sc_ne n12.symm]; exact h2), ⟨wr1 f3.lo u3 (by rw [sc_ne n23.symm, sc_ne n13.symm]; exact h3), ea, l.length, ec, cell1 (by rw [sc_ne n13, sc_ne n12, sc_same]), pa, l.length, pc, cell1 (by rw [sc_ne n23, sc_same]), true, cell1 (by rw [sc_same]), ⟨?_⟩⟩, trivial⟩, trivial⟩, ?_⟩
    · have gb1 : ToG b b1 b2 b3 b4 b5 m' b1 := ⟨.inr (.inl rfl)⟩
      have gb2 : ToG b b1 b2 b3 b4 b5 m' b2 := ⟨.inr (.inr (.inl rfl))⟩
      have gb3 : ToG b b1 b2 b3 b4 b5 m' b3 := ⟨.inr (.inr (.inr (.inl rfl)))⟩
      have hs := ((hG.set (o := 0) (v := .slice ea l.length ec) gb1).set (o := 0) (v := .slice pa l.length pc) gb2).set (o := 0) (v := .bool true) gb3
      have e2 : plv2 (endsL l) = pls l := by
        have := congrArg (List.flatMap encPl) (ends_snd l)
        rw [List.flatMap_map] at this
        exact this
      refine ⟨ea, ec, pa, pc, rfl, hs.two.o1.row, ?_⟩
      rw [← e2]
      exact hs.two.o2.row
    · trivial

end Go.Proofs.Ytpnpebefcmgjoaa
