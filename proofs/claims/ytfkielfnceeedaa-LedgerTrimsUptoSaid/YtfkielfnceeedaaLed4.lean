/-
  Contracts of functions of this seat: what each hands back, and what it leaves of memory (led4). Nothing here is trusted: Lean checks it.
-/
import Derived.Test.YtfkielfnceeedaaLed3
set_option linter.unusedVariables false
set_option linter.unusedSimpArgs false
namespace Go.Proofs.Ytfkielfnceeedaa
open Go.Vc Go.RowKit
set_option maxRecDepth 100000

structure PuX where
  k : Nat
  a1 : Option Addr
  c1 : Nat
  a2 : Option Addr
  c2 : Nat
  m : M

def loR (l : List Rt) (r : Rt) (k : Nat) : List Rt := (l.take k).filter fun x => bel x r

def hiR (l : List Rt) (r : Rt) (k : Nat) : List Rt := (l.take k).filter fun x => bel r x

theorem fil_succ (f : Rt → Bool) (l : List Rt) (k : Nat) (hk : k < l.length) : (l.take (k + 1)).filter f = (l.take k).filter f ++ if f l[k] = true then [l[k]] else [] := by
  rw [List.take_succ_eq_append_getElem hk, List.filter_append]
  congr 1
  by_cases h : f l[k] = true <;> simp [h]

theorem fil_le (f : Rt → Bool) (l : List Rt) (k : Nat) : ((l.take k).filter f).length ≤ l.length :=
  Nat.le_trans (List.length_filter_le _ _) (by rw [List.length_take]; omega)

structure PuI (l : List Rt) (r : Rt) (m : M) (y : PuX) : Prop where
  k : y.k ≤ l.length
  two : Two m.sz y.m 4 y.a1 (loR l r y.k).length y.c1 (rts (loR l r y.k)) 4 y.a2 (hiR l r y.k).length y.c2 (rts (hiR l r y.k))
  ag : Agree m.sz m y.m

set_option maxHeartbeats 1000000 in
theorem rput_s (a : Option Addr) (cp : Nat) (l : List Rt) (r : Rt) (hn : l.length ≤ 4194304) (m : M) (h : Row m a (rts l)) : Vc.Spec Try.prog 12 [.slice a l.length cp, rtv r] m (LpR (putE l r)) := by
  refine Vc.Spec.of_vc Try.func12 (ann := fun _ => { A := PuX, inv := PuI l r m, st := fun y => [(8, .val (I y.k)), (0, .val (.slice a l.length cp)), (3, .own 0 0), (6, .val (.slice y.a1 (loR l r y.k).length y.c1)), (7, .val (.slice y.a2 (hiR l r y.k).length y.c2))], own := fun _ => [(0, ⟨24, encRt r⟩)], m := fun y => y.m, μ := fun y => l.length - y.k }) ?_
  refine vc_by (X :=
      true = true ∧
      ∃ (b : Bool),
      QSpec Try.prog (10 : Nat) [Value.slice a l.length cp] m (Value.bool b) ∧
      ifB (!b) (Done (LpR (putE l r) (Value.tuple #[Value.slice none (0 : Nat) (0 : Nat), Value.int IntKind.i64 (21 : Int)]) m))
      (∃ (b : Bool),
      QSpec Try.prog (39 : Nat) [Value.agg #[Value.int IntKind.i64 r.g, Value.string r.ky, Value.int IntKind.i64 r.le, Value.int IntKind.i64 r.ne]] m (Value.bool b) ∧
      ifB (!b) (Done (LpR (putE l r) (Value.tuple #[Value.slice none (0 : Nat) (0 : Nat), Value.int IntKind.i64 (1 : Int)]) m))
      ((∃ (a_1 : PuX),
      PuI l r m a_1 ∧
      m = a_1.m ∧
      ((SV.val (Value.int IntKind.i64 (0 : Int)) = SV.val (Value.int IntKind.i64 (↑a_1.k : Int)) ∧ true = true) ∧
      (SV.val (Value.slice a l.length cp) = SV.val (Value.slice a l.length cp) ∧ true = true) ∧
      (SV.own ((0 : Nat) + (0 : Nat)) (0 : Nat) = SV.own (0 : Nat) (0 : Nat) ∧ true = true) ∧
      (SV.val (Value.slice none (0 : Nat) (0 : Nat)) = SV.val (Value.slice a_1.a1 (loR l r a_1.k).length a_1.c1) ∧ true = true) ∧
      (SV.val (Value.slice none (0 : Nat) (0 : Nat)) = SV.val (Value.slice a_1.a2 (hiR l r a_1.k).length a_1.c2) ∧ true = true) ∧ True) ∧
      (some { ty := (24 : Nat), cs := [Value.int IntKind.i64 r.g, Value.string r.ky, Value.int IntKind.i64 r.le, Value.int IntKind.i64 r.ne] : Bx } =
      some { ty := (24 : TypeId), cs := [Value.int IntKind.i64 r.g, Value.string r.ky, Value.int IntKind.i64 r.le, Value.int IntKind.i64 r.ne] : Bx } ∧
      true = true) ∧
      True) ∧
      ∀ (a_1 : PuX),
      PuI l r m a_1 →
      ifB (decide ((↑a_1.k : Int) < (↑l.length : Int)))
      (true = true ∧
      ∃ (b : Nat),
      ∃ (off : Nat),
      a = some { block := b, off := off : Addr } ∧
      ((0 : Int) ≤ (↑a_1.k : Int) ∧ (↑a_1.k : Int) < (↑l.length : Int)) ∧
      ∃ (n : Int),
      ∃ (s : ByteArray),
      ∃ (n_1 : Int),
      ∃ (n_2 : Int),
      CellsAt a_1.m b (off + (↑a_1.k : Int).toNat * (4 : Nat))
      [Value.int IntKind.i64 n, Value.string s, Value.int IntKind.i64 n_1, Value.int IntKind.i64 n_2] ∧
      ∃ (b : Bool),
      QSpec Try.prog (40 : Nat)
      [Value.agg #[Value.int IntKind.i64 n, Value.string s, Value.int IntKind.i64 n_1, Value.int IntKind.i64 n_2],
      Value.agg #[Value.int IntKind.i64 r.g, Value.string r.ky, Value.int IntKind.i64 r.le, Value.int IntKind.i64 r.ne]]
      a_1.m (Value.bool b) ∧
      ifB b
      (∃ (b : Nat),
      ∃ (off : Nat),
      a = some { block := b, off := off : Addr } ∧
      ((0 : Int) ≤ (↑a_1.k : Int) ∧ (↑a_1.k : Int) < (↑l.length : Int)) ∧
      ∃ (n : Int),
      ∃ (s : ByteArray),
      ∃ (n_3 : Int),
      ∃ (n_4 : Int),
      CellsAt a_1.m b (off + (↑a_1.k : Int).toNat * (4 : Nat))
      [Value.int IntKind.i64 n, Value.string s, Value.int IntKind.i64 n_3, Value.int IntKind.i64 n_4] ∧
      true = true ∧
      ∀ (b : Nat),
      a_1.m.sz ≤ b →
      ∃ (old : List Value),
      ∃ (src : List Value),
      AppPre m.sz (fun (x : Nat) => False)
      (a_1.m.newBlock b
      [Value.int IntKind.i64 n, Value.string s, Value.int IntKind.i64 n_3, Value.int IntKind.i64 n_4])
      (4 : Nat) (40 : Nat) a_1.a1 (loR l r a_1.k).length a_1.c1
      (some { block := b, off := (0 : Nat) : Addr }) (1 : Nat) old src ∧
      ∀ (a' : Option Addr) (c' : Nat) (m' : M),
      AppPost Try.prog (24 : Nat)
      (a_1.m.newBlock b
      [Value.int IntKind.i64 n, Value.string s, Value.int IntKind.i64 n_3,
      Value.int IntKind.i64 n_4])
      (4 : Nat) a_1.a1 (loR l r a_1.k).length a_1.c1 (1 : Nat) old src a' c' m' →
      true = true ∧
      ∃ (b : Nat),
      ∃ (off : Nat),
      a = some { block := b, off := off : Addr } ∧
      ((0 : Int) ≤ (↑a_1.k : Int) ∧ (↑a_1.k : Int) < (↑l.length : Int)) ∧
      ∃ (n : Int),
      ∃ (s : ByteArray),
      ∃ (n_5 : Int),
      ∃ (n_6 : Int),
      CellsAt m' b (off + (↑a_1.k : Int).toNat * (4 : Nat))
      [Value.int IntKind.i64 n, Value.string s, Value.int IntKind.i64 n_5,
      Value.int IntKind.i64 n_6] ∧
      ∃ (b : Bool),
      QSpec Try.prog (40 : Nat)
      [Value.agg
      #[Value.int IntKind.i64 r.g, Value.string r.ky,
      Value.int IntKind.i64 r.le, Value.int IntKind.i64 r.ne],
      Value.agg
      #[Value.int IntKind.i64 n, Value.string s,
      Value.int IntKind.i64 n_5, Value.int IntKind.i64 n_6]]
      m' (Value.bool b) ∧
      ifB b
      (∃ (b : Nat),
      ∃ (off : Nat),
      a = some { block := b, off := off : Addr } ∧
      ((0 : Int) ≤ (↑a_1.k : Int) ∧
      (↑a_1.k : Int) < (↑l.length : Int)) ∧
      ∃ (n : Int),
      ∃ (s : ByteArray),
      ∃ (n_7 : Int),
      ∃ (n_8 : Int),
      CellsAt m' b (off + (↑a_1.k : Int).toNat * (4 : Nat))
      [Value.int IntKind.i64 n, Value.string s,
      Value.int IntKind.i64 n_7,
      Value.int IntKind.i64 n_8] ∧
      true = true ∧
      ∀ (b : Nat),
      m'.sz ≤ b →
      ∃ (old : List Value),
      ∃ (src : List Value),
      AppPre m.sz (fun (x : Nat) => False)
      (m'.newBlock b
      [Value.int IntKind.i64 n,
      Value.string s,
      Value.int IntKind.i64 n_7,
      Value.int IntKind.i64 n_8])
      (4 : Nat) (40 : Nat) a_1.a2
      (hiR l r a_1.k).length a_1.c2
      (some
      { block := b, off := (0 : Nat) : Addr })
      (1 : Nat) old src ∧
      ∀ (a'_1 : Option Addr) (c'_1 : Nat)
      (m'_1 : M),
      AppPost Try.prog (24 : Nat)
      (m'.newBlock b
      [Value.int IntKind.i64 n,
      Value.string s,
      Value.int IntKind.i64 n_7,
      Value.int IntKind.i64 n_8])
      (4 : Nat) a_1.a2
      (hiR l r a_1.k).length a_1.c2
      (1 : Nat) old src a'_1 c'_1 m'_1 →
      ∃ (a'_2 : PuX),
      (PuI l r m a'_2 ∧
      m'_1 = a'_2.m ∧
      ((SV.val
      (Value.int
      IntKind.i64
      (IntKind.i64.wrap
      ((↑a_1.k :
      Int) +
      (1 : Int)))) =
      SV.val
      (Value.int
      IntKind.i64
      (↑a'_2.k : Int)) ∧
      true = true) ∧
      (SV.val
      (Value.slice a
      l.length cp) =
      SV.val
      (Value.slice a
      l.length cp) ∧
      true = true) ∧
      (SV.own (0 : Nat)
      (0 : Nat) =
      SV.own (0 : Nat)
      (0 : Nat) ∧
      true = true) ∧
      (SV.val
      (Value.slice
      a'
      ((loR l r
      a_1.k).length +
      (1 : Nat))
      c') =
      SV.val
      (Value.slice
      a'_2.a1
      (loR l r
      a'_2.k).length
      a'_2.c1) ∧
      true = true) ∧
      (SV.val
      (Value.slice
      a'_1
      ((hiR l r
      a_1.k).length +
      (1 :
      Nat))
      c'_1) =
      SV.val
      (Value.slice
      a'_2.a2
      (hiR l r
      a'_2.k).length
      a'_2.c2) ∧
      true = true) ∧
      True) ∧
      (some
      { ty := (24 : TypeId), cs := [Value.int IntKind.i64 r.g, Value.string r.ky, Value.int IntKind.i64 r.le, Value.int IntKind.i64 r.ne] : Bx } =
      some
      { ty := (24 : TypeId), cs := [Value.int IntKind.i64 r.g, Value.string r.ky, Value.int IntKind.i64 r.le, Value.int IntKind.i64 r.ne] : Bx } ∧
      true = true) ∧
      True) ∧
      l.length - a'_2.k <
      l.length - a_1.k)
      (∃ (a'_1 : PuX),
      (PuI l r m a'_1 ∧
      m' = a'_1.m ∧
      ((SV.val
      (Value.int IntKind.i64
      (IntKind.i64.wrap ((↑a_1.k : Int) + (1 : Int)))) =
      SV.val (Value.int IntKind.i64 (↑a'_1.k : Int)) ∧
      true = true) ∧
      (SV.val (Value.slice a l.length cp) =
      SV.val (Value.slice a l.length cp) ∧
      true = true) ∧
      (SV.own (0 : Nat) (0 : Nat) = SV.own (0 : Nat) (0 : Nat) ∧
      true = true) ∧
      (SV.val
      (Value.slice a'
      ((loR l r a_1.k).length + (1 : Nat)) c') =
      SV.val
      (Value.slice a'_1.a1 (loR l r a'_1.k).length
      a'_1.c1) ∧
      true = true) ∧
      (SV.val
      (Value.slice a_1.a2 (hiR l r a_1.k).length
      a_1.c2) =
      SV.val
      (Value.slice a'_1.a2 (hiR l r a'_1.k).length
      a'_1.c2) ∧
      true = true) ∧
      True) ∧
      (some
      { ty := (24 : TypeId), cs := [Value.int IntKind.i64 r.g, Value.string r.ky, Value.int IntKind.i64 r.le, Value.int IntKind.i64 r.ne] : Bx } =
      some
      { ty := (24 : TypeId), cs := [Value.int IntKind.i64 r.g, Value.string r.ky, Value.int IntKind.i64 r.le, Value.int IntKind.i64 r.ne] : Bx } ∧
      true = true) ∧
      True) ∧
      l.length - a'_1.k < l.length - a_1.k))
      (true = true ∧
      ∃ (b : Nat),
      ∃ (off : Nat),
      a = some { block := b, off := off : Addr } ∧
      ((0 : Int) ≤ (↑a_1.k : Int) ∧ (↑a_1.k : Int) < (↑l.length : Int)) ∧
      ∃ (n : Int),
      ∃ (s : ByteArray),
      ∃ (n_3 : Int),
      ∃ (n_4 : Int),
      CellsAt a_1.m b (off + (↑a_1.k : Int).toNat * (4 : Nat))
      [Value.int IntKind.i64 n, Value.string s, Value.int IntKind.i64 n_3, Value.int IntKind.i64 n_4] ∧
      ∃ (b : Bool),
      QSpec Try.prog (40 : Nat)
      [Value.agg
      #[Value.int IntKind.i64 r.g, Value.string r.ky, Value.int IntKind.i64 r.le,
      Value.int IntKind.i64 r.ne],
      Value.agg
      #[Value.int IntKind.i64 n, Value.string s, Value.int IntKind.i64 n_3, Value.int IntKind.i64 n_4]]
      a_1.m (Value.bool b) ∧
      ifB b
      (∃ (b : Nat),
      ∃ (off : Nat),
      a = some { block := b, off := off : Addr } ∧
      ((0 : Int) ≤ (↑a_1.k : Int) ∧ (↑a_1.k : Int) < (↑l.length : Int)) ∧
      ∃ (n : Int),
      ∃ (s : ByteArray),
      ∃ (n_5 : Int),
      ∃ (n_6 : Int),
      CellsAt a_1.m b (off + (↑a_1.k : Int).toNat * (4 : Nat))
      [Value.int IntKind.i64 n, Value.string s, Value.int IntKind.i64 n_5,
      Value.int IntKind.i64 n_6] ∧
      true = true ∧
      ∀ (b : Nat),
      a_1.m.sz ≤ b →
      ∃ (old : List Value),
      ∃ (src : List Value),
      AppPre m.sz (fun (x : Nat) => False)
      (a_1.m.newBlock b
      [Value.int IntKind.i64 n, Value.string s, Value.int IntKind.i64 n_5,
      Value.int IntKind.i64 n_6])
      (4 : Nat) (40 : Nat) a_1.a2 (hiR l r a_1.k).length a_1.c2
      (some { block := b, off := (0 : Nat) : Addr }) (1 : Nat) old src ∧
      ∀ (a' : Option Addr) (c' : Nat) (m' : M),
      AppPost Try.prog (24 : Nat)
      (a_1.m.newBlock b
      [Value.int IntKind.i64 n, Value.string s, Value.int IntKind.i64 n_5,
      Value.int IntKind.i64 n_6])
      (4 : Nat) a_1.a2 (hiR l r a_1.k).length a_1.c2 (1 : Nat) old src a' c'
      m' →
      ∃ (a'_1 : PuX),
      (PuI l r m a'_1 ∧
      m' = a'_1.m ∧
      ((SV.val
      (Value.int IntKind.i64
      (IntKind.i64.wrap ((↑a_1.k : Int) + (1 : Int)))) =
      SV.val (Value.int IntKind.i64 (↑a'_1.k : Int)) ∧
      true = true) ∧
      (SV.val (Value.slice a l.length cp) =
      SV.val (Value.slice a l.length cp) ∧
      true = true) ∧
      (SV.own (0 : Nat) (0 : Nat) = SV.own (0 : Nat) (0 : Nat) ∧
      true = true) ∧
      (SV.val
      (Value.slice a_1.a1 (loR l r a_1.k).length
      a_1.c1) =
      SV.val
      (Value.slice a'_1.a1 (loR l r a'_1.k).length
      a'_1.c1) ∧
      true = true) ∧
      (SV.val
      (Value.slice a'
      ((hiR l r a_1.k).length + (1 : Nat)) c') =
      SV.val
      (Value.slice a'_1.a2 (hiR l r a'_1.k).length
      a'_1.c2) ∧
      true = true) ∧
      True) ∧
      (some
      { ty := (24 : TypeId), cs := [Value.int IntKind.i64 r.g, Value.string r.ky, Value.int IntKind.i64 r.le, Value.int IntKind.i64 r.ne] : Bx } =
      some
      { ty := (24 : TypeId), cs := [Value.int IntKind.i64 r.g, Value.string r.ky, Value.int IntKind.i64 r.le, Value.int IntKind.i64 r.ne] : Bx } ∧
      true = true) ∧
      True) ∧
      l.length - a'_1.k < l.length - a_1.k)
      (∃ (a' : PuX),
      (PuI l r m a' ∧
      a_1.m = a'.m ∧
      ((SV.val (Value.int IntKind.i64 (IntKind.i64.wrap ((↑a_1.k : Int) + (1 : Int)))) =
      SV.val (Value.int IntKind.i64 (↑a'.k : Int)) ∧
      true = true) ∧
      (SV.val (Value.slice a l.length cp) = SV.val (Value.slice a l.length cp) ∧ true = true) ∧
      (SV.own (0 : Nat) (0 : Nat) = SV.own (0 : Nat) (0 : Nat) ∧ true = true) ∧
      (SV.val (Value.slice a_1.a1 (loR l r a_1.k).length a_1.c1) =
      SV.val (Value.slice a'.a1 (loR l r a'.k).length a'.c1) ∧
      true = true) ∧
      (SV.val (Value.slice a_1.a2 (hiR l r a_1.k).length a_1.c2) =
      SV.val (Value.slice a'.a2 (hiR l r a'.k).length a'.c2) ∧
      true = true) ∧
      True) ∧
      (some
      { ty := (24 : TypeId), cs := [Value.int IntKind.i64 r.g, Value.string r.ky, Value.int IntKind.i64 r.le, Value.int IntKind.i64 r.ne] : Bx } =
      some
      { ty := (24 : TypeId), cs := [Value.int IntKind.i64 r.g, Value.string r.ky, Value.int IntKind.i64 r.le, Value.int IntKind.i64 r.ne] : Bx } ∧
      true = true) ∧
      True) ∧
      l.length - a'.k < l.length - a_1.k)))
      (true = true ∧
      ∀ (b : Nat),
      a_1.m.sz ≤ b →
      ∃ (old : List Value),
      ∃ (src : List Value),
      AppPre m.sz (fun (x : Nat) => False)
      (a_1.m.newBlock b [Value.int IntKind.i64 r.g, Value.string r.ky, Value.int IntKind.i64 r.le, Value.int IntKind.i64 r.ne]) (4 : Nat) (40 : Nat)
      a_1.a1 (loR l r a_1.k).length a_1.c1 (some { block := b, off := (0 : Nat) : Addr }) (1 : Nat) old src ∧
      ∀ (a' : Option Addr) (c' : Nat) (m' : M),
      AppPost Try.prog (24 : Nat)
      (a_1.m.newBlock b [Value.int IntKind.i64 r.g, Value.string r.ky, Value.int IntKind.i64 r.le, Value.int IntKind.i64 r.ne]) (4 : Nat) a_1.a1
      (loR l r a_1.k).length a_1.c1 (1 : Nat) old src a' c' m' →
      ∃ (old : List Value),
      ∃ (src : List Value),
      AppPre m.sz (fun (x : Nat) => False) m' (4 : Nat) (40 : Nat) a' ((loR l r a_1.k).length + (1 : Nat)) c' a_1.a2 (hiR l r a_1.k).length old
      src ∧
      ∀ (a'_1 : Option Addr) (c'_1 : Nat) (m'_1 : M),
      AppPost Try.prog (24 : Nat) m' (4 : Nat) a' ((loR l r a_1.k).length + (1 : Nat)) c' (hiR l r a_1.k).length old src a'_1 c'_1 m'_1 →
      Done
      (LpR (putE l r)
      (Value.tuple
      #[Value.slice a'_1 ((loR l r a_1.k).length + (1 : Nat) + (hiR l r a_1.k).length) c'_1, Value.int IntKind.i64 (0 : Int)])
      m'_1))))) (by kernel_rfl) ?_
  refine ⟨rfl, _, rright_l a cp l (by omega) _ h, ?_⟩
  cases ht : ledB none l
  · exact ifB_true (lp_fail (by simp [putE, ht]))
  refine ifB_false ⟨_, rrmay_q r _, ?_⟩
  cases hr : rmayB r
  · exact ifB_true (lp_fail (by simp [putE, ht, hr]))
  have hres : putE l r = (putL l r, 0) := by simp [putE, ht, hr]
  refine ifB_false ⟨⟨⟨0, none, 0, none, 0, m⟩, ⟨Nat.zero_le _, .nil, Agree.refl _ _⟩, rfl, by simp [loR, hiR]⟩, fun y Y => ifB_intro (fun h3 => ?_) (fun h3 => ?_)⟩
  · have hk2 : y.k < l.length := by simpa using h3
    obtain ⟨b, o, rfl, hc⟩ := (h.agree Y.ag).cells (by rw [rt_len]; omega)
    have w1 : IntKind.i64.wrap ((y.k : Int) + 1) = ((y.k + 1 : Nat) : Int) := by simp [IntKind.wrap_i64]; omega
    have hle1 := fil_le (fun x => bel x r) l y.k
    have hle2 := fil_le (fun x => bel r x) l y.k
    have e1 := fil_succ (fun x => bel x r) l y.k hk2
    have e2 := fil_succ (fun x => bel r x) l y.k hk2
    have ap : ∀ x y : List Rt, rts (x ++ y) = rts x ++ rts y := fun x y => List.flatMap_append
    refine ⟨rfl, b, o, rfl, by omega, _, _, _, _, by simpa using rt_at hc hk2, _, rbel_q l[y.k] r _, ifB_intro (fun q1 => ?_) (fun q1 => ?_)⟩
    · rw [if_pos q1] at e1
      refine ⟨b, o, rfl, by omega, _, _, _, _, by simpa using rt_at hc hk2, rfl, fun b4 hb4 => ?_⟩
      obtain ⟨p1, p2⟩ := Two.push (P := Try.prog) (e := 24) (bytes := 40) (src := encRt l[y.k]) Y.two hb4 Y.ag.2.2 rfl rfl (by have := fil_le (fun x => bel x r) l y.k; unfold loR; omega) rt_zr
      refine ⟨_, _, p1, fun a' c' m' hp => ?_⟩
      obtain ⟨T2, g2⟩ := p2 a' c' m' hp
      have A2 := Y.ag.trans g2
      obtain ⟨b', o', e', hc'⟩ := (h.agree A2).cells (by rw [rt_len]; omega)
      cases e'
      have ee : loR l r (y.k + 1) = loR l r y.k ++ [l[y.k]] := e1
      have T3 : Two m.sz m' 4 a' (loR l r (y.k + 1)).length c' (rts (loR l r (y.k + 1))) 4 y.a2 (hiR l r y.k).length y.c2 (rts (hiR l r y.k)) := by
        rw [ee, ap, List.length_append]; exact T2
      refine ⟨rfl, b, o, rfl, by omega, _, _, _, _, by simpa using rt_at hc' hk2, _, rbel_q r l[y.k] _, ifB_intro (fun q2 => ?_) (fun q2 => ?_)⟩
      · rw [if_pos q2] at e2
        refine ⟨b, o, rfl, by omega, _, _, _, _, by simpa using rt_at hc' hk2, rfl, fun b5 hb5 => ?_⟩
        obtain ⟨p3, p4⟩ := Two.push (P := Try.prog) (e := 24) (bytes := 40) (src := encRt l[y.k]) T3.symm hb5 A2.2.2 rfl rfl (by have := fil_le (fun x => bel r x) l y.k; unfold hiR; omega) rt_zr
        refine ⟨_, _, p3, fun a3 c3 m3 hp3 => ?_⟩
        obtain ⟨T4, g4⟩ := p4 a3 c3 m3 hp3
        have ee2 : hiR l r (y.k + 1) = hiR l r y.k ++ [l[y.k]] := e2
        refine ⟨⟨y.k + 1, a', c', a3, c3, m3⟩, ⟨⟨hk2, ?_, A2.trans g4⟩, rfl, by simp [w1, ee, ee2]⟩, by simp only; omega⟩
        rw [ee2, ap, List.length_append]; exact T4.symm
      · rw [if_neg (by simp [q2])] at e2
        have ee2 : hiR l r (y.k + 1) = hiR l r y.k := by rw [List.append_nil] at e2; exact e2
        refine ⟨⟨y.k + 1, a', c', y.a2, y.c2, m'⟩, ⟨⟨hk2, ?_, A2⟩, rfl, by simp [w1, ee, ee2]⟩, by simp only; omega⟩
        rw [ee2]; exact T3
    · rw [if_neg (by simp [q1])] at e1
      have ee : loR l r (y.k + 1) = loR l r y.k := by rw [List.append_nil] at e1; exact e1
      refine ⟨rfl, b, o, rfl, by omega, _, _, _, _, by simpa using rt_at hc hk2, _, rbel_q r l[y.k] _, ifB_intro (fun q2 => ?_) (fun q2 => ?_)⟩
      · rw [if_pos q2] at e2
        refine ⟨b, o, rfl, by omega, _, _, _, _, by simpa using rt_at hc hk2, rfl, fun b5 hb5 => ?_⟩
        obtain ⟨p3, p4⟩ := Two.push (P := Try.prog) (e := 24) (bytes := 40) (src := encRt l[y.k]) Y.two.symm hb5 Y.ag.2.2 rfl rfl (by have := fil_le (fun x => bel r x) l y.k; unfold hiR; omega) rt_zr
        refine ⟨_, _, p3, fun a3 c3 m3 hp3 => ?_⟩
        obtain ⟨T4, g4⟩ := p4 a3 c3 m3 hp3
        have ee2 : hiR l r (y.k + 1) = hiR l r y.k ++ [l[y.k]] := e2
        refine ⟨⟨y.k + 1, y.a1, y.c1, a3, c3, m3⟩, ⟨⟨hk2, ?_, Y.ag.trans g4⟩, rfl, by simp [w1, ee, ee2]⟩, by simp only; omega⟩
        rw [ee, ee2, ap, List.length_append]; exact T4.symm
      · rw [if_neg (by simp [q2])] at e2
        have ee2 : hiR l r (y.k + 1) = hiR l r y.k := by rw [List.append_nil] at e2; exact e2
        refine ⟨⟨y.k + 1, y.a1, y.c1, y.a2, y.c2, y.m⟩, ⟨⟨hk2, ?_, Y.ag⟩, rfl, by simp [w1, ee, ee2]⟩, by simp only; omega⟩
        rw [ee, ee2]; exact Y.two
  · have hkl : y.k = l.length := by have := Y.k; simp at h3; omega
    have T := Y.two
    have e1 : loR l r y.k = l.filter fun x => bel x r := by simp [loR, hkl]
    have e2 : hiR l r y.k = l.filter fun x => bel r x := by simp [hiR, hkl]
    have f1 := List.length_filter_le (fun x => bel x r) l
    have f2 := List.length_filter_le (fun x => bel r x) l
    rw [e1, e2] at T ⊢
    refine ⟨rfl, fun b3 hb3 => ?_⟩
    obtain ⟨p1, p2⟩ := Two.push (P := Try.prog) (e := 24) (bytes := 40) (src := encRt r) T hb3 Y.ag.2.2 rfl rfl (by omega) rt_zr
    refine ⟨_, _, p1, fun a' c' m' hp => ?_⟩
    obtain ⟨T2, g2⟩ := p2 a' c' m' hp
    refine ⟨_, _, T2.o1.appPre T2.o2.row (rt_len _) (rt_one _) (by omega), fun a3 c3 m3 hp3 => ?_⟩
    have T3 := T2.o1.append hp3 (rt_len _) rt_zr (Y.ag.trans g2).2.2
    refine lp_ok (z := putL l r) hres (by simp [putL]; omega) ?_
    have e3 : rts (putL l r) = rts (l.filter fun x => bel x r) ++ encRt r ++ rts (l.filter fun x => bel r x) := by simp [putL]
    rw [e3]; exact T3.row

end Go.Proofs.Ytfkielfnceeedaa
