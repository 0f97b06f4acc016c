/-
  Contracts of functions of this seat: what each hands back, and what it leaves of memory (deal22). Nothing here is trusted: Lean checks it.
-/
import Derived.Test.YtoilbbfidnhekaaDeal21
set_option linter.unusedVariables false
set_option linter.unusedSimpArgs false
namespace Go.Proofs.Ytoilbbfidnhekaa.Acc
open Go.Vc Go.RowKit Go.ChangeShapes Go.WideShapes Go.ChangeAt
set_option maxRecDepth 100000

theorem dawake_q (m : M) : QSpec Try.prog 15 [] m (.bool true) := Go.Proofs.Ytoilbbfidnhekaa.awake_q m

theorem ifB_or {a b : Bool} {P R : Prop} (h1 : a = true ∨ b = true → P) (h2 : a = false → b = false → R) : ifB a P (ifB b P R) := by
  cases a
  · cases b
    · exact h2 rfl rfl
    · exact h1 (.inr rfl)
  · exact h1 (.inl rfl)

theorem DwL.any {O : Bool → Ac} {n : Int} {y : DwX} (h : DwL O n y) : ∀ a c b1 b2 b3 m aB cB d k, DwL O n ⟨k, y.s, y.e, y.X, a, c, d, y.D, aB, cB, b1, b2, b3, m⟩ := fun _ _ _ _ _ _ _ _ _ _ => ⟨h.side, h.mi, h.th, h.en, h.bk, h.key⟩

theorem DwM.dk {N : Nat} {aw : Option Addr} {ws : List Int} {y : DwX} (h : DwM N aw ws y) (d : Dl) (k : Nat) : DwM N aw ws { y with d := d, k := k } := ⟨h.lo, h.ne, h.lt, h.uf, h.now, h.said, h.ended, h.mv, h.hs, h.bk, h.apM, h.apH, h.apB⟩

theorem DwI.dk {N : Nat} {O : Bool → Ac} {n : Int} {aw : Option Addr} {ws : List Int} {y : DwX} (h : DwI N O n aw ws y) (d : Dl) {k : Nat} (hk : k ≤ ws.length) : DwI N O n aw ws { y with d := d, k := k } := ⟨hk, h.L.any _ _ _ _ _ _ _ _ _ _, h.M.dk d k⟩

theorem hds_nn {m : M} {a : Option Addr} {l : List Hd} (h : Row m a (hds l)) (e : a = none) : l = [] := by
  cases l with
  | nil => rfl
  | cons x xs =>
    obtain ⟨b, o, e2, -⟩ := h.cells (by rw [hds_len]; simp)
    rw [e] at e2; simp at e2

theorem ix_tmod (j : Bool) (c : Int) (hc : c = 0 ∨ c = 2 ∨ c = 4) : (IntKind.i64.wrap (1 + c + (ix j : Int) + 1)).tmod 2 = (ix j : Int) := by
  rcases hc with rfl | rfl | rfl <;> cases j <;> rfl

theorem ix_sub (j : Bool) : IntKind.i64.wrap (6 + (ix j : Int) - 6) = (ix j : Int) := by cases j <;> rfl

theorem ix_two (j : Bool) : 0 ≤ (ix j : Int) ∧ (ix j : Int) < ((2 : Nat) : Int) := by cases j <;> decide

theorem ix_nat (j : Bool) : ((ix j : Int)).toNat = ix j := rfl

theorem ix_zero (j : Bool) : ((ix j : Int) == 0) = !j := by cases j <;> rfl

theorem is_ix {v c : Int} (h : (v == c) = true ∨ (v == c + 1) = true) : ∃ j, v = c + (ix j : Int) := by
  rcases h with h | h
  · exact ⟨false, by simp at h; simp [ix, h]⟩
  · exact ⟨true, by simp at h; simp [ix, h]⟩

theorem dls_nn {m : M} {a : Option Addr} {l : List Dl} (h : Row m a (dls l)) (e : a = none) : l = [] := by
  cases l with
  | nil => rfl
  | cons x xs =>
    obtain ⟨b, o, e2, -⟩ := h.cells (by rw [dl_len]; simp)
    rw [e] at e2; simp at e2

theorem find_one {O : Bool → Ac} {n : Int} {y : DwX} (h : DwL O n y) (a : Option Addr) (c : Nat) (m : M) (hr : Row m a (dls [y.D])) : QSpec Try.prog 11 [.slice a 1 c, I 3, I 9] m (.tuple #[dlv y.D, .bool true]) := by
  have := find_q a c [y.D] 3 9 (by simp) m hr
  rw [find_on h.bk h.find] at this
  exact this

set_option maxHeartbeats 2000000 in
theorem dealwhole (A B : Ac) (a1 : Option Addr) (c1 : Nat) (a2 : Option Addr) (c2 : Nat) (n : Int) (aw : Option Addr) (cw : Nat) (ws : List Int) (hA : A.wf) (hB : B.wf) (hn : In64 n) (hws : ∀ x ∈ ws, In64 x) (hw : ws.length ≤ 9223372036854775807) (m : M) (h1 : Row m a1 (hds A.hs)) (h2 : Row m a2 (hds B.hs)) (hw2 : Row m aw (ints ws)) :
    QSpec Try.prog 8 [acv A a1 c1, acv B a2 c2, I n, .slice aw ws.length cw] m (.bool true) := by
  refine QSpec.of_vc Try.func8 (ann := fun N => dwAnn N A B a1 c1 a2 c2 n aw cw ws) fun N hN => ?_
  refine vc_by (X :=
      true = true ∧
      ∃ (b : Bool),
      QSpec Try.prog (15 : Nat) [] { π := m.π, sz := N, uf := m.uf : M } (Value.bool b) ∧
      ifB (!b) (∃ (b : Bool), QSpec Try.prog (15 : Nat) [] { π := m.π, sz := N, uf := m.uf : M } (Value.bool b) ∧ Done (Value.bool b = Value.bool true))
      (∃ (b : Bool),
      QSpec Try.prog (36 : Nat)
      [Value.agg
      #[Value.string A.key, Value.int IntKind.i64 A.lo, Value.int IntKind.i64 A.hi, Value.int IntKind.i64 A.base, Value.int IntKind.i64 A.round,
      Value.slice a1 A.hs.length c1, Value.int IntKind.i64 A.lk.cl, Value.int IntKind.i64 A.lk.sq, Value.int IntKind.i64 A.lk.hm, Value.int IntKind.i64 A.lk.n]]
      { π := m.π, sz := N, uf := m.uf : M } (Value.bool b) ∧
      ifB (!b) (∃ (b : Bool), QSpec Try.prog (15 : Nat) [] { π := m.π, sz := N, uf := m.uf : M } (Value.bool b) ∧ Done (Value.bool b = Value.bool true))
      (∃ (b : Bool),
      QSpec Try.prog (36 : Nat)
      [Value.agg
      #[Value.string B.key, Value.int IntKind.i64 B.lo, Value.int IntKind.i64 B.hi, Value.int IntKind.i64 B.base, Value.int IntKind.i64 B.round,
      Value.slice a2 B.hs.length c2, Value.int IntKind.i64 B.lk.cl, Value.int IntKind.i64 B.lk.sq, Value.int IntKind.i64 B.lk.hm, Value.int IntKind.i64 B.lk.n]]
      { π := m.π, sz := N, uf := m.uf : M } (Value.bool b) ∧
      ifB (!b) (∃ (b : Bool), QSpec Try.prog (15 : Nat) [] { π := m.π, sz := N, uf := m.uf : M } (Value.bool b) ∧ Done (Value.bool b = Value.bool true))
      (ifB (A.key.toList == B.key.toList)
      (∃ (b : Bool), QSpec Try.prog (15 : Nat) [] { π := m.π, sz := N, uf := m.uf : M } (Value.bool b) ∧ Done (Value.bool b = Value.bool true))
      (∃ (S' : Nat → Prop),
      (∀ (b : Nat), S' b → m.uf b ∧ (N ≤ b ∨ False)) ∧
      ∀ (n_1 : Nat),
      N ≤ n_1 →
      SpecW Try.prog (13 : Nat)
      [Value.slice none (0 : Nat) (0 : Nat),
      Value.agg
      #[Value.int IntKind.i64 (3 : Int), Value.int IntKind.i64 (9 : Int), Value.string A.key, Value.string B.key, Value.int IntKind.i64 n,
      Value.int IntKind.i64 (0 : Int), Value.int IntKind.i64 (0 : Int), Value.int IntKind.i64 (0 : Int)]]
      { π := m.π, sz := n_1, uf := m.uf : M } S' fun (v : Value) (m' : M) =>
      ∃ (a : Option Addr),
      ∃ (n_2 : Nat),
      ∃ (c : Nat),
      ∃ (n_3 : Int),
      v = Value.tuple #[Value.slice a n_2 c, Value.int IntKind.i64 n_3] ∧
      ifB (n_3 != (0 : Int)) (Done (Value.bool (decide (n < (1 : Int))) = Value.bool true))
      (∀ (b : Nat),
      Fresh N m' b →
      ∀ (b_1 : Nat),
      Fresh N
      (m'.newBlock b
      [Value.string A.key, Value.int IntKind.i64 A.lo, Value.int IntKind.i64 A.hi, Value.int IntKind.i64 A.base,
      Value.int IntKind.i64 A.round, Value.slice a1 A.hs.length c1, Value.int IntKind.i64 A.lk.cl,
      Value.int IntKind.i64 A.lk.sq, Value.int IntKind.i64 A.lk.hm, Value.int IntKind.i64 A.lk.n, Value.string B.key,
      Value.int IntKind.i64 B.lo, Value.int IntKind.i64 B.hi, Value.int IntKind.i64 B.base, Value.int IntKind.i64 B.round,
      Value.slice a2 B.hs.length c2, Value.int IntKind.i64 B.lk.cl, Value.int IntKind.i64 B.lk.sq,
      Value.int IntKind.i64 B.lk.hm, Value.int IntKind.i64 B.lk.n])
      b_1 →
      ∀ (b_2 : Nat),
      Fresh N
      ((m'.newBlock b
      [Value.string A.key, Value.int IntKind.i64 A.lo, Value.int IntKind.i64 A.hi, Value.int IntKind.i64 A.base,
      Value.int IntKind.i64 A.round, Value.slice a1 A.hs.length c1, Value.int IntKind.i64 A.lk.cl,
      Value.int IntKind.i64 A.lk.sq, Value.int IntKind.i64 A.lk.hm, Value.int IntKind.i64 A.lk.n, Value.string B.key,
      Value.int IntKind.i64 B.lo, Value.int IntKind.i64 B.hi, Value.int IntKind.i64 B.base,
      Value.int IntKind.i64 B.round, Value.slice a2 B.hs.length c2, Value.int IntKind.i64 B.lk.cl,
      Value.int IntKind.i64 B.lk.sq, Value.int IntKind.i64 B.lk.hm, Value.int IntKind.i64 B.lk.n]).newBlock
      b_1 [Value.int IntKind.i64 (0 : Int), Value.int IntKind.i64 (0 : Int)])
      b_2 →
      (∃ (a_4 : DwX),
      DwI N (ogD A B) n aw ws a_4 ∧
      ((m'.newBlock b
      [Value.string A.key, Value.int IntKind.i64 A.lo, Value.int IntKind.i64 A.hi,
      Value.int IntKind.i64 A.base, Value.int IntKind.i64 A.round, Value.slice a1 A.hs.length c1,
      Value.int IntKind.i64 A.lk.cl, Value.int IntKind.i64 A.lk.sq, Value.int IntKind.i64 A.lk.hm,
      Value.int IntKind.i64 A.lk.n, Value.string B.key, Value.int IntKind.i64 B.lo,
      Value.int IntKind.i64 B.hi, Value.int IntKind.i64 B.base, Value.int IntKind.i64 B.round,
      Value.slice a2 B.hs.length c2, Value.int IntKind.i64 B.lk.cl, Value.int IntKind.i64 B.lk.sq,
      Value.int IntKind.i64 B.lk.hm, Value.int IntKind.i64 B.lk.n]).newBlock
      b_1 [Value.int IntKind.i64 (0 : Int), Value.int IntKind.i64 (0 : Int)]).newBlock
      b_2 [Value.bool false, Value.bool false] =
      a_4.m ∧
      ((SV.val (Value.int IntKind.i64 (0 : Int)) = SV.val (Value.int IntKind.i64 (↑a_4.k : Int)) ∧ true = true) ∧
      (SV.val (Value.slice aw ws.length cw) = SV.val (Value.slice aw ws.length cw) ∧ true = true) ∧
      (SV.val (Value.slice a n_2 c) = SV.val (Value.slice a_4.aB (1 : Nat) a_4.cB) ∧ true = true) ∧
      (SV.val (Value.pointer (some { block := b, off := (0 : Nat) : Addr })) =
      SV.val (Value.pointer (some { block := a_4.b1, off := (0 : Nat) : Addr })) ∧
      true = true) ∧
      (SV.val (Value.pointer (some { block := b_1, off := (0 : Nat) : Addr })) =
      SV.val (Value.pointer (some { block := a_4.b2, off := (0 : Nat) : Addr })) ∧
      true = true) ∧
      (SV.val (Value.pointer (some { block := b_2, off := (0 : Nat) : Addr })) =
      SV.val (Value.pointer (some { block := a_4.b3, off := (0 : Nat) : Addr })) ∧
      true = true) ∧
      (SV.own ((0 : Nat) + (0 : Nat)) (0 : Nat) = SV.own (0 : Nat) (0 : Nat) ∧ true = true) ∧
      (SV.own ((0 : Nat) + (1 : Nat)) (0 : Nat) = SV.own (1 : Nat) (0 : Nat) ∧ true = true) ∧
      (SV.val (Value.int IntKind.i64 n) = SV.val (Value.int IntKind.i64 n) ∧ true = true) ∧ True) ∧
      (some
      { ty := (65 : Nat), cs := [Value.string A.key, Value.int IntKind.i64 A.lo, Value.int IntKind.i64 A.hi, Value.int IntKind.i64 A.base, Value.int IntKind.i64 A.round, Value.slice a1 A.hs.length c1, Value.int IntKind.i64 A.lk.cl, Value.int IntKind.i64 A.lk.sq, Value.int IntKind.i64 A.lk.hm, Value.int IntKind.i64 A.lk.n] : Bx } =
      some
      { ty := (65 : TypeId), cs := [Value.string A.key, Value.int IntKind.i64 A.lo, Value.int IntKind.i64 A.hi, Value.int IntKind.i64 A.base, Value.int IntKind.i64 A.round, Value.slice a1 A.hs.length c1, Value.int IntKind.i64 A.lk.cl, Value.int IntKind.i64 A.lk.sq, Value.int IntKind.i64 A.lk.hm, Value.int IntKind.i64 A.lk.n] : Bx } ∧
      true = true) ∧
      (some
      { ty := (65 : Nat), cs := [Value.string B.key, Value.int IntKind.i64 B.lo, Value.int IntKind.i64 B.hi, Value.int IntKind.i64 B.base, Value.int IntKind.i64 B.round, Value.slice a2 B.hs.length c2, Value.int IntKind.i64 B.lk.cl, Value.int IntKind.i64 B.lk.sq, Value.int IntKind.i64 B.lk.hm, Value.int IntKind.i64 B.lk.n] : Bx } =
      some
      { ty := (65 : TypeId), cs := [Value.string B.key, Value.int IntKind.i64 B.lo, Value.int IntKind.i64 B.hi, Value.int IntKind.i64 B.base, Value.int IntKind.i64 B.round, Value.slice a2 B.hs.length c2, Value.int IntKind.i64 B.lk.cl, Value.int IntKind.i64 B.lk.sq, Value.int IntKind.i64 B.lk.hm, Value.int IntKind.i64 B.lk.n] : Bx } ∧
      true = true) ∧
      True) ∧
      ∀ (a : DwX),
      DwI N (ogD A B) n aw ws a →
      ifB (decide ((↑a.k : Int) < (↑ws.length : Int)))
      (∃ (b : Nat),
      ∃ (off : Nat),
      aw = some { block := b, off := off : Addr } ∧
      ((0 : Int) ≤ (↑a.k : Int) ∧ (↑a.k : Int) < (↑ws.length : Int)) ∧
      ∃ (n_4 : Int),
      CellsAt a.m b (off + (↑a.k : Int).toNat * (1 : Nat)) [Value.int IntKind.i64 n_4] ∧
      (2 : Int) ≠ (0 : Int) ∧
      ∃ (n_5 : Int),
      ∃ (n_6 : Int),
      ∃ (s : ByteArray),
      ∃ (s_1 : ByteArray),
      ∃ (n_7 : Int),
      ∃ (n_8 : Int),
      ∃ (n_9 : Int),
      ∃ (n_10 : Int),
      ∃ (b : Bool),
      QSpec Try.prog (11 : Nat)
      [Value.slice a.aB (1 : Nat) a.cB, Value.int IntKind.i64 (3 : Int),
      Value.int IntKind.i64 (9 : Int)]
      a.m
      (Value.tuple
      #[Value.agg
      #[Value.int IntKind.i64 n_5, Value.int IntKind.i64 n_6, Value.string s,
      Value.string s_1, Value.int IntKind.i64 n_7, Value.int IntKind.i64 n_8,
      Value.int IntKind.i64 n_9, Value.int IntKind.i64 n_10],
      Value.bool b]) ∧
      ifB (!b) (Done (Value.bool false = Value.bool true))
      ((∃ (b : Nat),
      ∃ (off : Nat),
      aw = some { block := b, off := off : Addr } ∧
      ((0 : Int) ≤ (↑a.k : Int) ∧ (↑a.k : Int) < (↑ws.length : Int)) ∧
      ∃ (n_11 : Int),
      CellsAt a.m b (off + (↑a.k : Int).toNat * (1 : Nat))
      [Value.int IntKind.i64 n_11] ∧
      ifB (n_11 == (1 : Int))
      (((0 : Int) ≤
      (IntKind.i64.wrap (n_4 + (1 : Int))).tmod (2 : Int) ∧
      (IntKind.i64.wrap (n_4 + (1 : Int))).tmod (2 : Int) <
      (↑(2 : Nat) : Int)) ∧
      ∃ (n_12 : Int),
      CellsAt a.m a.b2
      ((0 : Nat) +
      ((IntKind.i64.wrap (n_4 + (1 : Int))).tmod
      (2 : Int)).toNat *
      (1 : Nat))
      [Value.int IntKind.i64 n_12] ∧
      ifB (n_12 != (0 : Int))
      (∃ (a' : DwX),
      (DwI N (ogD A B) n aw ws a' ∧
      a.m = a'.m ∧
      ((SV.val
      (Value.int IntKind.i64
      (IntKind.i64.wrap
      ((↑a.k : Int) + (1 : Int)))) =
      SV.val
      (Value.int IntKind.i64
      (↑a'.k : Int)) ∧
      true = true) ∧
      (SV.val (Value.slice aw ws.length cw) =
      SV.val (Value.slice aw ws.length cw) ∧
      true = true) ∧
      (SV.val
      (Value.slice a.aB (1 : Nat)
      a.cB) =
      SV.val
      (Value.slice a'.aB (1 : Nat)
      a'.cB) ∧
      true = true) ∧
      (SV.val
      (Value.pointer
      (some
      { block := a.b1, off := (0 : Nat) : Addr })) =
      SV.val
      (Value.pointer
      (some
      { block := a'.b1, off := (0 : Nat) : Addr })) ∧
      true = true) ∧
      (SV.val
      (Value.pointer
      (some
      { block := a.b2, off := (0 : Nat) : Addr })) =
      SV.val
      (Value.pointer
      (some
      { block := a'.b2, off := (0 : Nat) : Addr })) ∧
      true = true) ∧
      (SV.val
      (Value.pointer
      (some
      { block := a.b3, off := (0 : Nat) : Addr })) =
      SV.val
      (Value.pointer
      (some
      { block := a'.b3, off := (0 : Nat) : Addr })) ∧
      true = true) ∧
      (SV.own (0 : Nat) (0 : Nat) =
      SV.own (0 : Nat) (0 : Nat) ∧
      true = true) ∧
      (SV.own (1 : Nat) (0 : Nat) =
      SV.own (1 : Nat)
      (0 : Nat) ∧
      true = true) ∧
      (SV.val
      (Value.int IntKind.i64
      n) =
      SV.val
      (Value.int IntKind.i64
      n) ∧
      true = true) ∧
      True) ∧
      (some
      { ty := (65 : TypeId), cs := [Value.string A.key, Value.int IntKind.i64 A.lo, Value.int IntKind.i64 A.hi, Value.int IntKind.i64 A.base, Value.int IntKind.i64 A.round, Value.slice a1 A.hs.length c1, Value.int IntKind.i64 A.lk.cl, Value.int IntKind.i64 A.lk.sq, Value.int IntKind.i64 A.lk.hm, Value.int IntKind.i64 A.lk.n] : Bx } =
      some
      { ty := (65 : TypeId), cs := [Value.string A.key, Value.int IntKind.i64 A.lo, Value.int IntKind.i64 A.hi, Value.int IntKind.i64 A.base, Value.int IntKind.i64 A.round, Value.slice a1 A.hs.length c1, Value.int IntKind.i64 A.lk.cl, Value.int IntKind.i64 A.lk.sq, Value.int IntKind.i64 A.lk.hm, Value.int IntKind.i64 A.lk.n] : Bx } ∧
      true = true) ∧
      (some
      { ty := (65 : TypeId), cs := [Value.string B.key, Value.int IntKind.i64 B.lo, Value.int IntKind.i64 B.hi, Value.int IntKind.i64 B.base, Value.int IntKind.i64 B.round, Value.slice a2 B.hs.length c2, Value.int IntKind.i64 B.lk.cl, Value.int IntKind.i64 B.lk.sq, Value.int IntKind.i64 B.lk.hm, Value.int IntKind.i64 B.lk.n] : Bx } =
      some
      { ty := (65 : TypeId), cs := [Value.string B.key, Value.int IntKind.i64 B.lo, Value.int IntKind.i64 B.hi, Value.int IntKind.i64 B.base, Value.int IntKind.i64 B.round, Value.slice a2 B.hs.length c2, Value.int IntKind.i64 B.lk.cl, Value.int IntKind.i64 B.lk.sq, Value.int IntKind.i64 B.lk.hm, Value.int IntKind.i64 B.lk.n] : Bx } ∧
      true = true) ∧
      True) ∧
      ws.length - a'.k < ws.length - a.k)
      (((0 : Int) ≤
      (IntKind.i64.wrap (n_4 + (1 : Int))).tmod
      (2 : Int) ∧
      (IntKind.i64.wrap (n_4 + (1 : Int))).tmod
      (2 : Int) <
      (↑(2 : Nat) : Int)) ∧
      ∃ (b : Bool),
      CellsAt a.m a.b3
      ((0 : Nat) +
      ((IntKind.i64.wrap (n_4 + (1 : Int))).tmod
      (2 : Int)).toNat *
      (1 : Nat))
      [Value.bool b] ∧
      ifB b
      (∃ (a' : DwX),
      (DwI N (ogD A B) n aw ws a' ∧
      a.m = a'.m ∧
      ((SV.val
      (Value.int IntKind.i64
      (IntKind.i64.wrap
      ((↑a.k : Int) +
      (1 : Int)))) =
      SV.val
      (Value.int IntKind.i64
      (↑a'.k : Int)) ∧
      true = true) ∧
      (SV.val
      (Value.slice aw ws.length
      cw) =
      SV.val
      (Value.slice aw ws.length
      cw) ∧
      true = true) ∧
      (SV.val
      (Value.slice a.aB
      (1 : Nat) a.cB) =
      SV.val
      (Value.slice a'.aB
      (1 : Nat) a'.cB) ∧
      true = true) ∧
      (SV.val
      (Value.pointer
      (some
      { block := a.b1, off := (0 : Nat) : Addr })) =
      SV.val
      (Value.pointer
      (some
      { block := a'.b1, off := (0 : Nat) : Addr })) ∧
      true = true) ∧
      (SV.val
      (Value.pointer
      (some
      { block := a.b2, off := (0 : Nat) : Addr })) =
      SV.val
      (Value.pointer
      (some
      { block := a'.b2, off := (0 : Nat) : Addr })) ∧
      true = true) ∧
      (SV.val
      (Value.pointer
      (some
      { block := a.b3, off := (0 : Nat) : Addr })) =
      SV.val
      (Value.pointer
      (some
      { block := a'.b3, off := (0 : Nat) : Addr })) ∧
      true = true) ∧
      (SV.own (0 : Nat)
      (0 : Nat) =
      SV.own (0 : Nat)
      (0 : Nat) ∧
      true = true) ∧
      (SV.own (1 : Nat)
      (0 : Nat) =
      SV.own (1 : Nat)
      (0 : Nat) ∧
      true = true) ∧
      (SV.val
      (Value.int
      IntKind.i64
      n) =
      SV.val
      (Value.int
      IntKind.i64
      n) ∧
      true = true) ∧
      True) ∧
      (some
      { ty := (65 : TypeId), cs := [Value.string A.key, Value.int IntKind.i64 A.lo, Value.int IntKind.i64 A.hi, Value.int IntKind.i64 A.base, Value.int IntKind.i64 A.round, Value.slice a1 A.hs.length c1, Value.int IntKind.i64 A.lk.cl, Value.int IntKind.i64 A.lk.sq, Value.int IntKind.i64 A.lk.hm, Value.int IntKind.i64 A.lk.n] : Bx } =
      some
      { ty := (65 : TypeId), cs := [Value.string A.key, Value.int IntKind.i64 A.lo, Value.int IntKind.i64 A.hi, Value.int IntKind.i64 A.base, Value.int IntKind.i64 A.round, Value.slice a1 A.hs.length c1, Value.int IntKind.i64 A.lk.cl, Value.int IntKind.i64 A.lk.sq, Value.int IntKind.i64 A.lk.hm, Value.int IntKind.i64 A.lk.n] : Bx } ∧
      true = true) ∧
      (some
      { ty := (65 : TypeId), cs := [Value.string B.key, Value.int IntKind.i64 B.lo, Value.int IntKind.i64 B.hi, Value.int IntKind.i64 B.base, Value.int IntKind.i64 B.round, Value.slice a2 B.hs.length c2, Value.int IntKind.i64 B.lk.cl, Value.int IntKind.i64 B.lk.sq, Value.int IntKind.i64 B.lk.hm, Value.int IntKind.i64 B.lk.n] : Bx } =
      some
      { ty := (65 : TypeId), cs := [Value.string B.key, Value.int IntKind.i64 B.lo, Value.int IntKind.i64 B.hi, Value.int IntKind.i64 B.base, Value.int IntKind.i64 B.round, Value.slice a2 B.hs.length c2, Value.int IntKind.i64 B.lk.cl, Value.int IntKind.i64 B.lk.sq, Value.int IntKind.i64 B.lk.hm, Value.int IntKind.i64 B.lk.n] : Bx } ∧
      true = true) ∧
      True) ∧
      ws.length - a'.k < ws.length - a.k)
      (ifB
      ((IntKind.i64.wrap (n_4 + (1 : Int))).tmod
      (2 : Int) ==
      (0 : Int))
      (((0 : Int) ≤
      (IntKind.i64.wrap
      (n_4 + (1 : Int))).tmod
      (2 : Int) ∧
      (IntKind.i64.wrap (n_4 + (1 : Int))).tmod
      (2 : Int) <
      (↑(2 : Nat) : Int)) ∧
      ∃ (s_2 : ByteArray),
      ∃ (n_13 : Int),
      ∃ (n_14 : Int),
      ∃ (n_15 : Int),
      ∃ (n_16 : Int),
      ∃ (a_5 : Option Addr),
      ∃ (n_17 : Nat),
      ∃ (c : Nat),
      ∃ (n_18 : Int),
      ∃ (n_19 : Int),
      ∃ (n_20 : Int),
      ∃ (n_21 : Int),
      CellsAt a.m a.b1
      ((0 : Nat) +
      ((IntKind.i64.wrap
      (n_4 +
      (1 :
      Int))).tmod
      (2 :
      Int)).toNat *
      (10 : Nat))
      [Value.string
      s_2,
      Value.int
      IntKind.i64
      n_13,
      Value.int
      IntKind.i64
      n_14,
      Value.int
      IntKind.i64
      n_15,
      Value.int
      IntKind.i64
      n_16,
      Value.slice
      a_5 n_17 c,
      Value.int
      IntKind.i64
      n_18,
      Value.int
      IntKind.i64
      n_19,
      Value.int
      IntKind.i64
      n_20,
      Value.int
      IntKind.i64
      n_21] ∧
      ∀ (n_22 : Nat),
      a.m.sz ≤ n_22 →
      Vc.Spec
      Try.prog
      (37 : Nat)
      [Value.agg
      #[Value.string
      s_2,
      Value.int
      IntKind.i64
      n_13,
      Value.int
      IntKind.i64
      n_14,
      Value.int
      IntKind.i64
      n_15,
      Value.int
      IntKind.i64
      n_16,
      Value.slice
      a_5
      n_17
      c,
      Value.int
      IntKind.i64
      n_18,
      Value.int
      IntKind.i64
      n_19,
      Value.int
      IntKind.i64
      n_20,
      Value.int
      IntKind.i64
      n_21],
      Value.agg
      #[Value.int
      IntKind.i64
      (3 :
      Int),
      Value.int
      IntKind.i64
      (9 :
      Int),
      Value.int
      IntKind.i64
      (1 :
      Int),
      Value.int
      IntKind.i64
      (IntKind.i64.wrap
      ((0 :
      Int) -
      n))]]
      { π := a.m.π, sz := n_22, uf := a.m.uf : M }
      fun
      (v :
      Value)
      (m' :
      M) =>
      ∃ (s_3 :
      ByteArray),
      ∃ (n_23 :
      Int),
      ∃ (n_24
      :
      Int),
      ∃
      (n_25
      :
      Int),
      ∃
      (n_26
      :
      Int),
      ∃
      (a_7
      :
      Option
      Addr),
      ∃
      (n_27
      :
      Nat),
      ∃
      (c
      :
      Nat),
      ∃
      (n_28
      :
      Int),
      ∃
      (n_29
      :
      Int),
      ∃
      (n_30
      :
      Int),
      ∃
      (n_31
      :
      Int),
      ∃
      (n_32
      :
      Int),
      v =
      Value.tuple
      #[Value.agg
      #[Value.string
      s_3,
      Value.int
      IntKind.i64
      n_23,
      Value.int
      IntKind.i64
      n_24,
      Value.int
      IntKind.i64
      n_25,
      Value.int
      IntKind.i64
      n_26,
      Value.slice
      a_7
      n_27
      c,
      Value.int
      IntKind.i64
      n_28,
      Value.int
      IntKind.i64
      n_29,
      Value.int
      IntKind.i64
      n_30,
      Value.int
      IntKind.i64
      n_31],
      Value.int
      IntKind.i64
      n_32] ∧
      ifB
      (n_32 ==
      (0 :
      Int))
      (((0 :
      Int) ≤
      (IntKind.i64.wrap
      (n_4 +
      (1 :
      Int))).tmod
      (2 :
      Int) ∧
      (IntKind.i64.wrap
      (n_4 +
      (1 :
      Int))).tmod
      (2 :
      Int) <
      (↑(2 :
      Nat) :
      Int)) ∧
      Wr
      N
      (fun
      (x :
      Nat) =>
      False)
      m'
      a.b1
      ((0 :
      Nat) +
      ((IntKind.i64.wrap
      (n_4 +
      (1 :
      Int))).tmod
      (2 :
      Int)).toNat *
      (10 :
      Nat))
      #[Value.string
      s_3,
      Value.int
      IntKind.i64
      n_23,
      Value.int
      IntKind.i64
      n_24,
      Value.int
      IntKind.i64
      n_25,
      Value.int
      IntKind.i64
      n_26,
      Value.slice
      a_7
      n_27
      c,
      Value.int
      IntKind.i64
      n_28,
      Value.int
      IntKind.i64
      n_29,
      Value.int
      IntKind.i64
      n_30,
      Value.int
      IntKind.i64
      n_31].size ∧
      ((0 :
      Int) ≤
      (IntKind.i64.wrap
      (n_4 +
      (1 :
      Int))).tmod
      (2 :
      Int) ∧
      (IntKind.i64.wrap
      (n_4 +
      (1 :
      Int))).tmod
      (2 :
      Int) <
      (↑(2 :
      Nat) :
      Int)) ∧
      Wr
      N
      (fun
      (x :
      Nat) =>
      False)
      (m'.setCells
      a.b1
      ((0 :
      Nat) +
      ((IntKind.i64.wrap
      (n_4 +
      (1 :
      Int))).tmod
      (2 :
      Int)).toNat *
      (10 :
      Nat))
      [Value.string
      s_3,
      Value.int
      IntKind.i64
      n_23,
      Value.int
      IntKind.i64
      n_24,
      Value.int
      IntKind.i64
      n_25,
      Value.int
      IntKind.i64
      n_26,
      Value.slice
      a_7
      n_27
      c,
      Value.int
      IntKind.i64
      n_28,
      Value.int
      IntKind.i64
      n_29,
      Value.int
      IntKind.i64
      n_30,
      Value.int
      IntKind.i64
      n_31])
      a.b2
      ((0 :
      Nat) +
      ((IntKind.i64.wrap
      (n_4 +
      (1 :
      Int))).tmod
      (2 :
      Int)).toNat *
      (1 :
      Nat))
      (1 :
      Nat) ∧
      ∃
      (x
      :
      DwX),
      ((x.k <
      ws.length ∧
      DwI
      N
      (ogD
      A
      B)
      n
      aw
      ws
      x) ∧
      (m'.setCells
      a.b1
      ((0 :
      Nat) +
      ((IntKind.i64.wrap
      (n_4 +
      (1 :
      Int))).tmod
      (2 :
      Int)).toNat *
      (10 :
      Nat))
      [Value.string
      s_3,
      Value.int
      IntKind.i64
      n_23,
      Value.int
      IntKind.i64
      n_24,
      Value.int
      IntKind.i64
      n_25,
      Value.int
      IntKind.i64
      n_26,
      Value.slice
      a_7
      n_27
      c,
      Value.int
      IntKind.i64
      n_28,
      Value.int
      IntKind.i64
      n_29,
      Value.int
      IntKind.i64
      n_30,
      Value.int
      IntKind.i64
      n_31]).setCells
      a.b2
      ((0 :
      Nat) +
      ((IntKind.i64.wrap
      (n_4 +
      (1 :
      Int))).tmod
      (2 :
      Int)).toNat *
      (1 :
      Nat))
      [Value.int
      IntKind.i64
      (1 :
      Int)] =
      x.m ∧
      ((SV.val
      (Value.int
      IntKind.i64
      (↑a.k :
      Int)) =
      SV.val
      (Value.int
      IntKind.i64
      (↑x.k :
      Int)) ∧
      true =
      true) ∧
      (SV.val
      (Value.slice
      aw
      ws.length
      cw) =
      SV.val
      (Value.slice
      aw
      ws.length
      cw) ∧
      true =
      true) ∧
      (SV.val
      (Value.slice
      a.aB
      (1 :
      Nat)
      a.cB) =
      SV.val
      (Value.slice
      x.aB
      (1 :
      Nat)
      x.cB) ∧
      true =
      true) ∧
      (SV.val
      (Value.pointer
      (some
      { block := a.b1, off := (0 : Nat) : Addr })) =
      SV.val
      (Value.pointer
      (some
      { block := x.b1, off := (0 : Nat) : Addr })) ∧
      true =
      true) ∧
      (SV.val
      (Value.pointer
      (some
      { block := a.b2, off := (0 : Nat) : Addr })) =
      SV.val
      (Value.pointer
      (some
      { block := x.b2, off := (0 : Nat) : Addr })) ∧
      true =
      true) ∧
      (SV.val
      (Value.pointer
      (some
      { block := a.b3, off := (0 : Nat) : Addr })) =
      SV.val
      (Value.pointer
      (some
      { block := x.b3, off := (0 : Nat) : Addr })) ∧
      true =
      true) ∧
      (SV.own
      (0 :
      Nat)
      (0 :
      Nat) =
      SV.own
      (0 :
      Nat)
      (0 :
      Nat) ∧
      true =
      true) ∧
      (SV.own
      (1 :
      Nat)
      (0 :
      Nat) =
      SV.own
      (1 :
      Nat)
      (0 :
      Nat) ∧
      true =
      true) ∧
      (SV.val
      (Value.int
      IntKind.i64
      n) =
      SV.val
      (Value.int
      IntKind.i64
      n) ∧
      true =
      true) ∧
      (SV.own
      ((0 :
      Nat) +
      (3 :
      Nat) +
      (19 :
      Nat) +
      (12 :
      Nat) +
      (2 :
      Nat) +
      (5 :
      Nat) +
      (3 :
      Nat) +
      (3 :
      Nat) +
      (1 :
      Nat) +
      (4 :
      Nat) +
      (7 :
      Nat) +
      (5 :
      Nat))
      (0 :
      Nat) =
      SV.own
      (64 :
      Nat)
      (0 :
      Nat) ∧
      true =
      true) ∧
      True) ∧
      (some
      { ty := (65 : TypeId), cs := [Value.string A.key, Value.int IntKind.i64 A.lo, Value.int IntKind.i64 A.hi, Value.int IntKind.i64 A.base, Value.int IntKind.i64 A.round, Value.slice a1 A.hs.length c1, Value.int IntKind.i64 A.lk.cl, Value.int IntKind.i64 A.lk.sq, Value.int IntKind.i64 A.lk.hm, Value.int IntKind.i64 A.lk.n] : Bx } =
      some
      { ty := (65 : TypeId), cs := [Value.string A.key, Value.int IntKind.i64 A.lo, Value.int IntKind.i64 A.hi, Value.int IntKind.i64 A.base, Value.int IntKind.i64 A.round, Value.slice a1 A.hs.length c1, Value.int IntKind.i64 A.lk.cl, Value.int IntKind.i64 A.lk.sq, Value.int IntKind.i64 A.lk.hm, Value.int IntKind.i64 A.lk.n] : Bx } ∧
      true =
      true) ∧
      (some
      { ty := (65 : TypeId), cs := [Value.string B.key, Value.int IntKind.i64 B.lo, Value.int IntKind.i64 B.hi, Value.int IntKind.i64 B.base, Value.int IntKind.i64 B.round, Value.slice a2 B.hs.length c2, Value.int IntKind.i64 B.lk.cl, Value.int IntKind.i64 B.lk.sq, Value.int IntKind.i64 B.lk.hm, Value.int IntKind.i64 B.lk.n] : Bx } =
      some
      { ty := (65 : TypeId), cs := [Value.string B.key, Value.int IntKind.i64 B.lo, Value.int IntKind.i64 B.hi, Value.int IntKind.i64 B.base, Value.int IntKind.i64 B.round, Value.slice a2 B.hs.length c2, Value.int IntKind.i64 B.lk.cl, Value.int IntKind.i64 B.lk.sq, Value.int IntKind.i64 B.lk.hm, Value.int IntKind.i64 B.lk.n] : Bx } ∧
      true =
      true) ∧
      (some
      { ty := (24 : Nat), cs := [Value.int IntKind.i64 n_5, Value.int IntKind.i64 n_6, Value.string s, Value.string s_1, Value.int IntKind.i64 n_7, Value.int IntKind.i64 n_8, Value.int IntKind.i64 n_9, Value.int IntKind.i64 n_10] : Bx } =
      some
      { ty := (24 : TypeId), cs := [Value.int IntKind.i64 x.d.cl, Value.int IntKind.i64 x.d.sq, Value.string x.d.ky, Value.string x.d.ot, Value.int IntKind.i64 x.d.n, Value.int IntKind.i64 x.d.mi, Value.int IntKind.i64 x.d.th, Value.int IntKind.i64 x.d.ft] : Bx } ∧
      true =
      true) ∧
      True) ∧
      [ws.length -
      a.k] =
      [ws.length -
      x.k])
      (ifB
      (n_32 ==
      (150 :
      Int))
      (((0 :
      Int) ≤
      (IntKind.i64.wrap
      (n_4 +
      (1 :
      Int))).tmod
      (2 :
      Int) ∧
      (IntKind.i64.wrap
      (n_4 +
      (1 :
      Int))).tmod
      (2 :
      Int) <
      (↑(2 :
      Nat) :
      Int)) ∧
      Wr
      N
      (fun
      (x :
      Nat) =>
      False)
      m'
      a.b2
      ((0 :
      Nat) +
      ((IntKind.i64.wrap
      (n_4 +
      (1 :
      Int))).tmod
      (2 :
      Int)).toNat *
      (1 :
      Nat))
      (1 :
      Nat) ∧
      ∃
      (x
      :
      DwX),
      ((x.k <
      ws.length ∧
      DwI
      N
      (ogD
      A
      B)
      n
      aw
      ws
      x) ∧
      m'.setCells
      a.b2
      ((0 :
      Nat) +
      ((IntKind.i64.wrap
      (n_4 +
      (1 :
      Int))).tmod
      (2 :
      Int)).toNat *
      (1 :
      Nat))
      [Value.int
      IntKind.i64
      (2 :
      Int)] =
      x.m ∧
      ((SV.val
      (Value.int
      IntKind.i64
      (↑a.k :
      Int)) =
      SV.val
      (Value.int
      IntKind.i64
      (↑x.k :
      Int)) ∧
      true =
      true) ∧
      (SV.val
      (Value.slice
      aw
      ws.length
      cw) =
      SV.val
      (Value.slice
      aw
      ws.length
      cw) ∧
      true =
      true) ∧
      (SV.val
      (Value.slice
      a.aB
      (1 :
      Nat)
      a.cB) =
      SV.val
      (Value.slice
      x.aB
      (1 :
      Nat)
      x.cB) ∧
      true =
      true) ∧
      (SV.val
      (Value.pointer
      (some
      { block := a.b1, off := (0 : Nat) : Addr })) =
      SV.val
      (Value.pointer
      (some
      { block := x.b1, off := (0 : Nat) : Addr })) ∧
      true =
      true) ∧
      (SV.val
      (Value.pointer
      (some
      { block := a.b2, off := (0 : Nat) : Addr })) =
      SV.val
      (Value.pointer
      (some
      { block := x.b2, off := (0 : Nat) : Addr })) ∧
      true =
      true) ∧
      (SV.val
      (Value.pointer
      (some
      { block := a.b3, off := (0 : Nat) : Addr })) =
      SV.val
      (Value.pointer
      (some
      { block := x.b3, off := (0 : Nat) : Addr })) ∧
      true =
      true) ∧
      (SV.own
      (0 :
      Nat)
      (0 :
      Nat) =
      SV.own
      (0 :
      Nat)
      (0 :
      Nat) ∧
      true =
      true) ∧
      (SV.own
      (1 :
      Nat)
      (0 :
      Nat) =
      SV.own
      (1 :
      Nat)
      (0 :
      Nat) ∧
      true =
      true) ∧
      (SV.val
      (Value.int
      IntKind.i64
      n) =
      SV.val
      (Value.int
      IntKind.i64
      n) ∧
      true =
      true) ∧
      (SV.own
      ((0 :
      Nat) +
      (3 :
      Nat) +
      (19 :
      Nat) +
      (12 :
      Nat) +
      (2 :
      Nat) +
      (5 :
      Nat) +
      (3 :
      Nat) +
      (3 :
      Nat) +
      (1 :
      Nat) +
      (4 :
      Nat) +
      (7 :
      Nat) +
      (5 :
      Nat))
      (0 :
      Nat) =
      SV.own
      (64 :
      Nat)
      (0 :
      Nat) ∧
      true =
      true) ∧
      True) ∧
      (some
      { ty := (65 : TypeId), cs := [Value.string A.key, Value.int IntKind.i64 A.lo, Value.int IntKind.i64 A.hi, Value.int IntKind.i64 A.base, Value.int IntKind.i64 A.round, Value.slice a1 A.hs.length c1, Value.int IntKind.i64 A.lk.cl, Value.int IntKind.i64 A.lk.sq, Value.int IntKind.i64 A.lk.hm, Value.int IntKind.i64 A.lk.n] : Bx } =
      some
      { ty := (65 : TypeId), cs := [Value.string A.key, Value.int IntKind.i64 A.lo, Value.int IntKind.i64 A.hi, Value.int IntKind.i64 A.base, Value.int IntKind.i64 A.round, Value.slice a1 A.hs.length c1, Value.int IntKind.i64 A.lk.cl, Value.int IntKind.i64 A.lk.sq, Value.int IntKind.i64 A.lk.hm, Value.int IntKind.i64 A.lk.n] : Bx } ∧
      true =
      true) ∧
      (some
      { ty := (65 : TypeId), cs := [Value.string B.key, Value.int IntKind.i64 B.lo, Value.int IntKind.i64 B.hi, Value.int IntKind.i64 B.base, Value.int IntKind.i64 B.round, Value.slice a2 B.hs.length c2, Value.int IntKind.i64 B.lk.cl, Value.int IntKind.i64 B.lk.sq, Value.int IntKind.i64 B.lk.hm, Value.int IntKind.i64 B.lk.n] : Bx } =
      some
      { ty := (65 : TypeId), cs := [Value.string B.key, Value.int IntKind.i64 B.lo, Value.int IntKind.i64 B.hi, Value.int IntKind.i64 B.base, Value.int IntKind.i64 B.round, Value.slice a2 B.hs.length c2, Value.int IntKind.i64 B.lk.cl, Value.int IntKind.i64 B.lk.sq, Value.int IntKind.i64 B.lk.hm, Value.int IntKind.i64 B.lk.n] : Bx } ∧
      true =
      true) ∧
      (some
      { ty := (24 : Nat), cs := [Value.int IntKind.i64 n_5, Value.int IntKind.i64 n_6, Value.string s, Value.string s_1, Value.int IntKind.i64 n_7, Value.int IntKind.i64 n_8, Value.int IntKind.i64 n_9, Value.int IntKind.i64 n_10] : Bx } =
      some
      { ty := (24 : TypeId), cs := [Value.int IntKind.i64 x.d.cl, Value.int IntKind.i64 x.d.sq, Value.string x.d.ky, Value.string x.d.ot, Value.int IntKind.i64 x.d.n, Value.int IntKind.i64 x.d.mi, Value.int IntKind.i64 x.d.th, Value.int IntKind.i64 x.d.ft] : Bx } ∧
      true =
      true) ∧
      True) ∧
      [ws.length -
      a.k] =
      [ws.length -
      x.k])
      (∃
      (x
      :
      DwX),
      ((x.k <
      ws.length ∧
      DwI
      N
      (ogD
      A
      B)
      n
      aw
      ws
      x) ∧
      m' =
      x.m ∧
      ((SV.val
      (Value.int
      IntKind.i64
      (↑a.k :
      Int)) =
      SV.val
      (Value.int
      IntKind.i64
      (↑x.k :
      Int)) ∧
      true =
      true) ∧
      (SV.val
      (Value.slice
      aw
      ws.length
      cw) =
      SV.val
      (Value.slice
      aw
      ws.length
      cw) ∧
      true =
      true) ∧
      (SV.val
      (Value.slice
      a.aB
      (1 :
      Nat)
      a.cB) =
      SV.val
      (Value.slice
      x.aB
      (1 :
      Nat)
      x.cB) ∧
      true =
      true) ∧
      (SV.val
      (Value.pointer
      (some
      { block := a.b1, off := (0 : Nat) : Addr })) =
      SV.val
      (Value.pointer
      (some
      { block := x.b1, off := (0 : Nat) : Addr })) ∧
      true =
      true) ∧
      (SV.val
      (Value.pointer
      (some
      { block := a.b2, off := (0 : Nat) : Addr })) =
      SV.val
      (Value.pointer
      (some
      { block := x.b2, off := (0 : Nat) : Addr })) ∧
      true =
      true) ∧
      (SV.val
      (Value.pointer
      (some
      { block := a.b3, off := (0 : Nat) : Addr })) =
      SV.val
      (Value.pointer
      (some
      { block := x.b3, off := (0 : Nat) : Addr })) ∧
      true =
      true) ∧
      (SV.own
      (0 :
      Nat)
      (0 :
      Nat) =
      SV.own
      (0 :
      Nat)
      (0 :
      Nat) ∧
      true =
      true) ∧
      (SV.own
      (1 :
      Nat)
      (0 :
      Nat) =
      SV.own
      (1 :
      Nat)
      (0 :
      Nat) ∧
      true =
      true) ∧
      (SV.val
      (Value.int
      IntKind.i64
      n) =
      SV.val
      (Value.int
      IntKind.i64
      n) ∧
      true =
      true) ∧
      (SV.own
      ((0 :
      Nat) +
      (3 :
      Nat) +
      (19 :
      Nat) +
      (12 :
      Nat) +
      (2 :
      Nat) +
      (5 :
      Nat) +
      (3 :
      Nat) +
      (3 :
      Nat) +
      (1 :
      Nat) +
      (4 :
      Nat) +
      (7 :
      Nat) +
      (5 :
      Nat))
      (0 :
      Nat) =
      SV.own
      (64 :
      Nat)
      (0 :
      Nat) ∧
      true =
      true) ∧
      True) ∧
      (some
      { ty := (65 : TypeId), cs := [Value.string A.key, Value.int IntKind.i64 A.lo, Value.int IntKind.i64 A.hi, Value.int IntKind.i64 A.base, Value.int IntKind.i64 A.round, Value.slice a1 A.hs.length c1, Value.int IntKind.i64 A.lk.cl, Value.int IntKind.i64 A.lk.sq, Value.int IntKind.i64 A.lk.hm, Value.int IntKind.i64 A.lk.n] : Bx } =
      some
      { ty := (65 : TypeId), cs := [Value.string A.key, Value.int IntKind.i64 A.lo, Value.int IntKind.i64 A.hi, Value.int IntKind.i64 A.base, Value.int IntKind.i64 A.round, Value.slice a1 A.hs.length c1, Value.int IntKind.i64 A.lk.cl, Value.int IntKind.i64 A.lk.sq, Value.int IntKind.i64 A.lk.hm, Value.int IntKind.i64 A.lk.n] : Bx } ∧
      true =
      true) ∧
      (some
      { ty := (65 : TypeId), cs := [Value.string B.key, Value.int IntKind.i64 B.lo, Value.int IntKind.i64 B.hi, Value.int IntKind.i64 B.base, Value.int IntKind.i64 B.round, Value.slice a2 B.hs.length c2, Value.int IntKind.i64 B.lk.cl, Value.int IntKind.i64 B.lk.sq, Value.int IntKind.i64 B.lk.hm, Value.int IntKind.i64 B.lk.n] : Bx } =
      some
      { ty := (65 : TypeId), cs := [Value.string B.key, Value.int IntKind.i64 B.lo, Value.int IntKind.i64 B.hi, Value.int IntKind.i64 B.base, Value.int IntKind.i64 B.round, Value.slice a2 B.hs.length c2, Value.int IntKind.i64 B.lk.cl, Value.int IntKind.i64 B.lk.sq, Value.int IntKind.i64 B.lk.hm, Value.int IntKind.i64 B.lk.n] : Bx } ∧
      true =
      true) ∧
      (some
      { ty := (24 : Nat), cs := [Value.int IntKind.i64 n_5, Value.int IntKind.i64 n_6, Value.string s, Value.string s_1, Value.int IntKind.i64 n_7, Value.int IntKind.i64 n_8, Value.int IntKind.i64 n_9, Value.int IntKind.i64 n_10] : Bx } =
      some
      { ty := (24 : TypeId), cs := [Value.int IntKind.i64 x.d.cl, Value.int IntKind.i64 x.d.sq, Value.string x.d.ky, Value.string x.d.ot, Value.int IntKind.i64 x.d.n, Value.int IntKind.i64 x.d.mi, Value.int IntKind.i64 x.d.th, Value.int IntKind.i64 x.d.ft] : Bx } ∧
      true =
      true) ∧
      True) ∧
      [ws.length -
      a.k] =
      [ws.length -
      x.k])))
      (((0 : Int) ≤
      (IntKind.i64.wrap
      (n_4 + (1 : Int))).tmod
      (2 : Int) ∧
      (IntKind.i64.wrap (n_4 + (1 : Int))).tmod
      (2 : Int) <
      (↑(2 : Nat) : Int)) ∧
      ∃ (s_2 : ByteArray),
      ∃ (n_13 : Int),
      ∃ (n_14 : Int),
      ∃ (n_15 : Int),
      ∃ (n_16 : Int),
      ∃ (a_5 : Option Addr),
      ∃ (n_17 : Nat),
      ∃ (c : Nat),
      ∃ (n_18 : Int),
      ∃ (n_19 : Int),
      ∃ (n_20 : Int),
      ∃ (n_21 : Int),
      CellsAt a.m a.b1
      ((0 : Nat) +
      ((IntKind.i64.wrap
      (n_4 +
      (1 :
      Int))).tmod
      (2 :
      Int)).toNat *
      (10 : Nat))
      [Value.string
      s_2,
      Value.int
      IntKind.i64
      n_13,
      Value.int
      IntKind.i64
      n_14,
      Value.int
      IntKind.i64
      n_15,
      Value.int
      IntKind.i64
      n_16,
      Value.slice
      a_5 n_17 c,
      Value.int
      IntKind.i64
      n_18,
      Value.int
      IntKind.i64
      n_19,
      Value.int
      IntKind.i64
      n_20,
      Value.int
      IntKind.i64
      n_21] ∧
      ∀ (n_22 : Nat),
      a.m.sz ≤ n_22 →
      Vc.Spec
      Try.prog
      (37 : Nat)
      [Value.agg
      #[Value.string
      s_2,
      Value.int
      IntKind.i64
      n_13,
      Value.int
      IntKind.i64
      n_14,
      Value.int
      IntKind.i64
      n_15,
      Value.int
      IntKind.i64
      n_16,
      Value.slice
      a_5
      n_17
      c,
      Value.int
      IntKind.i64
      n_18,
      Value.int
      IntKind.i64
      n_19,
      Value.int
      IntKind.i64
      n_20,
      Value.int
      IntKind.i64
      n_21],
      Value.agg
      #[Value.int
      IntKind.i64
      (3 :
      Int),
      Value.int
      IntKind.i64
      (9 :
      Int),
      Value.int
      IntKind.i64
      (1 :
      Int),
      Value.int
      IntKind.i64
      n]]
      { π := a.m.π, sz := n_22, uf := a.m.uf : M }
      fun
      (v :
      Value)
      (m' :
      M) =>
      ∃ (s_3 :
      ByteArray),
      ∃ (n_23 :
      Int),
      ∃ (n_24
      :
      Int),
      ∃
      (n_25
      :
      Int),
      ∃
      (n_26
      :
      Int),
      ∃
      (a_7
      :
      Option
      Addr),
      ∃
      (n_27
      :
      Nat),
      ∃
      (c
      :
      Nat),
      ∃
      (n_28
      :
      Int),
      ∃
      (n_29
      :
      Int),
      ∃
      (n_30
      :
      Int),
      ∃
      (n_31
      :
      Int),
      ∃
      (n_32
      :
      Int),
      v =
      Value.tuple
      #[Value.agg
      #[Value.string
      s_3,
      Value.int
      IntKind.i64
      n_23,
      Value.int
      IntKind.i64
      n_24,
      Value.int
      IntKind.i64
      n_25,
      Value.int
      IntKind.i64
      n_26,
      Value.slice
      a_7
      n_27
      c,
      Value.int
      IntKind.i64
      n_28,
      Value.int
      IntKind.i64
      n_29,
      Value.int
      IntKind.i64
      n_30,
      Value.int
      IntKind.i64
      n_31],
      Value.int
      IntKind.i64
      n_32] ∧
      ifB
      (n_32 ==
      (0 :
      Int))
      (((0 :
      Int) ≤
      (IntKind.i64.wrap
      (n_4 +
      (1 :
      Int))).tmod
      (2 :
      Int) ∧
      (IntKind.i64.wrap
      (n_4 +
      (1 :
      Int))).tmod
      (2 :
      Int) <
      (↑(2 :
      Nat) :
      Int)) ∧
      Wr
      N
      (fun
      (x :
      Nat) =>
      False)
      m'
      a.b1
      ((0 :
      Nat) +
      ((IntKind.i64.wrap
      (n_4 +
      (1 :
      Int))).tmod
      (2 :
      Int)).toNat *
      (10 :
      Nat))
      #[Value.string
      s_3,
      Value.int
      IntKind.i64
      n_23,
      Value.int
      IntKind.i64
      n_24,
      Value.int
      IntKind.i64
      n_25,
      Value.int
      IntKind.i64
      n_26,
      Value.slice
      a_7
      n_27
      c,
      Value.int
      IntKind.i64
      n_28,
      Value.int
      IntKind.i64
      n_29,
      Value.int
      IntKind.i64
      n_30,
      Value.int
      IntKind.i64
      n_31].size ∧
      ((0 :
      Int) ≤
      (IntKind.i64.wrap
      (n_4 +
      (1 :
      Int))).tmod
      (2 :
      Int) ∧
      (IntKind.i64.wrap
      (n_4 +
      (1 :
      Int))).tmod
      (2 :
      Int) <
      (↑(2 :
      Nat) :
      Int)) ∧
      Wr
      N
      (fun
      (x :
      Nat) =>
      False)
      (m'.setCells
      a.b1
      ((0 :
      Nat) +
      ((IntKind.i64.wrap
      (n_4 +
      (1 :
      Int))).tmod
      (2 :
      Int)).toNat *
      (10 :
      Nat))
      [Value.string
      s_3,
      Value.int
      IntKind.i64
      n_23,
      Value.int
      IntKind.i64
      n_24,
      Value.int
      IntKind.i64
      n_25,
      Value.int
      IntKind.i64
      n_26,
      Value.slice
      a_7
      n_27
      c,
      Value.int
      IntKind.i64
      n_28,
      Value.int
      IntKind.i64
      n_29,
      Value.int
      IntKind.i64
      n_30,
      Value.int
      IntKind.i64
      n_31])
      a.b2
      ((0 :
      Nat) +
      ((IntKind.i64.wrap
      (n_4 +
      (1 :
      Int))).tmod
      (2 :
      Int)).toNat *
      (1 :
      Nat))
      (1 :
      Nat) ∧
      ∃
      (x
      :
      DwX),
      ((x.k <
      ws.length ∧
      DwI
      N
      (ogD
      A
      B)
      n
      aw
      ws
      x) ∧
      (m'.setCells
      a.b1
      ((0 :
      Nat) +
      ((IntKind.i64.wrap
      (n_4 +
      (1 :
      Int))).tmod
      (2 :
      Int)).toNat *
      (10 :
      Nat))
      [Value.string
      s_3,
      Value.int
      IntKind.i64
      n_23,
      Value.int
      IntKind.i64
      n_24,
      Value.int
      IntKind.i64
      n_25,
      Value.int
      IntKind.i64
      n_26,
      Value.slice
      a_7
      n_27
      c,
      Value.int
      IntKind.i64
      n_28,
      Value.int
      IntKind.i64
      n_29,
      Value.int
      IntKind.i64
      n_30,
      Value.int
      IntKind.i64
      n_31]).setCells
      a.b2
      ((0 :
      Nat) +
      ((IntKind.i64.wrap
      (n_4 +
      (1 :
      Int))).tmod
      (2 :
      Int)).toNat *
      (1 :
      Nat))
      [Value.int
      IntKind.i64
      (1 :
      Int)] =
      x.m ∧
      ((SV.val
      (Value.int
      IntKind.i64
      (↑a.k :
      Int)) =
      SV.val
      (Value.int
      IntKind.i64
      (↑x.k :
      Int)) ∧
      true =
      true) ∧
      (SV.val
      (Value.slice
      aw
      ws.length
      cw) =
      SV.val
      (Value.slice
      aw
      ws.length
      cw) ∧
      true =
      true) ∧
      (SV.val
      (Value.slice
      a.aB
      (1 :
      Nat)
      a.cB) =
      SV.val
      (Value.slice
      x.aB
      (1 :
      Nat)
      x.cB) ∧
      true =
      true) ∧
      (SV.val
      (Value.pointer
      (some
      { block := a.b1, off := (0 : Nat) : Addr })) =
      SV.val
      (Value.pointer
      (some
      { block := x.b1, off := (0 : Nat) : Addr })) ∧
      true =
      true) ∧
      (SV.val
      (Value.pointer
      (some
      { block := a.b2, off := (0 : Nat) : Addr })) =
      SV.val
      (Value.pointer
      (some
      { block := x.b2, off := (0 : Nat) : Addr })) ∧
      true =
      true) ∧
      (SV.val
      (Value.pointer
      (some
      { block := a.b3, off := (0 : Nat) : Addr })) =
      SV.val
      (Value.pointer
      (some
      { block := x.b3, off := (0 : Nat) : Addr })) ∧
      true =
      true) ∧
      (SV.own
      (0 :
      Nat)
      (0 :
      Nat) =
      SV.own
      (0 :
      Nat)
      (0 :
      Nat) ∧
      true =
      true) ∧
      (SV.own
      (1 :
      Nat)
      (0 :
      Nat) =
      SV.own
      (1 :
      Nat)
      (0 :
      Nat) ∧
      true =
      true) ∧
      (SV.val
      (Value.int
      IntKind.i64
      n) =
      SV.val
      (Value.int
      IntKind.i64
      n) ∧
      true =
      true) ∧
      (SV.own
      ((0 :
      Nat) +
      (3 :
      Nat) +
      (19 :
      Nat) +
      (12 :
      Nat) +
      (2 :
      Nat) +
      (5 :
      Nat) +
      (3 :
      Nat) +
      (3 :
      Nat) +
      (1 :
      Nat) +
      (4 :
      Nat) +
      (7 :
      Nat) +
      (5 :
      Nat))
      (0 :
      Nat) =
      SV.own
      (64 :
      Nat)
      (0 :
      Nat) ∧
      true =
      true) ∧
      True) ∧
      (some
      { ty := (65 : TypeId), cs := [Value.string A.key, Value.int IntKind.i64 A.lo, Value.int IntKind.i64 A.hi, Value.int IntKind.i64 A.base, Value.int IntKind.i64 A.round, Value.slice a1 A.hs.length c1, Value.int IntKind.i64 A.lk.cl, Value.int IntKind.i64 A.lk.sq, Value.int IntKind.i64 A.lk.hm, Value.int IntKind.i64 A.lk.n] : Bx } =
      some
      { ty := (65 : TypeId), cs := [Value.string A.key, Value.int IntKind.i64 A.lo, Value.int IntKind.i64 A.hi, Value.int IntKind.i64 A.base, Value.int IntKind.i64 A.round, Value.slice a1 A.hs.length c1, Value.int IntKind.i64 A.lk.cl, Value.int IntKind.i64 A.lk.sq, Value.int IntKind.i64 A.lk.hm, Value.int IntKind.i64 A.lk.n] : Bx } ∧
      true =
      true) ∧
      (some
      { ty := (65 : TypeId), cs := [Value.string B.key, Value.int IntKind.i64 B.lo, Value.int IntKind.i64 B.hi, Value.int IntKind.i64 B.base, Value.int IntKind.i64 B.round, Value.slice a2 B.hs.length c2, Value.int IntKind.i64 B.lk.cl, Value.int IntKind.i64 B.lk.sq, Value.int IntKind.i64 B.lk.hm, Value.int IntKind.i64 B.lk.n] : Bx } =
      some
      { ty := (65 : TypeId), cs := [Value.string B.key, Value.int IntKind.i64 B.lo, Value.int IntKind.i64 B.hi, Value.int IntKind.i64 B.base, Value.int IntKind.i64 B.round, Value.slice a2 B.hs.length c2, Value.int IntKind.i64 B.lk.cl, Value.int IntKind.i64 B.lk.sq, Value.int IntKind.i64 B.lk.hm, Value.int IntKind.i64 B.lk.n] : Bx } ∧
      true =
      true) ∧
      (some
      { ty := (24 : Nat), cs := [Value.int IntKind.i64 n_5, Value.int IntKind.i64 n_6, Value.string s, Value.string s_1, Value.int IntKind.i64 n_7, Value.int IntKind.i64 n_8, Value.int IntKind.i64 n_9, Value.int IntKind.i64 n_10] : Bx } =
      some
      { ty := (24 : TypeId), cs := [Value.int IntKind.i64 x.d.cl, Value.int IntKind.i64 x.d.sq, Value.string x.d.ky, Value.string x.d.ot, Value.int IntKind.i64 x.d.n, Value.int IntKind.i64 x.d.mi, Value.int IntKind.i64 x.d.th, Value.int IntKind.i64 x.d.ft] : Bx } ∧
      true =
      true) ∧
      True) ∧
      [ws.length -
      a.k] =
      [ws.length -
      x.k])
      (ifB
      (n_32 ==
      (150 :
      Int))
      (((0 :
      Int) ≤
      (IntKind.i64.wrap
      (n_4 +
      (1 :
      Int))).tmod
      (2 :
      Int) ∧
      (IntKind.i64.wrap
      (n_4 +
      (1 :
      Int))).tmod
      (2 :
      Int) <
      (↑(2 :
      Nat) :
      Int)) ∧
      Wr
      N
      (fun
      (x :
      Nat) =>
      False)
      m'
      a.b2
      ((0 :
      Nat) +
      ((IntKind.i64.wrap
      (n_4 +
      (1 :
      Int))).tmod
      (2 :
      Int)).toNat *
      (1 :
      Nat))
      (1 :
      Nat) ∧
      ∃
      (x
      :
      DwX),
      ((x.k <
      ws.length ∧
      DwI
      N
      (ogD
      A
      B)
      n
      aw
      ws
      x) ∧
      m'.setCells
      a.b2
      ((0 :
      Nat) +
      ((IntKind.i64.wrap
      (n_4 +
      (1 :
      Int))).tmod
      (2 :
      Int)).toNat *
      (1 :
      Nat))
      [Value.int
      IntKind.i64
      (2 :
      Int)] =
      x.m ∧
      ((SV.val
      (Value.int
      IntKind.i64
      (↑a.k :
      Int)) =
      SV.val
      (Value.int
      IntKind.i64
      (↑x.k :
      Int)) ∧
      true =
      true) ∧
      (SV.val
      (Value.slice
      aw
      ws.length
      cw) =
      SV.val
      (Value.slice
      aw
      ws.length
      cw) ∧
      true =
      true) ∧
      (SV.val
      (Value.slice
      a.aB
      (1 :
      Nat)
      a.cB) =
      SV.val
      (Value.slice
      x.aB
      (1 :
      Nat)
      x.cB) ∧
      true =
      true) ∧
      (SV.val
      (Value.pointer
      (some
      { block := a.b1, off := (0 : Nat) : Addr })) =
      SV.val
      (Value.pointer
      (some
      { block := x.b1, off := (0 : Nat) : Addr })) ∧
      true =
      true) ∧
      (SV.val
      (Value.pointer
      (some
      { block := a.b2, off := (0 : Nat) : Addr })) =
      SV.val
      (Value.pointer
      (some
      { block := x.b2, off := (0 : Nat) : Addr })) ∧
      true =
      true) ∧
      (SV.val
      (Value.pointer
      (some
      { block := a.b3, off := (0 : Nat) : Addr })) =
      SV.val
      (Value.pointer
      (some
      { block := x.b3, off := (0 : Nat) : Addr })) ∧
      true =
      true) ∧
      (SV.own
      (0 :
      Nat)
      (0 :
      Nat) =
      SV.own
      (0 :
      Nat)
      (0 :
      Nat) ∧
      true =
      true) ∧
      (SV.own
      (1 :
      Nat)
      (0 :
      Nat) =
      SV.own
      (1 :
      Nat)
      (0 :
      Nat) ∧
      true =
      true) ∧
      (SV.val
      (Value.int
      IntKind.i64
      n) =
      SV.val
      (Value.int
      IntKind.i64
      n) ∧
      true =
      true) ∧
      (SV.own
      ((0 :
      Nat) +
      (3 :
      Nat) +
      (19 :
      Nat) +
      (12 :
      Nat) +
      (2 :
      Nat) +
      (5 :
      Nat) +
      (3 :
      Nat) +
      (3 :
      Nat) +
      (1 :
      Nat) +
      (4 :
      Nat) +
      (7 :
      Nat) +
      (5 :
      Nat))
      (0 :
      Nat) =
      SV.own
      (64 :
      Nat)
      (0 :
      Nat) ∧
      true =
      true) ∧
      True) ∧
      (some
      { ty := (65 : TypeId), cs := [Value.string A.key, Value.int IntKind.i64 A.lo, Value.int IntKind.i64 A.hi, Value.int IntKind.i64 A.base, Value.int IntKind.i64 A.round, Value.slice a1 A.hs.length c1, Value.int IntKind.i64 A.lk.cl, Value.int IntKind.i64 A.lk.sq, Value.int IntKind.i64 A.lk.hm, Value.int IntKind.i64 A.lk.n] : Bx } =
      some
      { ty := (65 : TypeId), cs := [Value.string A.key, Value.int IntKind.i64 A.lo, Value.int IntKind.i64 A.hi, Value.int IntKind.i64 A.base, Value.int IntKind.i64 A.round, Value.slice a1 A.hs.length c1, Value.int IntKind.i64 A.lk.cl, Value.int IntKind.i64 A.lk.sq, Value.int IntKind.i64 A.lk.hm, Value.int IntKind.i64 A.lk.n] : Bx } ∧
      true =
      true) ∧
      (some
      { ty := (65 : TypeId), cs := [Value.string B.key, Value.int IntKind.i64 B.lo, Value.int IntKind.i64 B.hi, Value.int IntKind.i64 B.base, Value.int IntKind.i64 B.round, Value.slice a2 B.hs.length c2, Value.int IntKind.i64 B.lk.cl, Value.int IntKind.i64 B.lk.sq, Value.int IntKind.i64 B.lk.hm, Value.int IntKind.i64 B.lk.n] : Bx } =
      some
      { ty := (65 : TypeId), cs := [Value.string B.key, Value.int IntKind.i64 B.lo, Value.int IntKind.i64 B.hi, Value.int IntKind.i64 B.base, Value.int IntKind.i64 B.round, Value.slice a2 B.hs.length c2, Value.int IntKind.i64 B.lk.cl, Value.int IntKind.i64 B.lk.sq, Value.int IntKind.i64 B.lk.hm, Value.int IntKind.i64 B.lk.n] : Bx } ∧
      true =
      true) ∧
      (some
      { ty := (24 : Nat), cs := [Value.int IntKind.i64 n_5, Value.int IntKind.i64 n_6, Value.string s, Value.string s_1, Value.int IntKind.i64 n_7, Value.int IntKind.i64 n_8, Value.int IntKind.i64 n_9, Value.int IntKind.i64 n_10] : Bx } =
      some
      { ty := (24 : TypeId), cs := [Value.int IntKind.i64 x.d.cl, Value.int IntKind.i64 x.d.sq, Value.string x.d.ky, Value.string x.d.ot, Value.int IntKind.i64 x.d.n, Value.int IntKind.i64 x.d.mi, Value.int IntKind.i64 x.d.th, Value.int IntKind.i64 x.d.ft] : Bx } ∧
      true =
      true) ∧
      True) ∧
      [ws.length -
      a.k] =
      [ws.length -
      x.k])
      (∃
      (x
      :
      DwX),
      ((x.k <
      ws.length ∧
      DwI
      N
      (ogD
      A
      B)
      n
      aw
      ws
      x) ∧
      m' =
      x.m ∧
      ((SV.val
      (Value.int
      IntKind.i64
      (↑a.k :
      Int)) =
      SV.val
      (Value.int
      IntKind.i64
      (↑x.k :
      Int)) ∧
      true =
      true) ∧
      (SV.val
      (Value.slice
      aw
      ws.length
      cw) =
      SV.val
      (Value.slice
      aw
      ws.length
      cw) ∧
      true =
      true) ∧
      (SV.val
      (Value.slice
      a.aB
      (1 :
      Nat)
      a.cB) =
      SV.val
      (Value.slice
      x.aB
      (1 :
      Nat)
      x.cB) ∧
      true =
      true) ∧
      (SV.val
      (Value.pointer
      (some
      { block := a.b1, off := (0 : Nat) : Addr })) =
      SV.val
      (Value.pointer
      (some
      { block := x.b1, off := (0 : Nat) : Addr })) ∧
      true =
      true) ∧
      (SV.val
      (Value.pointer
      (some
      { block := a.b2, off := (0 : Nat) : Addr })) =
      SV.val
      (Value.pointer
      (some
      { block := x.b2, off := (0 : Nat) : Addr })) ∧
      true =
      true) ∧
      (SV.val
      (Value.pointer
      (some
      { block := a.b3, off := (0 : Nat) : Addr })) =
      SV.val
      (Value.pointer
      (some
      { block := x.b3, off := (0 : Nat) : Addr })) ∧
      true =
      true) ∧
      (SV.own
      (0 :
      Nat)
      (0 :
      Nat) =
      SV.own
      (0 :
      Nat)
      (0 :
      Nat) ∧
      true =
      true) ∧
      (SV.own
      (1 :
      Nat)
      (0 :
      Nat) =
      SV.own
      (1 :
      Nat)
      (0 :
      Nat) ∧
      true =
      true) ∧
      (SV.val
      (Value.int
      IntKind.i64
      n) =
      SV.val
      (Value.int
      IntKind.i64
      n) ∧
      true =
      true) ∧
      (SV.own
      ((0 :
      Nat) +
      (3 :
      Nat) +
      (19 :
      Nat) +
      (12 :
      Nat) +
      (2 :
      Nat) +
      (5 :
      Nat) +
      (3 :
      Nat) +
      (3 :
      Nat) +
      (1 :
      Nat) +
      (4 :
      Nat) +
      (7 :
      Nat) +
      (5 :
      Nat))
      (0 :
      Nat) =
      SV.own
      (64 :
      Nat)
      (0 :
      Nat) ∧
      true =
      true) ∧
      True) ∧
      (some
      { ty := (65 : TypeId), cs := [Value.string A.key, Value.int IntKind.i64 A.lo, Value.int IntKind.i64 A.hi, Value.int IntKind.i64 A.base, Value.int IntKind.i64 A.round, Value.slice a1 A.hs.length c1, Value.int IntKind.i64 A.lk.cl, Value.int IntKind.i64 A.lk.sq, Value.int IntKind.i64 A.lk.hm, Value.int IntKind.i64 A.lk.n] : Bx } =
      some
      { ty := (65 : TypeId), cs := [Value.string A.key, Value.int IntKind.i64 A.lo, Value.int IntKind.i64 A.hi, Value.int IntKind.i64 A.base, Value.int IntKind.i64 A.round, Value.slice a1 A.hs.length c1, Value.int IntKind.i64 A.lk.cl, Value.int IntKind.i64 A.lk.sq, Value.int IntKind.i64 A.lk.hm, Value.int IntKind.i64 A.lk.n] : Bx } ∧
      true =
      true) ∧
      (some
      { ty := (65 : TypeId), cs := [Value.string B.key, Value.int IntKind.i64 B.lo, Value.int IntKind.i64 B.hi, Value.int IntKind.i64 B.base, Value.int IntKind.i64 B.round, Value.slice a2 B.hs.length c2, Value.int IntKind.i64 B.lk.cl, Value.int IntKind.i64 B.lk.sq, Value.int IntKind.i64 B.lk.hm, Value.int IntKind.i64 B.lk.n] : Bx } =
      some
      { ty := (65 : TypeId), cs := [Value.string B.key, Value.int IntKind.i64 B.lo, Value.int IntKind.i64 B.hi, Value.int IntKind.i64 B.base, Value.int IntKind.i64 B.round, Value.slice a2 B.hs.length c2, Value.int IntKind.i64 B.lk.cl, Value.int IntKind.i64 B.lk.sq, Value.int IntKind.i64 B.lk.hm, Value.int IntKind.i64 B.lk.n] : Bx } ∧
      true =
      true) ∧
      (some
      { ty := (24 : Nat), cs := [Value.int IntKind.i64 n_5, Value.int IntKind.i64 n_6, Value.string s, Value.string s_1, Value.int IntKind.i64 n_7, Value.int IntKind.i64 n_8, Value.int IntKind.i64 n_9, Value.int IntKind.i64 n_10] : Bx } =
      some
      { ty := (24 : TypeId), cs := [Value.int IntKind.i64 x.d.cl, Value.int IntKind.i64 x.d.sq, Value.string x.d.ky, Value.string x.d.ot, Value.int IntKind.i64 x.d.n, Value.int IntKind.i64 x.d.mi, Value.int IntKind.i64 x.d.th, Value.int IntKind.i64 x.d.ft] : Bx } ∧
      true =
      true) ∧
      True) ∧
      [ws.length -
      a.k] =
      [ws.length -
      x.k]))))))
      (ifB (n_11 == (2 : Int))
      (((0 : Int) ≤
      (IntKind.i64.wrap (n_4 + (1 : Int))).tmod (2 : Int) ∧
      (IntKind.i64.wrap (n_4 + (1 : Int))).tmod (2 : Int) <
      (↑(2 : Nat) : Int)) ∧
      ∃ (n_12 : Int),
      CellsAt a.m a.b2
      ((0 : Nat) +
      ((IntKind.i64.wrap (n_4 + (1 : Int))).tmod
      (2 : Int)).toNat *
      (1 : Nat))
      [Value.int IntKind.i64 n_12] ∧
      ifB (n_12 != (0 : Int))
      (∃ (a' : DwX),
      (DwI N (ogD A B) n aw ws a' ∧
      a.m = a'.m ∧
      ((SV.val
      (Value.int IntKind.i64
      (IntKind.i64.wrap
      ((↑a.k : Int) + (1 : Int)))) =
      SV.val
      (Value.int IntKind.i64
      (↑a'.k : Int)) ∧
      true = true) ∧
      (SV.val (Value.slice aw ws.length cw) =
      SV.val
      (Value.slice aw ws.length cw) ∧
      true = true) ∧
      (SV.val
      (Value.slice a.aB (1 : Nat)
      a.cB) =
      SV.val
      (Value.slice a'.aB (1 : Nat)
      a'.cB) ∧
      true = true) ∧
      (SV.val
      (Value.pointer
      (some
      { block := a.b1, off := (0 : Nat) : Addr })) =
      SV.val
      (Value.pointer
      (some
      { block := a'.b1, off := (0 : Nat) : Addr })) ∧
      true = true) ∧
      (SV.val
      (Value.pointer
      (some
      { block := a.b2, off := (0 : Nat) : Addr })) =
      SV.val
      (Value.pointer
      (some
      { block := a'.b2, off := (0 : Nat) : Addr })) ∧
      true = true) ∧
      (SV.val
      (Value.pointer
      (some
      { block := a.b3, off := (0 : Nat) : Addr })) =
      SV.val
      (Value.pointer
      (some
      { block := a'.b3, off := (0 : Nat) : Addr })) ∧
      true = true) ∧
      (SV.own (0 : Nat) (0 : Nat) =
      SV.own (0 : Nat)
      (0 : Nat) ∧
      true = true) ∧
      (SV.own (1 : Nat) (0 : Nat) =
      SV.own (1 : Nat)
      (0 : Nat) ∧
      true = true) ∧
      (SV.val
      (Value.int
      IntKind.i64 n) =
      SV.val
      (Value.int
      IntKind.i64 n) ∧
      true = true) ∧
      True) ∧
      (some
      { ty := (65 : TypeId), cs := [Value.string A.key, Value.int IntKind.i64 A.lo, Value.int IntKind.i64 A.hi, Value.int IntKind.i64 A.base, Value.int IntKind.i64 A.round, Value.slice a1 A.hs.length c1, Value.int IntKind.i64 A.lk.cl, Value.int IntKind.i64 A.lk.sq, Value.int IntKind.i64 A.lk.hm, Value.int IntKind.i64 A.lk.n] : Bx } =
      some
      { ty := (65 : TypeId), cs := [Value.string A.key, Value.int IntKind.i64 A.lo, Value.int IntKind.i64 A.hi, Value.int IntKind.i64 A.base, Value.int IntKind.i64 A.round, Value.slice a1 A.hs.length c1, Value.int IntKind.i64 A.lk.cl, Value.int IntKind.i64 A.lk.sq, Value.int IntKind.i64 A.lk.hm, Value.int IntKind.i64 A.lk.n] : Bx } ∧
      true = true) ∧
      (some
      { ty := (65 : TypeId), cs := [Value.string B.key, Value.int IntKind.i64 B.lo, Value.int IntKind.i64 B.hi, Value.int IntKind.i64 B.base, Value.int IntKind.i64 B.round, Value.slice a2 B.hs.length c2, Value.int IntKind.i64 B.lk.cl, Value.int IntKind.i64 B.lk.sq, Value.int IntKind.i64 B.lk.hm, Value.int IntKind.i64 B.lk.n] : Bx } =
      some
      { ty := (65 : TypeId), cs := [Value.string B.key, Value.int IntKind.i64 B.lo, Value.int IntKind.i64 B.hi, Value.int IntKind.i64 B.base, Value.int IntKind.i64 B.round, Value.slice a2 B.hs.length c2, Value.int IntKind.i64 B.lk.cl, Value.int IntKind.i64 B.lk.sq, Value.int IntKind.i64 B.lk.hm, Value.int IntKind.i64 B.lk.n] : Bx } ∧
      true = true) ∧
      True) ∧
      ws.length - a'.k < ws.length - a.k)
      (((0 : Int) ≤
      (IntKind.i64.wrap (n_4 + (1 : Int))).tmod
      (2 : Int) ∧
      (IntKind.i64.wrap (n_4 + (1 : Int))).tmod
      (2 : Int) <
      (↑(2 : Nat) : Int)) ∧
      ∃ (b : Bool),
      CellsAt a.m a.b3
      ((0 : Nat) +
      ((IntKind.i64.wrap (n_4 + (1 : Int))).tmod
      (2 : Int)).toNat *
      (1 : Nat))
      [Value.bool b] ∧
      ifB b
      (∃ (a' : DwX),
      (DwI N (ogD A B) n aw ws a' ∧
      a.m = a'.m ∧
      ((SV.val
      (Value.int IntKind.i64
      (IntKind.i64.wrap
      ((↑a.k : Int) +
      (1 : Int)))) =
      SV.val
      (Value.int IntKind.i64
      (↑a'.k : Int)) ∧
      true = true) ∧
      (SV.val
      (Value.slice aw ws.length
      cw) =
      SV.val
      (Value.slice aw ws.length
      cw) ∧
      true = true) ∧
      (SV.val
      (Value.slice a.aB
      (1 : Nat) a.cB) =
      SV.val
      (Value.slice a'.aB
      (1 : Nat) a'.cB) ∧
      true = true) ∧
      (SV.val
      (Value.pointer
      (some
      { block := a.b1, off := (0 : Nat) : Addr })) =
      SV.val
      (Value.pointer
      (some
      { block := a'.b1, off := (0 : Nat) : Addr })) ∧
      true = true) ∧
      (SV.val
      (Value.pointer
      (some
      { block := a.b2, off := (0 : Nat) : Addr })) =
      SV.val
      (Value.pointer
      (some
      { block := a'.b2, off := (0 : Nat) : Addr })) ∧
      true = true) ∧
      (SV.val
      (Value.pointer
      (some
      { block := a.b3, off := (0 : Nat) : Addr })) =
      SV.val
      (Value.pointer
      (some
      { block := a'.b3, off := (0 : Nat) : Addr })) ∧
      true = true) ∧
      (SV.own (0 : Nat)
      (0 : Nat) =
      SV.own (0 : Nat)
      (0 : Nat) ∧
      true = true) ∧
      (SV.own (1 : Nat)
      (0 : Nat) =
      SV.own (1 : Nat)
      (0 : Nat) ∧
      true = true) ∧
      (SV.val
      (Value.int
      IntKind.i64
      n) =
      SV.val
      (Value.int
      IntKind.i64
      n) ∧
      true = true) ∧
      True) ∧
      (some
      { ty := (65 : TypeId), cs := [Value.string A.key, Value.int IntKind.i64 A.lo, Value.int IntKind.i64 A.hi, Value.int IntKind.i64 A.base, Value.int IntKind.i64 A.round, Value.slice a1 A.hs.length c1, Value.int IntKind.i64 A.lk.cl, Value.int IntKind.i64 A.lk.sq, Value.int IntKind.i64 A.lk.hm, Value.int IntKind.i64 A.lk.n] : Bx } =
      some
      { ty := (65 : TypeId), cs := [Value.string A.key, Value.int IntKind.i64 A.lo, Value.int IntKind.i64 A.hi, Value.int IntKind.i64 A.base, Value.int IntKind.i64 A.round, Value.slice a1 A.hs.length c1, Value.int IntKind.i64 A.lk.cl, Value.int IntKind.i64 A.lk.sq, Value.int IntKind.i64 A.lk.hm, Value.int IntKind.i64 A.lk.n] : Bx } ∧
      true = true) ∧
      (some
      { ty := (65 : TypeId), cs := [Value.string B.key, Value.int IntKind.i64 B.lo, Value.int IntKind.i64 B.hi, Value.int IntKind.i64 B.base, Value.int IntKind.i64 B.round, Value.slice a2 B.hs.length c2, Value.int IntKind.i64 B.lk.cl, Value.int IntKind.i64 B.lk.sq, Value.int IntKind.i64 B.lk.hm, Value.int IntKind.i64 B.lk.n] : Bx } =
      some
      { ty := (65 : TypeId), cs := [Value.string B.key, Value.int IntKind.i64 B.lo, Value.int IntKind.i64 B.hi, Value.int IntKind.i64 B.base, Value.int IntKind.i64 B.round, Value.slice a2 B.hs.length c2, Value.int IntKind.i64 B.lk.cl, Value.int IntKind.i64 B.lk.sq, Value.int IntKind.i64 B.lk.hm, Value.int IntKind.i64 B.lk.n] : Bx } ∧
      true = true) ∧
      True) ∧
      ws.length - a'.k < ws.length - a.k)
      (ifB
      ((IntKind.i64.wrap (n_4 + (1 : Int))).tmod
      (2 : Int) ==
      (0 : Int))
      (((0 : Int) ≤
      (IntKind.i64.wrap
      (n_4 + (1 : Int))).tmod
      (2 : Int) ∧
      (IntKind.i64.wrap
      (n_4 + (1 : Int))).tmod
      (2 : Int) <
      (↑(2 : Nat) : Int)) ∧
      ∃ (s_2 : ByteArray),
      ∃ (n_13 : Int),
      ∃ (n_14 : Int),
      ∃ (n_15 : Int),
      ∃ (n_16 : Int),
      ∃ (a_5 : Option Addr),
      ∃ (n_17 : Nat),
      ∃ (c : Nat),
      ∃ (n_18 : Int),
      ∃ (n_19 : Int),
      ∃ (n_20 : Int),
      ∃ (n_21 : Int),
      CellsAt a.m a.b1
      ((0 : Nat) +
      ((IntKind.i64.wrap
      (n_4 +
      (1 :
      Int))).tmod
      (2 :
      Int)).toNat *
      (10 :
      Nat))
      [Value.string
      s_2,
      Value.int
      IntKind.i64
      n_13,
      Value.int
      IntKind.i64
      n_14,
      Value.int
      IntKind.i64
      n_15,
      Value.int
      IntKind.i64
      n_16,
      Value.slice
      a_5 n_17
      c,
      Value.int
      IntKind.i64
      n_18,
      Value.int
      IntKind.i64
      n_19,
      Value.int
      IntKind.i64
      n_20,
      Value.int
      IntKind.i64
      n_21] ∧
      ∀ (n_22 : Nat),
      a.m.sz ≤
      n_22 →
      Vc.Spec
      Try.prog
      (37 : Nat)
      [Value.agg
      #[Value.string
      s_2,
      Value.int
      IntKind.i64
      n_13,
      Value.int
      IntKind.i64
      n_14,
      Value.int
      IntKind.i64
      n_15,
      Value.int
      IntKind.i64
      n_16,
      Value.slice
      a_5
      n_17
      c,
      Value.int
      IntKind.i64
      n_18,
      Value.int
      IntKind.i64
      n_19,
      Value.int
      IntKind.i64
      n_20,
      Value.int
      IntKind.i64
      n_21],
      Value.agg
      #[Value.int
      IntKind.i64
      (3 :
      Int),
      Value.int
      IntKind.i64
      (9 :
      Int),
      Value.int
      IntKind.i64
      (1 :
      Int),
      Value.int
      IntKind.i64
      (IntKind.i64.wrap
      ((0 :
      Int) -
      n))]]
      { π := a.m.π, sz := n_22, uf := a.m.uf : M }
      fun
      (v :
      Value)
      (m' :
      M) =>
      ∃ (s_3 :
      ByteArray),
      ∃ (n_23
      :
      Int),
      ∃
      (n_24
      :
      Int),
      ∃
      (n_25
      :
      Int),
      ∃
      (n_26
      :
      Int),
      ∃
      (a_7
      :
      Option
      Addr),
      ∃
      (n_27
      :
      Nat),
      ∃
      (c
      :
      Nat),
      ∃
      (n_28
      :
      Int),
      ∃
      (n_29
      :
      Int),
      ∃
      (n_30
      :
      Int),
      ∃
      (n_31
      :
      Int),
      ∃
      (n_32
      :
      Int),
      v =
      Value.tuple
      #[Value.agg
      #[Value.string
      s_3,
      Value.int
      IntKind.i64
      n_23,
      Value.int
      IntKind.i64
      n_24,
      Value.int
      IntKind.i64
      n_25,
      Value.int
      IntKind.i64
      n_26,
      Value.slice
      a_7
      n_27
      c,
      Value.int
      IntKind.i64
      n_28,
      Value.int
      IntKind.i64
      n_29,
      Value.int
      IntKind.i64
      n_30,
      Value.int
      IntKind.i64
      n_31],
      Value.int
      IntKind.i64
      n_32] ∧
      ifB
      (n_32 ==
      (0 :
      Int))
      (((0 :
      Int) ≤
      (IntKind.i64.wrap
      (n_4 +
      (1 :
      Int))).tmod
      (2 :
      Int) ∧
      (IntKind.i64.wrap
      (n_4 +
      (1 :
      Int))).tmod
      (2 :
      Int) <
      (↑(2 :
      Nat) :
      Int)) ∧
      Wr
      N
      (fun
      (x :
      Nat) =>
      False)
      m'
      a.b1
      ((0 :
      Nat) +
      ((IntKind.i64.wrap
      (n_4 +
      (1 :
      Int))).tmod
      (2 :
      Int)).toNat *
      (10 :
      Nat))
      #[Value.string
      s_3,
      Value.int
      IntKind.i64
      n_23,
      Value.int
      IntKind.i64
      n_24,
      Value.int
      IntKind.i64
      n_25,
      Value.int
      IntKind.i64
      n_26,
      Value.slice
      a_7
      n_27
      c,
      Value.int
      IntKind.i64
      n_28,
      Value.int
      IntKind.i64
      n_29,
      Value.int
      IntKind.i64
      n_30,
      Value.int
      IntKind.i64
      n_31].size ∧
      ((0 :
      Int) ≤
      (IntKind.i64.wrap
      (n_4 +
      (1 :
      Int))).tmod
      (2 :
      Int) ∧
      (IntKind.i64.wrap
      (n_4 +
      (1 :
      Int))).tmod
      (2 :
      Int) <
      (↑(2 :
      Nat) :
      Int)) ∧
      Wr
      N
      (fun
      (x :
      Nat) =>
      False)
      (m'.setCells
      a.b1
      ((0 :
      Nat) +
      ((IntKind.i64.wrap
      (n_4 +
      (1 :
      Int))).tmod
      (2 :
      Int)).toNat *
      (10 :
      Nat))
      [Value.string
      s_3,
      Value.int
      IntKind.i64
      n_23,
      Value.int
      IntKind.i64
      n_24,
      Value.int
      IntKind.i64
      n_25,
      Value.int
      IntKind.i64
      n_26,
      Value.slice
      a_7
      n_27
      c,
      Value.int
      IntKind.i64
      n_28,
      Value.int
      IntKind.i64
      n_29,
      Value.int
      IntKind.i64
      n_30,
      Value.int
      IntKind.i64
      n_31])
      a.b2
      ((0 :
      Nat) +
      ((IntKind.i64.wrap
      (n_4 +
      (1 :
      Int))).tmod
      (2 :
      Int)).toNat *
      (1 :
      Nat))
      (1 :
      Nat) ∧
      ∃
      (x
      :
      DwX),
      ((x.k <
      ws.length ∧
      DwI
      N
      (ogD
      A
      B)
      n
      aw
      ws
      x) ∧
      (m'.setCells
      a.b1
      ((0 :
      Nat) +
      ((IntKind.i64.wrap
      (n_4 +
      (1 :
      Int))).tmod
      (2 :
      Int)).toNat *
      (10 :
      Nat))
      [Value.string
      s_3,
      Value.int
      IntKind.i64
      n_23,
      Value.int
      IntKind.i64
      n_24,
      Value.int
      IntKind.i64
      n_25,
      Value.int
      IntKind.i64
      n_26,
      Value.slice
      a_7
      n_27
      c,
      Value.int
      IntKind.i64
      n_28,
      Value.int
      IntKind.i64
      n_29,
      Value.int
      IntKind.i64
      n_30,
      Value.int
      IntKind.i64
      n_31]).setCells
      a.b2
      ((0 :
      Nat) +
      ((IntKind.i64.wrap
      (n_4 +
      (1 :
      Int))).tmod
      (2 :
      Int)).toNat *
      (1 :
      Nat))
      [Value.int
      IntKind.i64
      (1 :
      Int)] =
      x.m ∧
      ((SV.val
      (Value.int
      IntKind.i64
      (↑a.k :
      Int)) =
      SV.val
      (Value.int
      IntKind.i64
      (↑x.k :
      Int)) ∧
      true =
      true) ∧
      (SV.val
      (Value.slice
      aw
      ws.length
      cw) =
      SV.val
      (Value.slice
      aw
      ws.length
      cw) ∧
      true =
      true) ∧
      (SV.val
      (Value.slice
      a.aB
      (1 :
      Nat)
      a.cB) =
      SV.val
      (Value.slice
      x.aB
      (1 :
      Nat)
      x.cB) ∧
      true =
      true) ∧
      (SV.val
      (Value.pointer
      (some
      { block := a.b1, off := (0 : Nat) : Addr })) =
      SV.val
      (Value.pointer
      (some
      { block := x.b1, off := (0 : Nat) : Addr })) ∧
      true =
      true) ∧
      (SV.val
      (Value.pointer
      (some
      { block := a.b2, off := (0 : Nat) : Addr })) =
      SV.val
      (Value.pointer
      (some
      { block := x.b2, off := (0 : Nat) : Addr })) ∧
      true =
      true) ∧
      (SV.val
      (Value.pointer
      (some
      { block := a.b3, off := (0 : Nat) : Addr })) =
      SV.val
      (Value.pointer
      (some
      { block := x.b3, off := (0 : Nat) : Addr })) ∧
      true =
      true) ∧
      (SV.own
      (0 :
      Nat)
      (0 :
      Nat) =
      SV.own
      (0 :
      Nat)
      (0 :
      Nat) ∧
      true =
      true) ∧
      (SV.own
      (1 :
      Nat)
      (0 :
      Nat) =
      SV.own
      (1 :
      Nat)
      (0 :
      Nat) ∧
      true =
      true) ∧
      (SV.val
      (Value.int
      IntKind.i64
      n) =
      SV.val
      (Value.int
      IntKind.i64
      n) ∧
      true =
      true) ∧
      (SV.own
      ((0 :
      Nat) +
      (3 :
      Nat) +
      (19 :
      Nat) +
      (12 :
      Nat) +
      (2 :
      Nat) +
      (5 :
      Nat) +
      (3 :
      Nat) +
      (3 :
      Nat) +
      (1 :
      Nat) +
      (4 :
      Nat) +
      (7 :
      Nat) +
      (5 :
      Nat))
      (0 :
      Nat) =
      SV.own
      (64 :
      Nat)
      (0 :
      Nat) ∧
      true =
      true) ∧
      True) ∧
      (some
      { ty := (65 : TypeId), cs := [Value.string A.key, Value.int IntKind.i64 A.lo, Value.int IntKind.i64 A.hi, Value.int IntKind.i64 A.base, Value.int IntKind.i64 A.round, Value.slice a1 A.hs.length c1, Value.int IntKind.i64 A.lk.cl, Value.int IntKind.i64 A.lk.sq, Value.int IntKind.i64 A.lk.hm, Value.int IntKind.i64 A.lk.n] : Bx } =
      some
      { ty := (65 : TypeId), cs := [Value.string A.key, Value.int IntKind.i64 A.lo, Value.int IntKind.i64 A.hi, Value.int IntKind.i64 A.base, Value.int IntKind.i64 A.round, Value.slice a1 A.hs.length c1, Value.int IntKind.i64 A.lk.cl, Value.int IntKind.i64 A.lk.sq, Value.int IntKind.i64 A.lk.hm, Value.int IntKind.i64 A.lk.n] : Bx } ∧
      true =
      true) ∧
      (some
      { ty := (65 : TypeId), cs := [Value.string B.key, Value.int IntKind.i64 B.lo, Value.int IntKind.i64 B.hi, Value.int IntKind.i64 B.base, Value.int IntKind.i64 B.round, Value.slice a2 B.hs.length c2, Value.int IntKind.i64 B.lk.cl, Value.int IntKind.i64 B.lk.sq, Value.int IntKind.i64 B.lk.hm, Value.int IntKind.i64 B.lk.n] : Bx } =
      some
      { ty := (65 : TypeId), cs := [Value.string B.key, Value.int IntKind.i64 B.lo, Value.int IntKind.i64 B.hi, Value.int IntKind.i64 B.base, Value.int IntKind.i64 B.round, Value.slice a2 B.hs.length c2, Value.int IntKind.i64 B.lk.cl, Value.int IntKind.i64 B.lk.sq, Value.int IntKind.i64 B.lk.hm, Value.int IntKind.i64 B.lk.n] : Bx } ∧
      true =
      true) ∧
      (some
      { ty := (24 : Nat), cs := [Value.int IntKind.i64 n_5, Value.int IntKind.i64 n_6, Value.string s, Value.string s_1, Value.int IntKind.i64 n_7, Value.int IntKind.i64 n_8, Value.int IntKind.i64 n_9, Value.int IntKind.i64 n_10] : Bx } =
      some
      { ty := (24 : TypeId), cs := [Value.int IntKind.i64 x.d.cl, Value.int IntKind.i64 x.d.sq, Value.string x.d.ky, Value.string x.d.ot, Value.int IntKind.i64 x.d.n, Value.int IntKind.i64 x.d.mi, Value.int IntKind.i64 x.d.th, Value.int IntKind.i64 x.d.ft] : Bx } ∧
      true =
      true) ∧
      True) ∧
      [ws.length -
      a.k] =
      [ws.length -
      x.k])
      (ifB
      (n_32 ==
      (150 :
      Int))
      (((0 :
      Int) ≤
      (IntKind.i64.wrap
      (n_4 +
      (1 :
      Int))).tmod
      (2 :
      Int) ∧
      (IntKind.i64.wrap
      (n_4 +
      (1 :
      Int))).tmod
      (2 :
      Int) <
      (↑(2 :
      Nat) :
      Int)) ∧
      Wr
      N
      (fun
      (x :
      Nat) =>
      False)
      m'
      a.b2
      ((0 :
      Nat) +
      ((IntKind.i64.wrap
      (n_4 +
      (1 :
      Int))).tmod
      (2 :
      Int)).toNat *
      (1 :
      Nat))
      (1 :
      Nat) ∧
      ∃
      (x
      :
      DwX),
      ((x.k <
      ws.length ∧
      DwI
      N
      (ogD
      A
      B)
      n
      aw
      ws
      x) ∧
      m'.setCells
      a.b2
      ((0 :
      Nat) +
      ((IntKind.i64.wrap
      (n_4 +
      (1 :
      Int))).tmod
      (2 :
      Int)).toNat *
      (1 :
      Nat))
      [Value.int
      IntKind.i64
      (2 :
      Int)] =
      x.m ∧
      ((SV.val
      (Value.int
      IntKind.i64
      (↑a.k :
      Int)) =
      SV.val
      (Value.int
      IntKind.i64
      (↑x.k :
      Int)) ∧
      true =
      true) ∧
      (SV.val
      (Value.slice
      aw
      ws.length
      cw) =
      SV.val
      (Value.slice
      aw
      ws.length
      cw) ∧
      true =
      true) ∧
      (SV.val
      (Value.slice
      a.aB
      (1 :
      Nat)
      a.cB) =
      SV.val
      (Value.slice
      x.aB
      (1 :
      Nat)
      x.cB) ∧
      true =
      true) ∧
      (SV.val
      (Value.pointer
      (some
      { block := a.b1, off := (0 : Nat) : Addr })) =
      SV.val
      (Value.pointer
      (some
      { block := x.b1, off := (0 : Nat) : Addr })) ∧
      true =
      true) ∧
      (SV.val
      (Value.pointer
      (some
      { block := a.b2, off := (0 : Nat) : Addr })) =
      SV.val
      (Value.pointer
      (some
      { block := x.b2, off := (0 : Nat) : Addr })) ∧
      true =
      true) ∧
      (SV.val
      (Value.pointer
      (some
      { block := a.b3, off := (0 : Nat) : Addr })) =
      SV.val
      (Value.pointer
      (some
      { block := x.b3, off := (0 : Nat) : Addr })) ∧
      true =
      true) ∧
      (SV.own
      (0 :
      Nat)
      (0 :
      Nat) =
      SV.own
      (0 :
      Nat)
      (0 :
      Nat) ∧
      true =
      true) ∧
      (SV.own
      (1 :
      Nat)
      (0 :
      Nat) =
      SV.own
      (1 :
      Nat)
      (0 :
      Nat) ∧
      true =
      true) ∧
      (SV.val
      (Value.int
      IntKind.i64
      n) =
      SV.val
      (Value.int
      IntKind.i64
      n) ∧
      true =
      true) ∧
      (SV.own
      ((0 :
      Nat) +
      (3 :
      Nat) +
      (19 :
      Nat) +
      (12 :
      Nat) +
      (2 :
      Nat) +
      (5 :
      Nat) +
      (3 :
      Nat) +
      (3 :
      Nat) +
      (1 :
      Nat) +
      (4 :
      Nat) +
      (7 :
      Nat) +
      (5 :
      Nat))
      (0 :
      Nat) =
      SV.own
      (64 :
      Nat)
      (0 :
      Nat) ∧
      true =
      true) ∧
      True) ∧
      (some
      { ty := (65 : TypeId), cs := [Value.string A.key, Value.int IntKind.i64 A.lo, Value.int IntKind.i64 A.hi, Value.int IntKind.i64 A.base, Value.int IntKind.i64 A.round, Value.slice a1 A.hs.length c1, Value.int IntKind.i64 A.lk.cl, Value.int IntKind.i64 A.lk.sq, Value.int IntKind.i64 A.lk.hm, Value.int IntKind.i64 A.lk.n] : Bx } =
      some
      { ty := (65 : TypeId), cs := [Value.string A.key, Value.int IntKind.i64 A.lo, Value.int IntKind.i64 A.hi, Value.int IntKind.i64 A.base, Value.int IntKind.i64 A.round, Value.slice a1 A.hs.length c1, Value.int IntKind.i64 A.lk.cl, Value.int IntKind.i64 A.lk.sq, Value.int IntKind.i64 A.lk.hm, Value.int IntKind.i64 A.lk.n] : Bx } ∧
      true =
      true) ∧
      (some
      { ty := (65 : TypeId), cs := [Value.string B.key, Value.int IntKind.i64 B.lo, Value.int IntKind.i64 B.hi, Value.int IntKind.i64 B.base, Value.int IntKind.i64 B.round, Value.slice a2 B.hs.length c2, Value.int IntKind.i64 B.lk.cl, Value.int IntKind.i64 B.lk.sq, Value.int IntKind.i64 B.lk.hm, Value.int IntKind.i64 B.lk.n] : Bx } =
      some
      { ty := (65 : TypeId), cs := [Value.string B.key, Value.int IntKind.i64 B.lo, Value.int IntKind.i64 B.hi, Value.int IntKind.i64 B.base, Value.int IntKind.i64 B.round, Value.slice a2 B.hs.length c2, Value.int IntKind.i64 B.lk.cl, Value.int IntKind.i64 B.lk.sq, Value.int IntKind.i64 B.lk.hm, Value.int IntKind.i64 B.lk.n] : Bx } ∧
      true =
      true) ∧
      (some
      { ty := (24 : Nat), cs := [Value.int IntKind.i64 n_5, Value.int IntKind.i64 n_6, Value.string s, Value.string s_1, Value.int IntKind.i64 n_7, Value.int IntKind.i64 n_8, Value.int IntKind.i64 n_9, Value.int IntKind.i64 n_10] : Bx } =
      some
      { ty := (24 : TypeId), cs := [Value.int IntKind.i64 x.d.cl, Value.int IntKind.i64 x.d.sq, Value.string x.d.ky, Value.string x.d.ot, Value.int IntKind.i64 x.d.n, Value.int IntKind.i64 x.d.mi, Value.int IntKind.i64 x.d.th, Value.int IntKind.i64 x.d.ft] : Bx } ∧
      true =
      true) ∧
      True) ∧
      [ws.length -
      a.k] =
      [ws.length -
      x.k])
      (∃
      (x
      :
      DwX),
      ((x.k <
      ws.length ∧
      DwI
      N
      (ogD
      A
      B)
      n
      aw
      ws
      x) ∧
      m' =
      x.m ∧
      ((SV.val
      (Value.int
      IntKind.i64
      (↑a.k :
      Int)) =
      SV.val
      (Value.int
      IntKind.i64
      (↑x.k :
      Int)) ∧
      true =
      true) ∧
      (SV.val
      (Value.slice
      aw
      ws.length
      cw) =
      SV.val
      (Value.slice
      aw
      ws.length
      cw) ∧
      true =
      true) ∧
      (SV.val
      (Value.slice
      a.aB
      (1 :
      Nat)
      a.cB) =
      SV.val
      (Value.slice
      x.aB
      (1 :
      Nat)
      x.cB) ∧
      true =
      true) ∧
      (SV.val
      (Value.pointer
      (some
      { block := a.b1, off := (0 : Nat) : Addr })) =
      SV.val
      (Value.pointer
      (some
      { block := x.b1, off := (0 : Nat) : Addr })) ∧
      true =
      true) ∧
      (SV.val
      (Value.pointer
      (some
      { block := a.b2, off := (0 : Nat) : Addr })) =
      SV.val
      (Value.pointer
      (some
      { block := x.b2, off := (0 : Nat) : Addr })) ∧
      true =
      true) ∧
      (SV.val
      (Value.pointer
      (some
      { block := a.b3, off := (0 : Nat) : Addr })) =
      SV.val
      (Value.pointer
      (some
      { block := x.b3, off := (0 : Nat) : Addr })) ∧
      true =
      true) ∧
      (SV.own
      (0 :
      Nat)
      (0 :
      Nat) =
      SV.own
      (0 :
      Nat)
      (0 :
      Nat) ∧
      true =
      true) ∧
      (SV.own
      (1 :
      Nat)
      (0 :
      Nat) =
      SV.own
      (1 :
      Nat)
      (0 :
      Nat) ∧
      true =
      true) ∧
      (SV.val
      (Value.int
      IntKind.i64
      n) =
      SV.val
      (Value.int
      IntKind.i64
      n) ∧
      true =
      true) ∧
      (SV.own
      ((0 :
      Nat) +
      (3 :
      Nat) +
      (19 :
      Nat) +
      (12 :
      Nat) +
      (2 :
      Nat) +
      (5 :
      Nat) +
      (3 :
      Nat) +
      (3 :
      Nat) +
      (1 :
      Nat) +
      (4 :
      Nat) +
      (7 :
      Nat) +
      (5 :
      Nat))
      (0 :
      Nat) =
      SV.own
      (64 :
      Nat)
      (0 :
      Nat) ∧
      true =
      true) ∧
      True) ∧
      (some
      { ty := (65 : TypeId), cs := [Value.string A.key, Value.int IntKind.i64 A.lo, Value.int IntKind.i64 A.hi, Value.int IntKind.i64 A.base, Value.int IntKind.i64 A.round, Value.slice a1 A.hs.length c1, Value.int IntKind.i64 A.lk.cl, Value.int IntKind.i64 A.lk.sq, Value.int IntKind.i64 A.lk.hm, Value.int IntKind.i64 A.lk.n] : Bx } =
      some
      { ty := (65 : TypeId), cs := [Value.string A.key, Value.int IntKind.i64 A.lo, Value.int IntKind.i64 A.hi, Value.int IntKind.i64 A.base, Value.int IntKind.i64 A.round, Value.slice a1 A.hs.length c1, Value.int IntKind.i64 A.lk.cl, Value.int IntKind.i64 A.lk.sq, Value.int IntKind.i64 A.lk.hm, Value.int IntKind.i64 A.lk.n] : Bx } ∧
      true =
      true) ∧
      (some
      { ty := (65 : TypeId), cs := [Value.string B.key, Value.int IntKind.i64 B.lo, Value.int IntKind.i64 B.hi, Value.int IntKind.i64 B.base, Value.int IntKind.i64 B.round, Value.slice a2 B.hs.length c2, Value.int IntKind.i64 B.lk.cl, Value.int IntKind.i64 B.lk.sq, Value.int IntKind.i64 B.lk.hm, Value.int IntKind.i64 B.lk.n] : Bx } =
      some
      { ty := (65 : TypeId), cs := [Value.string B.key, Value.int IntKind.i64 B.lo, Value.int IntKind.i64 B.hi, Value.int IntKind.i64 B.base, Value.int IntKind.i64 B.round, Value.slice a2 B.hs.length c2, Value.int IntKind.i64 B.lk.cl, Value.int IntKind.i64 B.lk.sq, Value.int IntKind.i64 B.lk.hm, Value.int IntKind.i64 B.lk.n] : Bx } ∧
      true =
      true) ∧
      (some
      { ty := (24 : Nat), cs := [Value.int IntKind.i64 n_5, Value.int IntKind.i64 n_6, Value.string s, Value.string s_1, Value.int IntKind.i64 n_7, Value.int IntKind.i64 n_8, Value.int IntKind.i64 n_9, Value.int IntKind.i64 n_10] : Bx } =
      some
      { ty := (24 : TypeId), cs := [Value.int IntKind.i64 x.d.cl, Value.int IntKind.i64 x.d.sq, Value.string x.d.ky, Value.string x.d.ot, Value.int IntKind.i64 x.d.n, Value.int IntKind.i64 x.d.mi, Value.int IntKind.i64 x.d.th, Value.int IntKind.i64 x.d.ft] : Bx } ∧
      true =
      true) ∧
      True) ∧
      [ws.length -
      a.k] =
      [ws.length -
      x.k])))
      (((0 : Int) ≤
      (IntKind.i64.wrap
      (n_4 + (1 : Int))).tmod
      (2 : Int) ∧
      (IntKind.i64.wrap
      (n_4 + (1 : Int))).tmod
      (2 : Int) <
      (↑(2 : Nat) : Int)) ∧
      ∃ (s_2 : ByteArray),
      ∃ (n_13 : Int),
      ∃ (n_14 : Int),
      ∃ (n_15 : Int),
      ∃ (n_16 : Int),
      ∃ (a_5 : Option Addr),
      ∃ (n_17 : Nat),
      ∃ (c : Nat),
      ∃ (n_18 : Int),
      ∃ (n_19 : Int),
      ∃ (n_20 : Int),
      ∃ (n_21 : Int),
      CellsAt a.m a.b1
      ((0 : Nat) +
      ((IntKind.i64.wrap
      (n_4 +
      (1 :
      Int))).tmod
      (2 :
      Int)).toNat *
      (10 :
      Nat))
      [Value.string
      s_2,
      Value.int
      IntKind.i64
      n_13,
      Value.int
      IntKind.i64
      n_14,
      Value.int
      IntKind.i64
      n_15,
      Value.int
      IntKind.i64
      n_16,
      Value.slice
      a_5 n_17
      c,
      Value.int
      IntKind.i64
      n_18,
      Value.int
      IntKind.i64
      n_19,
      Value.int
      IntKind.i64
      n_20,
      Value.int
      IntKind.i64
      n_21] ∧
      ∀ (n_22 : Nat),
      a.m.sz ≤
      n_22 →
      Vc.Spec
      Try.prog
      (37 : Nat)
      [Value.agg
      #[Value.string
      s_2,
      Value.int
      IntKind.i64
      n_13,
      Value.int
      IntKind.i64
      n_14,
      Value.int
      IntKind.i64
      n_15,
      Value.int
      IntKind.i64
      n_16,
      Value.slice
      a_5
      n_17
      c,
      Value.int
      IntKind.i64
      n_18,
      Value.int
      IntKind.i64
      n_19,
      Value.int
      IntKind.i64
      n_20,
      Value.int
      IntKind.i64
      n_21],
      Value.agg
      #[Value.int
      IntKind.i64
      (3 :
      Int),
      Value.int
      IntKind.i64
      (9 :
      Int),
      Value.int
      IntKind.i64
      (1 :
      Int),
      Value.int
      IntKind.i64
      n]]
      { π := a.m.π, sz := n_22, uf := a.m.uf : M }
      fun
      (v :
      Value)
      (m' :
      M) =>
      ∃ (s_3 :
      ByteArray),
      ∃ (n_23
      :
      Int),
      ∃
      (n_24
      :
      Int),
      ∃
      (n_25
      :
      Int),
      ∃
      (n_26
      :
      Int),
      ∃
      (a_7
      :
      Option
      Addr),
      ∃
      (n_27
      :
      Nat),
      ∃
      (c
      :
      Nat),
      ∃
      (n_28
      :
      Int),
      ∃
      (n_29
      :
      Int),
      ∃
      (n_30
      :
      Int),
      ∃
      (n_31
      :
      Int),
      ∃
      (n_32
      :
      Int),
      v =
      Value.tuple
      #[Value.agg
      #[Value.string
      s_3,
      Value.int
      IntKind.i64
      n_23,
      Value.int
      IntKind.i64
      n_24,
      Value.int
      IntKind.i64
      n_25,
      Value.int
      IntKind.i64
      n_26,
      Value.slice
      a_7
      n_27
      c,
      Value.int
      IntKind.i64
      n_28,
      Value.int
      IntKind.i64
      n_29,
      Value.int
      IntKind.i64
      n_30,
      Value.int
      IntKind.i64
      n_31],
      Value.int
      IntKind.i64
      n_32] ∧
      ifB
      (n_32 ==
      (0 :
      Int))
      (((0 :
      Int) ≤
      (IntKind.i64.wrap
      (n_4 +
      (1 :
      Int))).tmod
      (2 :
      Int) ∧
      (IntKind.i64.wrap
      (n_4 +
      (1 :
      Int))).tmod
      (2 :
      Int) <
      (↑(2 :
      Nat) :
      Int)) ∧
      Wr
      N
      (fun
      (x :
      Nat) =>
      False)
      m'
      a.b1
      ((0 :
      Nat) +
      ((IntKind.i64.wrap
      (n_4 +
      (1 :
      Int))).tmod
      (2 :
      Int)).toNat *
      (10 :
      Nat))
      #[Value.string
      s_3,
      Value.int
      IntKind.i64
      n_23,
      Value.int
      IntKind.i64
      n_24,
      Value.int
      IntKind.i64
      n_25,
      Value.int
      IntKind.i64
      n_26,
      Value.slice
      a_7
      n_27
      c,
      Value.int
      IntKind.i64
      n_28,
      Value.int
      IntKind.i64
      n_29,
      Value.int
      IntKind.i64
      n_30,
      Value.int
      IntKind.i64
      n_31].size ∧
      ((0 :
      Int) ≤
      (IntKind.i64.wrap
      (n_4 +
      (1 :
      Int))).tmod
      (2 :
      Int) ∧
      (IntKind.i64.wrap
      (n_4 +
      (1 :
      Int))).tmod
      (2 :
      Int) <
      (↑(2 :
      Nat) :
      Int)) ∧
      Wr
      N
      (fun
      (x :
      Nat) =>
      False)
      (m'.setCells
      a.b1
      ((0 :
      Nat) +
      ((IntKind.i64.wrap
      (n_4 +
      (1 :
      Int))).tmod
      (2 :
      Int)).toNat *
      (10 :
      Nat))
      [Value.string
      s_3,
      Value.int
      IntKind.i64
      n_23,
      Value.int
      IntKind.i64
      n_24,
      Value.int
      IntKind.i64
      n_25,
      Value.int
      IntKind.i64
      n_26,
      Value.slice
      a_7
      n_27
      c,
      Value.int
      IntKind.i64
      n_28,
      Value.int
      IntKind.i64
      n_29,
      Value.int
      IntKind.i64
      n_30,
      Value.int
      IntKind.i64
      n_31])
      a.b2
      ((0 :
      Nat) +
      ((IntKind.i64.wrap
      (n_4 +
      (1 :
      Int))).tmod
      (2 :
      Int)).toNat *
      (1 :
      Nat))
      (1 :
      Nat) ∧
      ∃
      (x
      :
      DwX),
      ((x.k <
      ws.length ∧
      DwI
      N
      (ogD
      A
      B)
      n
      aw
      ws
      x) ∧
      (m'.setCells
      a.b1
      ((0 :
      Nat) +
      ((IntKind.i64.wrap
      (n_4 +
      (1 :
      Int))).tmod
      (2 :
      Int)).toNat *
      (10 :
      Nat))
      [Value.string
      s_3,
      Value.int
      IntKind.i64
      n_23,
      Value.int
      IntKind.i64
      n_24,
      Value.int
      IntKind.i64
      n_25,
      Value.int
      IntKind.i64
      n_26,
      Value.slice
      a_7
      n_27
      c,
      Value.int
      IntKind.i64
      n_28,
      Value.int
      IntKind.i64
      n_29,
      Value.int
      IntKind.i64
      n_30,
      Value.int
      IntKind.i64
      n_31]).setCells
      a.b2
      ((0 :
      Nat) +
      ((IntKind.i64.wrap
      (n_4 +
      (1 :
      Int))).tmod
      (2 :
      Int)).toNat *
      (1 :
      Nat))
      [Value.int
      IntKind.i64
      (1 :
      Int)] =
      x.m ∧
      ((SV.val
      (Value.int
      IntKind.i64
      (↑a.k :
      Int)) =
      SV.val
      (Value.int
      IntKind.i64
      (↑x.k :
      Int)) ∧
      true =
      true) ∧
      (SV.val
      (Value.slice
      aw
      ws.length
      cw) =
      SV.val
      (Value.slice
      aw
      ws.length
      cw) ∧
      true =
      true) ∧
      (SV.val
      (Value.slice
      a.aB
      (1 :
      Nat)
      a.cB) =
      SV.val
      (Value.slice
      x.aB
      (1 :
      Nat)
      x.cB) ∧
      true =
      true) ∧
      (SV.val
      (Value.pointer
      (some
      { block := a.b1, off := (0 : Nat) : Addr })) =
      SV.val
      (Value.pointer
      (some
      { block := x.b1, off := (0 : Nat) : Addr })) ∧
      true =
      true) ∧
      (SV.val
      (Value.pointer
      (some
      { block := a.b2, off := (0 : Nat) : Addr })) =
      SV.val
      (Value.pointer
      (some
      { block := x.b2, off := (0 : Nat) : Addr })) ∧
      true =
      true) ∧
      (SV.val
      (Value.pointer
      (some
      { block := a.b3, off := (0 : Nat) : Addr })) =
      SV.val
      (Value.pointer
      (some
      { block := x.b3, off := (0 : Nat) : Addr })) ∧
      true =
      true) ∧
      (SV.own
      (0 :
      Nat)
      (0 :
      Nat) =
      SV.own
      (0 :
      Nat)
      (0 :
      Nat) ∧
      true =
      true) ∧
      (SV.own
      (1 :
      Nat)
      (0 :
      Nat) =
      SV.own
      (1 :
      Nat)
      (0 :
      Nat) ∧
      true =
      true) ∧
      (SV.val
      (Value.int
      IntKind.i64
      n) =
      SV.val
      (Value.int
      IntKind.i64
      n) ∧
      true =
      true) ∧
      (SV.own
      ((0 :
      Nat) +
      (3 :
      Nat) +
      (19 :
      Nat) +
      (12 :
      Nat) +
      (2 :
      Nat) +
      (5 :
      Nat) +
      (3 :
      Nat) +
      (3 :
      Nat) +
      (1 :
      Nat) +
      (4 :
      Nat) +
      (7 :
      Nat) +
      (5 :
      Nat))
      (0 :
      Nat) =
      SV.own
      (64 :
      Nat)
      (0 :
      Nat) ∧
      true =
      true) ∧
      True) ∧
      (some
      { ty := (65 : TypeId), cs := [Value.string A.key, Value.int IntKind.i64 A.lo, Value.int IntKind.i64 A.hi, Value.int IntKind.i64 A.base, Value.int IntKind.i64 A.round, Value.slice a1 A.hs.length c1, Value.int IntKind.i64 A.lk.cl, Value.int IntKind.i64 A.lk.sq, Value.int IntKind.i64 A.lk.hm, Value.int IntKind.i64 A.lk.n] : Bx } =
      some
      { ty := (65 : TypeId), cs := [Value.string A.key, Value.int IntKind.i64 A.lo, Value.int IntKind.i64 A.hi, Value.int IntKind.i64 A.base, Value.int IntKind.i64 A.round, Value.slice a1 A.hs.length c1, Value.int IntKind.i64 A.lk.cl, Value.int IntKind.i64 A.lk.sq, Value.int IntKind.i64 A.lk.hm, Value.int IntKind.i64 A.lk.n] : Bx } ∧
      true =
      true) ∧
      (some
      { ty := (65 : TypeId), cs := [Value.string B.key, Value.int IntKind.i64 B.lo, Value.int IntKind.i64 B.hi, Value.int IntKind.i64 B.base, Value.int IntKind.i64 B.round, Value.slice a2 B.hs.length c2, Value.int IntKind.i64 B.lk.cl, Value.int IntKind.i64 B.lk.sq, Value.int IntKind.i64 B.lk.hm, Value.int IntKind.i64 B.lk.n] : Bx } =
      some
      { ty := (65 : TypeId), cs := [Value.string B.key, Value.int IntKind.i64 B.lo, Value.int IntKind.i64 B.hi, Value.int IntKind.i64 B.base, Value.int IntKind.i64 B.round, Value.slice a2 B.hs.length c2, Value.int IntKind.i64 B.lk.cl, Value.int IntKind.i64 B.lk.sq, Value.int IntKind.i64 B.lk.hm, Value.int IntKind.i64 B.lk.n] : Bx } ∧
      true =
      true) ∧
      (some
      { ty := (24 : Nat), cs := [Value.int IntKind.i64 n_5, Value.int IntKind.i64 n_6, Value.string s, Value.string s_1, Value.int IntKind.i64 n_7, Value.int IntKind.i64 n_8, Value.int IntKind.i64 n_9, Value.int IntKind.i64 n_10] : Bx } =
      some
      { ty := (24 : TypeId), cs := [Value.int IntKind.i64 x.d.cl, Value.int IntKind.i64 x.d.sq, Value.string x.d.ky, Value.string x.d.ot, Value.int IntKind.i64 x.d.n, Value.int IntKind.i64 x.d.mi, Value.int IntKind.i64 x.d.th, Value.int IntKind.i64 x.d.ft] : Bx } ∧
      true =
      true) ∧
      True) ∧
      [ws.length -
      a.k] =
      [ws.length -
      x.k])
      (ifB
      (n_32 ==
      (150 :
      Int))
      (((0 :
      Int) ≤
      (IntKind.i64.wrap
      (n_4 +
      (1 :
      Int))).tmod
      (2 :
      Int) ∧
      (IntKind.i64.wrap
      (n_4 +
      (1 :
      Int))).tmod
      (2 :
      Int) <
      (↑(2 :
      Nat) :
      Int)) ∧
      Wr
      N
      (fun
      (x :
      Nat) =>
      False)
      m'
      a.b2
      ((0 :
      Nat) +
      ((IntKind.i64.wrap
      (n_4 +
      (1 :
      Int))).tmod
      (2 :
      Int)).toNat *
      (1 :
      Nat))
      (1 :
      Nat) ∧
      ∃
      (x
      :
      DwX),
      ((x.k <
      ws.length ∧
      DwI
      N
      (ogD
      A
      B)
      n
      aw
      ws
      x) ∧
      m'.setCells
      a.b2
      ((0 :
      Nat) +
      ((IntKind.i64.wrap
      (n_4 +
      (1 :
      Int))).tmod
      (2 :
      Int)).toNat *
      (1 :
      Nat))
      [Value.int
      IntKind.i64
      (2 :
      Int)] =
      x.m ∧
      ((SV.val
      (Value.int
      IntKind.i64
      (↑a.k :
      Int)) =
      SV.val
      (Value.int
      IntKind.i64
      (↑x.k :
      Int)) ∧
      true =
      true) ∧
      (SV.val
      (Value.slice
      aw
      ws.length
      cw) =
      SV.val
      (Value.slice
      aw
      ws.length
      cw) ∧
      true =
      true) ∧
      (SV.val
      (Value.slice
      a.aB
      (1 :
      Nat)
      a.cB) =
      SV.val
      (Value.slice
      x.aB
      (1 :
      Nat)
      x.cB) ∧
      true =
      true) ∧
      (SV.val
      (Value.pointer
      (some
      { block := a.b1, off := (0 : Nat) : Addr })) =
      SV.val
      (Value.pointer
      (some
      { block := x.b1, off := (0 : Nat) : Addr })) ∧
      true =
      true) ∧
      (SV.val
      (Value.pointer
      (some
      { block := a.b2, off := (0 : Nat) : Addr })) =
      SV.val
      (Value.pointer
      (some
      { block := x.b2, off := (0 : Nat) : Addr })) ∧
      true =
      true) ∧
      (SV.val
      (Value.pointer
      (some
      { block := a.b3, off := (0 : Nat) : Addr })) =
      SV.val
      (Value.pointer
      (some
      { block := x.b3, off := (0 : Nat) : Addr })) ∧
      true =
      true) ∧
      (SV.own
      (0 :
      Nat)
      (0 :
      Nat) =
      SV.own
      (0 :
      Nat)
      (0 :
      Nat) ∧
      true =
      true) ∧
      (SV.own
      (1 :
      Nat)
      (0 :
      Nat) =
      SV.own
      (1 :
      Nat)
      (0 :
      Nat) ∧
      true =
      true) ∧
      (SV.val
      (Value.int
      IntKind.i64
      n) =
      SV.val
      (Value.int
      IntKind.i64
      n) ∧
      true =
      true) ∧
      (SV.own
      ((0 :
      Nat) +
      (3 :
      Nat) +
      (19 :
      Nat) +
      (12 :
      Nat) +
      (2 :
      Nat) +
      (5 :
      Nat) +
      (3 :
      Nat) +
      (3 :
      Nat) +
      (1 :
      Nat) +
      (4 :
      Nat) +
      (7 :
      Nat) +
      (5 :
      Nat))
      (0 :
      Nat) =
      SV.own
      (64 :
      Nat)
      (0 :
      Nat) ∧
      true =
      true) ∧
      True) ∧
      (some
      { ty := (65 : TypeId), cs := [Value.string A.key, Value.int IntKind.i64 A.lo, Value.int IntKind.i64 A.hi, Value.int IntKind.i64 A.base, Value.int IntKind.i64 A.round, Value.slice a1 A.hs.length c1, Value.int IntKind.i64 A.lk.cl, Value.int IntKind.i64 A.lk.sq, Value.int IntKind.i64 A.lk.hm, Value.int IntKind.i64 A.lk.n] : Bx } =
      some
      { ty := (65 : TypeId), cs := [Value.string A.key, Value.int IntKind.i64 A.lo, Value.int IntKind.i64 A.hi, Value.int IntKind.i64 A.base, Value.int IntKind.i64 A.round, Value.slice a1 A.hs.length c1, Value.int IntKind.i64 A.lk.cl, Value.int IntKind.i64 A.lk.sq, Value.int IntKind.i64 A.lk.hm, Value.int IntKind.i64 A.lk.n] : Bx } ∧
      true =
      true) ∧
      (some
      { ty := (65 : TypeId), cs := [Value.string B.key, Value.int IntKind.i64 B.lo, Value.int IntKind.i64 B.hi, Value.int IntKind.i64 B.base, Value.int IntKind.i64 B.round, Value.slice a2 B.hs.length c2, Value.int IntKind.i64 B.lk.cl, Value.int IntKind.i64 B.lk.sq, Value.int IntKind.i64 B.lk.hm, Value.int IntKind.i64 B.lk.n] : Bx } =
      some
      { ty := (65 : TypeId), cs := [Value.string B.key, Value.int IntKind.i64 B.lo, Value.int IntKind.i64 B.hi, Value.int IntKind.i64 B.base, Value.int IntKind.i64 B.round, Value.slice a2 B.hs.length c2, Value.int IntKind.i64 B.lk.cl, Value.int IntKind.i64 B.lk.sq, Value.int IntKind.i64 B.lk.hm, Value.int IntKind.i64 B.lk.n] : Bx } ∧
      true =
      true) ∧
      (some
      { ty := (24 : Nat), cs := [Value.int IntKind.i64 n_5, Value.int IntKind.i64 n_6, Value.string s, Value.string s_1, Value.int IntKind.i64 n_7, Value.int IntKind.i64 n_8, Value.int IntKind.i64 n_9, Value.int IntKind.i64 n_10] : Bx } =
      some
      { ty := (24 : TypeId), cs := [Value.int IntKind.i64 x.d.cl, Value.int IntKind.i64 x.d.sq, Value.string x.d.ky, Value.string x.d.ot, Value.int IntKind.i64 x.d.n, Value.int IntKind.i64 x.d.mi, Value.int IntKind.i64 x.d.th, Value.int IntKind.i64 x.d.ft] : Bx } ∧
      true =
      true) ∧
      True) ∧
      [ws.length -
      a.k] =
      [ws.length -
      x.k])
      (∃
      (x
      :
      DwX),
      ((x.k <
      ws.length ∧
      DwI
      N
      (ogD
      A
      B)
      n
      aw
      ws
      x) ∧
      m' =
      x.m ∧
      ((SV.val
      (Value.int
      IntKind.i64
      (↑a.k :
      Int)) =
      SV.val
      (Value.int
      IntKind.i64
      (↑x.k :
      Int)) ∧
      true =
      true) ∧
      (SV.val
      (Value.slice
      aw
      ws.length
      cw) =
      SV.val
      (Value.slice
      aw
      ws.length
      cw) ∧
      true =
      true) ∧
      (SV.val
      (Value.slice
      a.aB
      (1 :
      Nat)
      a.cB) =
      SV.val
      (Value.slice
      x.aB
      (1 :
      Nat)
      x.cB) ∧
      true =
      true) ∧
      (SV.val
      (Value.pointer
      (some
      { block := a.b1, off := (0 : Nat) : Addr })) =
      SV.val
      (Value.pointer
      (some
      { block := x.b1, off := (0 : Nat) : Addr })) ∧
      true =
      true) ∧
      (SV.val
      (Value.pointer
      (some
      { block := a.b2, off := (0 : Nat) : Addr })) =
      SV.val
      (Value.pointer
      (some
      { block := x.b2, off := (0 : Nat) : Addr })) ∧
      true =
      true) ∧
      (SV.val
      (Value.pointer
      (some
      { block := a.b3, off := (0 : Nat) : Addr })) =
      SV.val
      (Value.pointer
      (some
      { block := x.b3, off := (0 : Nat) : Addr })) ∧
      true =
      true) ∧
      (SV.own
      (0 :
      Nat)
      (0 :
      Nat) =
      SV.own
      (0 :
      Nat)
      (0 :
      Nat) ∧
      true =
      true) ∧
      (SV.own
      (1 :
      Nat)
      (0 :
      Nat) =
      SV.own
      (1 :
      Nat)
      (0 :
      Nat) ∧
      true =
      true) ∧
      (SV.val
      (Value.int
      IntKind.i64
      n) =
      SV.val
      (Value.int
      IntKind.i64
      n) ∧
      true =
      true) ∧
      (SV.own
      ((0 :
      Nat) +
      (3 :
      Nat) +
      (19 :
      Nat) +
      (12 :
      Nat) +
      (2 :
      Nat) +
      (5 :
      Nat) +
      (3 :
      Nat) +
      (3 :
      Nat) +
      (1 :
      Nat) +
      (4 :
      Nat) +
      (7 :
      Nat) +
      (5 :
      Nat))
      (0 :
      Nat) =
      SV.own
      (64 :
      Nat)
      (0 :
      Nat) ∧
      true =
      true) ∧
      True) ∧
      (some
      { ty := (65 : TypeId), cs := [Value.string A.key, Value.int IntKind.i64 A.lo, Value.int IntKind.i64 A.hi, Value.int IntKind.i64 A.base, Value.int IntKind.i64 A.round, Value.slice a1 A.hs.length c1, Value.int IntKind.i64 A.lk.cl, Value.int IntKind.i64 A.lk.sq, Value.int IntKind.i64 A.lk.hm, Value.int IntKind.i64 A.lk.n] : Bx } =
      some
      { ty := (65 : TypeId), cs := [Value.string A.key, Value.int IntKind.i64 A.lo, Value.int IntKind.i64 A.hi, Value.int IntKind.i64 A.base, Value.int IntKind.i64 A.round, Value.slice a1 A.hs.length c1, Value.int IntKind.i64 A.lk.cl, Value.int IntKind.i64 A.lk.sq, Value.int IntKind.i64 A.lk.hm, Value.int IntKind.i64 A.lk.n] : Bx } ∧
      true =
      true) ∧
      (some
      { ty := (65 : TypeId), cs := [Value.string B.key, Value.int IntKind.i64 B.lo, Value.int IntKind.i64 B.hi, Value.int IntKind.i64 B.base, Value.int IntKind.i64 B.round, Value.slice a2 B.hs.length c2, Value.int IntKind.i64 B.lk.cl, Value.int IntKind.i64 B.lk.sq, Value.int IntKind.i64 B.lk.hm, Value.int IntKind.i64 B.lk.n] : Bx } =
      some
      { ty := (65 : TypeId), cs := [Value.string B.key, Value.int IntKind.i64 B.lo, Value.int IntKind.i64 B.hi, Value.int IntKind.i64 B.base, Value.int IntKind.i64 B.round, Value.slice a2 B.hs.length c2, Value.int IntKind.i64 B.lk.cl, Value.int IntKind.i64 B.lk.sq, Value.int IntKind.i64 B.lk.hm, Value.int IntKind.i64 B.lk.n] : Bx } ∧
      true =
      true) ∧
      (some
      { ty := (24 : Nat), cs := [Value.int IntKind.i64 n_5, Value.int IntKind.i64 n_6, Value.string s, Value.string s_1, Value.int IntKind.i64 n_7, Value.int IntKind.i64 n_8, Value.int IntKind.i64 n_9, Value.int IntKind.i64 n_10] : Bx } =
      some
      { ty := (24 : TypeId), cs := [Value.int IntKind.i64 x.d.cl, Value.int IntKind.i64 x.d.sq, Value.string x.d.ky, Value.string x.d.ot, Value.int IntKind.i64 x.d.n, Value.int IntKind.i64 x.d.mi, Value.int IntKind.i64 x.d.th, Value.int IntKind.i64 x.d.ft] : Bx } ∧
      true =
      true) ∧
      True) ∧
      [ws.length -
      a.k] =
      [ws.length -
      x.k]))))))
      (ifB (n_11 == (3 : Int))
      (((0 : Int) ≤
      (IntKind.i64.wrap (n_4 + (1 : Int))).tmod (2 : Int) ∧
      (IntKind.i64.wrap (n_4 + (1 : Int))).tmod (2 : Int) <
      (↑(2 : Nat) : Int)) ∧
      ∃ (n_12 : Int),
      CellsAt a.m a.b2
      ((0 : Nat) +
      ((IntKind.i64.wrap (n_4 + (1 : Int))).tmod
      (2 : Int)).toNat *
      (1 : Nat))
      [Value.int IntKind.i64 n_12] ∧
      ifB (n_12 != (0 : Int))
      (((0 : Int) ≤
      (IntKind.i64.wrap (n_4 + (1 : Int))).tmod
      (2 : Int) ∧
      (IntKind.i64.wrap (n_4 + (1 : Int))).tmod
      (2 : Int) <
      (↑(2 : Nat) : Int)) ∧
      ∃ (n_13 : Int),
      CellsAt a.m a.b2
      ((0 : Nat) +
      ((IntKind.i64.wrap (n_4 + (1 : Int))).tmod
      (2 : Int)).toNat *
      (1 : Nat))
      [Value.int IntKind.i64 n_13] ∧
      ∃ (S' : Nat → Prop),
      (∀ (b : Nat),
      S' b → a.m.uf b ∧ (N ≤ b ∨ False)) ∧
      ∀ (n_14 : Nat),
      a.m.sz ≤ n_14 →
      SpecW Try.prog (18 : Nat)
      [Value.slice a.aB (1 : Nat) a.cB,
      Value.int IntKind.i64 (3 : Int),
      Value.int IntKind.i64 (9 : Int),
      Value.bool
      ((IntKind.i64.wrap
      (n_4 + (1 : Int))).tmod
      (2 : Int) ==
      (0 : Int)),
      Value.bool (n_13 == (1 : Int))]
      { π := a.m.π, sz := n_14, uf := a.m.uf : M }
      S' fun (v : Value) (m' : M) =>
      ∃ (a_6 : Option Addr),
      ∃ (n_15 : Nat),
      ∃ (c : Nat),
      ∃ (b : Bool),
      ∃ (n_16 : Int),
      v =
      Value.tuple
      #[Value.slice a_6
      n_15 c,
      Value.bool b,
      Value.int
      IntKind.i64
      n_16] ∧
      ∃ (x : DwX),
      ((x.k < ws.length ∧
      DwI N (ogD A B)
      n aw ws x) ∧
      m' = x.m ∧
      ((SV.val
      (Value.int
      IntKind.i64
      (↑a.k :
      Int)) =
      SV.val
      (Value.int
      IntKind.i64
      (↑x.k :
      Int)) ∧
      true =
      true) ∧
      (SV.val
      (Value.slice
      aw
      ws.length
      cw) =
      SV.val
      (Value.slice
      aw
      ws.length
      cw) ∧
      true =
      true) ∧
      (SV.val
      (Value.slice
      a_6
      n_15
      c) =
      SV.val
      (Value.slice
      x.aB
      (1 :
      Nat)
      x.cB) ∧
      true =
      true) ∧
      (SV.val
      (Value.pointer
      (some
      { block := a.b1, off := (0 : Nat) : Addr })) =
      SV.val
      (Value.pointer
      (some
      { block := x.b1, off := (0 : Nat) : Addr })) ∧
      true =
      true) ∧
      (SV.val
      (Value.pointer
      (some
      { block := a.b2, off := (0 : Nat) : Addr })) =
      SV.val
      (Value.pointer
      (some
      { block := x.b2, off := (0 : Nat) : Addr })) ∧
      true =
      true) ∧
      (SV.val
      (Value.pointer
      (some
      { block := a.b3, off := (0 : Nat) : Addr })) =
      SV.val
      (Value.pointer
      (some
      { block := x.b3, off := (0 : Nat) : Addr })) ∧
      true =
      true) ∧
      (SV.own
      (0 :
      Nat)
      (0 :
      Nat) =
      SV.own
      (0 :
      Nat)
      (0 :
      Nat) ∧
      true =
      true) ∧
      (SV.own
      (1 :
      Nat)
      (0 :
      Nat) =
      SV.own
      (1 :
      Nat)
      (0 :
      Nat) ∧
      true =
      true) ∧
      (SV.val
      (Value.int
      IntKind.i64
      n) =
      SV.val
      (Value.int
      IntKind.i64
      n) ∧
      true =
      true) ∧
      (SV.own
      ((0 :
      Nat) +
      (3 :
      Nat) +
      (19 :
      Nat) +
      (12 :
      Nat) +
      (2 :
      Nat) +
      (5 :
      Nat) +
      (3 :
      Nat) +
      (3 :
      Nat) +
      (1 :
      Nat) +
      (4 :
      Nat) +
      (7 :
      Nat) +
      (5 :
      Nat))
      (0 :
      Nat) =
      SV.own
      (64 :
      Nat)
      (0 :
      Nat) ∧
      true =
      true) ∧
      True) ∧
      (some
      { ty := (65 : TypeId), cs := [Value.string A.key, Value.int IntKind.i64 A.lo, Value.int IntKind.i64 A.hi, Value.int IntKind.i64 A.base, Value.int IntKind.i64 A.round, Value.slice a1 A.hs.length c1, Value.int IntKind.i64 A.lk.cl, Value.int IntKind.i64 A.lk.sq, Value.int IntKind.i64 A.lk.hm, Value.int IntKind.i64 A.lk.n] : Bx } =
      some
      { ty := (65 : TypeId), cs := [Value.string A.key, Value.int IntKind.i64 A.lo, Value.int IntKind.i64 A.hi, Value.int IntKind.i64 A.base, Value.int IntKind.i64 A.round, Value.slice a1 A.hs.length c1, Value.int IntKind.i64 A.lk.cl, Value.int IntKind.i64 A.lk.sq, Value.int IntKind.i64 A.lk.hm, Value.int IntKind.i64 A.lk.n] : Bx } ∧
      true =
      true) ∧
      (some
      { ty := (65 : TypeId), cs := [Value.string B.key, Value.int IntKind.i64 B.lo, Value.int IntKind.i64 B.hi, Value.int IntKind.i64 B.base, Value.int IntKind.i64 B.round, Value.slice a2 B.hs.length c2, Value.int IntKind.i64 B.lk.cl, Value.int IntKind.i64 B.lk.sq, Value.int IntKind.i64 B.lk.hm, Value.int IntKind.i64 B.lk.n] : Bx } =
      some
      { ty := (65 : TypeId), cs := [Value.string B.key, Value.int IntKind.i64 B.lo, Value.int IntKind.i64 B.hi, Value.int IntKind.i64 B.base, Value.int IntKind.i64 B.round, Value.slice a2 B.hs.length c2, Value.int IntKind.i64 B.lk.cl, Value.int IntKind.i64 B.lk.sq, Value.int IntKind.i64 B.lk.hm, Value.int IntKind.i64 B.lk.n] : Bx } ∧
      true =
      true) ∧
      (some
      { ty := (24 : Nat), cs := [Value.int IntKind.i64 n_5, Value.int IntKind.i64 n_6, Value.string s, Value.string s_1, Value.int IntKind.i64 n_7, Value.int IntKind.i64 n_8, Value.int IntKind.i64 n_9, Value.int IntKind.i64 n_10] : Bx } =
      some
      { ty := (24 : TypeId), cs := [Value.int IntKind.i64 x.d.cl, Value.int IntKind.i64 x.d.sq, Value.string x.d.ky, Value.string x.d.ot, Value.int IntKind.i64 x.d.n, Value.int IntKind.i64 x.d.mi, Value.int IntKind.i64 x.d.th, Value.int IntKind.i64 x.d.ft] : Bx } ∧
      true =
      true) ∧
      True) ∧
      [ws.length - a.k] =
      [ws.length - x.k])
      (∃ (x : DwX),
      ((x.k < ws.length ∧ DwI N (ogD A B) n aw ws x) ∧
      a.m = x.m ∧
      ((SV.val
      (Value.int IntKind.i64
      (↑a.k : Int)) =
      SV.val
      (Value.int IntKind.i64
      (↑x.k : Int)) ∧
      true = true) ∧
      (SV.val (Value.slice aw ws.length cw) =
      SV.val
      (Value.slice aw ws.length cw) ∧
      true = true) ∧
      (SV.val
      (Value.slice a.aB (1 : Nat)
      a.cB) =
      SV.val
      (Value.slice x.aB (1 : Nat)
      x.cB) ∧
      true = true) ∧
      (SV.val
      (Value.pointer
      (some
      { block := a.b1, off := (0 : Nat) : Addr })) =
      SV.val
      (Value.pointer
      (some
      { block := x.b1, off := (0 : Nat) : Addr })) ∧
      true = true) ∧
      (SV.val
      (Value.pointer
      (some
      { block := a.b2, off := (0 : Nat) : Addr })) =
      SV.val
      (Value.pointer
      (some
      { block := x.b2, off := (0 : Nat) : Addr })) ∧
      true = true) ∧
      (SV.val
      (Value.pointer
      (some
      { block := a.b3, off := (0 : Nat) : Addr })) =
      SV.val
      (Value.pointer
      (some
      { block := x.b3, off := (0 : Nat) : Addr })) ∧
      true = true) ∧
      (SV.own (0 : Nat) (0 : Nat) =
      SV.own (0 : Nat)
      (0 : Nat) ∧
      true = true) ∧
      (SV.own (1 : Nat)
      (0 : Nat) =
      SV.own (1 : Nat)
      (0 : Nat) ∧
      true = true) ∧
      (SV.val
      (Value.int
      IntKind.i64 n) =
      SV.val
      (Value.int
      IntKind.i64 n) ∧
      true = true) ∧
      (SV.own
      ((0 : Nat) +
      (3 :
      Nat) +
      (19 :
      Nat) +
      (12 :
      Nat) +
      (2 :
      Nat) +
      (5 :
      Nat) +
      (3 :
      Nat) +
      (3 :
      Nat) +
      (1 :
      Nat) +
      (4 :
      Nat) +
      (7 : Nat) +
      (5 : Nat))
      (0 : Nat) =
      SV.own (64 : Nat)
      (0 : Nat) ∧
      true = true) ∧
      True) ∧
      (some
      { ty := (65 : TypeId), cs := [Value.string A.key, Value.int IntKind.i64 A.lo, Value.int IntKind.i64 A.hi, Value.int IntKind.i64 A.base, Value.int IntKind.i64 A.round, Value.slice a1 A.hs.length c1, Value.int IntKind.i64 A.lk.cl, Value.int IntKind.i64 A.lk.sq, Value.int IntKind.i64 A.lk.hm, Value.int IntKind.i64 A.lk.n] : Bx } =
      some
      { ty := (65 : TypeId), cs := [Value.string A.key, Value.int IntKind.i64 A.lo, Value.int IntKind.i64 A.hi, Value.int IntKind.i64 A.base, Value.int IntKind.i64 A.round, Value.slice a1 A.hs.length c1, Value.int IntKind.i64 A.lk.cl, Value.int IntKind.i64 A.lk.sq, Value.int IntKind.i64 A.lk.hm, Value.int IntKind.i64 A.lk.n] : Bx } ∧
      true = true) ∧
      (some
      { ty := (65 : TypeId), cs := [Value.string B.key, Value.int IntKind.i64 B.lo, Value.int IntKind.i64 B.hi, Value.int IntKind.i64 B.base, Value.int IntKind.i64 B.round, Value.slice a2 B.hs.length c2, Value.int IntKind.i64 B.lk.cl, Value.int IntKind.i64 B.lk.sq, Value.int IntKind.i64 B.lk.hm, Value.int IntKind.i64 B.lk.n] : Bx } =
      some
      { ty := (65 : TypeId), cs := [Value.string B.key, Value.int IntKind.i64 B.lo, Value.int IntKind.i64 B.hi, Value.int IntKind.i64 B.base, Value.int IntKind.i64 B.round, Value.slice a2 B.hs.length c2, Value.int IntKind.i64 B.lk.cl, Value.int IntKind.i64 B.lk.sq, Value.int IntKind.i64 B.lk.hm, Value.int IntKind.i64 B.lk.n] : Bx } ∧
      true = true) ∧
      (some
      { ty := (24 : Nat), cs := [Value.int IntKind.i64 n_5, Value.int IntKind.i64 n_6, Value.string s, Value.string s_1, Value.int IntKind.i64 n_7, Value.int IntKind.i64 n_8, Value.int IntKind.i64 n_9, Value.int IntKind.i64 n_10] : Bx } =
      some
      { ty := (24 : TypeId), cs := [Value.int IntKind.i64 x.d.cl, Value.int IntKind.i64 x.d.sq, Value.string x.d.ky, Value.string x.d.ot, Value.int IntKind.i64 x.d.n, Value.int IntKind.i64 x.d.mi, Value.int IntKind.i64 x.d.th, Value.int IntKind.i64 x.d.ft] : Bx } ∧
      true = true) ∧
      True) ∧
      [ws.length - a.k] = [ws.length - x.k]))
      (ifB (n_11 == (4 : Int))
      (((0 : Int) ≤
      (IntKind.i64.wrap (n_4 + (1 : Int))).tmod
      (2 : Int) ∧
      (IntKind.i64.wrap (n_4 + (1 : Int))).tmod (2 : Int) <
      (↑(2 : Nat) : Int)) ∧
      ∃ (n_12 : Int),
      CellsAt a.m a.b2
      ((0 : Nat) +
      ((IntKind.i64.wrap (n_4 + (1 : Int))).tmod
      (2 : Int)).toNat *
      (1 : Nat))
      [Value.int IntKind.i64 n_12] ∧
      ifB (n_12 != (0 : Int))
      (((0 : Int) ≤
      (IntKind.i64.wrap (n_4 + (1 : Int))).tmod
      (2 : Int) ∧
      (IntKind.i64.wrap (n_4 + (1 : Int))).tmod
      (2 : Int) <
      (↑(2 : Nat) : Int)) ∧
      ∃ (n_13 : Int),
      CellsAt a.m a.b2
      ((0 : Nat) +
      ((IntKind.i64.wrap
      (n_4 + (1 : Int))).tmod
      (2 : Int)).toNat *
      (1 : Nat))
      [Value.int IntKind.i64 n_13] ∧
      ∃ (S' : Nat → Prop),
      (∀ (b : Nat),
      S' b → a.m.uf b ∧ (N ≤ b ∨ False)) ∧
      ∀ (n_14 : Nat),
      a.m.sz ≤ n_14 →
      SpecW Try.prog (18 : Nat)
      [Value.slice a.aB (1 : Nat) a.cB,
      Value.int IntKind.i64 (3 : Int),
      Value.int IntKind.i64 (9 : Int),
      Value.bool
      ((IntKind.i64.wrap
      (n_4 +
      (1 : Int))).tmod
      (2 : Int) ==
      (0 : Int)),
      Value.bool (n_13 == (1 : Int))]
      { π := a.m.π, sz := n_14, uf := a.m.uf : M }
      S' fun (v : Value) (m' : M) =>
      ∃ (a_6 : Option Addr),
      ∃ (n_15 : Nat),
      ∃ (c : Nat),
      ∃ (b : Bool),
      ∃ (n_16 : Int),
      v =
      Value.tuple
      #[Value.slice a_6
      n_15 c,
      Value.bool b,
      Value.int
      IntKind.i64
      n_16] ∧
      ∃ (x : DwX),
      ((x.k < ws.length ∧
      DwI N
      (ogD A B) n
      aw ws x) ∧
      m' = x.m ∧
      ((SV.val
      (Value.int
      IntKind.i64
      (↑a.k :
      Int)) =
      SV.val
      (Value.int
      IntKind.i64
      (↑x.k :
      Int)) ∧
      true =
      true) ∧
      (SV.val
      (Value.slice
      aw
      ws.length
      cw) =
      SV.val
      (Value.slice
      aw
      ws.length
      cw) ∧
      true =
      true) ∧
      (SV.val
      (Value.slice
      a_6
      n_15
      c) =
      SV.val
      (Value.slice
      x.aB
      (1 :
      Nat)
      x.cB) ∧
      true =
      true) ∧
      (SV.val
      (Value.pointer
      (some
      { block := a.b1, off := (0 : Nat) : Addr })) =
      SV.val
      (Value.pointer
      (some
      { block := x.b1, off := (0 : Nat) : Addr })) ∧
      true =
      true) ∧
      (SV.val
      (Value.pointer
      (some
      { block := a.b2, off := (0 : Nat) : Addr })) =
      SV.val
      (Value.pointer
      (some
      { block := x.b2, off := (0 : Nat) : Addr })) ∧
      true =
      true) ∧
      (SV.val
      (Value.pointer
      (some
      { block := a.b3, off := (0 : Nat) : Addr })) =
      SV.val
      (Value.pointer
      (some
      { block := x.b3, off := (0 : Nat) : Addr })) ∧
      true =
      true) ∧
      (SV.own
      (0 :
      Nat)
      (0 :
      Nat) =
      SV.own
      (0 :
      Nat)
      (0 :
      Nat) ∧
      true =
      true) ∧
      (SV.own
      (1 :
      Nat)
      (0 :
      Nat) =
      SV.own
      (1 :
      Nat)
      (0 :
      Nat) ∧
      true =
      true) ∧
      (SV.val
      (Value.int
      IntKind.i64
      n) =
      SV.val
      (Value.int
      IntKind.i64
      n) ∧
      true =
      true) ∧
      (SV.own
      ((0 :
      Nat) +
      (3 :
      Nat) +
      (19 :
      Nat) +
      (12 :
      Nat) +
      (2 :
      Nat) +
      (5 :
      Nat) +
      (3 :
      Nat) +
      (3 :
      Nat) +
      (1 :
      Nat) +
      (4 :
      Nat) +
      (7 :
      Nat) +
      (5 :
      Nat))
      (0 :
      Nat) =
      SV.own
      (64 :
      Nat)
      (0 :
      Nat) ∧
      true =
      true) ∧
      True) ∧
      (some
      { ty := (65 : TypeId), cs := [Value.string A.key, Value.int IntKind.i64 A.lo, Value.int IntKind.i64 A.hi, Value.int IntKind.i64 A.base, Value.int IntKind.i64 A.round, Value.slice a1 A.hs.length c1, Value.int IntKind.i64 A.lk.cl, Value.int IntKind.i64 A.lk.sq, Value.int IntKind.i64 A.lk.hm, Value.int IntKind.i64 A.lk.n] : Bx } =
      some
      { ty := (65 : TypeId), cs := [Value.string A.key, Value.int IntKind.i64 A.lo, Value.int IntKind.i64 A.hi, Value.int IntKind.i64 A.base, Value.int IntKind.i64 A.round, Value.slice a1 A.hs.length c1, Value.int IntKind.i64 A.lk.cl, Value.int IntKind.i64 A.lk.sq, Value.int IntKind.i64 A.lk.hm, Value.int IntKind.i64 A.lk.n] : Bx } ∧
      true =
      true) ∧
      (some
      { ty := (65 : TypeId), cs := [Value.string B.key, Value.int IntKind.i64 B.lo, Value.int IntKind.i64 B.hi, Value.int IntKind.i64 B.base, Value.int IntKind.i64 B.round, Value.slice a2 B.hs.length c2, Value.int IntKind.i64 B.lk.cl, Value.int IntKind.i64 B.lk.sq, Value.int IntKind.i64 B.lk.hm, Value.int IntKind.i64 B.lk.n] : Bx } =
      some
      { ty := (65 : TypeId), cs := [Value.string B.key, Value.int IntKind.i64 B.lo, Value.int IntKind.i64 B.hi, Value.int IntKind.i64 B.base, Value.int IntKind.i64 B.round, Value.slice a2 B.hs.length c2, Value.int IntKind.i64 B.lk.cl, Value.int IntKind.i64 B.lk.sq, Value.int IntKind.i64 B.lk.hm, Value.int IntKind.i64 B.lk.n] : Bx } ∧
      true =
      true) ∧
      (some
      { ty := (24 : Nat), cs := [Value.int IntKind.i64 n_5, Value.int IntKind.i64 n_6, Value.string s, Value.string s_1, Value.int IntKind.i64 n_7, Value.int IntKind.i64 n_8, Value.int IntKind.i64 n_9, Value.int IntKind.i64 n_10] : Bx } =
      some
      { ty := (24 : TypeId), cs := [Value.int IntKind.i64 x.d.cl, Value.int IntKind.i64 x.d.sq, Value.string x.d.ky, Value.string x.d.ot, Value.int IntKind.i64 x.d.n, Value.int IntKind.i64 x.d.mi, Value.int IntKind.i64 x.d.th, Value.int IntKind.i64 x.d.ft] : Bx } ∧
      true =
      true) ∧
      True) ∧
      [ws.length -
      a.k] =
      [ws.length -
      x.k])
      (∃ (x : DwX),
      ((x.k < ws.length ∧ DwI N (ogD A B) n aw ws x) ∧
      a.m = x.m ∧
      ((SV.val
      (Value.int IntKind.i64
      (↑a.k : Int)) =
      SV.val
      (Value.int IntKind.i64
      (↑x.k : Int)) ∧
      true = true) ∧
      (SV.val
      (Value.slice aw ws.length
      cw) =
      SV.val
      (Value.slice aw ws.length
      cw) ∧
      true = true) ∧
      (SV.val
      (Value.slice a.aB (1 : Nat)
      a.cB) =
      SV.val
      (Value.slice x.aB (1 : Nat)
      x.cB) ∧
      true = true) ∧
      (SV.val
      (Value.pointer
      (some
      { block := a.b1, off := (0 : Nat) : Addr })) =
      SV.val
      (Value.pointer
      (some
      { block := x.b1, off := (0 : Nat) : Addr })) ∧
      true = true) ∧
      (SV.val
      (Value.pointer
      (some
      { block := a.b2, off := (0 : Nat) : Addr })) =
      SV.val
      (Value.pointer
      (some
      { block := x.b2, off := (0 : Nat) : Addr })) ∧
      true = true) ∧
      (SV.val
      (Value.pointer
      (some
      { block := a.b3, off := (0 : Nat) : Addr })) =
      SV.val
      (Value.pointer
      (some
      { block := x.b3, off := (0 : Nat) : Addr })) ∧
      true = true) ∧
      (SV.own (0 : Nat)
      (0 : Nat) =
      SV.own (0 : Nat)
      (0 : Nat) ∧
      true = true) ∧
      (SV.own (1 : Nat)
      (0 : Nat) =
      SV.own (1 : Nat)
      (0 : Nat) ∧
      true = true) ∧
      (SV.val
      (Value.int
      IntKind.i64
      n) =
      SV.val
      (Value.int
      IntKind.i64
      n) ∧
      true = true) ∧
      (SV.own
      ((0 : Nat) +
      (3 :
      Nat) +
      (19 :
      Nat) +
      (12 :
      Nat) +
      (2 :
      Nat) +
      (5 :
      Nat) +
      (3 :
      Nat) +
      (3 :
      Nat) +
      (1 :
      Nat) +
      (4 :
      Nat) +
      (7 :
      Nat) +
      (5 : Nat))
      (0 : Nat) =
      SV.own
      (64 : Nat)
      (0 : Nat) ∧
      true = true) ∧
      True) ∧
      (some
      { ty := (65 : TypeId), cs := [Value.string A.key, Value.int IntKind.i64 A.lo, Value.int IntKind.i64 A.hi, Value.int IntKind.i64 A.base, Value.int IntKind.i64 A.round, Value.slice a1 A.hs.length c1, Value.int IntKind.i64 A.lk.cl, Value.int IntKind.i64 A.lk.sq, Value.int IntKind.i64 A.lk.hm, Value.int IntKind.i64 A.lk.n] : Bx } =
      some
      { ty := (65 : TypeId), cs := [Value.string A.key, Value.int IntKind.i64 A.lo, Value.int IntKind.i64 A.hi, Value.int IntKind.i64 A.base, Value.int IntKind.i64 A.round, Value.slice a1 A.hs.length c1, Value.int IntKind.i64 A.lk.cl, Value.int IntKind.i64 A.lk.sq, Value.int IntKind.i64 A.lk.hm, Value.int IntKind.i64 A.lk.n] : Bx } ∧
      true = true) ∧
      (some
      { ty := (65 : TypeId), cs := [Value.string B.key, Value.int IntKind.i64 B.lo, Value.int IntKind.i64 B.hi, Value.int IntKind.i64 B.base, Value.int IntKind.i64 B.round, Value.slice a2 B.hs.length c2, Value.int IntKind.i64 B.lk.cl, Value.int IntKind.i64 B.lk.sq, Value.int IntKind.i64 B.lk.hm, Value.int IntKind.i64 B.lk.n] : Bx } =
      some
      { ty := (65 : TypeId), cs := [Value.string B.key, Value.int IntKind.i64 B.lo, Value.int IntKind.i64 B.hi, Value.int IntKind.i64 B.base, Value.int IntKind.i64 B.round, Value.slice a2 B.hs.length c2, Value.int IntKind.i64 B.lk.cl, Value.int IntKind.i64 B.lk.sq, Value.int IntKind.i64 B.lk.hm, Value.int IntKind.i64 B.lk.n] : Bx } ∧
      true = true) ∧
      (some
      { ty := (24 : Nat), cs := [Value.int IntKind.i64 n_5, Value.int IntKind.i64 n_6, Value.string s, Value.string s_1, Value.int IntKind.i64 n_7, Value.int IntKind.i64 n_8, Value.int IntKind.i64 n_9, Value.int IntKind.i64 n_10] : Bx } =
      some
      { ty := (24 : TypeId), cs := [Value.int IntKind.i64 x.d.cl, Value.int IntKind.i64 x.d.sq, Value.string x.d.ky, Value.string x.d.ot, Value.int IntKind.i64 x.d.n, Value.int IntKind.i64 x.d.mi, Value.int IntKind.i64 x.d.th, Value.int IntKind.i64 x.d.ft] : Bx } ∧
      true = true) ∧
      True) ∧
      [ws.length - a.k] = [ws.length - x.k]))
      (ifB (n_11 == (5 : Int))
      (∃ (S' : Nat → Prop),
      (∀ (b : Nat), S' b → a.m.uf b ∧ (N ≤ b ∨ False)) ∧
      ∀ (n_12 : Nat),
      a.m.sz ≤ n_12 →
      SpecW Try.prog (20 : Nat)
      [Value.slice a.aB (1 : Nat) a.cB,
      Value.int IntKind.i64 (3 : Int),
      Value.int IntKind.i64 (9 : Int)]
      { π := a.m.π, sz := n_12, uf := a.m.uf : M }
      S' fun (v : Value) (m' : M) =>
      ∃ (a_6 : Option Addr),
      ∃ (n_13 : Nat),
      ∃ (c : Nat),
      ∃ (b : Bool),
      ∃ (n_14 : Int),
      v =
      Value.tuple
      #[Value.slice a_6 n_13 c,
      Value.bool b,
      Value.int IntKind.i64
      n_14] ∧
      ∃ (x : DwX),
      ((x.k < ws.length ∧
      DwI N (ogD A B) n aw ws
      x) ∧
      m' = x.m ∧
      ((SV.val
      (Value.int
      IntKind.i64
      (↑a.k :
      Int)) =
      SV.val
      (Value.int
      IntKind.i64
      (↑x.k :
      Int)) ∧
      true = true) ∧
      (SV.val
      (Value.slice
      aw ws.length
      cw) =
      SV.val
      (Value.slice
      aw ws.length
      cw) ∧
      true = true) ∧
      (SV.val
      (Value.slice
      a_6 n_13
      c) =
      SV.val
      (Value.slice
      x.aB
      (1 : Nat)
      x.cB) ∧
      true = true) ∧
      (SV.val
      (Value.pointer
      (some
      { block := a.b1, off := (0 : Nat) : Addr })) =
      SV.val
      (Value.pointer
      (some
      { block := x.b1, off := (0 : Nat) : Addr })) ∧
      true = true) ∧
      (SV.val
      (Value.pointer
      (some
      { block := a.b2, off := (0 : Nat) : Addr })) =
      SV.val
      (Value.pointer
      (some
      { block := x.b2, off := (0 : Nat) : Addr })) ∧
      true =
      true) ∧
      (SV.val
      (Value.pointer
      (some
      { block := a.b3, off := (0 : Nat) : Addr })) =
      SV.val
      (Value.pointer
      (some
      { block := x.b3, off := (0 : Nat) : Addr })) ∧
      true =
      true) ∧
      (SV.own
      (0 :
      Nat)
      (0 :
      Nat) =
      SV.own
      (0 :
      Nat)
      (0 :
      Nat) ∧
      true =
      true) ∧
      (SV.own
      (1 :
      Nat)
      (0 :
      Nat) =
      SV.own
      (1 :
      Nat)
      (0 :
      Nat) ∧
      true =
      true) ∧
      (SV.val
      (Value.int
      IntKind.i64
      n) =
      SV.val
      (Value.int
      IntKind.i64
      n) ∧
      true =
      true) ∧
      (SV.own
      ((0 :
      Nat) +
      (3 :
      Nat) +
      (19 :
      Nat) +
      (12 :
      Nat) +
      (2 :
      Nat) +
      (5 :
      Nat) +
      (3 :
      Nat) +
      (3 :
      Nat) +
      (1 :
      Nat) +
      (4 :
      Nat) +
      (7 :
      Nat) +
      (5 :
      Nat))
      (0 :
      Nat) =
      SV.own
      (64 :
      Nat)
      (0 :
      Nat) ∧
      true =
      true) ∧
      True) ∧
      (some
      { ty := (65 : TypeId), cs := [Value.string A.key, Value.int IntKind.i64 A.lo, Value.int IntKind.i64 A.hi, Value.int IntKind.i64 A.base, Value.int IntKind.i64 A.round, Value.slice a1 A.hs.length c1, Value.int IntKind.i64 A.lk.cl, Value.int IntKind.i64 A.lk.sq, Value.int IntKind.i64 A.lk.hm, Value.int IntKind.i64 A.lk.n] : Bx } =
      some
      { ty := (65 : TypeId), cs := [Value.string A.key, Value.int IntKind.i64 A.lo, Value.int IntKind.i64 A.hi, Value.int IntKind.i64 A.base, Value.int IntKind.i64 A.round, Value.slice a1 A.hs.length c1, Value.int IntKind.i64 A.lk.cl, Value.int IntKind.i64 A.lk.sq, Value.int IntKind.i64 A.lk.hm, Value.int IntKind.i64 A.lk.n] : Bx } ∧
      true = true) ∧
      (some
      { ty := (65 : TypeId), cs := [Value.string B.key, Value.int IntKind.i64 B.lo, Value.int IntKind.i64 B.hi, Value.int IntKind.i64 B.base, Value.int IntKind.i64 B.round, Value.slice a2 B.hs.length c2, Value.int IntKind.i64 B.lk.cl, Value.int IntKind.i64 B.lk.sq, Value.int IntKind.i64 B.lk.hm, Value.int IntKind.i64 B.lk.n] : Bx } =
      some
      { ty := (65 : TypeId), cs := [Value.string B.key, Value.int IntKind.i64 B.lo, Value.int IntKind.i64 B.hi, Value.int IntKind.i64 B.base, Value.int IntKind.i64 B.round, Value.slice a2 B.hs.length c2, Value.int IntKind.i64 B.lk.cl, Value.int IntKind.i64 B.lk.sq, Value.int IntKind.i64 B.lk.hm, Value.int IntKind.i64 B.lk.n] : Bx } ∧
      true = true) ∧
      (some
      { ty := (24 : Nat), cs := [Value.int IntKind.i64 n_5, Value.int IntKind.i64 n_6, Value.string s, Value.string s_1, Value.int IntKind.i64 n_7, Value.int IntKind.i64 n_8, Value.int IntKind.i64 n_9, Value.int IntKind.i64 n_10] : Bx } =
      some
      { ty := (24 : TypeId), cs := [Value.int IntKind.i64 x.d.cl, Value.int IntKind.i64 x.d.sq, Value.string x.d.ky, Value.string x.d.ot, Value.int IntKind.i64 x.d.n, Value.int IntKind.i64 x.d.mi, Value.int IntKind.i64 x.d.th, Value.int IntKind.i64 x.d.ft] : Bx } ∧
      true = true) ∧
      True) ∧
      [ws.length - a.k] =
      [ws.length - x.k])
      (ifB (n_11 == (6 : Int))
      (∃ (b : Nat),
      ∃ (off : Nat),
      aw = some { block := b, off := off : Addr } ∧
      ((0 : Int) ≤ (↑a.k : Int) ∧
      (↑a.k : Int) < (↑ws.length : Int)) ∧
      ∃ (n_12 : Int),
      CellsAt a.m b
      (off + (↑a.k : Int).toNat * (1 : Nat))
      [Value.int IntKind.i64 n_12] ∧
      ifB (n_10 == (0 : Int))
      (∃ (a' : DwX),
      (DwI N (ogD A B) n aw ws a' ∧
      a.m = a'.m ∧
      ((SV.val
      (Value.int IntKind.i64
      (IntKind.i64.wrap
      ((↑a.k : Int) +
      (1 : Int)))) =
      SV.val
      (Value.int IntKind.i64
      (↑a'.k : Int)) ∧
      true = true) ∧
      (SV.val
      (Value.slice aw
      ws.length cw) =
      SV.val
      (Value.slice aw
      ws.length cw) ∧
      true = true) ∧
      (SV.val
      (Value.slice a.aB
      (1 : Nat)
      a.cB) =
      SV.val
      (Value.slice a'.aB
      (1 : Nat)
      a'.cB) ∧
      true = true) ∧
      (SV.val
      (Value.pointer
      (some
      { block := a.b1, off := (0 : Nat) : Addr })) =
      SV.val
      (Value.pointer
      (some
      { block := a'.b1, off := (0 : Nat) : Addr })) ∧
      true = true) ∧
      (SV.val
      (Value.pointer
      (some
      { block := a.b2, off := (0 : Nat) : Addr })) =
      SV.val
      (Value.pointer
      (some
      { block := a'.b2, off := (0 : Nat) : Addr })) ∧
      true = true) ∧
      (SV.val
      (Value.pointer
      (some
      { block := a.b3, off := (0 : Nat) : Addr })) =
      SV.val
      (Value.pointer
      (some
      { block := a'.b3, off := (0 : Nat) : Addr })) ∧
      true = true) ∧
      (SV.own (0 : Nat)
      (0 :
      Nat) =
      SV.own
      (0 : Nat)
      (0 :
      Nat) ∧
      true = true) ∧
      (SV.own
      (1 :
      Nat)
      (0 :
      Nat) =
      SV.own
      (1 :
      Nat)
      (0 :
      Nat) ∧
      true =
      true) ∧
      (SV.val
      (Value.int
      IntKind.i64
      n) =
      SV.val
      (Value.int
      IntKind.i64
      n) ∧
      true =
      true) ∧
      True) ∧
      (some
      { ty := (65 : TypeId), cs := [Value.string A.key, Value.int IntKind.i64 A.lo, Value.int IntKind.i64 A.hi, Value.int IntKind.i64 A.base, Value.int IntKind.i64 A.round, Value.slice a1 A.hs.length c1, Value.int IntKind.i64 A.lk.cl, Value.int IntKind.i64 A.lk.sq, Value.int IntKind.i64 A.lk.hm, Value.int IntKind.i64 A.lk.n] : Bx } =
      some
      { ty := (65 : TypeId), cs := [Value.string A.key, Value.int IntKind.i64 A.lo, Value.int IntKind.i64 A.hi, Value.int IntKind.i64 A.base, Value.int IntKind.i64 A.round, Value.slice a1 A.hs.length c1, Value.int IntKind.i64 A.lk.cl, Value.int IntKind.i64 A.lk.sq, Value.int IntKind.i64 A.lk.hm, Value.int IntKind.i64 A.lk.n] : Bx } ∧
      true = true) ∧
      (some
      { ty := (65 : TypeId), cs := [Value.string B.key, Value.int IntKind.i64 B.lo, Value.int IntKind.i64 B.hi, Value.int IntKind.i64 B.base, Value.int IntKind.i64 B.round, Value.slice a2 B.hs.length c2, Value.int IntKind.i64 B.lk.cl, Value.int IntKind.i64 B.lk.sq, Value.int IntKind.i64 B.lk.hm, Value.int IntKind.i64 B.lk.n] : Bx } =
      some
      { ty := (65 : TypeId), cs := [Value.string B.key, Value.int IntKind.i64 B.lo, Value.int IntKind.i64 B.hi, Value.int IntKind.i64 B.base, Value.int IntKind.i64 B.round, Value.slice a2 B.hs.length c2, Value.int IntKind.i64 B.lk.cl, Value.int IntKind.i64 B.lk.sq, Value.int IntKind.i64 B.lk.hm, Value.int IntKind.i64 B.lk.n] : Bx } ∧
      true = true) ∧
      True) ∧
      ws.length - a'.k < ws.length - a.k)
      (((0 : Int) ≤
      IntKind.i64.wrap
      (n_12 - (6 : Int)) ∧
      IntKind.i64.wrap
      (n_12 - (6 : Int)) <
      (↑(2 : Nat) : Int)) ∧
      ∃ (b : Bool),
      CellsAt a.m a.b3
      ((0 : Nat) +
      (IntKind.i64.wrap
      (n_12 -
      (6 : Int))).toNat *
      (1 : Nat))
      [Value.bool b] ∧
      ifB b
      (∃ (a' : DwX),
      (DwI N (ogD A B) n aw ws a' ∧
      a.m = a'.m ∧
      ((SV.val
      (Value.int
      IntKind.i64
      (IntKind.i64.wrap
      ((↑a.k :
      Int) +
      (1 :
      Int)))) =
      SV.val
      (Value.int
      IntKind.i64
      (↑a'.k :
      Int)) ∧
      true = true) ∧
      (SV.val
      (Value.slice
      aw
      ws.length
      cw) =
      SV.val
      (Value.slice
      aw
      ws.length
      cw) ∧
      true = true) ∧
      (SV.val
      (Value.slice
      a.aB
      (1 :
      Nat)
      a.cB) =
      SV.val
      (Value.slice
      a'.aB
      (1 :
      Nat)
      a'.cB) ∧
      true = true) ∧
      (SV.val
      (Value.pointer
      (some
      { block := a.b1, off := (0 : Nat) : Addr })) =
      SV.val
      (Value.pointer
      (some
      { block := a'.b1, off := (0 : Nat) : Addr })) ∧
      true =
      true) ∧
      (SV.val
      (Value.pointer
      (some
      { block := a.b2, off := (0 : Nat) : Addr })) =
      SV.val
      (Value.pointer
      (some
      { block := a'.b2, off := (0 : Nat) : Addr })) ∧
      true =
      true) ∧
      (SV.val
      (Value.pointer
      (some
      { block := a.b3, off := (0 : Nat) : Addr })) =
      SV.val
      (Value.pointer
      (some
      { block := a'.b3, off := (0 : Nat) : Addr })) ∧
      true =
      true) ∧
      (SV.own
      (0 :
      Nat)
      (0 :
      Nat) =
      SV.own
      (0 :
      Nat)
      (0 :
      Nat) ∧
      true =
      true) ∧
      (SV.own
      (1 :
      Nat)
      (0 :
      Nat) =
      SV.own
      (1 :
      Nat)
      (0 :
      Nat) ∧
      true =
      true) ∧
      (SV.val
      (Value.int
      IntKind.i64
      n) =
      SV.val
      (Value.int
      IntKind.i64
      n) ∧
      true =
      true) ∧
      True) ∧
      (some
      { ty := (65 : TypeId), cs := [Value.string A.key, Value.int IntKind.i64 A.lo, Value.int IntKind.i64 A.hi, Value.int IntKind.i64 A.base, Value.int IntKind.i64 A.round, Value.slice a1 A.hs.length c1, Value.int IntKind.i64 A.lk.cl, Value.int IntKind.i64 A.lk.sq, Value.int IntKind.i64 A.lk.hm, Value.int IntKind.i64 A.lk.n] : Bx } =
      some
      { ty := (65 : TypeId), cs := [Value.string A.key, Value.int IntKind.i64 A.lo, Value.int IntKind.i64 A.hi, Value.int IntKind.i64 A.base, Value.int IntKind.i64 A.round, Value.slice a1 A.hs.length c1, Value.int IntKind.i64 A.lk.cl, Value.int IntKind.i64 A.lk.sq, Value.int IntKind.i64 A.lk.hm, Value.int IntKind.i64 A.lk.n] : Bx } ∧
      true = true) ∧
      (some
      { ty := (65 : TypeId), cs := [Value.string B.key, Value.int IntKind.i64 B.lo, Value.int IntKind.i64 B.hi, Value.int IntKind.i64 B.base, Value.int IntKind.i64 B.round, Value.slice a2 B.hs.length c2, Value.int IntKind.i64 B.lk.cl, Value.int IntKind.i64 B.lk.sq, Value.int IntKind.i64 B.lk.hm, Value.int IntKind.i64 B.lk.n] : Bx } =
      some
      { ty := (65 : TypeId), cs := [Value.string B.key, Value.int IntKind.i64 B.lo, Value.int IntKind.i64 B.hi, Value.int IntKind.i64 B.base, Value.int IntKind.i64 B.round, Value.slice a2 B.hs.length c2, Value.int IntKind.i64 B.lk.cl, Value.int IntKind.i64 B.lk.sq, Value.int IntKind.i64 B.lk.hm, Value.int IntKind.i64 B.lk.n] : Bx } ∧
      true = true) ∧
      True) ∧
      ws.length - a'.k <
      ws.length - a.k)
      (((0 : Int) ≤
      IntKind.i64.wrap
      (n_12 - (6 : Int)) ∧
      IntKind.i64.wrap
      (n_12 - (6 : Int)) <
      (↑(2 : Nat) : Int)) ∧
      Wr N (fun (x : Nat) => False)
      a.m a.b3
      ((0 : Nat) +
      (IntKind.i64.wrap
      (n_12 -
      (6 :
      Int))).toNat *
      (1 : Nat))
      (1 : Nat) ∧
      ((0 : Int) ≤
      IntKind.i64.wrap
      (n_12 - (6 : Int)) ∧
      IntKind.i64.wrap
      (n_12 - (6 : Int)) <
      (↑(2 : Nat) : Int)) ∧
      ∃ (n_13 : Int),
      CellsAt
      (a.m.setCells a.b3
      ((0 : Nat) +
      (IntKind.i64.wrap
      (n_12 -
      (6 :
      Int))).toNat *
      (1 : Nat))
      [Value.bool true])
      a.b2
      ((0 : Nat) +
      (IntKind.i64.wrap
      (n_12 -
      (6 :
      Int))).toNat *
      (1 : Nat))
      [Value.int
      IntKind.i64
      n_13] ∧
      ifB
      (n_13 == (1 : Int))
      (true = true ∧
      ((0 : Int) ≤
      IntKind.i64.wrap
      (n_12 -
      (6 :
      Int)) ∧
      IntKind.i64.wrap
      (n_12 -
      (6 :
      Int)) <
      (↑(2 :
      Nat) :
      Int)) ∧
      ∃ (s_2 :
      ByteArray),
      ∃ (n_14 :
      Int),
      ∃ (n_15 :
      Int),
      ∃ (n_16 :
      Int),
      ∃ (n_17
      :
      Int),
      ∃ (a_5
      :
      Option
      Addr),
      ∃
      (n_18
      :
      Nat),
      ∃
      (c
      :
      Nat),
      ∃
      (n_19
      :
      Int),
      ∃
      (n_20
      :
      Int),
      ∃
      (n_21
      :
      Int),
      ∃
      (n_22
      :
      Int),
      CellsAt
      (a.m.setCells
      a.b3
      ((0 :
      Nat) +
      (IntKind.i64.wrap
      (n_12 -
      (6 :
      Int))).toNat *
      (1 :
      Nat))
      [Value.bool
      true])
      a.b1
      ((0 :
      Nat) +
      (IntKind.i64.wrap
      (n_12 -
      (6 :
      Int))).toNat *
      (10 :
      Nat))
      [Value.string
      s_2,
      Value.int
      IntKind.i64
      n_14,
      Value.int
      IntKind.i64
      n_15,
      Value.int
      IntKind.i64
      n_16,
      Value.int
      IntKind.i64
      n_17,
      Value.slice
      a_5
      n_18
      c,
      Value.int
      IntKind.i64
      n_19,
      Value.int
      IntKind.i64
      n_20,
      Value.int
      IntKind.i64
      n_21,
      Value.int
      IntKind.i64
      n_22] ∧
      (∀
      (n_23 :
      Nat),
      a.m.sz ≤
      n_23 →
      Vc.Spec
      Try.prog
      (38 :
      Nat)
      [Value.agg
      #[Value.string
      s_2,
      Value.int
      IntKind.i64
      n_14,
      Value.int
      IntKind.i64
      n_15,
      Value.int
      IntKind.i64
      n_16,
      Value.int
      IntKind.i64
      n_17,
      Value.slice
      a_5
      n_18
      c,
      Value.int
      IntKind.i64
      n_19,
      Value.int
      IntKind.i64
      n_20,
      Value.int
      IntKind.i64
      n_21,
      Value.int
      IntKind.i64
      n_22],
      Value.bool
      (n_10 ==
      (1 :
      Int))]
      { π := (a.m.setCells a.b3 ((0 : Nat) + (IntKind.i64.wrap (n_12 - (6 : Int))).toNat * (1 : Nat)) [Value.bool true]).π, sz := n_23, uf := (a.m.setCells a.b3 ((0 : Nat) + (IntKind.i64.wrap (n_12 - (6 : Int))).toNat * (1 : Nat)) [Value.bool true]).uf : M }
      fun
      (v :
      Value)
      (m' :
      M) =>
      ∃
      (s_3
      :
      ByteArray),
      ∃
      (n_24
      :
      Int),
      ∃
      (n_25
      :
      Int),
      ∃
      (n_26
      :
      Int),
      ∃
      (n_27
      :
      Int),
      ∃
      (a_7
      :
      Option
      Addr),
      ∃
      (n_28
      :
      Nat),
      ∃
      (c
      :
      Nat),
      ∃
      (n_29
      :
      Int),
      ∃
      (n_30
      :
      Int),
      ∃
      (n_31
      :
      Int),
      ∃
      (n_32
      :
      Int),
      ∃
      (n_33
      :
      Int),
      v =
      Value.tuple
      #[Value.agg
      #[Value.string
      s_3,
      Value.int
      IntKind.i64
      n_24,
      Value.int
      IntKind.i64
      n_25,
      Value.int
      IntKind.i64
      n_26,
      Value.int
      IntKind.i64
      n_27,
      Value.slice
      a_7
      n_28
      c,
      Value.int
      IntKind.i64
      n_29,
      Value.int
      IntKind.i64
      n_30,
      Value.int
      IntKind.i64
      n_31,
      Value.int
      IntKind.i64
      n_32],
      Value.int
      IntKind.i64
      n_33] ∧
      ifB
      (n_33 !=
      (0 :
      Int))
      (Done
      (Value.bool
      false =
      Value.bool
      true))
      (((0 :
      Int) ≤
      IntKind.i64.wrap
      (n_12 -
      (6 :
      Int)) ∧
      IntKind.i64.wrap
      (n_12 -
      (6 :
      Int)) <
      (↑(2 :
      Nat) :
      Int)) ∧
      Wr
      N
      (fun
      (x :
      Nat) =>
      False)
      m'
      a.b1
      ((0 :
      Nat) +
      (IntKind.i64.wrap
      (n_12 -
      (6 :
      Int))).toNat *
      (10 :
      Nat))
      #[Value.string
      s_3,
      Value.int
      IntKind.i64
      n_24,
      Value.int
      IntKind.i64
      n_25,
      Value.int
      IntKind.i64
      n_26,
      Value.int
      IntKind.i64
      n_27,
      Value.slice
      a_7
      n_28
      c,
      Value.int
      IntKind.i64
      n_29,
      Value.int
      IntKind.i64
      n_30,
      Value.int
      IntKind.i64
      n_31,
      Value.int
      IntKind.i64
      n_32].size ∧
      ∃
      (x
      :
      DwX),
      ((x.k <
      ws.length ∧
      DwI
      N
      (ogD
      A
      B)
      n
      aw
      ws
      x) ∧
      m'.setCells
      a.b1
      ((0 :
      Nat) +
      (IntKind.i64.wrap
      (n_12 -
      (6 :
      Int))).toNat *
      (10 :
      Nat))
      [Value.string
      s_3,
      Value.int
      IntKind.i64
      n_24,
      Value.int
      IntKind.i64
      n_25,
      Value.int
      IntKind.i64
      n_26,
      Value.int
      IntKind.i64
      n_27,
      Value.slice
      a_7
      n_28
      c,
      Value.int
      IntKind.i64
      n_29,
      Value.int
      IntKind.i64
      n_30,
      Value.int
      IntKind.i64
      n_31,
      Value.int
      IntKind.i64
      n_32] =
      x.m ∧
      ((SV.val
      (Value.int
      IntKind.i64
      (↑a.k :
      Int)) =
      SV.val
      (Value.int
      IntKind.i64
      (↑x.k :
      Int)) ∧
      true =
      true) ∧
      (SV.val
      (Value.slice
      aw
      ws.length
      cw) =
      SV.val
      (Value.slice
      aw
      ws.length
      cw) ∧
      true =
      true) ∧
      (SV.val
      (Value.slice
      a.aB
      (1 :
      Nat)
      a.cB) =
      SV.val
      (Value.slice
      x.aB
      (1 :
      Nat)
      x.cB) ∧
      true =
      true) ∧
      (SV.val
      (Value.pointer
      (some
      { block := a.b1, off := (0 : Nat) : Addr })) =
      SV.val
      (Value.pointer
      (some
      { block := x.b1, off := (0 : Nat) : Addr })) ∧
      true =
      true) ∧
      (SV.val
      (Value.pointer
      (some
      { block := a.b2, off := (0 : Nat) : Addr })) =
      SV.val
      (Value.pointer
      (some
      { block := x.b2, off := (0 : Nat) : Addr })) ∧
      true =
      true) ∧
      (SV.val
      (Value.pointer
      (some
      { block := a.b3, off := (0 : Nat) : Addr })) =
      SV.val
      (Value.pointer
      (some
      { block := x.b3, off := (0 : Nat) : Addr })) ∧
      true =
      true) ∧
      (SV.own
      (0 :
      Nat)
      (0 :
      Nat) =
      SV.own
      (0 :
      Nat)
      (0 :
      Nat) ∧
      true =
      true) ∧
      (SV.own
      (1 :
      Nat)
      (0 :
      Nat) =
      SV.own
      (1 :
      Nat)
      (0 :
      Nat) ∧
      true =
      true) ∧
      (SV.val
      (Value.int
      IntKind.i64
      n) =
      SV.val
      (Value.int
      IntKind.i64
      n) ∧
      true =
      true) ∧
      (SV.own
      ((0 :
      Nat) +
      (3 :
      Nat) +
      (19 :
      Nat) +
      (12 :
      Nat) +
      (2 :
      Nat) +
      (5 :
      Nat) +
      (3 :
      Nat) +
      (3 :
      Nat) +
      (1 :
      Nat) +
      (4 :
      Nat) +
      (7 :
      Nat) +
      (5 :
      Nat))
      (0 :
      Nat) =
      SV.own
      (64 :
      Nat)
      (0 :
      Nat) ∧
      true =
      true) ∧
      True) ∧
      (some
      { ty := (65 : TypeId), cs := [Value.string A.key, Value.int IntKind.i64 A.lo, Value.int IntKind.i64 A.hi, Value.int IntKind.i64 A.base, Value.int IntKind.i64 A.round, Value.slice a1 A.hs.length c1, Value.int IntKind.i64 A.lk.cl, Value.int IntKind.i64 A.lk.sq, Value.int IntKind.i64 A.lk.hm, Value.int IntKind.i64 A.lk.n] : Bx } =
      some
      { ty := (65 : TypeId), cs := [Value.string A.key, Value.int IntKind.i64 A.lo, Value.int IntKind.i64 A.hi, Value.int IntKind.i64 A.base, Value.int IntKind.i64 A.round, Value.slice a1 A.hs.length c1, Value.int IntKind.i64 A.lk.cl, Value.int IntKind.i64 A.lk.sq, Value.int IntKind.i64 A.lk.hm, Value.int IntKind.i64 A.lk.n] : Bx } ∧
      true =
      true) ∧
      (some
      { ty := (65 : TypeId), cs := [Value.string B.key, Value.int IntKind.i64 B.lo, Value.int IntKind.i64 B.hi, Value.int IntKind.i64 B.base, Value.int IntKind.i64 B.round, Value.slice a2 B.hs.length c2, Value.int IntKind.i64 B.lk.cl, Value.int IntKind.i64 B.lk.sq, Value.int IntKind.i64 B.lk.hm, Value.int IntKind.i64 B.lk.n] : Bx } =
      some
      { ty := (65 : TypeId), cs := [Value.string B.key, Value.int IntKind.i64 B.lo, Value.int IntKind.i64 B.hi, Value.int IntKind.i64 B.base, Value.int IntKind.i64 B.round, Value.slice a2 B.hs.length c2, Value.int IntKind.i64 B.lk.cl, Value.int IntKind.i64 B.lk.sq, Value.int IntKind.i64 B.lk.hm, Value.int IntKind.i64 B.lk.n] : Bx } ∧
      true =
      true) ∧
      (some
      { ty := (24 : Nat), cs := [Value.int IntKind.i64 n_5, Value.int IntKind.i64 n_6, Value.string s, Value.string s_1, Value.int IntKind.i64 n_7, Value.int IntKind.i64 n_8, Value.int IntKind.i64 n_9, Value.int IntKind.i64 n_10] : Bx } =
      some
      { ty := (24 : TypeId), cs := [Value.int IntKind.i64 x.d.cl, Value.int IntKind.i64 x.d.sq, Value.string x.d.ky, Value.string x.d.ot, Value.int IntKind.i64 x.d.n, Value.int IntKind.i64 x.d.mi, Value.int IntKind.i64 x.d.th, Value.int IntKind.i64 x.d.ft] : Bx } ∧
      true =
      true) ∧
      True) ∧
      [ws.length -
      a.k] =
      [ws.length -
      x.k])) ∧
      True)
      (∃ (x : DwX),
      ((x.k <
      ws.length ∧
      DwI N
      (ogD A B)
      n aw ws
      x) ∧
      a.m.setCells
      a.b3
      ((0 :
      Nat) +
      (IntKind.i64.wrap
      (n_12 -
      (6 :
      Int))).toNat *
      (1 :
      Nat))
      [Value.bool
      true] =
      x.m ∧
      ((SV.val
      (Value.int
      IntKind.i64
      (↑a.k :
      Int)) =
      SV.val
      (Value.int
      IntKind.i64
      (↑x.k :
      Int)) ∧
      true =
      true) ∧
      (SV.val
      (Value.slice
      aw
      ws.length
      cw) =
      SV.val
      (Value.slice
      aw
      ws.length
      cw) ∧
      true =
      true) ∧
      (SV.val
      (Value.slice
      a.aB
      (1 :
      Nat)
      a.cB) =
      SV.val
      (Value.slice
      x.aB
      (1 :
      Nat)
      x.cB) ∧
      true =
      true) ∧
      (SV.val
      (Value.pointer
      (some
      { block := a.b1, off := (0 : Nat) : Addr })) =
      SV.val
      (Value.pointer
      (some
      { block := x.b1, off := (0 : Nat) : Addr })) ∧
      true =
      true) ∧
      (SV.val
      (Value.pointer
      (some
      { block := a.b2, off := (0 : Nat) : Addr })) =
      SV.val
      (Value.pointer
      (some
      { block := x.b2, off := (0 : Nat) : Addr })) ∧
      true =
      true) ∧
      (SV.val
      (Value.pointer
      (some
      { block := a.b3, off := (0 : Nat) : Addr })) =
      SV.val
      (Value.pointer
      (some
      { block := x.b3, off := (0 : Nat) : Addr })) ∧
      true =
      true) ∧
      (SV.own
      (0 :
      Nat)
      (0 :
      Nat) =
      SV.own
      (0 :
      Nat)
      (0 :
      Nat) ∧
      true =
      true) ∧
      (SV.own
      (1 :
      Nat)
      (0 :
      Nat) =
      SV.own
      (1 :
      Nat)
      (0 :
      Nat) ∧
      true =
      true) ∧
      (SV.val
      (Value.int
      IntKind.i64
      n) =
      SV.val
      (Value.int
      IntKind.i64
      n) ∧
      true =
      true) ∧
      (SV.own
      ((0 :
      Nat) +
      (3 :
      Nat) +
      (19 :
      Nat) +
      (12 :
      Nat) +
      (2 :
      Nat) +
      (5 :
      Nat) +
      (3 :
      Nat) +
      (3 :
      Nat) +
      (1 :
      Nat) +
      (4 :
      Nat) +
      (7 :
      Nat) +
      (5 :
      Nat))
      (0 :
      Nat) =
      SV.own
      (64 :
      Nat)
      (0 :
      Nat) ∧
      true =
      true) ∧
      True) ∧
      (some
      { ty := (65 : TypeId), cs := [Value.string A.key, Value.int IntKind.i64 A.lo, Value.int IntKind.i64 A.hi, Value.int IntKind.i64 A.base, Value.int IntKind.i64 A.round, Value.slice a1 A.hs.length c1, Value.int IntKind.i64 A.lk.cl, Value.int IntKind.i64 A.lk.sq, Value.int IntKind.i64 A.lk.hm, Value.int IntKind.i64 A.lk.n] : Bx } =
      some
      { ty := (65 : TypeId), cs := [Value.string A.key, Value.int IntKind.i64 A.lo, Value.int IntKind.i64 A.hi, Value.int IntKind.i64 A.base, Value.int IntKind.i64 A.round, Value.slice a1 A.hs.length c1, Value.int IntKind.i64 A.lk.cl, Value.int IntKind.i64 A.lk.sq, Value.int IntKind.i64 A.lk.hm, Value.int IntKind.i64 A.lk.n] : Bx } ∧
      true =
      true) ∧
      (some
      { ty := (65 : TypeId), cs := [Value.string B.key, Value.int IntKind.i64 B.lo, Value.int IntKind.i64 B.hi, Value.int IntKind.i64 B.base, Value.int IntKind.i64 B.round, Value.slice a2 B.hs.length c2, Value.int IntKind.i64 B.lk.cl, Value.int IntKind.i64 B.lk.sq, Value.int IntKind.i64 B.lk.hm, Value.int IntKind.i64 B.lk.n] : Bx } =
      some
      { ty := (65 : TypeId), cs := [Value.string B.key, Value.int IntKind.i64 B.lo, Value.int IntKind.i64 B.hi, Value.int IntKind.i64 B.base, Value.int IntKind.i64 B.round, Value.slice a2 B.hs.length c2, Value.int IntKind.i64 B.lk.cl, Value.int IntKind.i64 B.lk.sq, Value.int IntKind.i64 B.lk.hm, Value.int IntKind.i64 B.lk.n] : Bx } ∧
      true =
      true) ∧
      (some
      { ty := (24 : Nat), cs := [Value.int IntKind.i64 n_5, Value.int IntKind.i64 n_6, Value.string s, Value.string s_1, Value.int IntKind.i64 n_7, Value.int IntKind.i64 n_8, Value.int IntKind.i64 n_9, Value.int IntKind.i64 n_10] : Bx } =
      some
      { ty := (24 : TypeId), cs := [Value.int IntKind.i64 x.d.cl, Value.int IntKind.i64 x.d.sq, Value.string x.d.ky, Value.string x.d.ot, Value.int IntKind.i64 x.d.n, Value.int IntKind.i64 x.d.mi, Value.int IntKind.i64 x.d.th, Value.int IntKind.i64 x.d.ft] : Bx } ∧
      true =
      true) ∧
      True) ∧
      [ws.length -
      a.k] =
      [ws.length -
      x.k]))))
      (ifB (n_11 == (7 : Int))
      (∃ (b : Nat),
      ∃ (off : Nat),
      aw = some { block := b, off := off : Addr } ∧
      ((0 : Int) ≤ (↑a.k : Int) ∧
      (↑a.k : Int) < (↑ws.length : Int)) ∧
      ∃ (n_12 : Int),
      CellsAt a.m b
      (off + (↑a.k : Int).toNat * (1 : Nat))
      [Value.int IntKind.i64 n_12] ∧
      ifB (n_10 == (0 : Int))
      (∃ (a' : DwX),
      (DwI N (ogD A B) n aw ws a' ∧
      a.m = a'.m ∧
      ((SV.val
      (Value.int
      IntKind.i64
      (IntKind.i64.wrap
      ((↑a.k : Int) +
      (1 : Int)))) =
      SV.val
      (Value.int
      IntKind.i64
      (↑a'.k : Int)) ∧
      true = true) ∧
      (SV.val
      (Value.slice aw
      ws.length cw) =
      SV.val
      (Value.slice aw
      ws.length cw) ∧
      true = true) ∧
      (SV.val
      (Value.slice
      a.aB (1 : Nat)
      a.cB) =
      SV.val
      (Value.slice
      a'.aB
      (1 : Nat)
      a'.cB) ∧
      true = true) ∧
      (SV.val
      (Value.pointer
      (some
      { block := a.b1, off := (0 : Nat) : Addr })) =
      SV.val
      (Value.pointer
      (some
      { block := a'.b1, off := (0 : Nat) : Addr })) ∧
      true = true) ∧
      (SV.val
      (Value.pointer
      (some
      { block := a.b2, off := (0 : Nat) : Addr })) =
      SV.val
      (Value.pointer
      (some
      { block := a'.b2, off := (0 : Nat) : Addr })) ∧
      true = true) ∧
      (SV.val
      (Value.pointer
      (some
      { block := a.b3, off := (0 : Nat) : Addr })) =
      SV.val
      (Value.pointer
      (some
      { block := a'.b3, off := (0 : Nat) : Addr })) ∧
      true = true) ∧
      (SV.own
      (0 :
      Nat)
      (0 :
      Nat) =
      SV.own
      (0 :
      Nat)
      (0 :
      Nat) ∧
      true =
      true) ∧
      (SV.own
      (1 :
      Nat)
      (0 :
      Nat) =
      SV.own
      (1 :
      Nat)
      (0 :
      Nat) ∧
      true =
      true) ∧
      (SV.val
      (Value.int
      IntKind.i64
      n) =
      SV.val
      (Value.int
      IntKind.i64
      n) ∧
      true =
      true) ∧
      True) ∧
      (some
      { ty := (65 : TypeId), cs := [Value.string A.key, Value.int IntKind.i64 A.lo, Value.int IntKind.i64 A.hi, Value.int IntKind.i64 A.base, Value.int IntKind.i64 A.round, Value.slice a1 A.hs.length c1, Value.int IntKind.i64 A.lk.cl, Value.int IntKind.i64 A.lk.sq, Value.int IntKind.i64 A.lk.hm, Value.int IntKind.i64 A.lk.n] : Bx } =
      some
      { ty := (65 : TypeId), cs := [Value.string A.key, Value.int IntKind.i64 A.lo, Value.int IntKind.i64 A.hi, Value.int IntKind.i64 A.base, Value.int IntKind.i64 A.round, Value.slice a1 A.hs.length c1, Value.int IntKind.i64 A.lk.cl, Value.int IntKind.i64 A.lk.sq, Value.int IntKind.i64 A.lk.hm, Value.int IntKind.i64 A.lk.n] : Bx } ∧
      true = true) ∧
      (some
      { ty := (65 : TypeId), cs := [Value.string B.key, Value.int IntKind.i64 B.lo, Value.int IntKind.i64 B.hi, Value.int IntKind.i64 B.base, Value.int IntKind.i64 B.round, Value.slice a2 B.hs.length c2, Value.int IntKind.i64 B.lk.cl, Value.int IntKind.i64 B.lk.sq, Value.int IntKind.i64 B.lk.hm, Value.int IntKind.i64 B.lk.n] : Bx } =
      some
      { ty := (65 : TypeId), cs := [Value.string B.key, Value.int IntKind.i64 B.lo, Value.int IntKind.i64 B.hi, Value.int IntKind.i64 B.base, Value.int IntKind.i64 B.round, Value.slice a2 B.hs.length c2, Value.int IntKind.i64 B.lk.cl, Value.int IntKind.i64 B.lk.sq, Value.int IntKind.i64 B.lk.hm, Value.int IntKind.i64 B.lk.n] : Bx } ∧
      true = true) ∧
      True) ∧
      ws.length - a'.k <
      ws.length - a.k)
      (((0 : Int) ≤
      IntKind.i64.wrap
      (n_12 - (6 : Int)) ∧
      IntKind.i64.wrap
      (n_12 - (6 : Int)) <
      (↑(2 : Nat) : Int)) ∧
      ∃ (b : Bool),
      CellsAt a.m a.b3
      ((0 : Nat) +
      (IntKind.i64.wrap
      (n_12 -
      (6 : Int))).toNat *
      (1 : Nat))
      [Value.bool b] ∧
      ifB b
      (∃ (a' : DwX),
      (DwI N (ogD A B) n aw ws
      a' ∧
      a.m = a'.m ∧
      ((SV.val
      (Value.int
      IntKind.i64
      (IntKind.i64.wrap
      ((↑a.k :
      Int) +
      (1 :
      Int)))) =
      SV.val
      (Value.int
      IntKind.i64
      (↑a'.k :
      Int)) ∧
      true = true) ∧
      (SV.val
      (Value.slice
      aw
      ws.length
      cw) =
      SV.val
      (Value.slice
      aw
      ws.length
      cw) ∧
      true = true) ∧
      (SV.val
      (Value.slice
      a.aB
      (1 :
      Nat)
      a.cB) =
      SV.val
      (Value.slice
      a'.aB
      (1 :
      Nat)
      a'.cB) ∧
      true =
      true) ∧
      (SV.val
      (Value.pointer
      (some
      { block := a.b1, off := (0 : Nat) : Addr })) =
      SV.val
      (Value.pointer
      (some
      { block := a'.b1, off := (0 : Nat) : Addr })) ∧
      true =
      true) ∧
      (SV.val
      (Value.pointer
      (some
      { block := a.b2, off := (0 : Nat) : Addr })) =
      SV.val
      (Value.pointer
      (some
      { block := a'.b2, off := (0 : Nat) : Addr })) ∧
      true =
      true) ∧
      (SV.val
      (Value.pointer
      (some
      { block := a.b3, off := (0 : Nat) : Addr })) =
      SV.val
      (Value.pointer
      (some
      { block := a'.b3, off := (0 : Nat) : Addr })) ∧
      true =
      true) ∧
      (SV.own
      (0 :
      Nat)
      (0 :
      Nat) =
      SV.own
      (0 :
      Nat)
      (0 :
      Nat) ∧
      true =
      true) ∧
      (SV.own
      (1 :
      Nat)
      (0 :
      Nat) =
      SV.own
      (1 :
      Nat)
      (0 :
      Nat) ∧
      true =
      true) ∧
      (SV.val
      (Value.int
      IntKind.i64
      n) =
      SV.val
      (Value.int
      IntKind.i64
      n) ∧
      true =
      true) ∧
      True) ∧
      (some
      { ty := (65 : TypeId), cs := [Value.string A.key, Value.int IntKind.i64 A.lo, Value.int IntKind.i64 A.hi, Value.int IntKind.i64 A.base, Value.int IntKind.i64 A.round, Value.slice a1 A.hs.length c1, Value.int IntKind.i64 A.lk.cl, Value.int IntKind.i64 A.lk.sq, Value.int IntKind.i64 A.lk.hm, Value.int IntKind.i64 A.lk.n] : Bx } =
      some
      { ty := (65 : TypeId), cs := [Value.string A.key, Value.int IntKind.i64 A.lo, Value.int IntKind.i64 A.hi, Value.int IntKind.i64 A.base, Value.int IntKind.i64 A.round, Value.slice a1 A.hs.length c1, Value.int IntKind.i64 A.lk.cl, Value.int IntKind.i64 A.lk.sq, Value.int IntKind.i64 A.lk.hm, Value.int IntKind.i64 A.lk.n] : Bx } ∧
      true = true) ∧
      (some
      { ty := (65 : TypeId), cs := [Value.string B.key, Value.int IntKind.i64 B.lo, Value.int IntKind.i64 B.hi, Value.int IntKind.i64 B.base, Value.int IntKind.i64 B.round, Value.slice a2 B.hs.length c2, Value.int IntKind.i64 B.lk.cl, Value.int IntKind.i64 B.lk.sq, Value.int IntKind.i64 B.lk.hm, Value.int IntKind.i64 B.lk.n] : Bx } =
      some
      { ty := (65 : TypeId), cs := [Value.string B.key, Value.int IntKind.i64 B.lo, Value.int IntKind.i64 B.hi, Value.int IntKind.i64 B.base, Value.int IntKind.i64 B.round, Value.slice a2 B.hs.length c2, Value.int IntKind.i64 B.lk.cl, Value.int IntKind.i64 B.lk.sq, Value.int IntKind.i64 B.lk.hm, Value.int IntKind.i64 B.lk.n] : Bx } ∧
      true = true) ∧
      True) ∧
      ws.length - a'.k <
      ws.length - a.k)
      (((0 : Int) ≤
      IntKind.i64.wrap
      (n_12 - (6 : Int)) ∧
      IntKind.i64.wrap
      (n_12 - (6 : Int)) <
      (↑(2 : Nat) : Int)) ∧
      Wr N
      (fun (x : Nat) => False)
      a.m a.b3
      ((0 : Nat) +
      (IntKind.i64.wrap
      (n_12 -
      (6 :
      Int))).toNat *
      (1 : Nat))
      (1 : Nat) ∧
      ((0 : Int) ≤
      IntKind.i64.wrap
      (n_12 -
      (6 : Int)) ∧
      IntKind.i64.wrap
      (n_12 -
      (6 : Int)) <
      (↑(2 : Nat) :
      Int)) ∧
      ∃ (n_13 : Int),
      CellsAt
      (a.m.setCells a.b3
      ((0 : Nat) +
      (IntKind.i64.wrap
      (n_12 -
      (6 :
      Int))).toNat *
      (1 : Nat))
      [Value.bool
      true])
      a.b2
      ((0 : Nat) +
      (IntKind.i64.wrap
      (n_12 -
      (6 :
      Int))).toNat *
      (1 : Nat))
      [Value.int
      IntKind.i64
      n_13] ∧
      ifB
      (n_13 ==
      (1 : Int))
      (true = true ∧
      ((0 : Int) ≤
      IntKind.i64.wrap
      (n_12 -
      (6 :
      Int)) ∧
      IntKind.i64.wrap
      (n_12 -
      (6 :
      Int)) <
      (↑(2 :
      Nat) :
      Int)) ∧
      ∃ (s_2 :
      ByteArray),
      ∃ (n_14 :
      Int),
      ∃ (n_15 :
      Int),
      ∃ (n_16
      :
      Int),
      ∃
      (n_17
      :
      Int),
      ∃
      (a_5
      :
      Option
      Addr),
      ∃
      (n_18
      :
      Nat),
      ∃
      (c
      :
      Nat),
      ∃
      (n_19
      :
      Int),
      ∃
      (n_20
      :
      Int),
      ∃
      (n_21
      :
      Int),
      ∃
      (n_22
      :
      Int),
      CellsAt
      (a.m.setCells
      a.b3
      ((0 :
      Nat) +
      (IntKind.i64.wrap
      (n_12 -
      (6 :
      Int))).toNat *
      (1 :
      Nat))
      [Value.bool
      true])
      a.b1
      ((0 :
      Nat) +
      (IntKind.i64.wrap
      (n_12 -
      (6 :
      Int))).toNat *
      (10 :
      Nat))
      [Value.string
      s_2,
      Value.int
      IntKind.i64
      n_14,
      Value.int
      IntKind.i64
      n_15,
      Value.int
      IntKind.i64
      n_16,
      Value.int
      IntKind.i64
      n_17,
      Value.slice
      a_5
      n_18
      c,
      Value.int
      IntKind.i64
      n_19,
      Value.int
      IntKind.i64
      n_20,
      Value.int
      IntKind.i64
      n_21,
      Value.int
      IntKind.i64
      n_22] ∧
      (∀
      (n_23 :
      Nat),
      a.m.sz ≤
      n_23 →
      Vc.Spec
      Try.prog
      (38 :
      Nat)
      [Value.agg
      #[Value.string
      s_2,
      Value.int
      IntKind.i64
      n_14,
      Value.int
      IntKind.i64
      n_15,
      Value.int
      IntKind.i64
      n_16,
      Value.int
      IntKind.i64
      n_17,
      Value.slice
      a_5
      n_18
      c,
      Value.int
      IntKind.i64
      n_19,
      Value.int
      IntKind.i64
      n_20,
      Value.int
      IntKind.i64
      n_21,
      Value.int
      IntKind.i64
      n_22],
      Value.bool
      (n_10 ==
      (1 :
      Int))]
      { π := (a.m.setCells a.b3 ((0 : Nat) + (IntKind.i64.wrap (n_12 - (6 : Int))).toNat * (1 : Nat)) [Value.bool true]).π, sz := n_23, uf := (a.m.setCells a.b3 ((0 : Nat) + (IntKind.i64.wrap (n_12 - (6 : Int))).toNat * (1 : Nat)) [Value.bool true]).uf : M }
      fun
      (v :
      Value)
      (m' :
      M) =>
      ∃
      (s_3
      :
      ByteArray),
      ∃
      (n_24
      :
      Int),
      ∃
      (n_25
      :
      Int),
      ∃
      (n_26
      :
      Int),
      ∃
      (n_27
      :
      Int),
      ∃
      (a_7
      :
      Option
      Addr),
      ∃
      (n_28
      :
      Nat),
      ∃
      (c
      :
      Nat),
      ∃
      (n_29
      :
      Int),
      ∃
      (n_30
      :
      Int),
      ∃
      (n_31
      :
      Int),
      ∃
      (n_32
      :
      Int),
      ∃
      (n_33
      :
      Int),
      v =
      Value.tuple
      #[Value.agg
      #[Value.string
      s_3,
      Value.int
      IntKind.i64
      n_24,
      Value.int
      IntKind.i64
      n_25,
      Value.int
      IntKind.i64
      n_26,
      Value.int
      IntKind.i64
      n_27,
      Value.slice
      a_7
      n_28
      c,
      Value.int
      IntKind.i64
      n_29,
      Value.int
      IntKind.i64
      n_30,
      Value.int
      IntKind.i64
      n_31,
      Value.int
      IntKind.i64
      n_32],
      Value.int
      IntKind.i64
      n_33] ∧
      ifB
      (n_33 !=
      (0 :
      Int))
      (Done
      (Value.bool
      false =
      Value.bool
      true))
      (((0 :
      Int) ≤
      IntKind.i64.wrap
      (n_12 -
      (6 :
      Int)) ∧
      IntKind.i64.wrap
      (n_12 -
      (6 :
      Int)) <
      (↑(2 :
      Nat) :
      Int)) ∧
      Wr
      N
      (fun
      (x :
      Nat) =>
      False)
      m'
      a.b1
      ((0 :
      Nat) +
      (IntKind.i64.wrap
      (n_12 -
      (6 :
      Int))).toNat *
      (10 :
      Nat))
      #[Value.string
      s_3,
      Value.int
      IntKind.i64
      n_24,
      Value.int
      IntKind.i64
      n_25,
      Value.int
      IntKind.i64
      n_26,
      Value.int
      IntKind.i64
      n_27,
      Value.slice
      a_7
      n_28
      c,
      Value.int
      IntKind.i64
      n_29,
      Value.int
      IntKind.i64
      n_30,
      Value.int
      IntKind.i64
      n_31,
      Value.int
      IntKind.i64
      n_32].size ∧
      ∃
      (x
      :
      DwX),
      ((x.k <
      ws.length ∧
      DwI
      N
      (ogD
      A
      B)
      n
      aw
      ws
      x) ∧
      m'.setCells
      a.b1
      ((0 :
      Nat) +
      (IntKind.i64.wrap
      (n_12 -
      (6 :
      Int))).toNat *
      (10 :
      Nat))
      [Value.string
      s_3,
      Value.int
      IntKind.i64
      n_24,
      Value.int
      IntKind.i64
      n_25,
      Value.int
      IntKind.i64
      n_26,
      Value.int
      IntKind.i64
      n_27,
      Value.slice
      a_7
      n_28
      c,
      Value.int
      IntKind.i64
      n_29,
      Value.int
      IntKind.i64
      n_30,
      Value.int
      IntKind.i64
      n_31,
      Value.int
      IntKind.i64
      n_32] =
      x.m ∧
      ((SV.val
      (Value.int
      IntKind.i64
      (↑a.k :
      Int)) =
      SV.val
      (Value.int
      IntKind.i64
      (↑x.k :
      Int)) ∧
      true =
      true) ∧
      (SV.val
      (Value.slice
      aw
      ws.length
      cw) =
      SV.val
      (Value.slice
      aw
      ws.length
      cw) ∧
      true =
      true) ∧
      (SV.val
      (Value.slice
      a.aB
      (1 :
      Nat)
      a.cB) =
      SV.val
      (Value.slice
      x.aB
      (1 :
      Nat)
      x.cB) ∧
      true =
      true) ∧
      (SV.val
      (Value.pointer
      (some
      { block := a.b1, off := (0 : Nat) : Addr })) =
      SV.val
      (Value.pointer
      (some
      { block := x.b1, off := (0 : Nat) : Addr })) ∧
      true =
      true) ∧
      (SV.val
      (Value.pointer
      (some
      { block := a.b2, off := (0 : Nat) : Addr })) =
      SV.val
      (Value.pointer
      (some
      { block := x.b2, off := (0 : Nat) : Addr })) ∧
      true =
      true) ∧
      (SV.val
      (Value.pointer
      (some
      { block := a.b3, off := (0 : Nat) : Addr })) =
      SV.val
      (Value.pointer
      (some
      { block := x.b3, off := (0 : Nat) : Addr })) ∧
      true =
      true) ∧
      (SV.own
      (0 :
      Nat)
      (0 :
      Nat) =
      SV.own
      (0 :
      Nat)
      (0 :
      Nat) ∧
      true =
      true) ∧
      (SV.own
      (1 :
      Nat)
      (0 :
      Nat) =
      SV.own
      (1 :
      Nat)
      (0 :
      Nat) ∧
      true =
      true) ∧
      (SV.val
      (Value.int
      IntKind.i64
      n) =
      SV.val
      (Value.int
      IntKind.i64
      n) ∧
      true =
      true) ∧
      (SV.own
      ((0 :
      Nat) +
      (3 :
      Nat) +
      (19 :
      Nat) +
      (12 :
      Nat) +
      (2 :
      Nat) +
      (5 :
      Nat) +
      (3 :
      Nat) +
      (3 :
      Nat) +
      (1 :
      Nat) +
      (4 :
      Nat) +
      (7 :
      Nat) +
      (5 :
      Nat))
      (0 :
      Nat) =
      SV.own
      (64 :
      Nat)
      (0 :
      Nat) ∧
      true =
      true) ∧
      True) ∧
      (some
      { ty := (65 : TypeId), cs := [Value.string A.key, Value.int IntKind.i64 A.lo, Value.int IntKind.i64 A.hi, Value.int IntKind.i64 A.base, Value.int IntKind.i64 A.round, Value.slice a1 A.hs.length c1, Value.int IntKind.i64 A.lk.cl, Value.int IntKind.i64 A.lk.sq, Value.int IntKind.i64 A.lk.hm, Value.int IntKind.i64 A.lk.n] : Bx } =
      some
      { ty := (65 : TypeId), cs := [Value.string A.key, Value.int IntKind.i64 A.lo, Value.int IntKind.i64 A.hi, Value.int IntKind.i64 A.base, Value.int IntKind.i64 A.round, Value.slice a1 A.hs.length c1, Value.int IntKind.i64 A.lk.cl, Value.int IntKind.i64 A.lk.sq, Value.int IntKind.i64 A.lk.hm, Value.int IntKind.i64 A.lk.n] : Bx } ∧
      true =
      true) ∧
      (some
      { ty := (65 : TypeId), cs := [Value.string B.key, Value.int IntKind.i64 B.lo, Value.int IntKind.i64 B.hi, Value.int IntKind.i64 B.base, Value.int IntKind.i64 B.round, Value.slice a2 B.hs.length c2, Value.int IntKind.i64 B.lk.cl, Value.int IntKind.i64 B.lk.sq, Value.int IntKind.i64 B.lk.hm, Value.int IntKind.i64 B.lk.n] : Bx } =
      some
      { ty := (65 : TypeId), cs := [Value.string B.key, Value.int IntKind.i64 B.lo, Value.int IntKind.i64 B.hi, Value.int IntKind.i64 B.base, Value.int IntKind.i64 B.round, Value.slice a2 B.hs.length c2, Value.int IntKind.i64 B.lk.cl, Value.int IntKind.i64 B.lk.sq, Value.int IntKind.i64 B.lk.hm, Value.int IntKind.i64 B.lk.n] : Bx } ∧
      true =
      true) ∧
      (some
      { ty := (24 : Nat), cs := [Value.int IntKind.i64 n_5, Value.int IntKind.i64 n_6, Value.string s, Value.string s_1, Value.int IntKind.i64 n_7, Value.int IntKind.i64 n_8, Value.int IntKind.i64 n_9, Value.int IntKind.i64 n_10] : Bx } =
      some
      { ty := (24 : TypeId), cs := [Value.int IntKind.i64 x.d.cl, Value.int IntKind.i64 x.d.sq, Value.string x.d.ky, Value.string x.d.ot, Value.int IntKind.i64 x.d.n, Value.int IntKind.i64 x.d.mi, Value.int IntKind.i64 x.d.th, Value.int IntKind.i64 x.d.ft] : Bx } ∧
      true =
      true) ∧
      True) ∧
      [ws.length -
      a.k] =
      [ws.length -
      x.k])) ∧
      True)
      (∃ (x : DwX),
      ((x.k <
      ws.length ∧
      DwI N
      (ogD A
      B)
      n aw ws
      x) ∧
      a.m.setCells
      a.b3
      ((0 :
      Nat) +
      (IntKind.i64.wrap
      (n_12 -
      (6 :
      Int))).toNat *
      (1 :
      Nat))
      [Value.bool
      true] =
      x.m ∧
      ((SV.val
      (Value.int
      IntKind.i64
      (↑a.k :
      Int)) =
      SV.val
      (Value.int
      IntKind.i64
      (↑x.k :
      Int)) ∧
      true =
      true) ∧
      (SV.val
      (Value.slice
      aw
      ws.length
      cw) =
      SV.val
      (Value.slice
      aw
      ws.length
      cw) ∧
      true =
      true) ∧
      (SV.val
      (Value.slice
      a.aB
      (1 :
      Nat)
      a.cB) =
      SV.val
      (Value.slice
      x.aB
      (1 :
      Nat)
      x.cB) ∧
      true =
      true) ∧
      (SV.val
      (Value.pointer
      (some
      { block := a.b1, off := (0 : Nat) : Addr })) =
      SV.val
      (Value.pointer
      (some
      { block := x.b1, off := (0 : Nat) : Addr })) ∧
      true =
      true) ∧
      (SV.val
      (Value.pointer
      (some
      { block := a.b2, off := (0 : Nat) : Addr })) =
      SV.val
      (Value.pointer
      (some
      { block := x.b2, off := (0 : Nat) : Addr })) ∧
      true =
      true) ∧
      (SV.val
      (Value.pointer
      (some
      { block := a.b3, off := (0 : Nat) : Addr })) =
      SV.val
      (Value.pointer
      (some
      { block := x.b3, off := (0 : Nat) : Addr })) ∧
      true =
      true) ∧
      (SV.own
      (0 :
      Nat)
      (0 :
      Nat) =
      SV.own
      (0 :
      Nat)
      (0 :
      Nat) ∧
      true =
      true) ∧
      (SV.own
      (1 :
      Nat)
      (0 :
      Nat) =
      SV.own
      (1 :
      Nat)
      (0 :
      Nat) ∧
      true =
      true) ∧
      (SV.val
      (Value.int
      IntKind.i64
      n) =
      SV.val
      (Value.int
      IntKind.i64
      n) ∧
      true =
      true) ∧
      (SV.own
      ((0 :
      Nat) +
      (3 :
      Nat) +
      (19 :
      Nat) +
      (12 :
      Nat) +
      (2 :
      Nat) +
      (5 :
      Nat) +
      (3 :
      Nat) +
      (3 :
      Nat) +
      (1 :
      Nat) +
      (4 :
      Nat) +
      (7 :
      Nat) +
      (5 :
      Nat))
      (0 :
      Nat) =
      SV.own
      (64 :
      Nat)
      (0 :
      Nat) ∧
      true =
      true) ∧
      True) ∧
      (some
      { ty := (65 : TypeId), cs := [Value.string A.key, Value.int IntKind.i64 A.lo, Value.int IntKind.i64 A.hi, Value.int IntKind.i64 A.base, Value.int IntKind.i64 A.round, Value.slice a1 A.hs.length c1, Value.int IntKind.i64 A.lk.cl, Value.int IntKind.i64 A.lk.sq, Value.int IntKind.i64 A.lk.hm, Value.int IntKind.i64 A.lk.n] : Bx } =
      some
      { ty := (65 : TypeId), cs := [Value.string A.key, Value.int IntKind.i64 A.lo, Value.int IntKind.i64 A.hi, Value.int IntKind.i64 A.base, Value.int IntKind.i64 A.round, Value.slice a1 A.hs.length c1, Value.int IntKind.i64 A.lk.cl, Value.int IntKind.i64 A.lk.sq, Value.int IntKind.i64 A.lk.hm, Value.int IntKind.i64 A.lk.n] : Bx } ∧
      true =
      true) ∧
      (some
      { ty := (65 : TypeId), cs := [Value.string B.key, Value.int IntKind.i64 B.lo, Value.int IntKind.i64 B.hi, Value.int IntKind.i64 B.base, Value.int IntKind.i64 B.round, Value.slice a2 B.hs.length c2, Value.int IntKind.i64 B.lk.cl, Value.int IntKind.i64 B.lk.sq, Value.int IntKind.i64 B.lk.hm, Value.int IntKind.i64 B.lk.n] : Bx } =
      some
      { ty := (65 : TypeId), cs := [Value.string B.key, Value.int IntKind.i64 B.lo, Value.int IntKind.i64 B.hi, Value.int IntKind.i64 B.base, Value.int IntKind.i64 B.round, Value.slice a2 B.hs.length c2, Value.int IntKind.i64 B.lk.cl, Value.int IntKind.i64 B.lk.sq, Value.int IntKind.i64 B.lk.hm, Value.int IntKind.i64 B.lk.n] : Bx } ∧
      true =
      true) ∧
      (some
      { ty := (24 : Nat), cs := [Value.int IntKind.i64 n_5, Value.int IntKind.i64 n_6, Value.string s, Value.string s_1, Value.int IntKind.i64 n_7, Value.int IntKind.i64 n_8, Value.int IntKind.i64 n_9, Value.int IntKind.i64 n_10] : Bx } =
      some
      { ty := (24 : TypeId), cs := [Value.int IntKind.i64 x.d.cl, Value.int IntKind.i64 x.d.sq, Value.string x.d.ky, Value.string x.d.ot, Value.int IntKind.i64 x.d.n, Value.int IntKind.i64 x.d.mi, Value.int IntKind.i64 x.d.th, Value.int IntKind.i64 x.d.ft] : Bx } ∧
      true =
      true) ∧
      True) ∧
      [ws.length -
      a.k] =
      [ws.length -
      x.k]))))
      (∃ (x : DwX),
      ((x.k < ws.length ∧ DwI N (ogD A B) n aw ws x) ∧
      a.m = x.m ∧
      ((SV.val
      (Value.int IntKind.i64
      (↑a.k : Int)) =
      SV.val
      (Value.int IntKind.i64
      (↑x.k : Int)) ∧
      true = true) ∧
      (SV.val (Value.slice aw ws.length cw) =
      SV.val
      (Value.slice aw ws.length cw) ∧
      true = true) ∧
      (SV.val
      (Value.slice a.aB (1 : Nat)
      a.cB) =
      SV.val
      (Value.slice x.aB (1 : Nat)
      x.cB) ∧
      true = true) ∧
      (SV.val
      (Value.pointer
      (some
      { block := a.b1, off := (0 : Nat) : Addr })) =
      SV.val
      (Value.pointer
      (some
      { block := x.b1, off := (0 : Nat) : Addr })) ∧
      true = true) ∧
      (SV.val
      (Value.pointer
      (some
      { block := a.b2, off := (0 : Nat) : Addr })) =
      SV.val
      (Value.pointer
      (some
      { block := x.b2, off := (0 : Nat) : Addr })) ∧
      true = true) ∧
      (SV.val
      (Value.pointer
      (some
      { block := a.b3, off := (0 : Nat) : Addr })) =
      SV.val
      (Value.pointer
      (some
      { block := x.b3, off := (0 : Nat) : Addr })) ∧
      true = true) ∧
      (SV.own (0 : Nat) (0 : Nat) =
      SV.own (0 : Nat)
      (0 : Nat) ∧
      true = true) ∧
      (SV.own (1 : Nat)
      (0 : Nat) =
      SV.own (1 : Nat)
      (0 : Nat) ∧
      true = true) ∧
      (SV.val
      (Value.int
      IntKind.i64 n) =
      SV.val
      (Value.int
      IntKind.i64 n) ∧
      true = true) ∧
      (SV.own
      ((0 : Nat) +
      (3 :
      Nat) +
      (19 :
      Nat) +
      (12 :
      Nat) +
      (2 :
      Nat) +
      (5 :
      Nat) +
      (3 :
      Nat) +
      (3 :
      Nat) +
      (1 :
      Nat) +
      (4 :
      Nat) +
      (7 : Nat) +
      (5 : Nat))
      (0 : Nat) =
      SV.own (64 : Nat)
      (0 : Nat) ∧
      true = true) ∧
      True) ∧
      (some
      { ty := (65 : TypeId), cs := [Value.string A.key, Value.int IntKind.i64 A.lo, Value.int IntKind.i64 A.hi, Value.int IntKind.i64 A.base, Value.int IntKind.i64 A.round, Value.slice a1 A.hs.length c1, Value.int IntKind.i64 A.lk.cl, Value.int IntKind.i64 A.lk.sq, Value.int IntKind.i64 A.lk.hm, Value.int IntKind.i64 A.lk.n] : Bx } =
      some
      { ty := (65 : TypeId), cs := [Value.string A.key, Value.int IntKind.i64 A.lo, Value.int IntKind.i64 A.hi, Value.int IntKind.i64 A.base, Value.int IntKind.i64 A.round, Value.slice a1 A.hs.length c1, Value.int IntKind.i64 A.lk.cl, Value.int IntKind.i64 A.lk.sq, Value.int IntKind.i64 A.lk.hm, Value.int IntKind.i64 A.lk.n] : Bx } ∧
      true = true) ∧
      (some
      { ty := (65 : TypeId), cs := [Value.string B.key, Value.int IntKind.i64 B.lo, Value.int IntKind.i64 B.hi, Value.int IntKind.i64 B.base, Value.int IntKind.i64 B.round, Value.slice a2 B.hs.length c2, Value.int IntKind.i64 B.lk.cl, Value.int IntKind.i64 B.lk.sq, Value.int IntKind.i64 B.lk.hm, Value.int IntKind.i64 B.lk.n] : Bx } =
      some
      { ty := (65 : TypeId), cs := [Value.string B.key, Value.int IntKind.i64 B.lo, Value.int IntKind.i64 B.hi, Value.int IntKind.i64 B.base, Value.int IntKind.i64 B.round, Value.slice a2 B.hs.length c2, Value.int IntKind.i64 B.lk.cl, Value.int IntKind.i64 B.lk.sq, Value.int IntKind.i64 B.lk.hm, Value.int IntKind.i64 B.lk.n] : Bx } ∧
      true = true) ∧
      (some
      { ty := (24 : Nat), cs := [Value.int IntKind.i64 n_5, Value.int IntKind.i64 n_6, Value.string s, Value.string s_1, Value.int IntKind.i64 n_7, Value.int IntKind.i64 n_8, Value.int IntKind.i64 n_9, Value.int IntKind.i64 n_10] : Bx } =
      some
      { ty := (24 : TypeId), cs := [Value.int IntKind.i64 x.d.cl, Value.int IntKind.i64 x.d.sq, Value.string x.d.ky, Value.string x.d.ot, Value.int IntKind.i64 x.d.n, Value.int IntKind.i64 x.d.mi, Value.int IntKind.i64 x.d.th, Value.int IntKind.i64 x.d.ft] : Bx } ∧
      true = true) ∧
      True) ∧
      [ws.length - a.k] = [ws.length - x.k])))))))) ∧
      ∀ (x : DwX),
      (x.k < ws.length ∧ DwI N (ogD A B) n aw ws x) ∧
      [ws.length - a.k] = [ws.length - x.k] →
      ∃ (n_11 : Int),
      ∃ (n_12 : Int),
      ∃ (s : ByteArray),
      ∃ (s_2 : ByteArray),
      ∃ (n_13 : Int),
      ∃ (n_14 : Int),
      ∃ (n_15 : Int),
      ∃ (n_16 : Int),
      ∃ (b : Bool),
      QSpec Try.prog (11 : Nat)
      [Value.slice x.aB (1 : Nat) x.cB,
      Value.int IntKind.i64 (3 : Int),
      Value.int IntKind.i64 (9 : Int)]
      x.m
      (Value.tuple
      #[Value.agg
      #[Value.int IntKind.i64 n_11,
      Value.int IntKind.i64 n_12, Value.string s,
      Value.string s_2,
      Value.int IntKind.i64 n_13,
      Value.int IntKind.i64 n_14,
      Value.int IntKind.i64 n_15,
      Value.int IntKind.i64 n_16],
      Value.bool b]) ∧
      ifB (!b) (Done (Value.bool false = Value.bool true))
      (((0 : Int) ≤ (0 : Int) ∧
      (0 : Int) < (↑(2 : Nat) : Int)) ∧
      ∃ (s : ByteArray),
      ∃ (n_17 : Int),
      ∃ (n_18 : Int),
      ∃ (n_19 : Int),
      ∃ (n_20 : Int),
      ∃ (a_6 : Option Addr),
      ∃ (n_21 : Nat),
      ∃ (c : Nat),
      ∃ (n_22 : Int),
      ∃ (n_23 : Int),
      ∃ (n_24 : Int),
      ∃ (n_25 : Int),
      CellsAt x.m x.b1 (0 : Nat)
      [Value.string s,
      Value.int
      IntKind.i64 n_17,
      Value.int
      IntKind.i64 n_18,
      Value.int
      IntKind.i64 n_19,
      Value.int
      IntKind.i64 n_20,
      Value.slice a_6 n_21
      c,
      Value.int
      IntKind.i64 n_22,
      Value.int
      IntKind.i64 n_23,
      Value.int
      IntKind.i64 n_24,
      Value.int
      IntKind.i64
      n_25] ∧
      ∃ (n_26 : Int),
      QSpec Try.prog
      (39 : Nat)
      [Value.agg
      #[Value.string
      s,
      Value.int
      IntKind.i64
      n_17,
      Value.int
      IntKind.i64
      n_18,
      Value.int
      IntKind.i64
      n_19,
      Value.int
      IntKind.i64
      n_20,
      Value.slice
      a_6 n_21
      c,
      Value.int
      IntKind.i64
      n_22,
      Value.int
      IntKind.i64
      n_23,
      Value.int
      IntKind.i64
      n_24,
      Value.int
      IntKind.i64
      n_25]]
      x.m
      (Value.int
      IntKind.i64
      n_26) ∧
      ifB
      (n_26 !=
      (0 : Int))
      (Done
      (Value.bool
      false =
      Value.bool
      true))
      (((0 : Int) ≤
      (1 : Int) ∧
      (1 : Int) <
      (↑(2 :
      Nat) :
      Int)) ∧
      ∃ (s :
      ByteArray),
      ∃ (n_27 :
      Int),
      ∃ (n_28 :
      Int),
      ∃ (n_29 :
      Int),
      ∃ (n_30
      :
      Int),
      ∃ (a_7
      :
      Option
      Addr),
      ∃
      (n_31
      :
      Nat),
      ∃
      (c
      :
      Nat),
      ∃
      (n_32
      :
      Int),
      ∃
      (n_33
      :
      Int),
      ∃
      (n_34
      :
      Int),
      ∃
      (n_35
      :
      Int),
      CellsAt
      x.m
      x.b1
      (10 :
      Nat)
      [Value.string
      s,
      Value.int
      IntKind.i64
      n_27,
      Value.int
      IntKind.i64
      n_28,
      Value.int
      IntKind.i64
      n_29,
      Value.int
      IntKind.i64
      n_30,
      Value.slice
      a_7
      n_31
      c,
      Value.int
      IntKind.i64
      n_32,
      Value.int
      IntKind.i64
      n_33,
      Value.int
      IntKind.i64
      n_34,
      Value.int
      IntKind.i64
      n_35] ∧
      ∃
      (n_36
      :
      Int),
      QSpec
      Try.prog
      (39 :
      Nat)
      [Value.agg
      #[Value.string
      s,
      Value.int
      IntKind.i64
      n_27,
      Value.int
      IntKind.i64
      n_28,
      Value.int
      IntKind.i64
      n_29,
      Value.int
      IntKind.i64
      n_30,
      Value.slice
      a_7
      n_31
      c,
      Value.int
      IntKind.i64
      n_32,
      Value.int
      IntKind.i64
      n_33,
      Value.int
      IntKind.i64
      n_34,
      Value.int
      IntKind.i64
      n_35]]
      x.m
      (Value.int
      IntKind.i64
      n_36) ∧
      ifB
      (n_36 !=
      (0 :
      Int))
      (Done
      (Value.bool
      false =
      Value.bool
      true))
      (((0 :
      Int) ≤
      (0 :
      Int) ∧
      (0 :
      Int) <
      (↑(2 :
      Nat) :
      Int)) ∧
      ∃
      (b
      :
      Bool),
      CellsAt
      x.m
      x.b3
      (0 :
      Nat)
      [Value.bool
      b] ∧
      ifB
      b
      (((0 :
      Int) ≤
      (1 :
      Int) ∧
      (1 :
      Int) <
      (↑(2 :
      Nat) :
      Int)) ∧
      ∃
      (b
      :
      Bool),
      CellsAt
      x.m
      x.b3
      (1 :
      Nat)
      [Value.bool
      b] ∧
      ifB
      b
      (true =
      true ∧
      ((0 :
      Int) ≤
      (0 :
      Int) ∧
      (0 :
      Int) <
      (↑(2 :
      Nat) :
      Int)) ∧
      ∃
      (n_37
      :
      Int),
      CellsAt
      x.m
      x.b1
      (3 :
      Nat)
      [Value.int
      IntKind.i64
      n_37] ∧
      ((0 :
      Int) ≤
      (1 :
      Int) ∧
      (1 :
      Int) <
      (↑(2 :
      Nat) :
      Int)) ∧
      ∃
      (n_38
      :
      Int),
      CellsAt
      x.m
      x.b1
      (13 :
      Nat)
      [Value.int
      IntKind.i64
      n_38] ∧
      ifB
      (n_16 ==
      (1 :
      Int))
      (ifB
      (IntKind.i64.wrap
      (n_37 -
      A.base) !=
      IntKind.i64.wrap
      ((0 :
      Int) -
      n))
      (Done
      (Value.bool
      false =
      Value.bool
      true))
      (ifB
      (IntKind.i64.wrap
      (n_38 -
      B.base) !=
      n)
      (Done
      (Value.bool
      false =
      Value.bool
      true))
      (ifB
      (n_16 !=
      (1 :
      Int))
      (ifB
      (IntKind.i64.wrap
      (n_37 -
      A.base) !=
      (0 :
      Int))
      (Done
      (Value.bool
      false =
      Value.bool
      true))
      (ifB
      (IntKind.i64.wrap
      (n_38 -
      B.base) !=
      (0 :
      Int))
      (Done
      (Value.bool
      false =
      Value.bool
      true))
      (∃
      (a'
      :
      DwX),
      (DwI
      N
      (ogD
      A
      B)
      n
      aw
      ws
      a' ∧
      x.m =
      a'.m ∧
      ((SV.val
      (Value.int
      IntKind.i64
      (IntKind.i64.wrap
      ((↑x.k :
      Int) +
      (1 :
      Int)))) =
      SV.val
      (Value.int
      IntKind.i64
      (↑a'.k :
      Int)) ∧
      true =
      true) ∧
      (SV.val
      (Value.slice
      aw
      ws.length
      cw) =
      SV.val
      (Value.slice
      aw
      ws.length
      cw) ∧
      true =
      true) ∧
      (SV.val
      (Value.slice
      x.aB
      (1 :
      Nat)
      x.cB) =
      SV.val
      (Value.slice
      a'.aB
      (1 :
      Nat)
      a'.cB) ∧
      true =
      true) ∧
      (SV.val
      (Value.pointer
      (some
      { block := x.b1, off := (0 : Nat) : Addr })) =
      SV.val
      (Value.pointer
      (some
      { block := a'.b1, off := (0 : Nat) : Addr })) ∧
      true =
      true) ∧
      (SV.val
      (Value.pointer
      (some
      { block := x.b2, off := (0 : Nat) : Addr })) =
      SV.val
      (Value.pointer
      (some
      { block := a'.b2, off := (0 : Nat) : Addr })) ∧
      true =
      true) ∧
      (SV.val
      (Value.pointer
      (some
      { block := x.b3, off := (0 : Nat) : Addr })) =
      SV.val
      (Value.pointer
      (some
      { block := a'.b3, off := (0 : Nat) : Addr })) ∧
      true =
      true) ∧
      (SV.own
      (0 :
      Nat)
      (0 :
      Nat) =
      SV.own
      (0 :
      Nat)
      (0 :
      Nat) ∧
      true =
      true) ∧
      (SV.own
      (1 :
      Nat)
      (0 :
      Nat) =
      SV.own
      (1 :
      Nat)
      (0 :
      Nat) ∧
      true =
      true) ∧
      (SV.val
      (Value.int
      IntKind.i64
      n) =
      SV.val
      (Value.int
      IntKind.i64
      n) ∧
      true =
      true) ∧
      True) ∧
      (some
      { ty := (65 : TypeId), cs := [Value.string A.key, Value.int IntKind.i64 A.lo, Value.int IntKind.i64 A.hi, Value.int IntKind.i64 A.base, Value.int IntKind.i64 A.round, Value.slice a1 A.hs.length c1, Value.int IntKind.i64 A.lk.cl, Value.int IntKind.i64 A.lk.sq, Value.int IntKind.i64 A.lk.hm, Value.int IntKind.i64 A.lk.n] : Bx } =
      some
      { ty := (65 : TypeId), cs := [Value.string A.key, Value.int IntKind.i64 A.lo, Value.int IntKind.i64 A.hi, Value.int IntKind.i64 A.base, Value.int IntKind.i64 A.round, Value.slice a1 A.hs.length c1, Value.int IntKind.i64 A.lk.cl, Value.int IntKind.i64 A.lk.sq, Value.int IntKind.i64 A.lk.hm, Value.int IntKind.i64 A.lk.n] : Bx } ∧
      true =
      true) ∧
      (some
      { ty := (65 : TypeId), cs := [Value.string B.key, Value.int IntKind.i64 B.lo, Value.int IntKind.i64 B.hi, Value.int IntKind.i64 B.base, Value.int IntKind.i64 B.round, Value.slice a2 B.hs.length c2, Value.int IntKind.i64 B.lk.cl, Value.int IntKind.i64 B.lk.sq, Value.int IntKind.i64 B.lk.hm, Value.int IntKind.i64 B.lk.n] : Bx } =
      some
      { ty := (65 : TypeId), cs := [Value.string B.key, Value.int IntKind.i64 B.lo, Value.int IntKind.i64 B.hi, Value.int IntKind.i64 B.base, Value.int IntKind.i64 B.round, Value.slice a2 B.hs.length c2, Value.int IntKind.i64 B.lk.cl, Value.int IntKind.i64 B.lk.sq, Value.int IntKind.i64 B.lk.hm, Value.int IntKind.i64 B.lk.n] : Bx } ∧
      true =
      true) ∧
      True) ∧
      ws.length -
      a'.k <
      ws.length -
      a.k)))
      (∃
      (a'
      :
      DwX),
      (DwI
      N
      (ogD
      A
      B)
      n
      aw
      ws
      a' ∧
      x.m =
      a'.m ∧
      ((SV.val
      (Value.int
      IntKind.i64
      (IntKind.i64.wrap
      ((↑x.k :
      Int) +
      (1 :
      Int)))) =
      SV.val
      (Value.int
      IntKind.i64
      (↑a'.k :
      Int)) ∧
      true =
      true) ∧
      (SV.val
      (Value.slice
      aw
      ws.length
      cw) =
      SV.val
      (Value.slice
      aw
      ws.length
      cw) ∧
      true =
      true) ∧
      (SV.val
      (Value.slice
      x.aB
      (1 :
      Nat)
      x.cB) =
      SV.val
      (Value.slice
      a'.aB
      (1 :
      Nat)
      a'.cB) ∧
      true =
      true) ∧
      (SV.val
      (Value.pointer
      (some
      { block := x.b1, off := (0 : Nat) : Addr })) =
      SV.val
      (Value.pointer
      (some
      { block := a'.b1, off := (0 : Nat) : Addr })) ∧
      true =
      true) ∧
      (SV.val
      (Value.pointer
      (some
      { block := x.b2, off := (0 : Nat) : Addr })) =
      SV.val
      (Value.pointer
      (some
      { block := a'.b2, off := (0 : Nat) : Addr })) ∧
      true =
      true) ∧
      (SV.val
      (Value.pointer
      (some
      { block := x.b3, off := (0 : Nat) : Addr })) =
      SV.val
      (Value.pointer
      (some
      { block := a'.b3, off := (0 : Nat) : Addr })) ∧
      true =
      true) ∧
      (SV.own
      (0 :
      Nat)
      (0 :
      Nat) =
      SV.own
      (0 :
      Nat)
      (0 :
      Nat) ∧
      true =
      true) ∧
      (SV.own
      (1 :
      Nat)
      (0 :
      Nat) =
      SV.own
      (1 :
      Nat)
      (0 :
      Nat) ∧
      true =
      true) ∧
      (SV.val
      (Value.int
      IntKind.i64
      n) =
      SV.val
      (Value.int
      IntKind.i64
      n) ∧
      true =
      true) ∧
      True) ∧
      (some
      { ty := (65 : TypeId), cs := [Value.string A.key, Value.int IntKind.i64 A.lo, Value.int IntKind.i64 A.hi, Value.int IntKind.i64 A.base, Value.int IntKind.i64 A.round, Value.slice a1 A.hs.length c1, Value.int IntKind.i64 A.lk.cl, Value.int IntKind.i64 A.lk.sq, Value.int IntKind.i64 A.lk.hm, Value.int IntKind.i64 A.lk.n] : Bx } =
      some
      { ty := (65 : TypeId), cs := [Value.string A.key, Value.int IntKind.i64 A.lo, Value.int IntKind.i64 A.hi, Value.int IntKind.i64 A.base, Value.int IntKind.i64 A.round, Value.slice a1 A.hs.length c1, Value.int IntKind.i64 A.lk.cl, Value.int IntKind.i64 A.lk.sq, Value.int IntKind.i64 A.lk.hm, Value.int IntKind.i64 A.lk.n] : Bx } ∧
      true =
      true) ∧
      (some
      { ty := (65 : TypeId), cs := [Value.string B.key, Value.int IntKind.i64 B.lo, Value.int IntKind.i64 B.hi, Value.int IntKind.i64 B.base, Value.int IntKind.i64 B.round, Value.slice a2 B.hs.length c2, Value.int IntKind.i64 B.lk.cl, Value.int IntKind.i64 B.lk.sq, Value.int IntKind.i64 B.lk.hm, Value.int IntKind.i64 B.lk.n] : Bx } =
      some
      { ty := (65 : TypeId), cs := [Value.string B.key, Value.int IntKind.i64 B.lo, Value.int IntKind.i64 B.hi, Value.int IntKind.i64 B.base, Value.int IntKind.i64 B.round, Value.slice a2 B.hs.length c2, Value.int IntKind.i64 B.lk.cl, Value.int IntKind.i64 B.lk.sq, Value.int IntKind.i64 B.lk.hm, Value.int IntKind.i64 B.lk.n] : Bx } ∧
      true =
      true) ∧
      True) ∧
      ws.length -
      a'.k <
      ws.length -
      a.k))))
      (ifB
      (n_16 !=
      (1 :
      Int))
      (ifB
      (IntKind.i64.wrap
      (n_37 -
      A.base) !=
      (0 :
      Int))
      (Done
      (Value.bool
      false =
      Value.bool
      true))
      (ifB
      (IntKind.i64.wrap
      (n_38 -
      B.base) !=
      (0 :
      Int))
      (Done
      (Value.bool
      false =
      Value.bool
      true))
      (∃
      (a'
      :
      DwX),
      (DwI
      N
      (ogD
      A
      B)
      n
      aw
      ws
      a' ∧
      x.m =
      a'.m ∧
      ((SV.val
      (Value.int
      IntKind.i64
      (IntKind.i64.wrap
      ((↑x.k :
      Int) +
      (1 :
      Int)))) =
      SV.val
      (Value.int
      IntKind.i64
      (↑a'.k :
      Int)) ∧
      true =
      true) ∧
      (SV.val
      (Value.slice
      aw
      ws.length
      cw) =
      SV.val
      (Value.slice
      aw
      ws.length
      cw) ∧
      true =
      true) ∧
      (SV.val
      (Value.slice
      x.aB
      (1 :
      Nat)
      x.cB) =
      SV.val
      (Value.slice
      a'.aB
      (1 :
      Nat)
      a'.cB) ∧
      true =
      true) ∧
      (SV.val
      (Value.pointer
      (some
      { block := x.b1, off := (0 : Nat) : Addr })) =
      SV.val
      (Value.pointer
      (some
      { block := a'.b1, off := (0 : Nat) : Addr })) ∧
      true =
      true) ∧
      (SV.val
      (Value.pointer
      (some
      { block := x.b2, off := (0 : Nat) : Addr })) =
      SV.val
      (Value.pointer
      (some
      { block := a'.b2, off := (0 : Nat) : Addr })) ∧
      true =
      true) ∧
      (SV.val
      (Value.pointer
      (some
      { block := x.b3, off := (0 : Nat) : Addr })) =
      SV.val
      (Value.pointer
      (some
      { block := a'.b3, off := (0 : Nat) : Addr })) ∧
      true =
      true) ∧
      (SV.own
      (0 :
      Nat)
      (0 :
      Nat) =
      SV.own
      (0 :
      Nat)
      (0 :
      Nat) ∧
      true =
      true) ∧
      (SV.own
      (1 :
      Nat)
      (0 :
      Nat) =
      SV.own
      (1 :
      Nat)
      (0 :
      Nat) ∧
      true =
      true) ∧
      (SV.val
      (Value.int
      IntKind.i64
      n) =
      SV.val
      (Value.int
      IntKind.i64
      n) ∧
      true =
      true) ∧
      True) ∧
      (some
      { ty := (65 : TypeId), cs := [Value.string A.key, Value.int IntKind.i64 A.lo, Value.int IntKind.i64 A.hi, Value.int IntKind.i64 A.base, Value.int IntKind.i64 A.round, Value.slice a1 A.hs.length c1, Value.int IntKind.i64 A.lk.cl, Value.int IntKind.i64 A.lk.sq, Value.int IntKind.i64 A.lk.hm, Value.int IntKind.i64 A.lk.n] : Bx } =
      some
      { ty := (65 : TypeId), cs := [Value.string A.key, Value.int IntKind.i64 A.lo, Value.int IntKind.i64 A.hi, Value.int IntKind.i64 A.base, Value.int IntKind.i64 A.round, Value.slice a1 A.hs.length c1, Value.int IntKind.i64 A.lk.cl, Value.int IntKind.i64 A.lk.sq, Value.int IntKind.i64 A.lk.hm, Value.int IntKind.i64 A.lk.n] : Bx } ∧
      true =
      true) ∧
      (some
      { ty := (65 : TypeId), cs := [Value.string B.key, Value.int IntKind.i64 B.lo, Value.int IntKind.i64 B.hi, Value.int IntKind.i64 B.base, Value.int IntKind.i64 B.round, Value.slice a2 B.hs.length c2, Value.int IntKind.i64 B.lk.cl, Value.int IntKind.i64 B.lk.sq, Value.int IntKind.i64 B.lk.hm, Value.int IntKind.i64 B.lk.n] : Bx } =
      some
      { ty := (65 : TypeId), cs := [Value.string B.key, Value.int IntKind.i64 B.lo, Value.int IntKind.i64 B.hi, Value.int IntKind.i64 B.base, Value.int IntKind.i64 B.round, Value.slice a2 B.hs.length c2, Value.int IntKind.i64 B.lk.cl, Value.int IntKind.i64 B.lk.sq, Value.int IntKind.i64 B.lk.hm, Value.int IntKind.i64 B.lk.n] : Bx } ∧
      true =
      true) ∧
      True) ∧
      ws.length -
      a'.k <
      ws.length -
      a.k)))
      (∃
      (a'
      :
      DwX),
      (DwI
      N
      (ogD
      A
      B)
      n
      aw
      ws
      a' ∧
      x.m =
      a'.m ∧
      ((SV.val
      (Value.int
      IntKind.i64
      (IntKind.i64.wrap
      ((↑x.k :
      Int) +
      (1 :
      Int)))) =
      SV.val
      (Value.int
      IntKind.i64
      (↑a'.k :
      Int)) ∧
      true =
      true) ∧
      (SV.val
      (Value.slice
      aw
      ws.length
      cw) =
      SV.val
      (Value.slice
      aw
      ws.length
      cw) ∧
      true =
      true) ∧
      (SV.val
      (Value.slice
      x.aB
      (1 :
      Nat)
      x.cB) =
      SV.val
      (Value.slice
      a'.aB
      (1 :
      Nat)
      a'.cB) ∧
      true =
      true) ∧
      (SV.val
      (Value.pointer
      (some
      { block := x.b1, off := (0 : Nat) : Addr })) =
      SV.val
      (Value.pointer
      (some
      { block := a'.b1, off := (0 : Nat) : Addr })) ∧
      true =
      true) ∧
      (SV.val
      (Value.pointer
      (some
      { block := x.b2, off := (0 : Nat) : Addr })) =
      SV.val
      (Value.pointer
      (some
      { block := a'.b2, off := (0 : Nat) : Addr })) ∧
      true =
      true) ∧
      (SV.val
      (Value.pointer
      (some
      { block := x.b3, off := (0 : Nat) : Addr })) =
      SV.val
      (Value.pointer
      (some
      { block := a'.b3, off := (0 : Nat) : Addr })) ∧
      true =
      true) ∧
      (SV.own
      (0 :
      Nat)
      (0 :
      Nat) =
      SV.own
      (0 :
      Nat)
      (0 :
      Nat) ∧
      true =
      true) ∧
      (SV.own
      (1 :
      Nat)
      (0 :
      Nat) =
      SV.own
      (1 :
      Nat)
      (0 :
      Nat) ∧
      true =
      true) ∧
      (SV.val
      (Value.int
      IntKind.i64
      n) =
      SV.val
      (Value.int
      IntKind.i64
      n) ∧
      true =
      true) ∧
      True) ∧
      (some
      { ty := (65 : TypeId), cs := [Value.string A.key, Value.int IntKind.i64 A.lo, Value.int IntKind.i64 A.hi, Value.int IntKind.i64 A.base, Value.int IntKind.i64 A.round, Value.slice a1 A.hs.length c1, Value.int IntKind.i64 A.lk.cl, Value.int IntKind.i64 A.lk.sq, Value.int IntKind.i64 A.lk.hm, Value.int IntKind.i64 A.lk.n] : Bx } =
      some
      { ty := (65 : TypeId), cs := [Value.string A.key, Value.int IntKind.i64 A.lo, Value.int IntKind.i64 A.hi, Value.int IntKind.i64 A.base, Value.int IntKind.i64 A.round, Value.slice a1 A.hs.length c1, Value.int IntKind.i64 A.lk.cl, Value.int IntKind.i64 A.lk.sq, Value.int IntKind.i64 A.lk.hm, Value.int IntKind.i64 A.lk.n] : Bx } ∧
      true =
      true) ∧
      (some
      { ty := (65 : TypeId), cs := [Value.string B.key, Value.int IntKind.i64 B.lo, Value.int IntKind.i64 B.hi, Value.int IntKind.i64 B.base, Value.int IntKind.i64 B.round, Value.slice a2 B.hs.length c2, Value.int IntKind.i64 B.lk.cl, Value.int IntKind.i64 B.lk.sq, Value.int IntKind.i64 B.lk.hm, Value.int IntKind.i64 B.lk.n] : Bx } =
      some
      { ty := (65 : TypeId), cs := [Value.string B.key, Value.int IntKind.i64 B.lo, Value.int IntKind.i64 B.hi, Value.int IntKind.i64 B.base, Value.int IntKind.i64 B.round, Value.slice a2 B.hs.length c2, Value.int IntKind.i64 B.lk.cl, Value.int IntKind.i64 B.lk.sq, Value.int IntKind.i64 B.lk.hm, Value.int IntKind.i64 B.lk.n] : Bx } ∧
      true =
      true) ∧
      True) ∧
      ws.length -
      a'.k <
      ws.length -
      a.k)))
      (∃
      (a'
      :
      DwX),
      (DwI
      N
      (ogD
      A
      B)
      n
      aw
      ws
      a' ∧
      x.m =
      a'.m ∧
      ((SV.val
      (Value.int
      IntKind.i64
      (IntKind.i64.wrap
      ((↑x.k :
      Int) +
      (1 :
      Int)))) =
      SV.val
      (Value.int
      IntKind.i64
      (↑a'.k :
      Int)) ∧
      true =
      true) ∧
      (SV.val
      (Value.slice
      aw
      ws.length
      cw) =
      SV.val
      (Value.slice
      aw
      ws.length
      cw) ∧
      true =
      true) ∧
      (SV.val
      (Value.slice
      x.aB
      (1 :
      Nat)
      x.cB) =
      SV.val
      (Value.slice
      a'.aB
      (1 :
      Nat)
      a'.cB) ∧
      true =
      true) ∧
      (SV.val
      (Value.pointer
      (some
      { block := x.b1, off := (0 : Nat) : Addr })) =
      SV.val
      (Value.pointer
      (some
      { block := a'.b1, off := (0 : Nat) : Addr })) ∧
      true =
      true) ∧
      (SV.val
      (Value.pointer
      (some
      { block := x.b2, off := (0 : Nat) : Addr })) =
      SV.val
      (Value.pointer
      (some
      { block := a'.b2, off := (0 : Nat) : Addr })) ∧
      true =
      true) ∧
      (SV.val
      (Value.pointer
      (some
      { block := x.b3, off := (0 : Nat) : Addr })) =
      SV.val
      (Value.pointer
      (some
      { block := a'.b3, off := (0 : Nat) : Addr })) ∧
      true =
      true) ∧
      (SV.own
      (0 :
      Nat)
      (0 :
      Nat) =
      SV.own
      (0 :
      Nat)
      (0 :
      Nat) ∧
      true =
      true) ∧
      (SV.own
      (1 :
      Nat)
      (0 :
      Nat) =
      SV.own
      (1 :
      Nat)
      (0 :
      Nat) ∧
      true =
      true) ∧
      (SV.val
      (Value.int
      IntKind.i64
      n) =
      SV.val
      (Value.int
      IntKind.i64
      n) ∧
      true =
      true) ∧
      True) ∧
      (some
      { ty := (65 : TypeId), cs := [Value.string A.key, Value.int IntKind.i64 A.lo, Value.int IntKind.i64 A.hi, Value.int IntKind.i64 A.base, Value.int IntKind.i64 A.round, Value.slice a1 A.hs.length c1, Value.int IntKind.i64 A.lk.cl, Value.int IntKind.i64 A.lk.sq, Value.int IntKind.i64 A.lk.hm, Value.int IntKind.i64 A.lk.n] : Bx } =
      some
      { ty := (65 : TypeId), cs := [Value.string A.key, Value.int IntKind.i64 A.lo, Value.int IntKind.i64 A.hi, Value.int IntKind.i64 A.base, Value.int IntKind.i64 A.round, Value.slice a1 A.hs.length c1, Value.int IntKind.i64 A.lk.cl, Value.int IntKind.i64 A.lk.sq, Value.int IntKind.i64 A.lk.hm, Value.int IntKind.i64 A.lk.n] : Bx } ∧
      true =
      true) ∧
      (some
      { ty := (65 : TypeId), cs := [Value.string B.key, Value.int IntKind.i64 B.lo, Value.int IntKind.i64 B.hi, Value.int IntKind.i64 B.base, Value.int IntKind.i64 B.round, Value.slice a2 B.hs.length c2, Value.int IntKind.i64 B.lk.cl, Value.int IntKind.i64 B.lk.sq, Value.int IntKind.i64 B.lk.hm, Value.int IntKind.i64 B.lk.n] : Bx } =
      some
      { ty := (65 : TypeId), cs := [Value.string B.key, Value.int IntKind.i64 B.lo, Value.int IntKind.i64 B.hi, Value.int IntKind.i64 B.base, Value.int IntKind.i64 B.round, Value.slice a2 B.hs.length c2, Value.int IntKind.i64 B.lk.cl, Value.int IntKind.i64 B.lk.sq, Value.int IntKind.i64 B.lk.hm, Value.int IntKind.i64 B.lk.n] : Bx } ∧
      true =
      true) ∧
      True) ∧
      ws.length -
      a'.k <
      ws.length -
      a.k))
      (∃
      (a'
      :
      DwX),
      (DwI
      N
      (ogD
      A
      B)
      n
      aw
      ws
      a' ∧
      x.m =
      a'.m ∧
      ((SV.val
      (Value.int
      IntKind.i64
      (IntKind.i64.wrap
      ((↑x.k :
      Int) +
      (1 :
      Int)))) =
      SV.val
      (Value.int
      IntKind.i64
      (↑a'.k :
      Int)) ∧
      true =
      true) ∧
      (SV.val
      (Value.slice
      aw
      ws.length
      cw) =
      SV.val
      (Value.slice
      aw
      ws.length
      cw) ∧
      true =
      true) ∧
      (SV.val
      (Value.slice
      x.aB
      (1 :
      Nat)
      x.cB) =
      SV.val
      (Value.slice
      a'.aB
      (1 :
      Nat)
      a'.cB) ∧
      true =
      true) ∧
      (SV.val
      (Value.pointer
      (some
      { block := x.b1, off := (0 : Nat) : Addr })) =
      SV.val
      (Value.pointer
      (some
      { block := a'.b1, off := (0 : Nat) : Addr })) ∧
      true =
      true) ∧
      (SV.val
      (Value.pointer
      (some
      { block := x.b2, off := (0 : Nat) : Addr })) =
      SV.val
      (Value.pointer
      (some
      { block := a'.b2, off := (0 : Nat) : Addr })) ∧
      true =
      true) ∧
      (SV.val
      (Value.pointer
      (some
      { block := x.b3, off := (0 : Nat) : Addr })) =
      SV.val
      (Value.pointer
      (some
      { block := a'.b3, off := (0 : Nat) : Addr })) ∧
      true =
      true) ∧
      (SV.own
      (0 :
      Nat)
      (0 :
      Nat) =
      SV.own
      (0 :
      Nat)
      (0 :
      Nat) ∧
      true =
      true) ∧
      (SV.own
      (1 :
      Nat)
      (0 :
      Nat) =
      SV.own
      (1 :
      Nat)
      (0 :
      Nat) ∧
      true =
      true) ∧
      (SV.val
      (Value.int
      IntKind.i64
      n) =
      SV.val
      (Value.int
      IntKind.i64
      n) ∧
      true =
      true) ∧
      True) ∧
      (some
      { ty := (65 : TypeId), cs := [Value.string A.key, Value.int IntKind.i64 A.lo, Value.int IntKind.i64 A.hi, Value.int IntKind.i64 A.base, Value.int IntKind.i64 A.round, Value.slice a1 A.hs.length c1, Value.int IntKind.i64 A.lk.cl, Value.int IntKind.i64 A.lk.sq, Value.int IntKind.i64 A.lk.hm, Value.int IntKind.i64 A.lk.n] : Bx } =
      some
      { ty := (65 : TypeId), cs := [Value.string A.key, Value.int IntKind.i64 A.lo, Value.int IntKind.i64 A.hi, Value.int IntKind.i64 A.base, Value.int IntKind.i64 A.round, Value.slice a1 A.hs.length c1, Value.int IntKind.i64 A.lk.cl, Value.int IntKind.i64 A.lk.sq, Value.int IntKind.i64 A.lk.hm, Value.int IntKind.i64 A.lk.n] : Bx } ∧
      true =
      true) ∧
      (some
      { ty := (65 : TypeId), cs := [Value.string B.key, Value.int IntKind.i64 B.lo, Value.int IntKind.i64 B.hi, Value.int IntKind.i64 B.base, Value.int IntKind.i64 B.round, Value.slice a2 B.hs.length c2, Value.int IntKind.i64 B.lk.cl, Value.int IntKind.i64 B.lk.sq, Value.int IntKind.i64 B.lk.hm, Value.int IntKind.i64 B.lk.n] : Bx } =
      some
      { ty := (65 : TypeId), cs := [Value.string B.key, Value.int IntKind.i64 B.lo, Value.int IntKind.i64 B.hi, Value.int IntKind.i64 B.base, Value.int IntKind.i64 B.round, Value.slice a2 B.hs.length c2, Value.int IntKind.i64 B.lk.cl, Value.int IntKind.i64 B.lk.sq, Value.int IntKind.i64 B.lk.hm, Value.int IntKind.i64 B.lk.n] : Bx } ∧
      true =
      true) ∧
      True) ∧
      ws.length -
      a'.k <
      ws.length -
      a.k))))))
      (Done (Value.bool true = Value.bool true)))))))) (by kernel_rfl) ?_
  refine ⟨rfl, _, dawake_q _, ifB_false ⟨_, rright_q A a1 c1 hA _ (h1.sz hN), ?_⟩⟩
  cases hrA : rightB A
  · exact ifB_true ⟨_, dawake_q _, ⟨rfl⟩⟩
  refine ifB_false ⟨_, rright_q B a2 c2 hB _ (h2.sz hN), ?_⟩
  cases hrB : rightB B
  · exact ifB_true ⟨_, dawake_q _, ⟨rfl⟩⟩
  rw [bytes_beq]
  refine ifB_false (ifB_intro (fun _ => ⟨_, dawake_q _, ⟨rfl⟩⟩) (fun hk => ?_))
  have hk : A.key ≠ B.key := by simpa using hk
  let D0 : Dl := ⟨3, 9, A.key, B.key, n, 0, 0, 0⟩
  refine ⟨_, noS, fun N1 hN1 => (dopen_s none 0 [] D0 (by simp) (fun _ => rfl) _ (.nil _)).monoW fun v m1 ag1 ⟨aB, cB, e1, r1⟩ => ⟨_, _, _, _, e1, ?_⟩⟩
  have kA : Go.Proofs.Ytoilbbfidnhekaa.keyB A.key = true := ((right_iff A).1 hrA).key
  have kB : Go.Proofs.Ytoilbbfidnhekaa.keyB B.key = true := ((right_iff B).1 hrB).key
  by_cases hn1 : 1 ≤ n
  rotate_left
  · have : (openD [] D0).2 ≠ 0 := by
      have : mayB D0 = false := by simp [mayB, D0, hn1]
      simp [openD, newD, this, booksB, okTo]
    rw [show ((openD [] D0).2 != 0) = true by simpa using this]
    exact ifB_true ⟨by simp; omega⟩
  have hmay : mayB D0 = true := by simp [mayB, D0, hn1, kA, kB, hk, whoseB, fateV]
  have ho : openD [] D0 = ([D0], 0) := by simp [openD, newD, hmay, booksB, okTo, placeD, idxF, D0]
  obtain ⟨-, ob, of⟩ := open_on (l := []) (d := D0) (by rw [ho])
  rw [ho] at r1 ⊢
  refine ifB_false fun b1 hb1 b2 hb2 b3 hb3 => ⟨⟨⟨0, fun _ => 0, fun _ => false, ogD A B, fun j => if j then a2 else a1, fun j => if j then c2 else c1, D0, D0, aB, cB, b1, b2, b3, _⟩, ⟨Nat.zero_le _, ?_, ?_⟩, rfl, by simp, ⟨rfl, rfl⟩, ⟨rfl, rfl⟩, trivial⟩, fun y Y => ?_⟩
  · exact ⟨fun j => .inl ⟨.inl rfl, rfl⟩, .inl rfl, .inl rfl, fun j e => (by cases e), ob, by simp [isD, D0]⟩
  · have hw3 : Row m1 aw (ints ws) := ((hw2.sz hN).sz hN1).agree ag1
    have hA3 : Row m1 a1 (hds A.hs) := ((h1.sz hN).sz hN1).agree ag1
    have hB3 : Row m1 a2 (hds B.hs) := ((h2.sz hN).sz hN1).agree ag1
    have ltM : ∀ b o, aw = some ⟨b, o, none⟩ → ints ws ≠ [] → b < N := fun b o e hc => Nat.lt_of_lt_of_le (hw2.lt hc e) hN
    have ltA : ∀ b o, a1 = some ⟨b, o, none⟩ → hds A.hs ≠ [] → b < N := fun b o e hc => Nat.lt_of_lt_of_le (h1.lt hc e) hN
    have ltB : ∀ b o, a2 = some ⟨b, o, none⟩ → hds B.hs ≠ [] → b < N := fun b o e hc => Nat.lt_of_lt_of_le (h2.lt hc e) hN
    have ng : ∀ x : Hd, ∀ l, hds (x :: l) ≠ [] := fun x l e => by simp [hds] at e
    have fr : ∀ {a : Option Addr} {cs ds3 : List Value}, Row m1 a cs → (∀ b o, a = some ⟨b, o, none⟩ → cs ≠ [] → b < N) → Row (((m1.newBlock b1 _).newBlock b2 _).newBlock b3 ds3) a cs := fun {a cs ds3} r hl => ((r.fresh hb1 fun hc b o e => hl b o e hc).fresh hb2 fun hc b o e => hl b o e hc).fresh hb3 fun hc b o e => hl b o e hc
    obtain ⟨bB, oB, rfl, hcB⟩ := r1.row.cells (by simp)
    have uB := (r1.toOwn (by simp)).uf rfl
    have nB1 : bB ≠ b1 := fresh_other hb1 uB
    have nB2 : bB ≠ b2 := fresh_other hb2 (.inr uB)
    have nB3 : bB ≠ b3 := fresh_other hb3 (.inr (.inr uB))
    have n12 : b1 ≠ b2 := fresh_other hb2 (.inl rfl)
    have n13 : b1 ≠ b3 := fresh_other hb3 (.inr (.inl rfl))
    have n23 : b2 ≠ b3 := fresh_other hb3 (.inl rfl)
    refine ⟨⟨hb1.lo, hb2.lo, hb3.lo⟩, ⟨n12, n13, n23⟩, ⟨by simp only [M.newBlock]; omega, by simp only [M.newBlock]; omega, by simp only [M.newBlock]; omega⟩, ⟨.inr (.inr (.inl rfl)), .inr (.inl rfl), .inl rfl⟩, ?_, ?_, cellsAt_new, fr hw3 ltM, fun j => ?_, ?_, fun b o e hc => ltM b o e (fun e2 => hc (by cases ws with | nil => rfl | cons x xs => simp [ints] at e2)), fun j b o e hc => ?_, fun b o e => by cases e; exact ⟨nB1, nB2, nB3⟩⟩
    · exact ((cellsAt_new (m := m1) (b := b1)).of (newBlock_other n12)).of (newBlock_other n13)
    · exact (cellsAt_new (b := b2)).of (newBlock_other n23)
    · cases j
      · exact fr hA3 ltA
      · exact fr hB3 ltB
    · have hu : ∀ b' o, (some ⟨bB, oB, none⟩ : Option Addr) = some ⟨b', o, none⟩ → b' = bB := fun b' o e => by cases e; rfl
      exact ((Row.newFresh r1.row hb1 fun b' o e => .inr (by rw [hu b' o e]; exact uB)).newFresh hb2 fun b' o e => .inr (by rw [hu b' o e]; exact .inr uB)).newFresh hb3 fun b' o e => .inr (by rw [hu b' o e]; exact .inr (.inr uB))
    · cases j
      · exact ltA b o e (fun e2 => hc (by cases hh : A.hs with | nil => exact hh | cons x xs => rw [hh] at e2; exact absurd e2 (ng x xs)))
      · exact ltB b o e (fun e2 => hc (by cases hh : B.hs with | nil => exact hh | cons x xs => rw [hh] at e2; exact absurd e2 (ng x xs)))
  refine ifB_intro (fun hb => ?_) (fun hb => ⟨rfl⟩)
  have hk2 : y.k < ws.length := by simpa using hb
  have P : OrigP (ogD A B) n := ⟨fun j => by cases j <;> assumption, fun j => by cases j <;> assumption, hn1, hn⟩
  have rt : ∀ j, rightB (y.X j) = true ∧ (y.X j).wf := fun j => side_right (P.right j) (P.wf j) (P.lk j) (Y.L.side j)
  obtain ⟨bw, ow, ew, hcw⟩ := Y.M.mv.cells (by rw [ints_len]; omega)
  have hcv : CellsAt y.m bw (ow + (y.k : Int).toNat * 1) [I ws[y.k]] := by simpa using ints_at hcw hk2
  have w1 : IntKind.i64.wrap ((y.k : Int) + 1) = ((y.k + 1 : Nat) : Int) := by simp [IntKind.wrap_i64]; omega
  have wn : IntKind.i64.wrap (0 - n) = kkD n false := by unfold In64 at hn; simp [IntKind.wrap_i64, kkD]; omega
  have fq := find_one Y.L y.aB y.cB y.m Y.M.bk
  have Y1 := Y.dk y.D (Nat.le_of_lt hk2)
  have L' := Y1.L
  have M' := Y1.M
  have next : DwI N (ogD A B) n aw ws { y with k := y.k + 1 } := Y.dk y.d hk2
  generalize hvv : ws[y.k] = v at hcv
  refine ⟨bw, ow, ew, by omega, v, hcv, by decide, _, _, _, _, _, _, _, _, _, fq, ifB_false ⟨⟨bw, ow, ew, by omega, v, hcv, ifB_or (fun hv => ?_) (fun n1 n2 => ifB_or (fun hv => ?_) (fun n3 n4 => ifB_intro (fun hv => ?_) (fun n5 => ifB_or (fun hv => ?_) (fun n6 n7 => ?_))))⟩, fun x ⟨⟨X0, X⟩, Xc⟩ => ?_⟩⟩
  · obtain ⟨j, rfl⟩ := is_ix (c := 1) hv
    have es := ix_tmod j 0 (.inl rfl)
    rw [show (1 : Int) + 0 + (ix j : Int) + 1 = 1 + (ix j : Int) + 1 by omega] at es
    rw [es, ix_nat, ix_zero]
    refine ⟨ix_two j, y.s j, M'.said_at j, ifB_intro (fun _ => ⟨{ y with k := y.k + 1 }, ⟨next, rfl, by simp [w1], ⟨rfl, rfl⟩, ⟨rfl, rfl⟩, trivial⟩, by simp only; omega⟩) (fun hs0 => ⟨ix_two j, y.e j, M'.ended_at j, ifB_intro (fun _ => ⟨{ y with k := y.k + 1 }, ⟨next, rfl, by simp [w1], ⟨rfl, rfl⟩, ⟨rfl, rfl⟩, trivial⟩, by simp only; omega⟩) (fun he0 => ?_)⟩)⟩
    have hs0 : y.s j = 0 := by simpa using hs0
    cases j
    · refine ifB_true ?_
      rw [wn]
      refine ⟨ix_two _, _, _, _, _, _, _, _, _, _, _, _, _, M'.now_at false, fun N3 hN3 => ?_⟩
      refine (atake_s (y.X false) (y.a false) (y.c false) (lkD n false) (rt false).2 (P.lk false).1 (hds_nn (M'.hs false)) _ ((M'.hs false).sz hN3)).mono fun v3 m3 ag3 ⟨a3, c3, e3, r3⟩ => ⟨_, _, _, _, _, _, _, _, _, _, _, _, _, e3, ?_⟩
      have M3 := M'.call hN3 ag3
      by_cases hz : (aTake (y.X false) (lkD n false)).2 = 0
      · obtain ⟨q1, q2⟩ := law_took P L' hs0 he0 hz
        rw [show aTake (y.X false) (lkD n false) = ({ ogD A B false with lk := lkD n false }, 0) from Prod.ext q1 hz] at r3 ⊢
        have hh : ({ ogD A B false with lk := lkD n false } : Ac).hs = [] := (aTake_ok hz).2.2.2.1 |> fun e => by
          have := q1; have e5 := (aTake_ok hz).2.2.2.2.2; rw [e5] at this; rw [← this]; exact e
        have M4 := M3.setNow false (X' := { ogD A B false with lk := lkD n false }) (a' := a3) (c' := c3) hh
        have M5 := M4.setSaid false 1
        refine ifB_true ⟨ix_two _, wr_of M3.lo.1 M3.uf.1 (M3.now_at false) rfl, ix_two _, wr_of M4.lo.2.1 M4.uf.2.1 (M4.said_at false) rfl, ⟨y.k, upB y.s false 1, y.e, upB y.X false { ogD A B false with lk := lkD n false }, upB y.a false a3, upB y.c false c3, y.D, y.D, y.aB, y.cB, y.b1, y.b2, y.b3, _⟩, ⟨⟨hk2, ⟨Nat.le_of_lt hk2, q2 _ _ _ _ _ _ _ _ _ _, M5⟩⟩, rfl, by simp, ⟨rfl, rfl⟩, ⟨rfl, rfl⟩, ⟨rfl, rfl⟩, trivial⟩, rfl⟩
      · rw [show ((aTake (y.X false) (lkD n false)).2 == 0) = false by simpa using hz]
        refine ifB_false (ifB_intro (fun h150 => ?_) (fun h150 => ?_))
        · have M5 := M3.setSaid false 2
          exact ⟨ix_two _, wr_of M3.lo.2.1 M3.uf.2.1 (M3.said_at false) rfl, ⟨y.k, upB y.s false 2, y.e, y.X, y.a, y.c, y.D, y.D, y.aB, y.cB, y.b1, y.b2, y.b3, _⟩, ⟨⟨hk2, ⟨Nat.le_of_lt hk2, law_over L' hs0 _ _ _ _ _ _ _ _ _ _, M5⟩⟩, rfl, by simp, ⟨rfl, rfl⟩, ⟨rfl, rfl⟩, ⟨rfl, rfl⟩, trivial⟩, rfl⟩
        · exact ⟨⟨y.k, y.s, y.e, y.X, y.a, y.c, y.D, y.D, y.aB, y.cB, y.b1, y.b2, y.b3, _⟩, ⟨⟨hk2, ⟨Nat.le_of_lt hk2, L'.any _ _ _ _ _ _ _ _ _ _, M3⟩⟩, rfl, by simp, ⟨rfl, rfl⟩, ⟨rfl, rfl⟩, ⟨rfl, rfl⟩, trivial⟩, rfl⟩
    · refine ifB_false ?_
      refine ⟨ix_two _, _, _, _, _, _, _, _, _, _, _, _, _, M'.now_at true, fun N3 hN3 => ?_⟩
      refine (atake_s (y.X true) (y.a true) (y.c true) (lkD n true) (rt true).2 (P.lk true).1 (hds_nn (M'.hs true)) _ ((M'.hs true).sz hN3)).mono fun v3 m3 ag3 ⟨a3, c3, e3, r3⟩ => ⟨_, _, _, _, _, _, _, _, _, _, _, _, _, e3, ?_⟩
      have M3 := M'.call hN3 ag3
      by_cases hz : (aTake (y.X true) (lkD n true)).2 = 0
      · obtain ⟨q1, q2⟩ := law_took P L' hs0 he0 hz
        rw [show aTake (y.X true) (lkD n true) = ({ ogD A B true with lk := lkD n true }, 0) from Prod.ext q1 hz] at r3 ⊢
        have hh : ({ ogD A B true with lk := lkD n true } : Ac).hs = [] := (aTake_ok hz).2.2.2.1 |> fun e => by
          have := q1; have e5 := (aTake_ok hz).2.2.2.2.2; rw [e5] at this; rw [← this]; exact e
        have M4 := M3.setNow true (X' := { ogD A B true with lk := lkD n true }) (a' := a3) (c' := c3) hh
        have M5 := M4.setSaid true 1
        refine ifB_true ⟨ix_two _, wr_of M3.lo.1 M3.uf.1 (M3.now_at true) rfl, ix_two _, wr_of M4.lo.2.1 M4.uf.2.1 (M4.said_at true) rfl, ⟨y.k, upB y.s true 1, y.e, upB y.X true { ogD A B true with lk := lkD n true }, upB y.a true a3, upB y.c true c3, y.D, y.D, y.aB, y.cB, y.b1, y.b2, y.b3, _⟩, ⟨⟨hk2, ⟨Nat.le_of_lt hk2, q2 _ _ _ _ _ _ _ _ _ _, M5⟩⟩, rfl, by simp, ⟨rfl, rfl⟩, ⟨rfl, rfl⟩, ⟨rfl, rfl⟩, trivial⟩, rfl⟩
      · rw [show ((aTake (y.X true) (lkD n true)).2 == 0) = false by simpa using hz]
        refine ifB_false (ifB_intro (fun h150 => ?_) (fun h150 => ?_))
        · have M5 := M3.setSaid true 2
          exact ⟨ix_two _, wr_of M3.lo.2.1 M3.uf.2.1 (M3.said_at true) rfl, ⟨y.k, upB y.s true 2, y.e, y.X, y.a, y.c, y.D, y.D, y.aB, y.cB, y.b1, y.b2, y.b3, _⟩, ⟨⟨hk2, ⟨Nat.le_of_lt hk2, law_over L' hs0 _ _ _ _ _ _ _ _ _ _, M5⟩⟩, rfl, by simp, ⟨rfl, rfl⟩, ⟨rfl, rfl⟩, ⟨rfl, rfl⟩, trivial⟩, rfl⟩
        · exact ⟨⟨y.k, y.s, y.e, y.X, y.a, y.c, y.D, y.D, y.aB, y.cB, y.b1, y.b2, y.b3, _⟩, ⟨⟨hk2, ⟨Nat.le_of_lt hk2, L'.any _ _ _ _ _ _ _ _ _ _, M3⟩⟩, rfl, by simp, ⟨rfl, rfl⟩, ⟨rfl, rfl⟩, ⟨rfl, rfl⟩, trivial⟩, rfl⟩
  · obtain ⟨j, rfl⟩ := is_ix (c := 3) hv
    have es := ix_tmod j 2 (.inr (.inl rfl))
    rw [show (1 : Int) + 2 + (ix j : Int) + 1 = 3 + (ix j : Int) + 1 by omega] at es
    rw [es, ix_nat, ix_zero]
    refine ⟨ix_two j, y.s j, M'.said_at j, ifB_intro (fun hs0 => ⟨ix_two j, y.s j, M'.said_at j, ?_⟩) (fun _ => ⟨⟨y.k, y.s, y.e, y.X, y.a, y.c, y.D, y.D, y.aB, y.cB, y.b1, y.b2, y.b3, _⟩, ⟨⟨hk2, ⟨Nat.le_of_lt hk2, L'.any _ _ _ _ _ _ _ _ _ _, M'⟩⟩, rfl, by simp, ⟨rfl, rfl⟩, ⟨rfl, rfl⟩, ⟨rfl, rfl⟩, trivial⟩, rfl⟩)⟩
    have hs0 : y.s j ≠ 0 := by simpa using hs0
    refine ⟨_, noS, fun N3 hN3 => (saying_s y.aB y.cB [y.D] 3 9 (!j) (y.s j == 1) (by simp) (dls_nn M'.bk) _ (M'.bk.sz hN3)).monoW fun v3 m3 ag3 ⟨a3, c3, e3, r3⟩ => ⟨_, _, _, _, _, e3, ?_⟩⟩
    obtain ⟨q1, q2⟩ := law_say L' j hs0
    have q1 : (sayD [y.D] 3 9 (!j) (y.s j == 1)).1 = [saidD y.D (!j) (y.s j == 1)] := q1
    rw [q1] at r3 ⊢
    exact ⟨⟨y.k, y.s, y.e, y.X, y.a, y.c, y.D, _, a3, c3, y.b1, y.b2, y.b3, _⟩, ⟨⟨hk2, ⟨Nat.le_of_lt hk2, q2 _ _ _ _ _ _ _ _ _ _, M'.books hN3 ag3 r3⟩⟩, rfl, by simp, ⟨rfl, rfl⟩, ⟨rfl, rfl⟩, ⟨rfl, rfl⟩, trivial⟩, rfl⟩
  · refine ⟨_, noS, fun N3 hN3 => (give_s y.aB y.cB [y.D] 3 9 (by simp) (dls_nn M'.bk) _ (M'.bk.sz hN3)).monoW fun v3 m3 ag3 ⟨a3, c3, e3, r3⟩ => ⟨_, _, _, _, _, e3, ?_⟩⟩
    obtain ⟨q1, q2⟩ := law_give L'
    have q1 : (giveD [y.D] 3 9).1 = [givenD y.D] := q1
    rw [q1] at r3 ⊢
    exact ⟨⟨y.k, y.s, y.e, y.X, y.a, y.c, y.D, _, a3, c3, y.b1, y.b2, y.b3, _⟩, ⟨⟨hk2, ⟨Nat.le_of_lt hk2, q2 _ _ _ _ _ _ _ _ _ _, M'.books hN3 ag3 r3⟩⟩, rfl, by simp, ⟨rfl, rfl⟩, ⟨rfl, rfl⟩, ⟨rfl, rfl⟩, trivial⟩, rfl⟩
  · obtain ⟨j, rfl⟩ := is_ix (c := 6) hv
    refine ⟨bw, ow, ew, by omega, _, hcv, ifB_intro (fun _ => ⟨{ y with k := y.k + 1 }, ⟨next, rfl, by simp [w1], ⟨rfl, rfl⟩, ⟨rfl, rfl⟩, trivial⟩, by simp only; omega⟩) (fun hf => ?_)⟩
    have hf : y.D.ft ≠ 0 := by simpa using hf
    rw [ix_sub, ix_nat]
    refine ⟨ix_two j, y.e j, M'.ended_at j, ifB_intro (fun _ => ⟨{ y with k := y.k + 1 }, ⟨next, rfl, by simp [w1], ⟨rfl, rfl⟩, ⟨rfl, rfl⟩, trivial⟩, by simp only; omega⟩) (fun he0 => ?_)⟩
    have M5 := M'.setEnded j true
    refine ⟨ix_two j, wr_of M'.lo.2.2 M'.uf.2.2 (M'.ended_at j) rfl, ix_two j, y.s j, M5.said_at j, ifB_intro (fun hs1 => ?_) (fun hs1 => ?_)⟩
    · have hs1 : y.s j = 1 := by simpa using hs1
      obtain ⟨q1, q2⟩ := law_free P L' hs1 he0 hf
      have q1 : aFree (y.X j) (y.D.ft == 1) = (frD (ogD A B j) n j y.D.ft, 0) := q1
      refine ⟨rfl, ix_two j, _, _, _, _, _, _, _, _, _, _, _, _, M5.now_at j, fun N3 hN3 => ?_, trivial⟩
      refine (afree_s (y.X j) (y.a j) (y.c j) (y.D.ft == 1) (rt j).2 (hds_nn (M'.hs j)) _ ((M5.hs j).sz hN3)).mono fun v3 m3 ag3 ⟨a3, c3, e3, r3⟩ => ⟨_, _, _, _, _, _, _, _, _, _, _, _, _, e3, ?_⟩
      rw [q1] at r3 ⊢
      have hh : (frD (ogD A B j) n j y.D.ft).hs = [] := by
        rcases L'.side j with ⟨h, -⟩ | ⟨-, h, -⟩
        · have h : y.s j = 0 ∨ y.s j = 2 := h
          omega
        · exact h.hs
      have M6 := M5.call hN3 ag3
      have M7 := M6.setNow j (X' := frD (ogD A B j) n j y.D.ft) (a' := a3) (c' := c3) hh
      exact ifB_false ⟨ix_two j, wr_of M6.lo.1 M6.uf.1 (M6.now_at j) rfl, ⟨y.k, y.s, upB y.e j true, upB y.X j (frD (ogD A B j) n j y.D.ft), upB y.a j a3, upB y.c j c3, y.D, y.D, y.aB, y.cB, y.b1, y.b2, y.b3, _⟩, ⟨⟨hk2, ⟨Nat.le_of_lt hk2, q2 _ _ _ _ _ _ _ _ _ _, M7⟩⟩, rfl, by simp, ⟨rfl, rfl⟩, ⟨rfl, rfl⟩, ⟨rfl, rfl⟩, trivial⟩, rfl⟩
    · have hs1 : y.s j ≠ 1 := by simpa using hs1
      exact ⟨⟨y.k, y.s, upB y.e j true, y.X, y.a, y.c, y.D, y.D, y.aB, y.cB, y.b1, y.b2, y.b3, _⟩, ⟨⟨hk2, ⟨Nat.le_of_lt hk2, law_ended L' hs1 hf _ _ _ _ _ _ _ _ _ _, M5⟩⟩, rfl, by simp, ⟨rfl, rfl⟩, ⟨rfl, rfl⟩, ⟨rfl, rfl⟩, trivial⟩, rfl⟩
  · exact ⟨⟨y.k, y.s, y.e, y.X, y.a, y.c, y.D, y.D, y.aB, y.cB, y.b1, y.b2, y.b3, _⟩, ⟨⟨hk2, ⟨Nat.le_of_lt hk2, L'.any _ _ _ _ _ _ _ _ _ _, M'⟩⟩, rfl, by simp, ⟨rfl, rfl⟩, ⟨rfl, rfl⟩, ⟨rfl, rfl⟩, trivial⟩, rfl⟩
  · have xk : x.k = y.k := by simp at Xc; omega
    have w2 : IntKind.i64.wrap ((x.k : Int) + 1) = ((x.k + 1 : Nat) : Int) := by simp [IntKind.wrap_i64]; omega
    have rx : ∀ j, rightB (x.X j) = true ∧ (x.X j).wf := fun j => side_right (P.right j) (P.wf j) (P.lk j) (X.L.side j)
    have fin : DwI N (ogD A B) n aw ws { x with k := x.k + 1 } := X.dk x.d X0
    have fq := find_one X.L x.aB x.cB x.m X.M.bk
    have cell : ∀ (i : Nat) (v : Value), i < 20 → (acD x false ++ acD x true)[i]? = some v → CellsAt x.m x.b1 i [v] := fun i v hi e => ⟨fun j hj => by
      have : j = 0 := by simpa using hj
      subst this
      have := X.M.now.out i (by simp; omega)
      rw [e, Nat.zero_add] at this
      exact this⟩
    have k0 := check_q (x.X false) (x.a false) (x.c false) (rx false).2 x.m (X.M.hs false)
    have k1 := check_q (x.X true) (x.a true) (x.c true) (rx true).2 x.m (X.M.hs true)
    rw [(rx false).1] at k0
    rw [(rx true).1] at k1
    refine ⟨_, _, _, _, _, _, _, _, _, fq, ifB_false ⟨by decide, _, _, _, _, _, _, _, _, _, _, _, _, X.M.now.take, _, k0, ifB_false ⟨by decide, _, _, _, _, _, _, _, _, _, _, _, _, X.M.now.drop, _, k1, ifB_false ⟨by decide, x.e false, X.M.ended_at false, ifB_intro (fun e0 => ⟨by decide, x.e true, X.M.ended_at true, ifB_intro (fun e1 => ?_) (fun _ => ?_)⟩) (fun _ => ?_)⟩⟩⟩⟩
    · have l0 := law_end X.L false e0
      have l1 := law_end X.L true e1
      refine ⟨rfl, by decide, (x.X false).base, cell 3 _ (by decide) rfl, by decide, (x.X true).base, cell 13 _ (by decide) rfl, ?_⟩
      rw [l0, l1, wn]
      have eA : ogD A B false = A := rfl
      have eB : ogD A B true = B := rfl
      rw [eA, eB]
      by_cases hf : x.D.ft = 1
      · rw [show (x.D.ft == 1) = true by simpa using hf, show (x.D.ft != 1) = false by simpa using hf, if_pos hf, if_pos hf]
        have e1 : IntKind.i64.wrap (A.base + kkD n false - A.base) = kkD n false := by unfold In64 at hn; simp [IntKind.wrap_i64, kkD]; omega
        have e2 : IntKind.i64.wrap (B.base + kkD n true - B.base) = n := by unfold In64 at hn; simp [IntKind.wrap_i64, kkD]; omega
        rw [e1, e2]
        simp only [bne_self_eq_false]
        exact ifB_true (ifB_false (ifB_false (ifB_false ⟨_, ⟨fin, rfl, by simp [w2], by simp⟩, by simp only; omega⟩)))
      · rw [show (x.D.ft == 1) = false by simpa using hf, show (x.D.ft != 1) = true by simpa using hf, if_neg hf, if_neg hf]
        have e1 : IntKind.i64.wrap (A.base + 0 - A.base) = 0 := by rw [show A.base + 0 - A.base = 0 by omega]; rfl
        have e2 : IntKind.i64.wrap (B.base + 0 - B.base) = 0 := by rw [show B.base + 0 - B.base = 0 by omega]; rfl
        rw [e1, e2]
        simp only [bne_self_eq_false]
        exact ifB_false (ifB_true (ifB_false (ifB_false ⟨_, ⟨fin, rfl, by simp [w2], by simp⟩, by simp only; omega⟩)))
    · exact ⟨_, ⟨fin, rfl, by simp [w2], ⟨rfl, rfl⟩, ⟨rfl, rfl⟩, trivial⟩, by simp only; omega⟩
    · exact ⟨_, ⟨fin, rfl, by simp [w2], ⟨rfl, rfl⟩, ⟨rfl, rfl⟩, trivial⟩, by simp only; omega⟩

end Go.Proofs.Ytoilbbfidnhekaa.Acc
