/-
  Contracts of functions of this seat: what each hands back, and what it leaves of memory (wit4). Nothing here is trusted: Lean checks it.
-/
import Derived.Test.YtbhlhnkjmncloaaWit3
set_option linter.unusedVariables false
set_option linter.unusedSimpArgs false
namespace Go.Proofs.Ytbhlhnkjmncloaa
open Go.Vc Go.RowKit
set_option maxRecDepth 100000

structure WiX where
  k : Nat
  a1 : Option Addr
  c1 : Nat
  a2 : Option Addr
  c2 : Nat
  m : M

def loT (l : List Tt) (r : Tt) (k : Nat) : List Tt := (l.take k).filter fun x => belT x r

def hiT (l : List Tt) (r : Tt) (k : Nat) : List Tt := (l.take k).filter fun x => belT r x

theorem fil_succ (f : Tt → Bool) (l : List Tt) (k : Nat) (hk : k < l.length) : (l.take (k + 1)).filter f = (l.take k).filter f ++ if f l[k] = true then [l[k]] else [] := by
  rw [List.take_succ_eq_append_getElem hk, List.filter_append]
  congr 1
  by_cases h : f l[k] = true <;> simp [h]

theorem fil_le (f : Tt → Bool) (l : List Tt) (k : Nat) : ((l.take k).filter f).length ≤ l.length :=
  Nat.le_trans (List.length_filter_le _ _) (by rw [List.length_take]; omega)

structure WiI (l : List Tt) (r : Tt) (m : M) (y : WiX) : Prop where
  k : y.k ≤ l.length
  two : Two m.sz y.m 4 y.a1 (loT l r y.k).length y.c1 (tts (loT l r y.k)) 4 y.a2 (hiT l r y.k).length y.c2 (tts (hiT l r y.k))
  ag : Agree m.sz m y.m

set_option maxHeartbeats 1000000 in
theorem rwith_s (a : Option Addr) (cp : Nat) (l : List Tt) (r : Tt) (hn : l.length ≤ 4194304) (m : M) (h : Row m a (tts l)) : Vc.Spec Try.prog 42 [.slice a l.length cp, ttv r] m fun v m' => ∃ a' c', v = .slice a' (setT l r).length c' ∧ Row m' a' (tts (setT l r)) := by
  refine Vc.Spec.of_vc Try.func42 (ann := fun _ => { A := WiX, inv := WiI l r m, st := fun y => [(7, .val (I y.k)), (0, .val (.slice a l.length cp)), (3, .own 0 0), (5, .val (.slice y.a1 (loT l r y.k).length y.c1)), (6, .val (.slice y.a2 (hiT l r y.k).length y.c2))], own := fun _ => [(0, ⟨29, encTt r⟩)], m := fun y => y.m, μ := fun y => l.length - y.k }) ?_
  refine vc_by (X :=
      true = true ∧
      (∃ (a_1 : WiX),
      WiI l r m a_1 ∧
      m = a_1.m ∧
      ((SV.val (Value.int IntKind.i64 (0 : Int)) = SV.val (Value.int IntKind.i64 (↑a_1.k : Int)) ∧ true = true) ∧
      (SV.val (Value.slice a l.length cp) = SV.val (Value.slice a l.length cp) ∧ true = true) ∧
      (SV.own ((0 : Nat) + (0 : Nat)) (0 : Nat) = SV.own (0 : Nat) (0 : Nat) ∧ true = true) ∧
      (SV.val (Value.slice none (0 : Nat) (0 : Nat)) = SV.val (Value.slice a_1.a1 (loT l r a_1.k).length a_1.c1) ∧ true = true) ∧
      (SV.val (Value.slice none (0 : Nat) (0 : Nat)) = SV.val (Value.slice a_1.a2 (hiT l r a_1.k).length a_1.c2) ∧ true = true) ∧ True) ∧
      (some { ty := (29 : Nat), cs := [Value.string r.ky, Value.int IntKind.i64 r.sp_lo, Value.int IntKind.i64 r.sp_hi, Value.int IntKind.i64 r.va] : Bx } =
      some { ty := (29 : TypeId), cs := [Value.string r.ky, Value.int IntKind.i64 r.sp_lo, Value.int IntKind.i64 r.sp_hi, Value.int IntKind.i64 r.va] : Bx } ∧
      true = true) ∧
      True) ∧
      ∀ (a_1 : WiX),
      WiI l r m a_1 →
      ifB (decide ((↑a_1.k : Int) < (↑l.length : Int)))
      (true = true ∧
      ∃ (b : Nat),
      ∃ (off : Nat),
      a = some { block := b, off := off : Addr } ∧
      ((0 : Int) ≤ (↑a_1.k : Int) ∧ (↑a_1.k : Int) < (↑l.length : Int)) ∧
      ∃ (s : ByteArray),
      CellsAt a_1.m b (off + (↑a_1.k : Int).toNat * (4 : Nat) + (0 : Nat)) [Value.string s] ∧
      ifB (Op.bytesLess s.toList r.ky.toList)
      (∃ (b : Nat),
      ∃ (off : Nat),
      a = some { block := b, off := off : Addr } ∧
      ((0 : Int) ≤ (↑a_1.k : Int) ∧ (↑a_1.k : Int) < (↑l.length : Int)) ∧
      ∃ (s : ByteArray),
      ∃ (n : Int),
      ∃ (n_1 : Int),
      ∃ (n_2 : Int),
      CellsAt a_1.m b (off + (↑a_1.k : Int).toNat * (4 : Nat))
      [Value.string s, Value.int IntKind.i64 n, Value.int IntKind.i64 n_1, Value.int IntKind.i64 n_2] ∧
      true = true ∧
      ∀ (b : Nat),
      a_1.m.sz ≤ b →
      ∃ (old : List Value),
      ∃ (src : List Value),
      AppPre m.sz (fun (x : Nat) => False)
      (a_1.m.newBlock b [Value.string s, Value.int IntKind.i64 n, Value.int IntKind.i64 n_1, Value.int IntKind.i64 n_2])
      (4 : Nat) (40 : Nat) a_1.a1 (loT l r a_1.k).length a_1.c1 (some { block := b, off := (0 : Nat) : Addr }) (1 : Nat) old
      src ∧
      ∀ (a' : Option Addr) (c' : Nat) (m' : M),
      AppPost Try.prog (29 : Nat)
      (a_1.m.newBlock b [Value.string s, Value.int IntKind.i64 n, Value.int IntKind.i64 n_1, Value.int IntKind.i64 n_2])
      (4 : Nat) a_1.a1 (loT l r a_1.k).length a_1.c1 (1 : Nat) old src a' c' m' →
      true = true ∧
      ∃ (b : Nat),
      ∃ (off : Nat),
      a = some { block := b, off := off : Addr } ∧
      ((0 : Int) ≤ (↑a_1.k : Int) ∧ (↑a_1.k : Int) < (↑l.length : Int)) ∧
      ∃ (s : ByteArray),
      CellsAt m' b (off + (↑a_1.k : Int).toNat * (4 : Nat) + (0 : Nat)) [Value.string s] ∧
      ifB (!(Op.bytesLess s.toList r.ky.toList || s.toList == r.ky.toList))
      (∃ (b : Nat),
      ∃ (off : Nat),
      a = some { block := b, off := off : Addr } ∧
      ((0 : Int) ≤ (↑a_1.k : Int) ∧ (↑a_1.k : Int) < (↑l.length : Int)) ∧
      ∃ (s : ByteArray),
      ∃ (n : Int),
      ∃ (n_3 : Int),
      ∃ (n_4 : Int),
      CellsAt m' b (off + (↑a_1.k : Int).toNat * (4 : Nat))
      [Value.string s, Value.int IntKind.i64 n, Value.int IntKind.i64 n_3,
      Value.int IntKind.i64 n_4] ∧
      true = true ∧
      ∀ (b : Nat),
      m'.sz ≤ b →
      ∃ (old : List Value),
      ∃ (src : List Value),
      AppPre m.sz (fun (x : Nat) => False)
      (m'.newBlock b
      [Value.string s, Value.int IntKind.i64 n, Value.int IntKind.i64 n_3,
      Value.int IntKind.i64 n_4])
      (4 : Nat) (40 : Nat) a_1.a2 (hiT l r a_1.k).length a_1.c2
      (some { block := b, off := (0 : Nat) : Addr }) (1 : Nat) old src ∧
      ∀ (a'_1 : Option Addr) (c'_1 : Nat) (m'_1 : M),
      AppPost Try.prog (29 : Nat)
      (m'.newBlock b
      [Value.string s, Value.int IntKind.i64 n,
      Value.int IntKind.i64 n_3, Value.int IntKind.i64 n_4])
      (4 : Nat) a_1.a2 (hiT l r a_1.k).length a_1.c2 (1 : Nat) old src
      a'_1 c'_1 m'_1 →
      ∃ (a'_2 : WiX),
      (WiI l r m a'_2 ∧
      m'_1 = a'_2.m ∧
      ((SV.val
      (Value.int IntKind.i64
      (IntKind.i64.wrap ((↑a_1.k : Int) + (1 : Int)))) =
      SV.val (Value.int IntKind.i64 (↑a'_2.k : Int)) ∧
      true = true) ∧
      (SV.val (Value.slice a l.length cp) =
      SV.val (Value.slice a l.length cp) ∧
      true = true) ∧
      (SV.own (0 : Nat) (0 : Nat) =
      SV.own (0 : Nat) (0 : Nat) ∧
      true = true) ∧
      (SV.val
      (Value.slice a'
      ((loT l r a_1.k).length + (1 : Nat)) c') =
      SV.val
      (Value.slice a'_2.a1 (loT l r a'_2.k).length
      a'_2.c1) ∧
      true = true) ∧
      (SV.val
      (Value.slice a'_1
      ((hiT l r a_1.k).length + (1 : Nat))
      c'_1) =
      SV.val
      (Value.slice a'_2.a2 (hiT l r a'_2.k).length
      a'_2.c2) ∧
      true = true) ∧
      True) ∧
      (some
      { ty := (29 : TypeId), cs := [Value.string r.ky, Value.int IntKind.i64 r.sp_lo, Value.int IntKind.i64 r.sp_hi, Value.int IntKind.i64 r.va] : Bx } =
      some
      { ty := (29 : TypeId), cs := [Value.string r.ky, Value.int IntKind.i64 r.sp_lo, Value.int IntKind.i64 r.sp_hi, Value.int IntKind.i64 r.va] : Bx } ∧
      true = true) ∧
      True) ∧
      l.length - a'_2.k < l.length - a_1.k)
      (∃ (a'_1 : WiX),
      (WiI l r m a'_1 ∧
      m' = a'_1.m ∧
      ((SV.val (Value.int IntKind.i64 (IntKind.i64.wrap ((↑a_1.k : Int) + (1 : Int)))) =
      SV.val (Value.int IntKind.i64 (↑a'_1.k : Int)) ∧
      true = true) ∧
      (SV.val (Value.slice a l.length cp) = SV.val (Value.slice a l.length cp) ∧ true = true) ∧
      (SV.own (0 : Nat) (0 : Nat) = SV.own (0 : Nat) (0 : Nat) ∧ true = true) ∧
      (SV.val (Value.slice a' ((loT l r a_1.k).length + (1 : Nat)) c') =
      SV.val (Value.slice a'_1.a1 (loT l r a'_1.k).length a'_1.c1) ∧
      true = true) ∧
      (SV.val (Value.slice a_1.a2 (hiT l r a_1.k).length a_1.c2) =
      SV.val (Value.slice a'_1.a2 (hiT l r a'_1.k).length a'_1.c2) ∧
      true = true) ∧
      True) ∧
      (some
      { ty := (29 : TypeId), cs := [Value.string r.ky, Value.int IntKind.i64 r.sp_lo, Value.int IntKind.i64 r.sp_hi, Value.int IntKind.i64 r.va] : Bx } =
      some
      { ty := (29 : TypeId), cs := [Value.string r.ky, Value.int IntKind.i64 r.sp_lo, Value.int IntKind.i64 r.sp_hi, Value.int IntKind.i64 r.va] : Bx } ∧
      true = true) ∧
      True) ∧
      l.length - a'_1.k < l.length - a_1.k))
      (true = true ∧
      ∃ (b : Nat),
      ∃ (off : Nat),
      a = some { block := b, off := off : Addr } ∧
      ((0 : Int) ≤ (↑a_1.k : Int) ∧ (↑a_1.k : Int) < (↑l.length : Int)) ∧
      ∃ (s : ByteArray),
      CellsAt a_1.m b (off + (↑a_1.k : Int).toNat * (4 : Nat) + (0 : Nat)) [Value.string s] ∧
      ifB (!(Op.bytesLess s.toList r.ky.toList || s.toList == r.ky.toList))
      (∃ (b : Nat),
      ∃ (off : Nat),
      a = some { block := b, off := off : Addr } ∧
      ((0 : Int) ≤ (↑a_1.k : Int) ∧ (↑a_1.k : Int) < (↑l.length : Int)) ∧
      ∃ (s : ByteArray),
      ∃ (n : Int),
      ∃ (n_1 : Int),
      ∃ (n_2 : Int),
      CellsAt a_1.m b (off + (↑a_1.k : Int).toNat * (4 : Nat))
      [Value.string s, Value.int IntKind.i64 n, Value.int IntKind.i64 n_1, Value.int IntKind.i64 n_2] ∧
      true = true ∧
      ∀ (b : Nat),
      a_1.m.sz ≤ b →
      ∃ (old : List Value),
      ∃ (src : List Value),
      AppPre m.sz (fun (x : Nat) => False)
      (a_1.m.newBlock b
      [Value.string s, Value.int IntKind.i64 n, Value.int IntKind.i64 n_1, Value.int IntKind.i64 n_2])
      (4 : Nat) (40 : Nat) a_1.a2 (hiT l r a_1.k).length a_1.c2 (some { block := b, off := (0 : Nat) : Addr })
      (1 : Nat) old src ∧
      ∀ (a' : Option Addr) (c' : Nat) (m' : M),
      AppPost Try.prog (29 : Nat)
      (a_1.m.newBlock b
      [Value.string s, Value.int IntKind.i64 n, Value.int IntKind.i64 n_1, Value.int IntKind.i64 n_2])
      (4 : Nat) a_1.a2 (hiT l r a_1.k).length a_1.c2 (1 : Nat) old src a' c' m' →
      ∃ (a'_1 : WiX),
      (WiI l r m a'_1 ∧
      m' = a'_1.m ∧
      ((SV.val (Value.int IntKind.i64 (IntKind.i64.wrap ((↑a_1.k : Int) + (1 : Int)))) =
      SV.val (Value.int IntKind.i64 (↑a'_1.k : Int)) ∧
      true = true) ∧
      (SV.val (Value.slice a l.length cp) = SV.val (Value.slice a l.length cp) ∧ true = true) ∧
      (SV.own (0 : Nat) (0 : Nat) = SV.own (0 : Nat) (0 : Nat) ∧ true = true) ∧
      (SV.val (Value.slice a_1.a1 (loT l r a_1.k).length a_1.c1) =
      SV.val (Value.slice a'_1.a1 (loT l r a'_1.k).length a'_1.c1) ∧
      true = true) ∧
      (SV.val (Value.slice a' ((hiT l r a_1.k).length + (1 : Nat)) c') =
      SV.val (Value.slice a'_1.a2 (hiT l r a'_1.k).length a'_1.c2) ∧
      true = true) ∧
      True) ∧
      (some
      { ty := (29 : TypeId), cs := [Value.string r.ky, Value.int IntKind.i64 r.sp_lo, Value.int IntKind.i64 r.sp_hi, Value.int IntKind.i64 r.va] : Bx } =
      some
      { ty := (29 : TypeId), cs := [Value.string r.ky, Value.int IntKind.i64 r.sp_lo, Value.int IntKind.i64 r.sp_hi, Value.int IntKind.i64 r.va] : Bx } ∧
      true = true) ∧
      True) ∧
      l.length - a'_1.k < l.length - a_1.k)
      (∃ (a' : WiX),
      (WiI l r m a' ∧
      a_1.m = a'.m ∧
      ((SV.val (Value.int IntKind.i64 (IntKind.i64.wrap ((↑a_1.k : Int) + (1 : Int)))) = SV.val (Value.int IntKind.i64 (↑a'.k : Int)) ∧
      true = true) ∧
      (SV.val (Value.slice a l.length cp) = SV.val (Value.slice a l.length cp) ∧ true = true) ∧
      (SV.own (0 : Nat) (0 : Nat) = SV.own (0 : Nat) (0 : Nat) ∧ true = true) ∧
      (SV.val (Value.slice a_1.a1 (loT l r a_1.k).length a_1.c1) = SV.val (Value.slice a'.a1 (loT l r a'.k).length a'.c1) ∧
      true = true) ∧
      (SV.val (Value.slice a_1.a2 (hiT l r a_1.k).length a_1.c2) = SV.val (Value.slice a'.a2 (hiT l r a'.k).length a'.c2) ∧
      true = true) ∧
      True) ∧
      (some
      { ty := (29 : TypeId), cs := [Value.string r.ky, Value.int IntKind.i64 r.sp_lo, Value.int IntKind.i64 r.sp_hi, Value.int IntKind.i64 r.va] : Bx } =
      some
      { ty := (29 : TypeId), cs := [Value.string r.ky, Value.int IntKind.i64 r.sp_lo, Value.int IntKind.i64 r.sp_hi, Value.int IntKind.i64 r.va] : Bx } ∧
      true = true) ∧
      True) ∧
      l.length - a'.k < l.length - a_1.k)))
      (ifB (!(r.ky.toList == r.ky.toList && (r.sp_lo == (0 : Int) && (r.sp_hi == (0 : Int) && true) && (r.va == (0 : Int) && true))))
      (true = true ∧
      ∀ (b : Nat),
      a_1.m.sz ≤ b →
      ∃ (old : List Value),
      ∃ (src : List Value),
      AppPre m.sz (fun (x : Nat) => False)
      (a_1.m.newBlock b [Value.string r.ky, Value.int IntKind.i64 r.sp_lo, Value.int IntKind.i64 r.sp_hi, Value.int IntKind.i64 r.va]) (4 : Nat) (40 : Nat)
      a_1.a1 (loT l r a_1.k).length a_1.c1 (some { block := b, off := (0 : Nat) : Addr }) (1 : Nat) old src ∧
      ∀ (a' : Option Addr) (c' : Nat) (m' : M),
      AppPost Try.prog (29 : Nat)
      (a_1.m.newBlock b [Value.string r.ky, Value.int IntKind.i64 r.sp_lo, Value.int IntKind.i64 r.sp_hi, Value.int IntKind.i64 r.va]) (4 : Nat) a_1.a1
      (loT l r a_1.k).length a_1.c1 (1 : Nat) old src a' c' m' →
      ∃ (old : List Value),
      ∃ (src : List Value),
      AppPre m.sz (fun (x : Nat) => False) m' (4 : Nat) (40 : Nat) a' ((loT l r a_1.k).length + (1 : Nat)) c' a_1.a2 (hiT l r a_1.k).length old src ∧
      ∀ (a'_1 : Option Addr) (c'_1 : Nat) (m'_1 : M),
      AppPost Try.prog (29 : Nat) m' (4 : Nat) a' ((loT l r a_1.k).length + (1 : Nat)) c' (hiT l r a_1.k).length old src a'_1 c'_1 m'_1 →
      Done
      (∃ (a' : Option Addr),
      ∃ (c' : Nat),
      Value.slice a'_1 ((loT l r a_1.k).length + (1 : Nat) + (hiT l r a_1.k).length) c'_1 = Value.slice a' (setT l r).length c' ∧
      Row m'_1 a' (tts (setT l r))))
      (∃ (old : List Value),
      ∃ (src : List Value),
      AppPre m.sz (fun (x : Nat) => False) a_1.m (4 : Nat) (40 : Nat) a_1.a1 (loT l r a_1.k).length a_1.c1 a_1.a2 (hiT l r a_1.k).length old src ∧
      ∀ (a' : Option Addr) (c' : Nat) (m' : M),
      AppPost Try.prog (29 : Nat) a_1.m (4 : Nat) a_1.a1 (loT l r a_1.k).length a_1.c1 (hiT l r a_1.k).length old src a' c' m' →
      Done
      (∃ (a'_1 : Option Addr),
      ∃ (c'_1 : Nat),
      Value.slice a' ((loT l r a_1.k).length + (hiT l r a_1.k).length) c' = Value.slice a'_1 (setT l r).length c'_1 ∧ Row m' a'_1 (tts (setT l r)))))) (by kernel_rfl) ?_
  have ekey : (r.ky.toList == r.ky.toList && (r.sp_lo == 0 && (r.sp_hi == 0 && true) && (r.va == 0 && true))) = plainT r := by simp [plainT, beq_eq_dec]
  refine ⟨rfl, ⟨⟨0, none, 0, none, 0, m⟩, ⟨Nat.zero_le _, .nil, Agree.refl _ _⟩, rfl, by simp [loT, hiT]⟩, fun y Y => ifB_intro (fun h3 => ?_) (fun h3 => ?_)⟩
  · have hk2 : y.k < l.length := by simpa using h3
    obtain ⟨b, o, rfl, hc⟩ := (h.agree Y.ag).cells (by rw [tt_len]; omega)
    have w1 : IntKind.i64.wrap ((y.k : Int) + 1) = ((y.k + 1 : Nat) : Int) := by simp [IntKind.wrap_i64]; omega
    have hle1 := fil_le (fun x => belT x r) l y.k
    have hle2 := fil_le (fun x => belT r x) l y.k
    have e1 := fil_succ (fun x => belT x r) l y.k hk2
    have e2 := fil_succ (fun x => belT r x) l y.k hk2
    have ap : ∀ x y : List Tt, tts (x ++ y) = tts x ++ tts y := fun x y => List.flatMap_append
    have q2e : (!(Op.bytesLess l[y.k].ky.toList r.ky.toList || l[y.k].ky.toList == r.ky.toList)) = belT r l[y.k] := by rw [ltS_nlt, Bool.not_not]; rfl
    have key : ∀ m', CellsAt m' b o (tts l) → CellsAt m' b (o + y.k * 4) [.string l[y.k].ky] := fun m' hc => by
      have := CellsAt.field tt_k hc hk2 (p := []) (old := [.string l[y.k].ky]) (q := [I l[y.k].sp_lo, I l[y.k].sp_hi, I l[y.k].va]) rfl
      simpa using this
    refine ⟨rfl, b, o, rfl, by omega, _, by simpa using key _ hc, ifB_intro (fun q1 => ?_) (fun q1 => ?_)⟩
    · have q1 : belT l[y.k] r = true := q1
      rw [if_pos q1] at e1
      refine ⟨b, o, rfl, by omega, _, _, _, _, by simpa using tt_at hc hk2, rfl, fun b4 hb4 => ?_⟩
      obtain ⟨p1, p2⟩ := Two.push (P := Try.prog) (e := 29) (bytes := 40) (src := encTt l[y.k]) Y.two hb4 Y.ag.2.2 rfl rfl (by have := fil_le (fun x => belT x r) l y.k; unfold loT; omega) tt_zr
      refine ⟨_, _, p1, fun a' c' m' hp => ?_⟩
      obtain ⟨T2, g2⟩ := p2 a' c' m' hp
      have A2 := Y.ag.trans g2
      obtain ⟨b', o', e', hc'⟩ := (h.agree A2).cells (by rw [tt_len]; omega)
      cases e'
      have ee : loT l r (y.k + 1) = loT l r y.k ++ [l[y.k]] := e1
      have T3 : Two m.sz m' 4 a' (loT l r (y.k + 1)).length c' (tts (loT l r (y.k + 1))) 4 y.a2 (hiT l r y.k).length y.c2 (tts (hiT l r y.k)) := by
        rw [ee, ap, List.length_append]; exact T2
      refine ⟨rfl, b, o, rfl, by omega, _, by simpa using key _ hc', ?_⟩
      rw [q2e]
      refine ifB_intro (fun q2 => ?_) (fun q2 => ?_)
      · rw [if_pos q2] at e2
        refine ⟨b, o, rfl, by omega, _, _, _, _, by simpa using tt_at hc' hk2, rfl, fun b5 hb5 => ?_⟩
        obtain ⟨p3, p4⟩ := Two.push (P := Try.prog) (e := 29) (bytes := 40) (src := encTt l[y.k]) T3.symm hb5 A2.2.2 rfl rfl (by have := fil_le (fun x => belT r x) l y.k; unfold hiT; omega) tt_zr
        refine ⟨_, _, p3, fun a3 c3 m3 hp3 => ?_⟩
        obtain ⟨T4, g4⟩ := p4 a3 c3 m3 hp3
        have ee2 : hiT l r (y.k + 1) = hiT l r y.k ++ [l[y.k]] := e2
        refine ⟨⟨y.k + 1, a', c', a3, c3, m3⟩, ⟨⟨hk2, ?_, A2.trans g4⟩, rfl, by simp [w1, ee, ee2]⟩, by simp only; omega⟩
        rw [ee2, ap, List.length_append]; exact T4.symm
      · rw [if_neg (by simp [q2])] at e2
        have ee2 : hiT l r (y.k + 1) = hiT l r y.k := by rw [List.append_nil] at e2; exact e2
        refine ⟨⟨y.k + 1, a', c', y.a2, y.c2, m'⟩, ⟨⟨hk2, ?_, A2⟩, rfl, by simp [w1, ee, ee2]⟩, by simp only; omega⟩
        rw [ee2]; exact T3
    · have q1 : belT l[y.k] r = false := q1
      rw [if_neg (by simp [q1])] at e1
      have ee : loT l r (y.k + 1) = loT l r y.k := by rw [List.append_nil] at e1; exact e1
      refine ⟨rfl, b, o, rfl, by omega, _, by simpa using key _ hc, ?_⟩
      rw [q2e]
      refine ifB_intro (fun q2 => ?_) (fun q2 => ?_)
      · rw [if_pos q2] at e2
        refine ⟨b, o, rfl, by omega, _, _, _, _, by simpa using tt_at hc hk2, rfl, fun b5 hb5 => ?_⟩
        obtain ⟨p3, p4⟩ := Two.push (P := Try.prog) (e := 29) (bytes := 40) (src := encTt l[y.k]) Y.two.symm hb5 Y.ag.2.2 rfl rfl (by have := fil_le (fun x => belT r x) l y.k; unfold hiT; omega) tt_zr
        refine ⟨_, _, p3, fun a3 c3 m3 hp3 => ?_⟩
        obtain ⟨T4, g4⟩ := p4 a3 c3 m3 hp3
        have ee2 : hiT l r (y.k + 1) = hiT l r y.k ++ [l[y.k]] := e2
        refine ⟨⟨y.k + 1, y.a1, y.c1, a3, c3, m3⟩, ⟨⟨hk2, ?_, Y.ag.trans g4⟩, rfl, by simp [w1, ee, ee2]⟩, by simp only; omega⟩
        rw [ee, ee2, ap, List.length_append]; exact T4.symm
      · rw [if_neg (by simp [q2])] at e2
        have ee2 : hiT l r (y.k + 1) = hiT l r y.k := by rw [List.append_nil] at e2; exact e2
        refine ⟨⟨y.k + 1, y.a1, y.c1, y.a2, y.c2, y.m⟩, ⟨⟨hk2, ?_, Y.ag⟩, rfl, by simp [w1, ee, ee2]⟩, by simp only; omega⟩
        rw [ee, ee2]; exact Y.two
  · have hkl : y.k = l.length := by have := Y.k; simp at h3; omega
    have T := Y.two
    have e1 : loT l r y.k = l.filter fun x => belT x r := by simp [loT, hkl]
    have e2 : hiT l r y.k = l.filter fun x => belT r x := by simp [hiT, hkl]
    have f1 := List.length_filter_le (fun x => belT x r) l
    have f2 := List.length_filter_le (fun x => belT r x) l
    rw [e1, e2] at T ⊢
    rw [ekey]
    refine ifB_intro (fun hp0 => ⟨rfl, fun b3 hb3 => ?_⟩) (fun hp0 => ?_)
    · have hp0 : plainT r = false := by simpa using hp0
      obtain ⟨p1, p2⟩ := Two.push (P := Try.prog) (e := 29) (bytes := 40) (src := encTt r) T hb3 Y.ag.2.2 rfl rfl (by omega) tt_zr
      refine ⟨_, _, p1, fun a' c' m' hp => ?_⟩
      obtain ⟨T2, g2⟩ := p2 a' c' m' hp
      refine ⟨_, _, T2.o1.appPre T2.o2.row (tt_len _) (tt_one _) (by omega), fun a3 c3 m3 hp3 => ?_⟩
      have T3 := T2.o1.append hp3 (tt_len _) tt_zr (Y.ag.trans g2).2.2
      have e3 : tts (setT l r) = tts (l.filter fun x => belT x r) ++ encTt r ++ tts (l.filter fun x => belT r x) := by simp [setT, hp0]
      refine ⟨a3, c3, by simp [setT, hp0]; omega, ?_⟩
      rw [e3]; exact T3.row
    · have hp0 : plainT r = true := by simpa using hp0
      refine ⟨_, _, T.o1.appPre T.o2.row (tt_len _) (tt_one _) (by omega), fun a3 c3 m3 hp3 => ?_⟩
      have T3 := T.o1.append hp3 (tt_len _) tt_zr Y.ag.2.2
      have e3 : tts (setT l r) = tts (l.filter fun x => belT x r) ++ tts (l.filter fun x => belT r x) := by simp [setT, hp0]
      refine ⟨a3, c3, by simp [setT, hp0], ?_⟩
      rw [e3]; exact T3.row

end Go.Proofs.Ytbhlhnkjmncloaa
