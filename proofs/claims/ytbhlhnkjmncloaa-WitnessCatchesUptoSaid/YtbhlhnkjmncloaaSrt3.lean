/-
  Contracts of functions of this seat: what each hands back, and what it leaves of memory (srt3). Nothing here is trusted: Lean checks it.
-/
import Derived.Test.YtbhlhnkjmncloaaSrt2
set_option linter.unusedVariables false
set_option linter.unusedSimpArgs false
namespace Go.Proofs.Ytbhlhnkjmncloaa
open Go.Vc Go.RowKit
set_option maxRecDepth 100000

structure SoX where
  a : Nat
  B : Nat
  q : Nat
  g : Nat → Int
  m : M

structure SoI (b o n : Nat) (env : M → Prop) (ok : Int → Prop) (f : Int → Int) (g : Nat → Int) (m : M) (t : SoX) : Prop where
  dat : DatC b o n env ok t.g t.m
  mem : Mem 0 n g t.g
  stb : Stb f 0 n t.g
  sz : m.sz ≤ t.m.sz

theorem stable_s (av : Option Addr) (b o n c bl : Nat) (ha : 0 < n → av = some ⟨b, o, none⟩) (env : M → Prop) (ok : Int → Prop) (f : Int → Int) (C : CmpC b bl env ok f) (g : Nat → Int) (hn : n ≤ 4194304) (hst : Stb f 0 n g) (m : M) (h : DatC b o n env ok g m) :
    SpecW Try.prog 68 [.slice av n c, I n, cmpV bl] m (fun z => 0 < n ∧ z = b) fun v m' => v = .tuple #[] ∧ ∃ g', DatC b o n env ok g' m' ∧ Mem 0 n g g' ∧ Srt f 0 n g' := by
  refine SpecW.of_vc Try.func68 (ann := fun r => match r with
    | 2 => { A := SoX, inv := fun t => SoI b o n env ok f g m t ∧ t.q * 20 ≤ n ∧ ∀ k, k < t.q → Srt f (k * 20) (k * 20 + 20) t.g, st := fun t => [(8, .val (I (t.q * 20 + 20 : Nat))), (7, .val (I (t.q * 20 : Nat))), (6, .val (I 20)), (1, .val (I n)), (0, .val (.slice av n c)), (2, .val (cmpV bl))], own := fun _ => [], m := fun t => t.m, μ := fun t => n - t.q * 20 + 1 }
    | 7 => { A := SoX, inv := fun t => SoI b o n env ok f g m t ∧ 20 ≤ t.B ∧ t.B ≤ 2 * n + 20 ∧ Blk f t.B n t.g, st := fun t => [(6, .val (I t.B)), (1, .val (I n)), (0, .val (.slice av n c)), (2, .val (cmpV bl))], own := fun _ => [], m := fun t => t.m, μ := fun t => n - t.B }
    | 9 => { A := SoX, inv := fun t => SoI b o n env ok f g m t ∧ 20 ≤ t.B ∧ t.B < n ∧ Pair f t.B n t.q t.a t.g, st := fun t => [(8, .val (I (t.a + 2 * t.B : Nat))), (7, .val (I t.a)), (6, .val (I t.B)), (1, .val (I n)), (0, .val (.slice av n c)), (2, .val (cmpV bl))], own := fun _ => [], m := fun t => t.m, μ := fun t => n - t.a + 1, link := some fun t ctx => ctx = [n - t.B] }
    | _ => noAnn 0) ?_
  refine vc_by (X :=
      true = true ∧
      (∃ (a : SoX),
      (SoI b o n env ok f g m a ∧ a.q * (20 : Nat) ≤ n ∧ ∀ (k : Nat), k < a.q → Srt f (k * (20 : Nat)) (k * (20 : Nat) + (20 : Nat)) a.g) ∧
      m = a.m ∧
      ((SV.val (Value.int IntKind.i64 (20 : Int)) = SV.val (Value.int IntKind.i64 (↑(a.q * (20 : Nat) + (20 : Nat)) : Int)) ∧ true = true) ∧
      (SV.val (Value.int IntKind.i64 (0 : Int)) = SV.val (Value.int IntKind.i64 (↑(a.q * (20 : Nat)) : Int)) ∧ true = true) ∧
      (SV.val (Value.int IntKind.i64 (20 : Int)) = SV.val (Value.int IntKind.i64 (20 : Int)) ∧ true = true) ∧
      (SV.val (Value.int IntKind.i64 (↑n : Int)) = SV.val (Value.int IntKind.i64 (↑n : Int)) ∧ true = true) ∧
      (SV.val (Value.slice av n c) = SV.val (Value.slice av n c) ∧ true = true) ∧
      (SV.val (Value.func (Fn.func (58 : FuncId)) #[] #[Value.pointer (some { block := bl, off := (0 : Nat) : Addr })]) =
      SV.val (Value.func (Fn.func (58 : FuncId)) #[] #[Value.pointer (some { block := bl, off := (0 : Nat) : Addr })]) ∧
      true = true) ∧
      True) ∧
      True) ∧
      ∀ (a : SoX),
      (SoI b o n env ok f g m a ∧ a.q * (20 : Nat) ≤ n ∧ ∀ (k : Nat), k < a.q → Srt f (k * (20 : Nat)) (k * (20 : Nat) + (20 : Nat)) a.g) →
      ifB (decide ((↑(a.q * (20 : Nat) + (20 : Nat)) : Int) ≤ (↑n : Int)))
      (∃ (S' : Nat → Prop),
      (∀ (b_1 : Nat), S' b_1 → a.m.uf b_1 ∧ (m.sz ≤ b_1 ∨ (0 : Nat) < n ∧ b_1 = b)) ∧
      ∀ (n_1 : Nat),
      a.m.sz ≤ n_1 →
      SpecW Try.prog (72 : Nat)
      [Value.slice av n c, Value.int IntKind.i64 (↑(a.q * (20 : Nat)) : Int), Value.int IntKind.i64 (↑(a.q * (20 : Nat) + (20 : Nat)) : Int),
      Value.func (Fn.func (58 : FuncId)) #[] #[Value.pointer (some { block := bl, off := (0 : Nat) : Addr })]]
      { π := a.m.π, sz := n_1, uf := a.m.uf : M } S' fun (v : Value) (m' : M) =>
      v = Value.tuple #[] ∧
      ∃ (a' : SoX),
      ((SoI b o n env ok f g m a' ∧ a'.q * (20 : Nat) ≤ n ∧ ∀ (k : Nat), k < a'.q → Srt f (k * (20 : Nat)) (k * (20 : Nat) + (20 : Nat)) a'.g) ∧
      m' = a'.m ∧
      ((SV.val (Value.int IntKind.i64 (IntKind.i64.wrap ((↑(a.q * (20 : Nat) + (20 : Nat)) : Int) + (20 : Int)))) =
      SV.val (Value.int IntKind.i64 (↑(a'.q * (20 : Nat) + (20 : Nat)) : Int)) ∧
      true = true) ∧
      (SV.val (Value.int IntKind.i64 (↑(a.q * (20 : Nat) + (20 : Nat)) : Int)) = SV.val (Value.int IntKind.i64 (↑(a'.q * (20 : Nat)) : Int)) ∧
      true = true) ∧
      (SV.val (Value.int IntKind.i64 (20 : Int)) = SV.val (Value.int IntKind.i64 (20 : Int)) ∧ true = true) ∧
      (SV.val (Value.int IntKind.i64 (↑n : Int)) = SV.val (Value.int IntKind.i64 (↑n : Int)) ∧ true = true) ∧
      (SV.val (Value.slice av n c) = SV.val (Value.slice av n c) ∧ true = true) ∧
      (SV.val (Value.func (Fn.func (58 : FuncId)) #[] #[Value.pointer (some { block := bl, off := (0 : Nat) : Addr })]) =
      SV.val (Value.func (Fn.func (58 : FuncId)) #[] #[Value.pointer (some { block := bl, off := (0 : Nat) : Addr })]) ∧
      true = true) ∧
      True) ∧
      True) ∧
      n - a'.q * (20 : Nat) + (1 : Nat) < n - a.q * (20 : Nat) + (1 : Nat))
      (∃ (S' : Nat → Prop),
      (∀ (b_1 : Nat), S' b_1 → a.m.uf b_1 ∧ (m.sz ≤ b_1 ∨ (0 : Nat) < n ∧ b_1 = b)) ∧
      ∀ (n_1 : Nat),
      a.m.sz ≤ n_1 →
      SpecW Try.prog (72 : Nat)
      [Value.slice av n c, Value.int IntKind.i64 (↑(a.q * (20 : Nat)) : Int), Value.int IntKind.i64 (↑n : Int),
      Value.func (Fn.func (58 : FuncId)) #[] #[Value.pointer (some { block := bl, off := (0 : Nat) : Addr })]]
      { π := a.m.π, sz := n_1, uf := a.m.uf : M } S' fun (v : Value) (m' : M) =>
      v = Value.tuple #[] ∧
      (∃ (a : SoX),
      (SoI b o n env ok f g m a ∧ (20 : Nat) ≤ a.B ∧ a.B ≤ (2 : Nat) * n + (20 : Nat) ∧ Blk f a.B n a.g) ∧
      m' = a.m ∧
      ((SV.val (Value.int IntKind.i64 (20 : Int)) = SV.val (Value.int IntKind.i64 (↑a.B : Int)) ∧ true = true) ∧
      (SV.val (Value.int IntKind.i64 (↑n : Int)) = SV.val (Value.int IntKind.i64 (↑n : Int)) ∧ true = true) ∧
      (SV.val (Value.slice av n c) = SV.val (Value.slice av n c) ∧ true = true) ∧
      (SV.val (Value.func (Fn.func (58 : FuncId)) #[] #[Value.pointer (some { block := bl, off := (0 : Nat) : Addr })]) =
      SV.val (Value.func (Fn.func (58 : FuncId)) #[] #[Value.pointer (some { block := bl, off := (0 : Nat) : Addr })]) ∧
      true = true) ∧
      True) ∧
      True) ∧
      ∀ (a : SoX),
      SoI b o n env ok f g m a ∧ (20 : Nat) ≤ a.B ∧ a.B ≤ (2 : Nat) * n + (20 : Nat) ∧ Blk f a.B n a.g →
      ifB (decide ((↑a.B : Int) < (↑n : Int)))
      ((∃ (a_4 : SoX),
      ((SoI b o n env ok f g m a_4 ∧ (20 : Nat) ≤ a_4.B ∧ a_4.B < n ∧ Pair f a_4.B n a_4.q a_4.a a_4.g) ∧
      a.m = a_4.m ∧
      ((SV.val (Value.int IntKind.i64 (IntKind.i64.wrap ((2 : Int) * (↑a.B : Int)))) =
      SV.val (Value.int IntKind.i64 (↑(a_4.a + (2 : Nat) * a_4.B) : Int)) ∧
      true = true) ∧
      (SV.val (Value.int IntKind.i64 (0 : Int)) = SV.val (Value.int IntKind.i64 (↑a_4.a : Int)) ∧ true = true) ∧
      (SV.val (Value.int IntKind.i64 (↑a.B : Int)) = SV.val (Value.int IntKind.i64 (↑a_4.B : Int)) ∧ true = true) ∧
      (SV.val (Value.int IntKind.i64 (↑n : Int)) = SV.val (Value.int IntKind.i64 (↑n : Int)) ∧ true = true) ∧
      (SV.val (Value.slice av n c) = SV.val (Value.slice av n c) ∧ true = true) ∧
      (SV.val (Value.func (Fn.func (58 : FuncId)) #[] #[Value.pointer (some { block := bl, off := (0 : Nat) : Addr })]) =
      SV.val (Value.func (Fn.func (58 : FuncId)) #[] #[Value.pointer (some { block := bl, off := (0 : Nat) : Addr })]) ∧
      true = true) ∧
      True) ∧
      True) ∧
      [n - a.B] = [n - a_4.B]) ∧
      ∀ (a_4 : SoX),
      (SoI b o n env ok f g m a_4 ∧ (20 : Nat) ≤ a_4.B ∧ a_4.B < n ∧ Pair f a_4.B n a_4.q a_4.a a_4.g) ∧ [n - a.B] = [n - a_4.B] →
      ifB (decide ((↑(a_4.a + (2 : Nat) * a_4.B) : Int) ≤ (↑n : Int)))
      (∃ (S' : Nat → Prop),
      (∀ (b_1 : Nat), S' b_1 → a_4.m.uf b_1 ∧ (m.sz ≤ b_1 ∨ (0 : Nat) < n ∧ b_1 = b)) ∧
      ∀ (n_2 : Nat),
      a_4.m.sz ≤ n_2 →
      SpecW Try.prog (73 : Nat)
      [Value.slice av n c, Value.int IntKind.i64 (↑a_4.a : Int),
      Value.int IntKind.i64 (IntKind.i64.wrap ((↑a_4.a : Int) + (↑a_4.B : Int))),
      Value.int IntKind.i64 (↑(a_4.a + (2 : Nat) * a_4.B) : Int),
      Value.func (Fn.func (58 : FuncId)) #[] #[Value.pointer (some { block := bl, off := (0 : Nat) : Addr })]]
      { π := a_4.m.π, sz := n_2, uf := a_4.m.uf : M } S' fun (v : Value) (m' : M) =>
      v = Value.tuple #[] ∧
      ∃ (a' : SoX),
      (((SoI b o n env ok f g m a' ∧ (20 : Nat) ≤ a'.B ∧ a'.B < n ∧ Pair f a'.B n a'.q a'.a a'.g) ∧
      m' = a'.m ∧
      ((SV.val
      (Value.int IntKind.i64
      (IntKind.i64.wrap ((↑(a_4.a + (2 : Nat) * a_4.B) : Int) + IntKind.i64.wrap ((2 : Int) * (↑a_4.B : Int))))) =
      SV.val (Value.int IntKind.i64 (↑(a'.a + (2 : Nat) * a'.B) : Int)) ∧
      true = true) ∧
      (SV.val (Value.int IntKind.i64 (↑(a_4.a + (2 : Nat) * a_4.B) : Int)) =
      SV.val (Value.int IntKind.i64 (↑a'.a : Int)) ∧
      true = true) ∧
      (SV.val (Value.int IntKind.i64 (↑a_4.B : Int)) = SV.val (Value.int IntKind.i64 (↑a'.B : Int)) ∧ true = true) ∧
      (SV.val (Value.int IntKind.i64 (↑n : Int)) = SV.val (Value.int IntKind.i64 (↑n : Int)) ∧ true = true) ∧
      (SV.val (Value.slice av n c) = SV.val (Value.slice av n c) ∧ true = true) ∧
      (SV.val
      (Value.func (Fn.func (58 : FuncId)) #[]
      #[Value.pointer (some { block := bl, off := (0 : Nat) : Addr })]) =
      SV.val
      (Value.func (Fn.func (58 : FuncId)) #[]
      #[Value.pointer (some { block := bl, off := (0 : Nat) : Addr })]) ∧
      true = true) ∧
      True) ∧
      True) ∧
      [n - a.B] = [n - a'.B]) ∧
      n - a'.a + (1 : Nat) < n - a_4.a + (1 : Nat))
      (ifB (decide (IntKind.i64.wrap ((↑a_4.a : Int) + (↑a_4.B : Int)) < (↑n : Int)))
      (∃ (S' : Nat → Prop),
      (∀ (b_1 : Nat), S' b_1 → a_4.m.uf b_1 ∧ (m.sz ≤ b_1 ∨ (0 : Nat) < n ∧ b_1 = b)) ∧
      ∀ (n_2 : Nat),
      a_4.m.sz ≤ n_2 →
      SpecW Try.prog (73 : Nat)
      [Value.slice av n c, Value.int IntKind.i64 (↑a_4.a : Int),
      Value.int IntKind.i64 (IntKind.i64.wrap ((↑a_4.a : Int) + (↑a_4.B : Int))), Value.int IntKind.i64 (↑n : Int),
      Value.func (Fn.func (58 : FuncId)) #[] #[Value.pointer (some { block := bl, off := (0 : Nat) : Addr })]]
      { π := a_4.m.π, sz := n_2, uf := a_4.m.uf : M } S' fun (v : Value) (m' : M) =>
      v = Value.tuple #[] ∧
      ∃ (a' : SoX),
      ((SoI b o n env ok f g m a' ∧ (20 : Nat) ≤ a'.B ∧ a'.B ≤ (2 : Nat) * n + (20 : Nat) ∧ Blk f a'.B n a'.g) ∧
      m' = a'.m ∧
      ((SV.val (Value.int IntKind.i64 (IntKind.i64.wrap ((↑a_4.B : Int) * (2 : Int)))) =
      SV.val (Value.int IntKind.i64 (↑a'.B : Int)) ∧
      true = true) ∧
      (SV.val (Value.int IntKind.i64 (↑n : Int)) = SV.val (Value.int IntKind.i64 (↑n : Int)) ∧ true = true) ∧
      (SV.val (Value.slice av n c) = SV.val (Value.slice av n c) ∧ true = true) ∧
      (SV.val
      (Value.func (Fn.func (58 : FuncId)) #[]
      #[Value.pointer (some { block := bl, off := (0 : Nat) : Addr })]) =
      SV.val
      (Value.func (Fn.func (58 : FuncId)) #[]
      #[Value.pointer (some { block := bl, off := (0 : Nat) : Addr })]) ∧
      true = true) ∧
      True) ∧
      True) ∧
      n - a'.B < n - a.B)
      (∃ (a' : SoX),
      ((SoI b o n env ok f g m a' ∧ (20 : Nat) ≤ a'.B ∧ a'.B ≤ (2 : Nat) * n + (20 : Nat) ∧ Blk f a'.B n a'.g) ∧
      a_4.m = a'.m ∧
      ((SV.val (Value.int IntKind.i64 (IntKind.i64.wrap ((↑a_4.B : Int) * (2 : Int)))) = SV.val (Value.int IntKind.i64 (↑a'.B : Int)) ∧
      true = true) ∧
      (SV.val (Value.int IntKind.i64 (↑n : Int)) = SV.val (Value.int IntKind.i64 (↑n : Int)) ∧ true = true) ∧
      (SV.val (Value.slice av n c) = SV.val (Value.slice av n c) ∧ true = true) ∧
      (SV.val (Value.func (Fn.func (58 : FuncId)) #[] #[Value.pointer (some { block := bl, off := (0 : Nat) : Addr })]) =
      SV.val (Value.func (Fn.func (58 : FuncId)) #[] #[Value.pointer (some { block := bl, off := (0 : Nat) : Addr })]) ∧
      true = true) ∧
      True) ∧
      True) ∧
      n - a'.B < n - a.B)))
      (Done (Value.tuple #[] = Value.tuple #[] ∧ ∃ (g' : Nat → Int), DatC b o n env ok g' a.m ∧ Mem (0 : Nat) n g g' ∧ Srt f (0 : Nat) n g')))) (by kernel_rfl) ?_
  have hS : ∀ (t : M) (g' : Nat → Int), DatC b o n env ok g' t → ∀ z, (0 < n ∧ z = b) → t.uf z ∧ (m.sz ≤ z ∨ (0 < n ∧ z = b)) := fun t g' D z ⟨h0, e⟩ => by subst e; exact ⟨D.uf h0, .inr ⟨h0, rfl⟩⟩
  have nxt : ∀ (t : SoX) (a' b' : Nat) (g' : Nat → Int) (m' : M) (N : Nat) (B' q' : Nat), SoI b o n env ok f g m t → b' ≤ n → DatC b o n env ok g' m' → Mem a' b' t.g g' → Srt f a' b' g' → t.m.sz ≤ N → N ≤ m'.sz → SoI b o n env ok f g m ⟨a', B', q', g', m'⟩ := fun t a' b' g' m' N B' q' T h1 hd hm hs h2 h3 => ⟨hd, T.mem.trans (hm.wide (Nat.zero_le _) h1), T.stb.mem hm hs (Nat.zero_le _) h1, by have := T.sz; simp only; omega⟩
  refine ⟨rfl, ⟨⟨0, 20, 0, g, m⟩, ⟨⟨h, .refl, hst, Nat.le_refl _⟩, by simp, fun k hk => by simp at hk⟩, rfl, by simp⟩, fun t ⟨T, t1, t2⟩ => ifB_intro (fun hb => ?_) (fun hb => ?_)⟩
  · have hle : t.q * 20 + 20 ≤ n := by simp at hb; omega
    have w1 : IntKind.i64.wrap (((t.q * 20 + 20 : Nat) : Int) + 20) = (((t.q + 1) * 20 + 20 : Nat) : Int) := wrapN (by simp; omega) (by omega)
    rw [w1]
    refine ⟨fun z => 0 < n ∧ z = b, hS _ _ T.dat, fun N hN => (inssort_s av b o n c bl (t.q * 20) (t.q * 20 + 20) ha env ok f C t.g hn (by omega) hle (T.stb.sub (Nat.zero_le _) hle) _ (T.dat.sz C hN)).mono fun v m' hag ⟨e, g', hd, hm, hs⟩ => ⟨e, ⟨t.q * 20, 0, t.q + 1, g', m'⟩, ⟨⟨nxt t _ _ g' m' N _ _ T hle hd hm hs hN hag.2.2, by simp only; omega, fun k hk => ?_⟩, rfl, by simp; omega⟩, by simp only; omega⟩⟩
    simp only at hk
    by_cases e2 : k = t.q
    · rw [e2]; exact hs
    · exact (t2 k (by omega)).mem hm (.inl (by omega))
  · have hgt : n < t.q * 20 + 20 := by simp at hb; omega
    refine ⟨fun z => 0 < n ∧ z = b, hS _ _ T.dat, fun N hN => (inssort_s av b o n c bl (t.q * 20) n ha env ok f C t.g hn t1 (Nat.le_refl _) (T.stb.sub (Nat.zero_le _) (Nat.le_refl _)) _ (T.dat.sz C hN)).mono fun v m' hag ⟨e, g', hd, hm, hs⟩ => ⟨e, ⟨⟨t.q * 20, 20, 0, g', m'⟩, ⟨nxt t _ _ g' m' N _ _ T (Nat.le_refl _) hd hm hs hN hag.2.2, Nat.le_refl _, by simp only; omega, Blk.twenty (fun k hk => (t2 k hk).mem hm (.inl (by omega))) t1 hgt hs⟩, rfl, by simp⟩, fun u ⟨U, u1, u2, u3⟩ => ifB_intro (fun hb2 => ⟨⟨⟨0, u.B, 0, u.g, u.m⟩, ⟨⟨⟨U.dat, U.mem, U.stb, U.sz⟩, u1, ?_, u3.start⟩, rfl, ?_⟩, rfl⟩, fun x ⟨⟨X, x1, x2, x3⟩, xc⟩ => ?_⟩) (fun hb2 => ⟨rfl, u.g, U.dat, U.mem, u3.whole ?_⟩)⟩⟩
    · simpa using hb2
    · have w1 : IntKind.i64.wrap (2 * (u.B : Int)) = ((2 * u.B : Nat) : Int) := wrapN (by simp) (by omega)
      rw [w1]; simp
    · have hub : u.B < n := by simpa using hb2
      have exb : x.B = u.B := by simp at xc; omega
      have hle := x3.le
      have w1 : IntKind.i64.wrap (2 * (x.B : Int)) = ((2 * x.B : Nat) : Int) := wrapN (by simp) (by omega)
      rw [w1]
      have w2 : IntKind.i64.wrap (((x.a + 2 * x.B : Nat) : Int) + ((2 * x.B : Nat) : Int)) = ((x.a + 2 * x.B + 2 * x.B : Nat) : Int) := wrapN (by simp) (by omega)
      have w3 : IntKind.i64.wrap ((x.a : Int) + x.B) = ((x.a + x.B : Nat) : Int) := wrapN (by simp) (by omega)
      have w4 : IntKind.i64.wrap ((x.B : Int) * 2) = ((2 * x.B : Nat) : Int) := wrapN (by simp; omega) (by omega)
      rw [w2, w3, w4]
      refine ifB_intro (fun hb3 => ?_) (fun hb3 => ifB_intro (fun hb4 => ?_) (fun hb4 => ?_))
      · have h1 : x.a + 2 * x.B ≤ n := by simp at hb3; omega
        obtain ⟨s1, s2⟩ := x3.half (b := x.a + 2 * x.B) (by omega) (by omega)
        refine ⟨fun z => 0 < n ∧ z = b, hS _ _ X.dat, fun N2 hN2 => (symmerge_s av b o n c bl ha env ok f C hn n x.a (x.a + x.B) (x.a + 2 * x.B) x.g (by omega) (by omega) (by omega) h1 (X.stb.sub (Nat.zero_le _) h1) s1 s2 _ (X.dat.sz C hN2)).mono fun v m2 hag2 ⟨e, g2, hd2, hm2, hs2⟩ => ⟨e, ⟨x.a + 2 * x.B, x.B, x.q + 1, g2, m2⟩, ⟨⟨⟨?_, x1, x2, x3.step h1 hm2 hs2⟩, rfl, by simp⟩, xc⟩, by simp only; omega⟩⟩
        have K := nxt x _ _ g2 m2 N2 0 0 X h1 hd2 hm2 hs2 hN2 hag2.2.2
        exact ⟨K.dat, K.mem, K.stb, K.sz⟩
      · have h1 : n < x.a + 2 * x.B := by simp at hb3; omega
        have h2 : x.a + x.B < n := by simp at hb4; omega
        obtain ⟨s1, s2⟩ := x3.half (b := n) h2 (by omega)
        refine ⟨fun z => 0 < n ∧ z = b, hS _ _ X.dat, fun N2 hN2 => (symmerge_s av b o n c bl ha env ok f C hn n x.a (x.a + x.B) n x.g (by omega) (by omega) h2 (Nat.le_refl _) (X.stb.sub (Nat.zero_le _) (Nat.le_refl _)) s1 s2 _ (X.dat.sz C hN2)).mono fun v m2 hag2 ⟨e, g2, hd2, hm2, hs2⟩ => ⟨e, ⟨x.a, 2 * x.B, 0, g2, m2⟩, ⟨⟨?_, by simp only; omega, by simp only; omega, x3.last h1 hm2 hs2⟩, rfl, by simp⟩, by simp only; omega⟩⟩
        have K := nxt x _ _ g2 m2 N2 0 0 X (Nat.le_refl _) hd2 hm2 hs2 hN2 hag2.2.2
        exact ⟨K.dat, K.mem, K.stb, K.sz⟩
      · have h1 : n < x.a + 2 * x.B := by simp at hb3; omega
        have h2 : n ≤ x.a + x.B := by simp at hb4; omega
        exact ⟨⟨0, 2 * x.B, 0, x.g, x.m⟩, ⟨⟨⟨X.dat, X.mem, X.stb, X.sz⟩, by simp only; omega, by simp only; omega, x3.last2 h1 h2⟩, rfl, by simp⟩, by simp only; omega⟩
    · simp at hb2; omega

theorem sortstable_s (av : Option Addr) (b o n c bl : Nat) (ha : 0 < n → av = some ⟨b, o, none⟩) (env : M → Prop) (ok : Int → Prop) (f : Int → Int) (C : CmpC b bl env ok f) (g : Nat → Int) (hn : n ≤ 4194304) (hst : Stb f 0 n g) (m : M) (h : DatC b o n env ok g m) :
    SpecW Try.prog 57 [.slice av n c, cmpV bl] m (fun z => 0 < n ∧ z = b) fun v m' => v = .tuple #[] ∧ ∃ g', DatC b o n env ok g' m' ∧ Mem 0 n g g' ∧ Srt f 0 n g' := by
  refine SpecW.of_vc Try.func57 (ann := fun _ => noAnn 0) ?_
  refine vc_by (X :=
      true = true ∧
      ∃ (S' : Nat → Prop),
      (∀ (b_1 : Nat), S' b_1 → m.uf b_1 ∧ (m.sz ≤ b_1 ∨ (0 : Nat) < n ∧ b_1 = b)) ∧
      ∀ (n_1 : Nat),
      m.sz ≤ n_1 →
      SpecW Try.prog (68 : Nat)
      [Value.slice av n c, Value.int IntKind.i64 (↑n : Int), Value.func (Fn.func (58 : FuncId)) #[] #[Value.pointer (some { block := bl, off := (0 : Nat) : Addr })]]
      { π := m.π, sz := n_1, uf := m.uf : M } S' fun (v : Value) (m' : M) =>
      v = Value.tuple #[] ∧ Done (Value.tuple #[] = Value.tuple #[] ∧ ∃ (g' : Nat → Int), DatC b o n env ok g' m' ∧ Mem (0 : Nat) n g g' ∧ Srt f (0 : Nat) n g')) (by kernel_rfl) ?_
  exact ⟨rfl, fun z => 0 < n ∧ z = b, fun z ⟨h0, e⟩ => by subst e; exact ⟨h.uf h0, .inr ⟨h0, rfl⟩⟩, fun N hN => (stable_s av b o n c bl ha env ok f C g hn hst _ (h.sz C hN)).mono fun v m' hag ⟨e, g', hd, hm, hs⟩ => ⟨e, rfl, g', hd, hm, hs⟩⟩

end Go.Proofs.Ytbhlhnkjmncloaa
