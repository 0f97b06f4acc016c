/-
  Contracts of functions of this seat: what each hands back, and what it leaves of memory (srt3, wit9, wit7, wit10, wit11, wit12, wit13). Nothing here is trusted: Lean checks it.
-/
import Derived.Test.YtbhlhnkjmncloaaPart2
set_option linter.unusedVariables false
set_option linter.unusedSimpArgs false
namespace Go.Proofs.Ytbhlhnkjmncloaa
open Go.Vc Go.RowKit
set_option maxRecDepth 100000

structure SoX where
  a : Nat
  B : Nat
  q : Nat
  g : Nat → Int
  m : M

structure SoI (b o n : Nat) (env : M → Prop) (ok : Int → Prop) (f : Int → Int) (g : Nat → Int) (m : M) (t : SoX) : Prop where
  dat : DatC b o n env ok t.g t.m
  mem : Mem 0 n g t.g
  stb : Stb f 0 n t.g
  sz : m.sz ≤ t.m.sz

theorem stable_s (av : Option Addr) (b o n c bl : Nat) (ha : 0 < n → av = some ⟨b, o, none⟩) (env : M → Prop) (ok : Int → Prop) (f : Int → Int) (C : CmpC b bl env ok f) (g : Nat → Int) (hn : n ≤ 3518437208870) (hst : Stb f 0 n g) (m : M) (h : DatC b o n env ok g m) :
    SpecW Try.prog 68 [.slice av n c, I n, cmpV bl] m (fun z => 0 < n ∧ z = b) fun v m' => v = .tuple #[] ∧ ∃ g', DatC b o n env ok g' m' ∧ Mem 0 n g g' ∧ Srt f 0 n g' := by
  refine SpecW.of_vc Try.func68 (ann := fun r => match r with
    | 2 => { A := SoX, inv := fun t => SoI b o n env ok f g m t ∧ t.q * 20 ≤ n ∧ ∀ k, k < t.q → Srt f (k * 20) (k * 20 + 20) t.g, st := fun t => [(8, .val (I (t.q * 20 + 20 : Nat))), (7, .val (I (t.q * 20 : Nat))), (6, .val (I 20)), (1, .val (I n)), (0, .val (.slice av n c)), (2, .val (cmpV bl))], own := fun _ => [], m := fun t => t.m, μ := fun t => n - t.q * 20 + 1 }
    | 7 => { A := SoX, inv := fun t => SoI b o n env ok f g m t ∧ 20 ≤ t.B ∧ t.B ≤ 2 * n + 20 ∧ Blk f t.B n t.g, st := fun t => [(6, .val (I t.B)), (1, .val (I n)), (0, .val (.slice av n c)), (2, .val (cmpV bl))], own := fun _ => [], m := fun t => t.m, μ := fun t => n - t.B }
    | 9 => { A := SoX, inv := fun t => SoI b o n env ok f g m t ∧ 20 ≤ t.B ∧ t.B < n ∧ Pair f t.B n t.q t.a t.g, st := fun t => [(8, .val (I (t.a + 2 * t.B : Nat))), (7, .val (I t.a)), (6, .val (I t.B)), (1, .val (I n)), (0, .val (.slice av n c)), (2, .val (cmpV bl))], own := fun _ => [], m := fun t => t.m, μ := fun t => n - t.a + 1, link := some fun t ctx => ctx = [n - t.B] }
    | _ => noAnn 0) ?_
  refine vc_by (X :=
      true = true ∧
      (∃ (a : SoX),
      (SoI b o n env ok f g m a ∧ a.q * (20 : Nat) ≤ n ∧ ∀ (k : Nat), k < a.q → Srt f (k * (20 : Nat)) (k * (20 : Nat) + (20 : Nat)) a.g) ∧
      m = a.m ∧
      ((SV.val (Value.int IntKind.i64 (20 : Int)) = SV.val (Value.int IntKind.i64 (↑(a.q * (20 : Nat) + (20 : Nat)) : Int)) ∧ true = true) ∧
      (SV.val (Value.int IntKind.i64 (0 : Int)) = SV.val (Value.int IntKind.i64 (↑(a.q * (20 : Nat)) : Int)) ∧ true = true) ∧
      (SV.val (Value.int IntKind.i64 (20 : Int)) = SV.val (Value.int IntKind.i64 (20 : Int)) ∧ true = true) ∧
      (SV.val (Value.int IntKind.i64 (↑n : Int)) = SV.val (Value.int IntKind.i64 (↑n : Int)) ∧ true = true) ∧
      (SV.val (Value.slice av n c) = SV.val (Value.slice av n c) ∧ true = true) ∧
      (SV.val (Value.func (Fn.func (58 : FuncId)) #[] #[Value.pointer (some { block := bl, off := (0 : Nat) : Addr })]) =
      SV.val (Value.func (Fn.func (58 : FuncId)) #[] #[Value.pointer (some { block := bl, off := (0 : Nat) : Addr })]) ∧
      true = true) ∧
      True) ∧
      True) ∧
      ∀ (a : SoX),
      (SoI b o n env ok f g m a ∧ a.q * (20 : Nat) ≤ n ∧ ∀ (k : Nat), k < a.q → Srt f (k * (20 : Nat)) (k * (20 : Nat) + (20 : Nat)) a.g) →
      ifB (decide ((↑(a.q * (20 : Nat) + (20 : Nat)) : Int) ≤ (↑n : Int)))
      (∃ (S' : Nat → Prop),
      (∀ (b_1 : Nat), S' b_1 → a.m.uf b_1 ∧ (m.sz ≤ b_1 ∨ (0 : Nat) < n ∧ b_1 = b)) ∧
      ∀ (n_1 : Nat),
      a.m.sz ≤ n_1 →
      SpecW Try.prog (72 : Nat)
      [Value.slice av n c, Value.int IntKind.i64 (↑(a.q * (20 : Nat)) : Int), Value.int IntKind.i64 (↑(a.q * (20 : Nat) + (20 : Nat)) : Int),
      Value.func (Fn.func (58 : FuncId)) #[] #[Value.pointer (some { block := bl, off := (0 : Nat) : Addr })]]
      { π := a.m.π, sz := n_1, uf := a.m.uf : M } S' fun (v : Value) (m' : M) =>
      v = Value.tuple #[] ∧
      ∃ (a' : SoX),
      ((SoI b o n env ok f g m a' ∧ a'.q * (20 : Nat) ≤ n ∧ ∀ (k : Nat), k < a'.q → Srt f (k * (20 : Nat)) (k * (20 : Nat) + (20 : Nat)) a'.g) ∧
      m' = a'.m ∧
      ((SV.val (Value.int IntKind.i64 (IntKind.i64.wrap ((↑(a.q * (20 : Nat) + (20 : Nat)) : Int) + (20 : Int)))) =
      SV.val (Value.int IntKind.i64 (↑(a'.q * (20 : Nat) + (20 : Nat)) : Int)) ∧
      true = true) ∧
      (SV.val (Value.int IntKind.i64 (↑(a.q * (20 : Nat) + (20 : Nat)) : Int)) = SV.val (Value.int IntKind.i64 (↑(a'.q * (20 : Nat)) : Int)) ∧
      true = true) ∧
      (SV.val (Value.int IntKind.i64 (20 : Int)) = SV.val (Value.int IntKind.i64 (20 : Int)) ∧ true = true) ∧
      (SV.val (Value.int IntKind.i64 (↑n : Int)) = SV.val (Value.int IntKind.i64 (↑n : Int)) ∧ true = true) ∧
      (SV.val (Value.slice av n c) = SV.val (Value.slice av n c) ∧ true = true) ∧
      (SV.val (Value.func (Fn.func (58 : FuncId)) #[] #[Value.pointer (some { block := bl, off := (0 : Nat) : Addr })]) =
      SV.val (Value.func (Fn.func (58 : FuncId)) #[] #[Value.pointer (some { block := bl, off := (0 : Nat) : Addr })]) ∧
      true = true) ∧
      True) ∧
      True) ∧
      n - a'.q * (20 : Nat) + (1 : Nat) < n - a.q * (20 : Nat) + (1 : Nat))
      (∃ (S' : Nat → Prop),
      (∀ (b_1 : Nat), S' b_1 → a.m.uf b_1 ∧ (m.sz ≤ b_1 ∨ (0 : Nat) < n ∧ b_1 = b)) ∧
      ∀ (n_1 : Nat),
      a.m.sz ≤ n_1 →
      SpecW Try.prog (72 : Nat)
      [Value.slice av n c, Value.int IntKind.i64 (↑(a.q * (20 : Nat)) : Int), Value.int IntKind.i64 (↑n : Int),
      Value.func (Fn.func (58 : FuncId)) #[] #[Value.pointer (some { block := bl, off := (0 : Nat) : Addr })]]
      { π := a.m.π, sz := n_1, uf := a.m.uf : M } S' fun (v : Value) (m' : M) =>
      v = Value.tuple #[] ∧
      (∃ (a : SoX),
      (SoI b o n env ok f g m a ∧ (20 : Nat) ≤ a.B ∧ a.B ≤ (2 : Nat) * n + (20 : Nat) ∧ Blk f a.B n a.g) ∧
      m' = a.m ∧
      ((SV.val (Value.int IntKind.i64 (20 : Int)) = SV.val (Value.int IntKind.i64 (↑a.B : Int)) ∧ true = true) ∧
      (SV.val (Value.int IntKind.i64 (↑n : Int)) = SV.val (Value.int IntKind.i64 (↑n : Int)) ∧ true = true) ∧
      (SV.val (Value.slice av n c) = SV.val (Value.slice av n c) ∧ true = true) ∧
      (SV.val (Value.func (Fn.func (58 : FuncId)) #[] #[Value.pointer (some { block := bl, off := (0 : Nat) : Addr })]) =
      SV.val (Value.func (Fn.func (58 : FuncId)) #[] #[Value.pointer (some { block := bl, off := (0 : Nat) : Addr })]) ∧
      true = true) ∧
      True) ∧
      True) ∧
      ∀ (a : SoX),
      SoI b o n env ok f g m a ∧ (20 : Nat) ≤ a.B ∧ a.B ≤ (2 : Nat) * n + (20 : Nat) ∧ Blk f a.B n a.g →
      ifB (decide ((↑a.B : Int) < (↑n : Int)))
      ((∃ (a_4 : SoX),
      ((SoI b o n env ok f g m a_4 ∧ (20 : Nat) ≤ a_4.B ∧ a_4.B < n ∧ Pair f a_4.B n a_4.q a_4.a a_4.g) ∧
      a.m = a_4.m ∧
      ((SV.val (Value.int IntKind.i64 (IntKind.i64.wrap ((2 : Int) * (↑a.B : Int)))) =
      SV.val (Value.int IntKind.i64 (↑(a_4.a + (2 : Nat) * a_4.B) : Int)) ∧
      true = true) ∧
      (SV.val (Value.int IntKind.i64 (0 : Int)) = SV.val (Value.int IntKind.i64 (↑a_4.a : Int)) ∧ true = true) ∧
      (SV.val (Value.int IntKind.i64 (↑a.B : Int)) = SV.val (Value.int IntKind.i64 (↑a_4.B : Int)) ∧ true = true) ∧
      (SV.val (Value.int IntKind.i64 (↑n : Int)) = SV.val (Value.int IntKind.i64 (↑n : Int)) ∧ true = true) ∧
      (SV.val (Value.slice av n c) = SV.val (Value.slice av n c) ∧ true = true) ∧
      (SV.val (Value.func (Fn.func (58 : FuncId)) #[] #[Value.pointer (some { block := bl, off := (0 : Nat) : Addr })]) =
      SV.val (Value.func (Fn.func (58 : FuncId)) #[] #[Value.pointer (some { block := bl, off := (0 : Nat) : Addr })]) ∧
      true = true) ∧
      True) ∧
      True) ∧
      [n - a.B] = [n - a_4.B]) ∧
      ∀ (a_4 : SoX),
      (SoI b o n env ok f g m a_4 ∧ (20 : Nat) ≤ a_4.B ∧ a_4.B < n ∧ Pair f a_4.B n a_4.q a_4.a a_4.g) ∧ [n - a.B] = [n - a_4.B] →
      ifB (decide ((↑(a_4.a + (2 : Nat) * a_4.B) : Int) ≤ (↑n : Int)))
      (∃ (S' : Nat → Prop),
      (∀ (b_1 : Nat), S' b_1 → a_4.m.uf b_1 ∧ (m.sz ≤ b_1 ∨ (0 : Nat) < n ∧ b_1 = b)) ∧
      ∀ (n_2 : Nat),
      a_4.m.sz ≤ n_2 →
      SpecW Try.prog (73 : Nat)
      [Value.slice av n c, Value.int IntKind.i64 (↑a_4.a : Int),
      Value.int IntKind.i64 (IntKind.i64.wrap ((↑a_4.a : Int) + (↑a_4.B : Int))),
      Value.int IntKind.i64 (↑(a_4.a + (2 : Nat) * a_4.B) : Int),
      Value.func (Fn.func (58 : FuncId)) #[] #[Value.pointer (some { block := bl, off := (0 : Nat) : Addr })]]
      { π := a_4.m.π, sz := n_2, uf := a_4.m.uf : M } S' fun (v : Value) (m' : M) =>
      v = Value.tuple #[] ∧
      ∃ (a' : SoX),
      (((SoI b o n env ok f g m a' ∧ (20 : Nat) ≤ a'.B ∧ a'.B < n ∧ Pair f a'.B n a'.q a'.a a'.g) ∧
      m' = a'.m ∧
      ((SV.val
      (Value.int IntKind.i64
      (IntKind.i64.wrap ((↑(a_4.a + (2 : Nat) * a_4.B) : Int) + IntKind.i64.wrap ((2 : Int) * (↑a_4.B : Int))))) =
      SV.val (Value.int IntKind.i64 (↑(a'.a + (2 : Nat) * a'.B) : Int)) ∧
      true = true) ∧
      (SV.val (Value.int IntKind.i64 (↑(a_4.a + (2 : Nat) * a_4.B) : Int)) =
      SV.val (Value.int IntKind.i64 (↑a'.a : Int)) ∧
      true = true) ∧
      (SV.val (Value.int IntKind.i64 (↑a_4.B : Int)) = SV.val (Value.int IntKind.i64 (↑a'.B : Int)) ∧ true = true) ∧
      (SV.val (Value.int IntKind.i64 (↑n : Int)) = SV.val (Value.int IntKind.i64 (↑n : Int)) ∧ true = true) ∧
      (SV.val (Value.slice av n c) = SV.val (Value.slice av n c) ∧ true = true) ∧
      (SV.val
      (Value.func (Fn.func (58 : FuncId)) #[]
      #[Value.pointer (some { block := bl, off := (0 : Nat) : Addr })]) =
      SV.val
      (Value.func (Fn.func (58 : FuncId)) #[]
      #[Value.pointer (some { block := bl, off := (0 : Nat) : Addr })]) ∧
      true = true) ∧
      True) ∧
      True) ∧
      [n - a.B] = [n - a'.B]) ∧
      n - a'.a + (1 : Nat) < n - a_4.a + (1 : Nat))
      (ifB (decide (IntKind.i64.wrap ((↑a_4.a : Int) + (↑a_4.B : Int)) < (↑n : Int)))
      (∃ (S' : Nat → Prop),
      (∀ (b_1 : Nat), S' b_1 → a_4.m.uf b_1 ∧ (m.sz ≤ b_1 ∨ (0 : Nat) < n ∧ b_1 = b)) ∧
      ∀ (n_2 : Nat),
      a_4.m.sz ≤ n_2 →
      SpecW Try.prog (73 : Nat)
      [Value.slice av n c, Value.int IntKind.i64 (↑a_4.a : Int),
      Value.int IntKind.i64 (IntKind.i64.wrap ((↑a_4.a : Int) + (↑a_4.B : Int))), Value.int IntKind.i64 (↑n : Int),
      Value.func (Fn.func (58 : FuncId)) #[] #[Value.pointer (some { block := bl, off := (0 : Nat) : Addr })]]
      { π := a_4.m.π, sz := n_2, uf := a_4.m.uf : M } S' fun (v : Value) (m' : M) =>
      v = Value.tuple #[] ∧
      ∃ (a' : SoX),
      ((SoI b o n env ok f g m a' ∧ (20 : Nat) ≤ a'.B ∧ a'.B ≤ (2 : Nat) * n + (20 : Nat) ∧ Blk f a'.B n a'.g) ∧
      m' = a'.m ∧
      ((SV.val (Value.int IntKind.i64 (IntKind.i64.wrap ((↑a_4.B : Int) * (2 : Int)))) =
      SV.val (Value.int IntKind.i64 (↑a'.B : Int)) ∧
      true = true) ∧
      (SV.val (Value.int IntKind.i64 (↑n : Int)) = SV.val (Value.int IntKind.i64 (↑n : Int)) ∧ true = true) ∧
      (SV.val (Value.slice av n c) = SV.val (Value.slice av n c) ∧ true = true) ∧
      (SV.val
      (Value.func (Fn.func (58 : FuncId)) #[]
      #[Value.pointer (some { block := bl, off := (0 : Nat) : Addr })]) =
      SV.val
      (Value.func (Fn.func (58 : FuncId)) #[]
      #[Value.pointer (some { block := bl, off := (0 : Nat) : Addr })]) ∧
      true = true) ∧
      True) ∧
      True) ∧
      n - a'.B < n - a.B)
      (∃ (a' : SoX),
      ((SoI b o n env ok f g m a' ∧ (20 : Nat) ≤ a'.B ∧ a'.B ≤ (2 : Nat) * n + (20 : Nat) ∧ Blk f a'.B n a'.g) ∧
      a_4.m = a'.m ∧
      ((SV.val (Value.int IntKind.i64 (IntKind.i64.wrap ((↑a_4.B : Int) * (2 : Int)))) = SV.val (Value.int IntKind.i64 (↑a'.B : Int)) ∧
      true = true) ∧
      (SV.val (Value.int IntKind.i64 (↑n : Int)) = SV.val (Value.int IntKind.i64 (↑n : Int)) ∧ true = true) ∧
      (SV.val (Value.slice av n c) = SV.val (Value.slice av n c) ∧ true = true) ∧
      (SV.val (Value.func (Fn.func (58 : FuncId)) #[] #[Value.pointer (some { block := bl, off := (0 : Nat) : Addr })]) =
      SV.val (Value.func (Fn.func (58 : FuncId)) #[] #[Value.pointer (some { block := bl, off := (0 : Nat) : Addr })]) ∧
      true = true) ∧
      True) ∧
      True) ∧
      n - a'.B < n - a.B)))
      (Done (Value.tuple #[] = Value.tuple #[] ∧ ∃ (g' : Nat → Int), DatC b o n env ok g' a.m ∧ Mem (0 : Nat) n g g' ∧ Srt f (0 : Nat) n g')))) (by kernel_rfl) ?_
  have hS : ∀ (t : M) (g' : Nat → Int), DatC b o n env ok g' t → ∀ z, (0 < n ∧ z = b) → t.uf z ∧ (m.sz ≤ z ∨ (0 < n ∧ z = b)) := fun t g' D z ⟨h0, e⟩ => by subst e; exact ⟨D.uf h0, .inr ⟨h0, rfl⟩⟩
  have nxt : ∀ (t : SoX) (a' b' : Nat) (g' : Nat → Int) (m' : M) (N : Nat) (B' q' : Nat), SoI b o n env ok f g m t → b' ≤ n → DatC b o n env ok g' m' → Mem a' b' t.g g' → Srt f a' b' g' → t.m.sz ≤ N → N ≤ m'.sz → SoI b o n env ok f g m ⟨a', B', q', g', m'⟩ := fun t a' b' g' m' N B' q' T h1 hd hm hs h2 h3 => ⟨hd, T.mem.trans (hm.wide (Nat.zero_le _) h1), T.stb.mem hm hs (Nat.zero_le _) h1, by have := T.sz; simp only; omega⟩
  refine ⟨rfl, ⟨⟨0, 20, 0, g, m⟩, ⟨⟨h, .refl, hst, Nat.le_refl _⟩, by simp, fun k hk => by simp at hk⟩, rfl, by simp⟩, fun t ⟨T, t1, t2⟩ => ifB_intro (fun hb => ?_) (fun hb => ?_)⟩
  · have hle : t.q * 20 + 20 ≤ n := by simp at hb; omega
    have w1 : IntKind.i64.wrap (((t.q * 20 + 20 : Nat) : Int) + 20) = (((t.q + 1) * 20 + 20 : Nat) : Int) := wrapN (by simp; omega) (by omega)
    rw [w1]
    refine ⟨fun z => 0 < n ∧ z = b, hS _ _ T.dat, fun N hN => (inssort_s av b o n c bl (t.q * 20) (t.q * 20 + 20) ha env ok f C t.g hn (by omega) hle (T.stb.sub (Nat.zero_le _) hle) _ (T.dat.sz C hN)).mono fun v m' hag ⟨e, g', hd, hm, hs⟩ => ⟨e, ⟨t.q * 20, 0, t.q + 1, g', m'⟩, ⟨⟨nxt t _ _ g' m' N _ _ T hle hd hm hs hN hag.2.2, by simp only; omega, fun k hk => ?_⟩, rfl, by simp; omega⟩, by simp only; omega⟩⟩
    simp only at hk
    by_cases e2 : k = t.q
    · rw [e2]; exact hs
    · exact (t2 k (by omega)).mem hm (.inl (by omega))
  · have hgt : n < t.q * 20 + 20 := by simp at hb; omega
    refine ⟨fun z => 0 < n ∧ z = b, hS _ _ T.dat, fun N hN => (inssort_s av b o n c bl (t.q * 20) n ha env ok f C t.g hn t1 (Nat.le_refl _) (T.stb.sub (Nat.zero_le _) (Nat.le_refl _)) _ (T.dat.sz C hN)).mono fun v m' hag ⟨e, g', hd, hm, hs⟩ => ⟨e, ⟨⟨t.q * 20, 20, 0, g', m'⟩, ⟨nxt t _ _ g' m' N _ _ T (Nat.le_refl _) hd hm hs hN hag.2.2, Nat.le_refl _, by simp only; omega, Blk.twenty (fun k hk => (t2 k hk).mem hm (.inl (by omega))) t1 hgt hs⟩, rfl, by simp⟩, fun u ⟨U, u1, u2, u3⟩ => ifB_intro (fun hb2 => ⟨⟨⟨0, u.B, 0, u.g, u.m⟩, ⟨⟨⟨U.dat, U.mem, U.stb, U.sz⟩, u1, ?_, u3.start⟩, rfl, ?_⟩, rfl⟩, fun x ⟨⟨X, x1, x2, x3⟩, xc⟩ => ?_⟩) (fun hb2 => ⟨rfl, u.g, U.dat, U.mem, u3.whole ?_⟩)⟩⟩
    · simpa using hb2
    · have w1 : IntKind.i64.wrap (2 * (u.B : Int)) = ((2 * u.B : Nat) : Int) := wrapN (by simp) (by omega)
      rw [w1]; simp
    · have hub : u.B < n := by simpa using hb2
      have exb : x.B = u.B := by simp at xc; omega
      have hle := x3.le
      have w1 : IntKind.i64.wrap (2 * (x.B : Int)) = ((2 * x.B : Nat) : Int) := wrapN (by simp) (by omega)
      rw [w1]
      have w2 : IntKind.i64.wrap (((x.a + 2 * x.B : Nat) : Int) + ((2 * x.B : Nat) : Int)) = ((x.a + 2 * x.B + 2 * x.B : Nat) : Int) := wrapN (by simp) (by omega)
      have w3 : IntKind.i64.wrap ((x.a : Int) + x.B) = ((x.a + x.B : Nat) : Int) := wrapN (by simp) (by omega)
      have w4 : IntKind.i64.wrap ((x.B : Int) * 2) = ((2 * x.B : Nat) : Int) := wrapN (by simp; omega) (by omega)
      rw [w2, w3, w4]
      refine ifB_intro (fun hb3 => ?_) (fun hb3 => ifB_intro (fun hb4 => ?_) (fun hb4 => ?_))
      · have h1 : x.a + 2 * x.B ≤ n := by simp at hb3; omega
        obtain ⟨s1, s2⟩ := x3.half (b := x.a + 2 * x.B) (by omega) (by omega)
        refine ⟨fun z => 0 < n ∧ z = b, hS _ _ X.dat, fun N2 hN2 => (symmerge_s av b o n c bl ha env ok f C hn n x.a (x.a + x.B) (x.a + 2 * x.B) x.g (by omega) (by omega) (by omega) h1 (X.stb.sub (Nat.zero_le _) h1) s1 s2 _ (X.dat.sz C hN2)).mono fun v m2 hag2 ⟨e, g2, hd2, hm2, hs2⟩ => ⟨e, ⟨x.a + 2 * x.B, x.B, x.q + 1, g2, m2⟩, ⟨⟨⟨?_, x1, x2, x3.step h1 hm2 hs2⟩, rfl, by simp⟩, xc⟩, by simp only; omega⟩⟩
        have K := nxt x _ _ g2 m2 N2 0 0 X h1 hd2 hm2 hs2 hN2 hag2.2.2
        exact ⟨K.dat, K.mem, K.stb, K.sz⟩
      · have h1 : n < x.a + 2 * x.B := by simp at hb3; omega
        have h2 : x.a + x.B < n := by simp at hb4; omega
        obtain ⟨s1, s2⟩ := x3.half (b := n) h2 (by omega)
        refine ⟨fun z => 0 < n ∧ z = b, hS _ _ X.dat, fun N2 hN2 => (symmerge_s av b o n c bl ha env ok f C hn n x.a (x.a + x.B) n x.g (by omega) (by omega) h2 (Nat.le_refl _) (X.stb.sub (Nat.zero_le _) (Nat.le_refl _)) s1 s2 _ (X.dat.sz C hN2)).mono fun v m2 hag2 ⟨e, g2, hd2, hm2, hs2⟩ => ⟨e, ⟨x.a, 2 * x.B, 0, g2, m2⟩, ⟨⟨?_, by simp only; omega, by simp only; omega, x3.last h1 hm2 hs2⟩, rfl, by simp⟩, by simp only; omega⟩⟩
        have K := nxt x _ _ g2 m2 N2 0 0 X (Nat.le_refl _) hd2 hm2 hs2 hN2 hag2.2.2
        exact ⟨K.dat, K.mem, K.stb, K.sz⟩
      · have h1 : n < x.a + 2 * x.B := by simp at hb3; omega
        have h2 : n ≤ x.a + x.B := by simp at hb4; omega
        exact ⟨⟨0, 2 * x.B, 0, x.g, x.m⟩, ⟨⟨⟨X.dat, X.mem, X.stb, X.sz⟩, by simp only; omega, by simp only; omega, x3.last2 h1 h2⟩, rfl, by simp⟩, by simp only; omega⟩
    · simp at hb2; omega

theorem sortstable_s (av : Option Addr) (b o n c bl : Nat) (ha : 0 < n → av = some ⟨b, o, none⟩) (env : M → Prop) (ok : Int → Prop) (f : Int → Int) (C : CmpC b bl env ok f) (g : Nat → Int) (hn : n ≤ 3518437208870) (hst : Stb f 0 n g) (m : M) (h : DatC b o n env ok g m) :
    SpecW Try.prog 57 [.slice av n c, cmpV bl] m (fun z => 0 < n ∧ z = b) fun v m' => v = .tuple #[] ∧ ∃ g', DatC b o n env ok g' m' ∧ Mem 0 n g g' ∧ Srt f 0 n g' := by
  refine SpecW.of_vc Try.func57 (ann := fun _ => noAnn 0) ?_
  refine vc_by (X :=
      true = true ∧
      ∃ (S' : Nat → Prop),
      (∀ (b_1 : Nat), S' b_1 → m.uf b_1 ∧ (m.sz ≤ b_1 ∨ (0 : Nat) < n ∧ b_1 = b)) ∧
      ∀ (n_1 : Nat),
      m.sz ≤ n_1 →
      SpecW Try.prog (68 : Nat)
      [Value.slice av n c, Value.int IntKind.i64 (↑n : Int), Value.func (Fn.func (58 : FuncId)) #[] #[Value.pointer (some { block := bl, off := (0 : Nat) : Addr })]]
      { π := m.π, sz := n_1, uf := m.uf : M } S' fun (v : Value) (m' : M) =>
      v = Value.tuple #[] ∧ Done (Value.tuple #[] = Value.tuple #[] ∧ ∃ (g' : Nat → Int), DatC b o n env ok g' m' ∧ Mem (0 : Nat) n g g' ∧ Srt f (0 : Nat) n g')) (by kernel_rfl) ?_
  exact ⟨rfl, fun z => 0 < n ∧ z = b, fun z ⟨h0, e⟩ => by subst e; exact ⟨h.uf h0, .inr ⟨h0, rfl⟩⟩, fun N hN => (stable_s av b o n c bl ha env ok f C g hn hst _ (h.sz C hN)).mono fun v m' hag ⟨e, g', hd, hm, hs⟩ => ⟨e, rfl, g', hd, hm, hs⟩⟩

end Go.Proofs.Ytbhlhnkjmncloaa
set_option linter.unusedVariables false
set_option linter.unusedSimpArgs false
namespace Go.Proofs.Ytbhlhnkjmncloaa
open Go.Vc Go.RowKit
set_option maxRecDepth 100000

theorem isnan_q (x : Int) (m : M) : QSpec Try.prog 69 [I x] m (.bool false) := by
  refine QSpec.of_vc Try.func69 (ann := fun _ => noAnn) fun n hn => ?_
  refine vc_by (X :=
      true = true ∧ Done (Value.bool (x != x) = Value.bool false)) (by kernel_rfl) ?_
  exact ⟨rfl, ⟨by simp⟩⟩

def cmpI (x y : Int) : Int := if x < y then -1 else if x > y then 1 else 0

theorem cmpI_lt (x y : Int) : cmpI x y < 0 ↔ x < y := by unfold cmpI; split; simp; assumption; split <;> simp <;> omega

theorem compareI_q (x y : Int) (m : M) : QSpec Try.prog 59 [I x, I y] m (I (cmpI x y)) := by
  refine QSpec.of_vc Try.func59 (ann := fun _ => noAnn) fun n hn => ?_
  refine vc_by (X :=
      true = true ∧
      ∃ (b : Bool),
      QSpec Try.prog (69 : Nat) [Value.int IntKind.i64 x] { π := m.π, sz := n, uf := m.uf : M } (Value.bool b) ∧
      ∃ (b_1 : Bool),
      QSpec Try.prog (69 : Nat) [Value.int IntKind.i64 y] { π := m.π, sz := n, uf := m.uf : M } (Value.bool b_1) ∧
      ifB b (ifB b_1 (Done (Value.int IntKind.i64 (0 : Int) = Value.int IntKind.i64 (cmpI x y))) (Done (Value.int IntKind.i64 (-1 : Int) = Value.int IntKind.i64 (cmpI x y))))
      (ifB b_1 (Done (Value.int IntKind.i64 (1 : Int) = Value.int IntKind.i64 (cmpI x y)))
      (ifB (decide (x < y)) (Done (Value.int IntKind.i64 (-1 : Int) = Value.int IntKind.i64 (cmpI x y)))
      (ifB (decide (x > y)) (Done (Value.int IntKind.i64 (1 : Int) = Value.int IntKind.i64 (cmpI x y)))
      (Done (Value.int IntKind.i64 (0 : Int) = Value.int IntKind.i64 (cmpI x y))))))) (by kernel_rfl) ?_
  refine ⟨rfl, _, isnan_q x _, _, isnan_q y _, ifB_false (ifB_false (ifB_intro (fun h => ⟨?_⟩) (fun h => ifB_intro (fun h2 => ⟨?_⟩) (fun h2 => ⟨?_⟩))))⟩
  · simp at h; simp [cmpI, h]
  · simp at h h2; simp [cmpI, h2]; omega
  · simp at h h2; simp [cmpI]; omega

/-- what the comparing closure looks at -/
structure EnvC (bl : Nat) (al : Option Addr) (cl : Nat) (l : List Cl) (m : M) : Prop where
  box : CellsAt m bl 0 [.slice al l.length cl]
  row : Row m al (cls l)

theorem order1_q (bl : Nat) (al : Option Addr) (cl : Nat) (l : List Cl) (x y : Nat) (hx : x < l.length) (hy : y < l.length) (hn : l.length ≤ 9223372036854775807) (m : M) (E : EnvC bl al cl l m) :
    QSpec Try.prog 58 [I x, I y, .pointer (some ⟨bl, 0, none⟩)] m (I (cmpI (moA l x) (moA l y))) := by
  refine QSpec.of_vc Try.func58 (ann := fun _ => noAnn) fun n hn => ?_
  refine vc_by (X :=
      true = true ∧
      true = true ∧
      ∃ (a : Option Addr),
      ∃ (n_1 : Nat),
      ∃ (c : Nat),
      CellsAt { π := m.π, sz := n, uf := m.uf : M } bl (0 : Nat) [Value.slice a n_1 c] ∧
      ∃ (b : Nat),
      ∃ (off : Nat),
      a = some { block := b, off := off : Addr } ∧
      ((0 : Int) ≤ (↑x : Int) ∧ (↑x : Int) < (↑n_1 : Int)) ∧
      ∃ (n_2 : Int),
      CellsAt { π := m.π, sz := n, uf := m.uf : M } b (off + (↑x : Int).toNat * (16 : Nat) + (10 : Nat)) [Value.int IntKind.i64 n_2] ∧
      ∃ (a : Option Addr),
      ∃ (n_3 : Nat),
      ∃ (c : Nat),
      CellsAt { π := m.π, sz := n, uf := m.uf : M } bl (0 : Nat) [Value.slice a n_3 c] ∧
      ∃ (b : Nat),
      ∃ (off : Nat),
      a = some { block := b, off := off : Addr } ∧
      ((0 : Int) ≤ (↑y : Int) ∧ (↑y : Int) < (↑n_3 : Int)) ∧
      ∃ (n_4 : Int),
      CellsAt { π := m.π, sz := n, uf := m.uf : M } b (off + (↑y : Int).toNat * (16 : Nat) + (10 : Nat)) [Value.int IntKind.i64 n_4] ∧
      ∃ (n_5 : Int),
      QSpec Try.prog (59 : Nat) [Value.int IntKind.i64 n_2, Value.int IntKind.i64 n_4] { π := m.π, sz := n, uf := m.uf : M }
      (Value.int IntKind.i64 n_5) ∧
      Done (Value.int IntKind.i64 n_5 = Value.int IntKind.i64 (cmpI (moA l x) (moA l y)))) (by kernel_rfl) ?_
  have h' := E.row.sz hn
  obtain ⟨b, o, rfl, hc⟩ := h'.cells (by rw [cl_len]; omega)
  have c1 := CellsAt.field cl_k hc hx (p := [I l[x].cl, I l[x].sq, I l[x].nd, I l[x].op_kd, .string l[x].op_ky, .string l[x].op_ot, I l[x].op_n, I l[x].op_lo, I l[x].op_hi, I l[x].ca]) (old := [I l[x].mo]) (q := [I l[x].aw, I l[x].an_er, I l[x].an_va, I l[x].an_le, I l[x].an_mo]) rfl
  have c2 := CellsAt.field cl_k hc hy (p := [I l[y].cl, I l[y].sq, I l[y].nd, I l[y].op_kd, .string l[y].op_ky, .string l[y].op_ot, I l[y].op_n, I l[y].op_lo, I l[y].op_hi, I l[y].ca]) (old := [I l[y].mo]) (q := [I l[y].aw, I l[y].an_er, I l[y].an_va, I l[y].an_le, I l[y].an_mo]) rfl
  refine ⟨rfl, rfl, _, _, _, ⟨E.box.out⟩, b, o, rfl, by omega, _, by simpa using c1, _, _, _, ⟨E.box.out⟩, b, o, rfl, by omega, _, by simpa using c2, _, compareI_q _ _ _, ⟨?_⟩⟩
  rw [moA_at hx, moA_at hy]

theorem EnvC.sz {bl : Nat} {al : Option Addr} {cl : Nat} {l : List Cl} {m : M} (E : EnvC bl al cl l m) {n : Nat} (hn : m.sz ≤ n) : EnvC bl al cl l { m with sz := n } := ⟨⟨E.box.out⟩, E.row.sz hn⟩

def mofI (l : List Cl) (x : Int) : Int := moA l x.toNat

theorem cmpC (b bl : Nat) (al : Option Addr) (cl : Nat) (l : List Cl) (hn : l.length ≤ 9223372036854775807) (h1 : bl ≠ b) (h2 : l ≠ [] → ∀ b' o', al = some ⟨b', o', none⟩ → b' ≠ b) : CmpC b bl (EnvC bl al cl l) (fun x => 0 ≤ x ∧ x < l.length) (mofI l) := by
  refine ⟨fun m E x y ⟨x0, x1⟩ ⟨y0, y1⟩ => ?_, fun m n E hn => E.sz hn, fun m o cs E => ⟨E.box.of (setCells_other h1), ?_⟩⟩
  · obtain ⟨i, rfl⟩ := Int.eq_ofNat_of_zero_le x0
    obtain ⟨j, rfl⟩ := Int.eq_ofNat_of_zero_le y0
    exact ⟨_, order1_q bl al cl l i j (by omega) (by omega) hn m E, cmpI_lt _ _⟩
  · by_cases e : l = []
    · subst e; have := E.row; rw [show cls [] = [] from rfl]; exact .nil _
    · exact E.row.of (Nat.le_refl _) fun b' o' e2 _ => setCells_other (h2 e b' o' e2)

abbrev encN (i : Nat) : List Value := [I i]
abbrev nsv (l : List Nat) : List Value := l.flatMap encN
theorem ns_k (i : Nat) : (encN i).length = 1 := rfl
theorem ns_len (l : List Nat) : (nsv l).length = l.length := by rw [flat_len ns_k]; omega
theorem ns_at {m : M} {b o i : Nat} {l : List Nat} (h : CellsAt m b o (nsv l)) (hi : i < l.length) : CellsAt m b (o + i * 1) (encN l[i]) := CellsAt.elem ns_k l o i hi h
theorem ns_zr (k : Nat) : (zeroRow Try.prog 3 k).length = k * 1 := zrLen (by kernel_rfl) k

/-- the numbers, as the sort has them -/
def gN (l : List Nat) (j : Nat) : Int := ((l[j]?).getD 0 : Nat)

theorem srt_list {l : List Cl} {L : List Nat} {g' : Nat → Int} (hL : ∀ i, i ∈ L ↔ i < l.length ∧ 0 < moA l i) (hm : Go.Proofs.Ytbhlhnkjmncloaa.Mem 0 L.length (gN L) g') (hs : Srt (mofI l) 0 L.length g') : ∀ j (h : j < (ordL l).length), j < L.length ∧ g' j = ((ordL l)[j] : Nat) := by
  have hnn : ∀ j, j < L.length → 0 ≤ g' j := fun j hj => by
    obtain ⟨k, -, h2, h3⟩ := hm.into j (Nat.zero_le _) hj
    rw [h3]; unfold gN; omega
  have e : (List.range L.length).map (fun j => (g' j).toNat) = ordL l := by
    refine IsOrd.uniq (l := l) (p := fun i => i < l.length ∧ 0 < moA l i) ⟨?_, fun i => ?_⟩ (ordL_is l)
    · rw [List.pairwise_map]
      refine (List.Pairwise.and_mem.1 List.pairwise_lt_range).imp fun {a b} ⟨ha, hb, hab⟩ => ?_
      rw [List.mem_range] at ha hb
      have := hs a b (Nat.zero_le _) hab hb
      have h1 := hnn a ha
      have h2 := hnn b hb
      unfold lexN mofI at this
      unfold lexC
      omega
    · rw [← hL, List.mem_map]
      constructor
      · rintro ⟨j, hj, rfl⟩
        rw [List.mem_range] at hj
        obtain ⟨k, -, h2, h3⟩ := hm.into j (Nat.zero_le _) hj
        rw [h3]
        simp only [gN, List.getElem?_eq_getElem h2, Option.getD_some, Int.toNat_natCast]
        exact List.getElem_mem _
      · intro hi
        obtain ⟨k, hk, rfl⟩ := List.mem_iff_getElem.1 hi
        obtain ⟨j, -, h2, h3⟩ := hm.back k (Nat.zero_le _) hk
        refine ⟨j, List.mem_range.2 h2, ?_⟩
        rw [h3]
        simp only [gN, List.getElem?_eq_getElem hk, Option.getD_some, Int.toNat_natCast]
  intro j hj
  have hlen : (ordL l).length = L.length := by rw [← e]; simp
  refine ⟨by omega, ?_⟩
  have h1 : (ordL l)[j]? = some (g' j).toNat := by rw [← e]; simp [show j < L.length by omega]
  rw [List.getElem?_eq_getElem hj] at h1
  have h2 : (ordL l)[j] = (g' j).toNat := Option.some.inj h1
  rw [h2]
  have := hnn j (by omega)
  omega

theorem nsv_map : ∀ L : List Nat, nsv L = L.map fun i => I (i : Nat)
  | [] => rfl
  | x :: xs => by
    show encN x ++ nsv xs = _
    rw [nsv_map xs]; rfl

theorem own_data {B n c : Nat} {m : M} {a : Option Addr} {L : List Nat} {cs : List Value} (h : NewR B (fun _ => False) m 1 a n c cs) (hn : n = L.length) (hcs : cs = nsv L) : ∃ b o, (0 < L.length → a = some ⟨b, o, none⟩) ∧ (∀ j, j < L.length → m.π b (o + j) = some (I (gN L j))) ∧ (0 < L.length → m.uf b) ∧ (B ≤ b) ∧ (0 < L.length → b < m.sz) := by
  have z : ∀ P : Prop, n = 0 → (0 < L.length → P) := fun P h1 h2 => by omega
  cases h with
  | nil => exact ⟨B, 0, z _ rfl, fun j hj => by omega, z _ rfl, Nat.le_refl _, z _ rfl⟩
  | own ho =>
    cases ho with
    | nil => exact ⟨B, 0, z _ rfl, fun j hj => by omega, z _ rfl, Nat.le_refl _, z _ rfl⟩
    | «at» b o len cap cs rest lo lt uf hc hl hr hcap =>
      refine ⟨b, o, fun _ => rfl, fun j hj => ?_, fun _ => uf, lo.resolve_right id, fun _ => lt⟩
      have := hc.take.out j (by rw [hcs, ns_len]; exact hj)
      rw [this, hcs, nsv_map]
      simp [gN, List.getElem?_eq_getElem hj]

structure OrX where
  k : Nat
  a : Option Addr
  c : Nat
  m : M

structure OrI (l : List Cl) (m : M) (y : OrX) : Prop where
  k : y.k ≤ l.length
  out : NewR m.sz (fun _ => False) y.m 1 y.a (idxL l y.k).length y.c (nsv (idxL l y.k))
  ag : Agree m.sz m y.m

theorem worder_s (a : Option Addr) (cp : Nat) (l : List Cl) (hn : l.length ≤ 3518437208870) (m : M) (h : Row m a (cls l)) : Vc.Spec Try.prog 46 [.slice a l.length cp] m fun v m' => ∃ a' c', v = .slice a' (ordL l).length c' ∧ Row m' a' (nsv (ordL l)) := by
  refine Vc.Spec.of_vc Try.func46 (ann := fun _ => { A := OrX, inv := OrI l m, st := fun y => [(8, .val (I y.k)), (7, .val (I l.length)), (6, .val (.slice a l.length cp)), (3, .val (.slice y.a (idxL l y.k).length y.c)), (1, .own 0 0)], own := fun _ => [(0, ⟨48, [.slice a l.length cp]⟩)], m := fun y => y.m, μ := fun y => l.length - y.k }) ?_
  refine vc_by (X :=
      true = true ∧
      (∃ (a_1 : OrX),
      OrI l m a_1 ∧
      m = a_1.m ∧
      ((SV.val (Value.int IntKind.i64 (0 : Int)) = SV.val (Value.int IntKind.i64 (↑a_1.k : Int)) ∧ true = true) ∧
      (SV.val (Value.int IntKind.i64 (↑l.length : Int)) = SV.val (Value.int IntKind.i64 (↑l.length : Int)) ∧ true = true) ∧
      (SV.val (Value.slice a l.length cp) = SV.val (Value.slice a l.length cp) ∧ true = true) ∧
      (SV.val (Value.slice none (0 : Nat) (0 : Nat)) = SV.val (Value.slice a_1.a (idxL l a_1.k).length a_1.c) ∧ true = true) ∧
      (SV.own ((0 : Nat) + (0 : Nat)) (0 : Nat) = SV.own (0 : Nat) (0 : Nat) ∧ true = true) ∧ True) ∧
      (some { ty := (48 : Nat), cs := [Value.slice a l.length cp] : Bx } = some { ty := (48 : TypeId), cs := [Value.slice a l.length cp] : Bx } ∧ true = true) ∧ True) ∧
      ∀ (a_1 : OrX),
      OrI l m a_1 →
      ifB (decide ((↑a_1.k : Int) < (↑l.length : Int)))
      (∃ (b : Nat),
      ∃ (off : Nat),
      a = some { block := b, off := off : Addr } ∧
      ((0 : Int) ≤ (↑a_1.k : Int) ∧ (↑a_1.k : Int) < (↑l.length : Int)) ∧
      ∃ (n : Int),
      ∃ (n_1 : Int),
      ∃ (n_2 : Int),
      ∃ (n_3 : Int),
      ∃ (s : ByteArray),
      ∃ (s_1 : ByteArray),
      ∃ (n_4 : Int),
      ∃ (n_5 : Int),
      ∃ (n_6 : Int),
      ∃ (n_7 : Int),
      ∃ (n_8 : Int),
      ∃ (n_9 : Int),
      ∃ (n_10 : Int),
      ∃ (n_11 : Int),
      ∃ (n_12 : Int),
      ∃ (n_13 : Int),
      CellsAt a_1.m b (off + (↑a_1.k : Int).toNat * (16 : Nat))
      [Value.int IntKind.i64 n, Value.int IntKind.i64 n_1, Value.int IntKind.i64 n_2, Value.int IntKind.i64 n_3, Value.string s,
      Value.string s_1, Value.int IntKind.i64 n_4, Value.int IntKind.i64 n_5, Value.int IntKind.i64 n_6,
      Value.int IntKind.i64 n_7, Value.int IntKind.i64 n_8, Value.int IntKind.i64 n_9, Value.int IntKind.i64 n_10,
      Value.int IntKind.i64 n_11, Value.int IntKind.i64 n_12, Value.int IntKind.i64 n_13] ∧
      ifB (decide (n_8 > (0 : Int)))
      (true = true ∧
      ∀ (b : Nat),
      a_1.m.sz ≤ b →
      ∃ (old : List Value),
      ∃ (src : List Value),
      AppPre m.sz (fun (x : Nat) => False) (a_1.m.newBlock b [Value.int IntKind.i64 (↑a_1.k : Int)]) (1 : Nat) (8 : Nat)
      a_1.a (idxL l a_1.k).length a_1.c (some { block := b, off := (0 : Nat) : Addr }) (1 : Nat) old src ∧
      ∀ (a' : Option Addr) (c' : Nat) (m' : M),
      AppPost Try.prog (3 : Nat) (a_1.m.newBlock b [Value.int IntKind.i64 (↑a_1.k : Int)]) (1 : Nat) a_1.a
      (idxL l a_1.k).length a_1.c (1 : Nat) old src a' c' m' →
      ∃ (a'_1 : OrX),
      (OrI l m a'_1 ∧
      m' = a'_1.m ∧
      ((SV.val (Value.int IntKind.i64 (IntKind.i64.wrap ((↑a_1.k : Int) + (1 : Int)))) =
      SV.val (Value.int IntKind.i64 (↑a'_1.k : Int)) ∧
      true = true) ∧
      (SV.val (Value.int IntKind.i64 (↑l.length : Int)) =
      SV.val (Value.int IntKind.i64 (↑l.length : Int)) ∧
      true = true) ∧
      (SV.val (Value.slice a l.length cp) = SV.val (Value.slice a l.length cp) ∧ true = true) ∧
      (SV.val (Value.slice a' ((idxL l a_1.k).length + (1 : Nat)) c') =
      SV.val (Value.slice a'_1.a (idxL l a'_1.k).length a'_1.c) ∧
      true = true) ∧
      (SV.own (0 : Nat) (0 : Nat) = SV.own (0 : Nat) (0 : Nat) ∧ true = true) ∧ True) ∧
      (some { ty := (48 : TypeId), cs := [Value.slice a l.length cp] : Bx } =
      some { ty := (48 : TypeId), cs := [Value.slice a l.length cp] : Bx } ∧
      true = true) ∧
      True) ∧
      l.length - a'_1.k < l.length - a_1.k)
      (∃ (a' : OrX),
      (OrI l m a' ∧
      a_1.m = a'.m ∧
      ((SV.val (Value.int IntKind.i64 (IntKind.i64.wrap ((↑a_1.k : Int) + (1 : Int)))) =
      SV.val (Value.int IntKind.i64 (↑a'.k : Int)) ∧
      true = true) ∧
      (SV.val (Value.int IntKind.i64 (↑l.length : Int)) = SV.val (Value.int IntKind.i64 (↑l.length : Int)) ∧
      true = true) ∧
      (SV.val (Value.slice a l.length cp) = SV.val (Value.slice a l.length cp) ∧ true = true) ∧
      (SV.val (Value.slice a_1.a (idxL l a_1.k).length a_1.c) =
      SV.val (Value.slice a'.a (idxL l a'.k).length a'.c) ∧
      true = true) ∧
      (SV.own (0 : Nat) (0 : Nat) = SV.own (0 : Nat) (0 : Nat) ∧ true = true) ∧ True) ∧
      (some { ty := (48 : TypeId), cs := [Value.slice a l.length cp] : Bx } =
      some { ty := (48 : TypeId), cs := [Value.slice a l.length cp] : Bx } ∧
      true = true) ∧
      True) ∧
      l.length - a'.k < l.length - a_1.k))
      (∀ (b : Nat),
      Fresh m.sz a_1.m b →
      ∃ (S' : Nat → Prop),
      (∀ (b_1 : Nat), S' b_1 → (a_1.m.newBlock b [Value.slice a l.length cp]).uf b_1 ∧ (m.sz ≤ b_1 ∨ False)) ∧
      ∀ (n : Nat),
      max a_1.m.sz (b + (1 : Nat)) ≤ n →
      SpecW Try.prog (57 : Nat)
      [Value.slice a_1.a (idxL l a_1.k).length a_1.c, Value.func (Fn.func (58 : Nat)) #[] #[Value.pointer (some { block := b, off := (0 : Nat) : Addr })]]
      { π := (a_1.m.newBlock b [Value.slice a l.length cp]).π, sz := n, uf := (a_1.m.newBlock b [Value.slice a l.length cp]).uf : M } S'
      fun (v : Value) (m' : M) =>
      v = Value.tuple #[] ∧
      Done (∃ (a' : Option Addr), ∃ (c' : Nat), Value.slice a_1.a (idxL l a_1.k).length a_1.c = Value.slice a' (ordL l).length c' ∧ Row m' a' (nsv (ordL l))))) (by kernel_rfl) ?_
  have mv : ∀ k (hk : k < l.length), moA l k = l[k].mo := fun k hk => moA_at hk
  refine ⟨rfl, ⟨⟨0, none, 0, m⟩, ⟨Nat.zero_le _, .nil _, Agree.refl _ _⟩, rfl, by simp [idxL], by simp⟩, fun y Y => ifB_intro (fun hb => ?_) (fun hb bx hbx => ?_)⟩
  · have hk : y.k < l.length := by simpa using hb
    obtain ⟨b, o, rfl, hc⟩ := (h.agree Y.ag).cells (by rw [cl_len]; omega)
    have w1 : IntKind.i64.wrap ((y.k : Int) + 1) = ((y.k + 1 : Nat) : Int) := by simp [IntKind.wrap_i64]; omega
    have es := idxL_succ l y.k
    have hle := idxL_len l y.k
    refine ⟨b, o, rfl, by omega, _, _, _, _, _, _, _, _, _, _, _, _, _, _, _, _, by simpa using cl_at hc hk, ifB_intro (fun h1 => ⟨rfl, fun b2 hb2 => ?_⟩) (fun h1 => ?_)⟩
    · have h1 : 0 < moA l y.k := by rw [mv _ hk]; simpa using h1
      rw [if_pos h1] at es
      obtain ⟨p1, p2⟩ := Y.out.push (P := Try.prog) (e := 3) (bytes := 8) (src := encN y.k) hb2 Y.ag.2.2 rfl rfl (by omega) ns_zr
      refine ⟨_, _, p1, fun a' c' m' hp => ?_⟩
      obtain ⟨g1, g2⟩ := p2 a' c' m' hp
      refine ⟨⟨y.k + 1, a', c', m'⟩, ⟨⟨hk, ?_, Y.ag.trans g2⟩, rfl, by simp [w1, es], by simp⟩, by simp only; omega⟩
      simp only
      rw [es, List.length_append, show nsv (idxL l y.k ++ [y.k]) = nsv (idxL l y.k) ++ encN y.k by simp [nsv]]
      exact g1
    · have h1 : ¬ 0 < moA l y.k := by rw [mv _ hk]; simpa using h1
      rw [if_neg h1, List.append_nil] at es
      exact ⟨⟨y.k + 1, y.a, y.c, y.m⟩, ⟨⟨hk, by simp only; rw [es]; exact Y.out, Y.ag⟩, rfl, by simp [w1, es], by simp⟩, by simp only; omega⟩
  · have hk : y.k = l.length := by have := Y.k; simp at hb; omega
    have hout := Y.out
    rw [hk] at hout ⊢
    have hle := idxL_len l l.length
    have hlt : ∀ hne : cls l ≠ [], ∀ b' o', a = some ⟨b', o', none⟩ → b' < m.sz := fun hne b' o' e => h.lt hne e
    have hr : Row (y.m.newBlock bx [.slice a l.length cp]) a (cls l) := (h.agree Y.ag).fresh hbx fun hne b' o' e => hlt hne b' o' e
    have hbox : CellsAt (y.m.newBlock bx [.slice a l.length cp]) bx 0 [.slice a l.length cp] := cellsAt_new
    have hne : l ≠ [] → cls l ≠ [] := fun h e => h (List.eq_nil_of_length_eq_zero (by have := cl_len l; rw [e] at this; simp at this; omega))
    obtain ⟨b, o, hav, hcell, huf, hlo, hblt⟩ : ∃ b o, (0 < (idxL l l.length).length → y.a = some ⟨b, o, none⟩) ∧ (∀ j, j < (idxL l l.length).length → y.m.π b (o + j) = some (I (gN (idxL l l.length) j))) ∧ (0 < (idxL l l.length).length → y.m.uf b) ∧ (m.sz ≤ b) ∧ (0 < (idxL l l.length).length → b < y.m.sz) := own_data hout rfl rfl
    have hS : ∀ z, (0 < (idxL l l.length).length ∧ z = b) → (y.m.newBlock bx [.slice a l.length cp]).uf z ∧ (m.sz ≤ z ∨ False) := fun z ⟨h0, e⟩ => by subst e; exact ⟨.inr (huf h0), .inl hlo⟩
    by_cases h0 : 0 < (idxL l l.length).length
    · have hbb : bx ≠ b := fun e => by subst e; exact hbx.uf (huf h0)
      have hC := cmpC b bx a cp l (by omega) hbb (fun hl b' o' e e2 => by have := hlt (hne hl) b' o' e; omega)
      refine ⟨fun z => 0 < (idxL l l.length).length ∧ z = b, hS, fun N hN => (sortstable_s y.a b o (idxL l l.length).length y.c bx hav _ _ _ hC (gN (idxL l l.length)) (by omega) ?_ { y.m.newBlock bx [.slice a l.length cp] with sz := N } ⟨fun j hj => ?_, fun h0 => .inr (huf h0), fun h0 => ?_, ⟨⟨hbox.out⟩, hr.sz (by simp only [M.newBlock]; exact hN)⟩, fun j hj => ?_⟩).mono fun v m' hag ⟨e, g', hd, hm, hs⟩ => ⟨e, ?_⟩⟩
      · intro i j h1 h2 h3 _
        have hlt2 := List.pairwise_iff_getElem.1 (idxL_lt l l.length) i j (by omega) h3 h2
        simp only [gN, List.getElem?_eq_getElem h3, List.getElem?_eq_getElem (show i < (idxL l l.length).length by omega), Option.getD_some]
        omega
      · simp only
        rw [newBlock_other (Ne.symm hbb)]; exact hcell j hj
      · have := hblt h0
        simp only [M.newBlock] at hN ⊢; omega
      · have := (idxL_mem.1 (List.getElem_mem hj)).1
        simp only [gN, List.getElem?_eq_getElem hj, Option.getD_some]
        omega
      · have hs2 := srt_list (L := idxL l l.length) (fun i => idxL_mem) hm hs
        have hlen : (ordL l).length = (idxL l l.length).length := (List.mergeSort_perm _ _).length_eq
        refine ⟨⟨y.a, y.c, by rw [hlen], ?_⟩⟩
        rw [hav h0]
        refine .at _ _ _ (hd.lt h0) ⟨fun j hj => ?_⟩
        rw [ns_len] at hj
        obtain ⟨h1, h2⟩ := hs2 j hj
        rw [hd.cell j h1, h2, nsv_map]
        simp [List.getElem?_eq_getElem hj]
    · have hz : (idxL l l.length).length = 0 := by omega
      have hL : idxL l l.length = [] := List.eq_nil_of_length_eq_zero hz
      have ho : ordL l = [] := by unfold ordL; rw [hL]; simp
      have hC := cmpC (bx + 1 + y.m.sz + m.sz) bx a cp l (by omega) (by omega) (fun hl b' o' e e2 => by have := hlt (hne hl) b' o' e; omega)
      rw [hz]
      refine ⟨fun z => 0 < 0 ∧ z = bx + 1 + y.m.sz + m.sz, fun z ⟨h0, _⟩ => by omega, fun N hN => (sortstable_s y.a _ 0 0 y.c bx (by omega) _ _ _ hC (gN []) (by omega) (fun i j h1 h2 h3 => by omega) { y.m.newBlock bx [.slice a l.length cp] with sz := N } ⟨fun j hj => by omega, fun h0 => by omega, fun h0 => by omega, ⟨⟨hbox.out⟩, hr.sz (by simp only [M.newBlock]; exact hN)⟩, fun j hj => by omega⟩).mono fun v m' hag ⟨e, g', hd, hm, hs⟩ => ⟨e, ⟨⟨y.a, y.c, by rw [ho]; rfl, by rw [ho]; exact .nil _⟩⟩⟩⟩

end Go.Proofs.Ytbhlhnkjmncloaa
set_option linter.unusedVariables false
set_option linter.unusedSimpArgs false
namespace Go.Proofs.Ytbhlhnkjmncloaa
open Go.Vc Go.RowKit
set_option maxRecDepth 100000

/-- all totals together -/
def sumT (l : List Tt) : Int := sumI (l.map (·.va))

theorem sumT_append (a b : List Tt) : sumT (a ++ b) = sumT a + sumT b := by
  unfold sumT; rw [List.map_append, sumI_append]

theorem sumT_set {l : List Tt} {r : Tt} (h : totB none l = true) : sumT (setT l r) = sumT l - (fndT l r.ky).va + r.va := by
  have e := tot_split r h
  have e1 : sumT l = sumT (l.filter fun x => belT x r) + (sumT (ofT l r).toList + sumT (l.filter fun x => belT r x)) := by
    conv => lhs; rw [e]
    rw [sumT_append, sumT_append]
  have e2 : (fndT l r.ky).va = sumT (ofT l r).toList := by
    have : ofT l (zT r.ky) = ofT l r := rfl
    unfold fndT
    rw [this]
    cases ofT l r <;> simp [sumT, sumI, zT]
  have e3 : sumT (if plainT r = true then [] else [r]) = r.va := by
    by_cases hp : plainT r = true
    · rw [if_pos hp]
      simp [plainT] at hp
      simp [sumT, sumI, hp]
    · rw [if_neg hp]; simp [sumT, sumI]
  rw [e2]
  unfold setT
  rw [sumT_append, sumT_append, e3, e1]
  omega

theorem wf_set {l : List Tt} {r : Tt} (hl : ∀ x ∈ l, x.wf) (hr : r.wf) : ∀ x ∈ setT l r, x.wf := by
  intro x hx
  unfold setT at hx
  rcases List.mem_append.1 hx with h | h
  · exact hl x (List.mem_filter.1 h).1
  · rcases List.mem_append.1 h with h | h
    · by_cases hp : plainT r = true
      · simp [hp] at h
      · simp [hp] at h; rw [h]; exact hr
    · exact hl x (List.mem_filter.1 h).1

theorem wf_fndT {l : List Tt} {k : ByteArray} (hl : ∀ x ∈ l, x.wf) (hk : k.size ≤ 9223372036854775807) : (fndT l k).wf := by
  unfold fndT
  cases h : ofT l (zT k) with
  | none => exact ⟨hk, (by decide : In64 0), (by decide : In64 0), (by decide : In64 0)⟩
  | some x => exact hl x (ofT_some h).1

theorem wf_mov {x : Tt} {n : Int} (hx : x.wf) (h : movB x n = true) : (movT x n).wf := by
  simp only [movB, Bool.and_eq_true, decide_eq_true_eq] at h
  exact ⟨hx.1, hx.2.1, hx.2.2.1, h.1⟩

theorem fnd_set_ne {l : List Tt} {r : Tt} {k : ByteArray} (h : totB none l = true) (hk : r.ky ≠ k) : fndT (setT l r) k = fndT l k := by
  have : sameT r (zT k) = false := by simp [sameT, zT, hk]
  simp [fndT, setT_of h, this]

def addE2 (o : Oq) (l : List Tt) : Int := if (doT l o).2.er = 0 ∧ o.kd = 1 then o.n else if (doT l o).2.er = 0 ∧ o.kd = 2 then -o.n else 0

structure DoP (l : List Tt) (o : Oq) : Prop where
  right : totB none (doT l o).1 = true
  wf : ∀ x ∈ (doT l o).1, x.wf
  err : (doT l o).2.er ≠ 0 → (doT l o).1 = l
  sum : sumT (doT l o).1 = sumT l + addE2 o l

theorem do_p {l : List Tt} {o : Oq} (ht : totB none l = true) (hl : ∀ x ∈ l, x.wf) (ho : o.wf) : DoP l o := by
  have same : (doT l o).1 = l → addE2 o l = 0 → DoP l o := fun e e2 => ⟨by rw [e]; exact ht, by rw [e]; exact hl, fun _ => e, by rw [e, e2]; omega⟩
  cases hm : mayO o
  · have hd : doT l o = (l, eA 1) := by simp [doT, ht, hm]
    refine same (by rw [hd]) (by simp [addE2, hd, eA])
  have hd : doT l o = doX l o := by simp [doT, ht, hm]
  have hf := wf_fndT (k := o.ky) hl ho.2.1
  have hf2 := wf_fndT (k := o.ot) hl ho.2.2.1
  have ke := fnd_key l o.ky
  have ke2 := fnd_key l o.ot
  have hk := may_key hm
  by_cases k12 : o.kd = 1 ∨ o.kd = 2
  · cases hb : movB (fndT l o.ky) (if o.kd = 2 then -o.n else o.n)
    · have he : doT l o = (l, eA 150) := by rw [hd]; simp [doX, k12, hb]
      exact same (by rw [he]) (by simp [addE2, he, eA])
    · have he : doT l o = (setT l (movT (fndT l o.ky) (if o.kd = 2 then -o.n else o.n)), eA 0) := by rw [hd]; simp [doX, k12, hb]
      refine ⟨by rw [he]; exact setT_tot ht (mov_may (by rw [ke]; exact hk) hb), by rw [he]; exact wf_set hl (wf_mov hf hb), by rw [he]; intro h; simp [eA] at h, ?_⟩
      have es : (movT (fndT l o.ky) (if o.kd = 2 then -o.n else o.n)).ky = o.ky := ke
      rw [addE2, he]
      simp only [eA]
      rw [sumT_set ht, es]
      simp only [movT]
      rcases k12 with e | e <;> simp [e] <;> omega
  have k1 : ¬ o.kd = 1 := fun e => k12 (.inl e)
  have k2 : ¬ o.kd = 2 := fun e => k12 (.inr e)
  have ez : addE2 o l = 0 := by simp [addE2, k1, k2]
  by_cases k4 : o.kd = 4
  · exact same (by rw [hd]; simp [doX, k4]) ez
  by_cases k3 : o.kd = 3
  · exact same (by rw [hd]; simp [doX, k3]) ez
  by_cases k5 : o.kd = 5
  · cases hb : hasB o.lo o.hi (fndT l o.ky).va
    · exact same (by rw [hd]; simp [doX, k5, hb]) ez
    · have he : doT l o = (setT l { fndT l o.ky with sp_lo := o.lo, sp_hi := o.hi }, eA 0) := by rw [hd]; simp [doX, k5, hb]
      have es : ({ fndT l o.ky with sp_lo := o.lo, sp_hi := o.hi } : Tt).ky = o.ky := ke
      have h1 : plainT { fndT l o.ky with sp_lo := o.lo, sp_hi := o.hi } = true ∨ tmayB { fndT l o.ky with sp_lo := o.lo, sp_hi := o.hi } = true := by
        cases hp : plainT { fndT l o.ky with sp_lo := o.lo, sp_hi := o.hi }
        · refine .inr ?_
          have : hasT { fndT l o.ky with sp_lo := o.lo, sp_hi := o.hi } = true := hb
          simp only [tmayB, hp, this, Bool.not_false, Bool.and_true]; show keyB (fndT l o.ky).ky = true; rw [ke]; exact hk
        · exact .inl rfl
      refine ⟨by rw [he]; exact setT_tot ht h1, by rw [he]; exact wf_set hl ⟨hf.1, ho.2.2.2.2.1, ho.2.2.2.2.2, hf.2.2.2⟩, by rw [he]; intro h; simp [eA] at h, ?_⟩
      rw [ez, he]
      simp only
      rw [sumT_set ht, es]
      simp only
      omega
  by_cases k6 : o.kd = 6
  · cases hb : movB (fndT l o.ky) (-o.n)
    · exact same (by rw [hd]; simp [doX, k6, hb]) ez
    cases hb2 : movB (fndT l o.ot) o.n
    · exact same (by rw [hd]; simp [doX, k6, hb2]) ez
    have he : doT l o = (setT (setT l (movT (fndT l o.ky) (-o.n))) (movT (fndT l o.ot) o.n), eA 0) := by rw [hd]; simp [doX, k6, hb, hb2]
    obtain ⟨h1, h2⟩ := may_ot hm k6
    have ht1 := setT_tot ht (mov_may (n := -o.n) (by rw [ke]; exact hk) hb)
    have es : (movT (fndT l o.ky) (-o.n)).ky = o.ky := ke
    have es2 : (movT (fndT l o.ot) o.n).ky = o.ot := ke2
    refine ⟨by rw [he]; exact setT_tot ht1 (mov_may (by rw [ke2]; exact h1) hb2), by rw [he]; exact wf_set (wf_set hl (wf_mov hf hb)) (wf_mov hf2 hb2), by rw [he]; intro h; simp [eA] at h, ?_⟩
    rw [ez, he]
    simp only
    rw [sumT_set ht1, sumT_set ht, es, es2, fnd_set_ne ht (by rw [es]; exact fun e => h2 e.symm)]
    simp only [movT]
    omega
  · exact same (by rw [hd]; simp [doX, k1, k2, k3, k4, k5, k6]) ez

structure WbX where
  i : Nat
  k : Nat
  l : List Tt
  a : Option Addr
  c : Nat
  x : Option Addr
  d : Nat
  m : M

structure WbI (l0 : List Tt) (os : List Oq) (ao : Option Addr) (m : M) (y : WbX) : Prop where
  i : y.i ≤ os.length
  right : totB none y.l = true
  wf : ∀ x ∈ y.l, x.wf
  len : y.l.length ≤ l0.length + 2 * y.i
  row : Row y.m y.a (tts y.l)
  ops : Row y.m ao (oqs os)

structure WbJ (l0 : List Tt) (os : List Oq) (ao : Option Addr) (m : M) (y : WbX) (o : Oq) : Prop where
  i : WbI l0 os ao m y
  lt : y.i < os.length
  o_at : os[y.i]? = some o
  x : Row y.m y.x (tts (doT y.l o).1)

theorem WbI.k {l0 : List Tt} {os : List Oq} {ao : Option Addr} {m : M} {y : WbX} (h : WbI l0 os ao m y) (k : Nat) : WbI l0 os ao m { y with k := k } := ⟨h.i, h.right, h.wf, h.len, h.row, h.ops⟩

theorem WbJ.k {l0 : List Tt} {os : List Oq} {ao : Option Addr} {m : M} {y : WbX} {o : Oq} (h : WbJ l0 os ao m y o) (k : Nat) : WbJ l0 os ao m { y with k := k } o := ⟨h.i.k k, h.lt, h.o_at, h.x⟩

def opAt (os : List Oq) (i : Nat) : Oq := (os[i]?).getD o5

abbrev wcs (W : Int) : List Value := [I (wideHi W), U (wideLo W)]

def wbAnn (l0 : List Tt) (os : List Oq) (ao : Option Addr) (co : Nat) (m : M) : Nat → Ann
  | 6 => {
    A := WbX
    inv := WbI l0 os ao m
    st := fun y => [(5, .val (I y.i)), (1, .val (.slice ao os.length co)), (0, .val (.slice y.a y.l.length y.c))]
    own := fun _ => []
    m := fun y => y.m
    μ := fun y => os.length - y.i }
  | 12 => {
    A := WbX
    inv := fun y => WbJ l0 os ao m y (opAt os y.i)
    st := fun y => [(5, .val (I y.i)), (1, .val (.slice ao os.length co)), (0, .val (.slice y.a y.l.length y.c)), (7, .val (.slice y.x (doT y.l (opAt os y.i)).1.length y.d)), (6, .own 15 0), (8, .own 23 0)]
    own := fun y => [(15, ⟨24, encOq (opAt os y.i)⟩), (23, ⟨33, encAn (doT y.l (opAt os y.i)).2⟩)]
    m := fun y => y.m
    μ := fun _ => 0
    cut := true
    link := some fun y ctx => ctx = [os.length - y.i] }
  | 14 => {
    A := WbX
    inv := fun y => WbJ l0 os ao m y (opAt os y.i) ∧ y.k ≤ y.l.length
    st := fun y => [(5, .val (I y.i)), (1, .val (.slice ao os.length co)), (0, .val (.slice y.a y.l.length y.c)), (11, .val (I y.k)), (7, .val (.slice y.x (doT y.l (opAt os y.i)).1.length y.d)), (6, .own 15 0), (8, .own 23 0), (9, .own 43 0), (10, .own 44 0)]
    own := fun y => [(15, ⟨24, encOq (opAt os y.i)⟩), (23, ⟨33, encAn (doT y.l (opAt os y.i)).2⟩), (43, ⟨44, wcs (sumT (y.l.take y.k))⟩), (44, ⟨44, wcs 0⟩)]
    m := fun y => y.m
    μ := fun y => y.l.length - y.k
    link := some fun y ctx => ctx = [os.length - y.i] }
  | 18 => {
    A := WbX
    inv := fun y => WbJ l0 os ao m y (opAt os y.i) ∧ y.k ≤ (doT y.l (opAt os y.i)).1.length
    st := fun y => [(5, .val (I y.i)), (1, .val (.slice ao os.length co)), (12, .val (I y.k)), (7, .val (.slice y.x (doT y.l (opAt os y.i)).1.length y.d)), (6, .own 15 0), (8, .own 23 0), (9, .own 43 0), (10, .own 44 0)]
    own := fun y => [(15, ⟨24, encOq (opAt os y.i)⟩), (23, ⟨33, encAn (doT y.l (opAt os y.i)).2⟩), (43, ⟨44, wcs (sumT y.l)⟩), (44, ⟨44, wcs (sumT ((doT y.l (opAt os y.i)).1.take y.k))⟩)]
    m := fun y => y.m
    μ := fun y => (doT y.l (opAt os y.i)).1.length - y.k
    link := some fun y ctx => ctx = [os.length - y.i] }
  | _ => noAnn 0

theorem sumT_take {l : List Tt} {k : Nat} (h : k < l.length) : sumT (l.take (k + 1)) = sumT (l.take k) + l[k].va := by
  unfold sumT
  rw [List.map_take, List.map_take, sumI_take _ _ (by simpa using h)]
  simp

theorem of0 (m : M) : QSpec Try.prog 18 [.slice none 0 0] m (wide 0) := of_q none 0 [] (by simp) (by simp) m (.nil _)

theorem witnessbounds (a : Option Addr) (cp : Nat) (l : List Tt) (ao : Option Addr) (co : Nat) (os : List Oq) (hn : l.length ≤ 1048576) (hl : ∀ x ∈ l, x.wf) (hn2 : os.length ≤ 1048576) (hos : ∀ x ∈ os, x.wf) (m : M) (h : Row m a (tts l)) (ho : Row m ao (oqs os)) :
    QSpec Try.prog 4 [.slice a l.length cp, .slice ao os.length co] m (.bool true) := by
  refine QSpec.of_vc Try.func4 (ann := fun n => wbAnn l os ao co { m with sz := n }) fun N hN => ?_
  refine vc_by (X :=
      true = true ∧
      ∃ (b : Bool),
      QSpec Try.prog (14 : Nat) [] { π := m.π, sz := N, uf := m.uf : M } (Value.bool b) ∧
      ifB (!b) (Done (Value.bool false = Value.bool true))
      (∃ (b : Bool),
      QSpec Try.prog (11 : Nat) [Value.slice a l.length cp] { π := m.π, sz := N, uf := m.uf : M } (Value.bool b) ∧
      ifB (!b)
      (∃ (n : Int),
      QSpec Try.prog (15 : Nat) [Value.slice a l.length cp] { π := m.π, sz := N, uf := m.uf : M } (Value.int IntKind.i64 n) ∧
      Done (Value.bool (n == (21 : Int)) = Value.bool true))
      ((∃ (a_1 : WbX),
      WbI l os ao { π := m.π, sz := N, uf := m.uf : M } a_1 ∧
      { π := m.π, sz := N, uf := m.uf : M } = a_1.m ∧
      ((SV.val (Value.int IntKind.i64 (0 : Int)) = SV.val (Value.int IntKind.i64 (↑a_1.i : Int)) ∧ true = true) ∧
      (SV.val (Value.slice ao os.length co) = SV.val (Value.slice ao os.length co) ∧ true = true) ∧
      (SV.val (Value.slice a l.length cp) = SV.val (Value.slice a_1.a a_1.l.length a_1.c) ∧ true = true) ∧ True) ∧
      True) ∧
      ∀ (a : WbX),
      WbI l os ao { π := m.π, sz := N, uf := m.uf : M } a →
      ifB (decide ((↑a.i : Int) < (↑os.length : Int)))
      (∃ (b : Nat),
      ∃ (off : Nat),
      ao = some { block := b, off := off : Addr } ∧
      ((0 : Int) ≤ (↑a.i : Int) ∧ (↑a.i : Int) < (↑os.length : Int)) ∧
      ∃ (n : Int),
      ∃ (s : ByteArray),
      ∃ (s_1 : ByteArray),
      ∃ (n_1 : Int),
      ∃ (n_2 : Int),
      ∃ (n_3 : Int),
      CellsAt a.m b (off + (↑a.i : Int).toNat * (6 : Nat))
      [Value.int IntKind.i64 n, Value.string s, Value.string s_1, Value.int IntKind.i64 n_1, Value.int IntKind.i64 n_2,
      Value.int IntKind.i64 n_3] ∧
      ∃ (S' : Nat → Prop),
      (∀ (b : Nat), S' b → a.m.uf b ∧ (N ≤ b ∨ False)) ∧
      ∀ (n_4 : Nat),
      a.m.sz ≤ n_4 →
      SpecW Try.prog (12 : Nat)
      [Value.slice a.a a.l.length a.c,
      Value.agg
      #[Value.int IntKind.i64 n, Value.string s, Value.string s_1, Value.int IntKind.i64 n_1, Value.int IntKind.i64 n_2,
      Value.int IntKind.i64 n_3]]
      { π := a.m.π, sz := n_4, uf := a.m.uf : M } S' fun (v : Value) (m' : M) =>
      ∃ (a_3 : Option Addr),
      ∃ (n_5 : Nat),
      ∃ (c : Nat),
      ∃ (n_6 : Int),
      ∃ (n_7 : Int),
      ∃ (n_8 : Int),
      ∃ (n_9 : Int),
      v =
      Value.tuple
      #[Value.slice a_3 n_5 c,
      Value.agg
      #[Value.int IntKind.i64 n_6, Value.int IntKind.i64 n_7, Value.int IntKind.i64 n_8,
      Value.int IntKind.i64 n_9]] ∧
      (∃ (n_10 : Int),
      QSpec Try.prog (15 : Nat) [Value.slice a_3 n_5 c] m' (Value.int IntKind.i64 n_10) ∧
      ifB (n_10 != (0 : Int)) (Done (Value.bool false = Value.bool true))
      (ifB (n_6 != (0 : Int))
      (∃ (b : Bool),
      QSpec Try.prog (16 : Nat) [Value.slice a_3 n_5 c, Value.slice a.a a.l.length a.c] m'
      (Value.bool b) ∧
      ifB (!b) (Done (Value.bool false = Value.bool true))
      (∃ (x : WbX),
      (WbJ l os ao { π := m.π, sz := N, uf := m.uf : M } x (opAt os x.i) ∧
      m' = x.m ∧
      ((SV.val (Value.int IntKind.i64 (↑a.i : Int)) =
      SV.val (Value.int IntKind.i64 (↑x.i : Int)) ∧
      true = true) ∧
      (SV.val (Value.slice ao os.length co) = SV.val (Value.slice ao os.length co) ∧
      true = true) ∧
      (SV.val (Value.slice a.a a.l.length a.c) =
      SV.val (Value.slice x.a x.l.length x.c) ∧
      true = true) ∧
      (SV.val (Value.slice a_3 n_5 c) =
      SV.val (Value.slice x.x (doT x.l (opAt os x.i)).fst.length x.d) ∧
      true = true) ∧
      (SV.own
      ((0 : Nat) + (1 : Nat) + (2 : Nat) + (3 : Nat) + (1 : Nat) +
      (4 : Nat) +
      (4 : Nat))
      (0 : Nat) =
      SV.own (15 : Nat) (0 : Nat) ∧
      true = true) ∧
      (SV.own
      ((0 : Nat) + (1 : Nat) + (2 : Nat) + (3 : Nat) + (1 : Nat) +
      (4 : Nat) +
      (6 : Nat) +
      (6 : Nat))
      (0 : Nat) =
      SV.own (23 : Nat) (0 : Nat) ∧
      true = true) ∧
      True) ∧
      (some
      { ty := (24 : Nat), cs := [Value.int IntKind.i64 n, Value.string s, Value.string s_1, Value.int IntKind.i64 n_1, Value.int IntKind.i64 n_2, Value.int IntKind.i64 n_3] : Bx } =
      some
      { ty := (24 : TypeId), cs := [Value.int IntKind.i64 (opAt os x.i).kd, Value.string (opAt os x.i).ky, Value.string (opAt os x.i).ot, Value.int IntKind.i64 (opAt os x.i).n, Value.int IntKind.i64 (opAt os x.i).lo, Value.int IntKind.i64 (opAt os x.i).hi] : Bx } ∧
      true = true) ∧
      (some
      { ty := (33 : Nat), cs := [Value.int IntKind.i64 n_6, Value.int IntKind.i64 n_7, Value.int IntKind.i64 n_8, Value.int IntKind.i64 n_9] : Bx } =
      some
      { ty := (33 : TypeId), cs := [Value.int IntKind.i64 (doT x.l (opAt os x.i)).snd.er, Value.int IntKind.i64 (doT x.l (opAt os x.i)).snd.va, Value.int IntKind.i64 (doT x.l (opAt os x.i)).snd.le, Value.int IntKind.i64 (doT x.l (opAt os x.i)).snd.mo] : Bx } ∧
      true = true) ∧
      True) ∧
      [os.length - a.i] = [os.length - x.i]))
      (∃ (x : WbX),
      (WbJ l os ao { π := m.π, sz := N, uf := m.uf : M } x (opAt os x.i) ∧
      m' = x.m ∧
      ((SV.val (Value.int IntKind.i64 (↑a.i : Int)) =
      SV.val (Value.int IntKind.i64 (↑x.i : Int)) ∧
      true = true) ∧
      (SV.val (Value.slice ao os.length co) = SV.val (Value.slice ao os.length co) ∧
      true = true) ∧
      (SV.val (Value.slice a.a a.l.length a.c) = SV.val (Value.slice x.a x.l.length x.c) ∧
      true = true) ∧
      (SV.val (Value.slice a_3 n_5 c) =
      SV.val (Value.slice x.x (doT x.l (opAt os x.i)).fst.length x.d) ∧
      true = true) ∧
      (SV.own
      ((0 : Nat) + (1 : Nat) + (2 : Nat) + (3 : Nat) + (1 : Nat) + (4 : Nat) +
      (4 : Nat))
      (0 : Nat) =
      SV.own (15 : Nat) (0 : Nat) ∧
      true = true) ∧
      (SV.own
      ((0 : Nat) + (1 : Nat) + (2 : Nat) + (3 : Nat) + (1 : Nat) + (4 : Nat) +
      (6 : Nat) +
      (6 : Nat))
      (0 : Nat) =
      SV.own (23 : Nat) (0 : Nat) ∧
      true = true) ∧
      True) ∧
      (some
      { ty := (24 : Nat), cs := [Value.int IntKind.i64 n, Value.string s, Value.string s_1, Value.int IntKind.i64 n_1, Value.int IntKind.i64 n_2, Value.int IntKind.i64 n_3] : Bx } =
      some
      { ty := (24 : TypeId), cs := [Value.int IntKind.i64 (opAt os x.i).kd, Value.string (opAt os x.i).ky, Value.string (opAt os x.i).ot, Value.int IntKind.i64 (opAt os x.i).n, Value.int IntKind.i64 (opAt os x.i).lo, Value.int IntKind.i64 (opAt os x.i).hi] : Bx } ∧
      true = true) ∧
      (some
      { ty := (33 : Nat), cs := [Value.int IntKind.i64 n_6, Value.int IntKind.i64 n_7, Value.int IntKind.i64 n_8, Value.int IntKind.i64 n_9] : Bx } =
      some
      { ty := (33 : TypeId), cs := [Value.int IntKind.i64 (doT x.l (opAt os x.i)).snd.er, Value.int IntKind.i64 (doT x.l (opAt os x.i)).snd.va, Value.int IntKind.i64 (doT x.l (opAt os x.i)).snd.le, Value.int IntKind.i64 (doT x.l (opAt os x.i)).snd.mo] : Bx } ∧
      true = true) ∧
      True) ∧
      [os.length - a.i] = [os.length - x.i]))) ∧
      ∀ (x : WbX),
      WbJ l os ao { π := m.π, sz := N, uf := m.uf : M } x (opAt os x.i) ∧
      [os.length - a.i] = [os.length - x.i] →
      ∃ (n : Int),
      ∃ (n_10 : Int),
      QSpec Try.prog (18 : Nat) [Value.slice none (0 : Nat) (0 : Nat)] x.m
      (Value.agg #[Value.int IntKind.i64 n, Value.int IntKind.u64 n_10]) ∧
      ∃ (n_11 : Int),
      ∃ (n_12 : Int),
      QSpec Try.prog (18 : Nat) [Value.slice none (0 : Nat) (0 : Nat)] x.m
      (Value.agg #[Value.int IntKind.i64 n_11, Value.int IntKind.u64 n_12]) ∧
      (∃ (a_5 : WbX),
      ((WbJ l os ao { π := m.π, sz := N, uf := m.uf : M } a_5 (opAt os a_5.i) ∧
      a_5.k ≤ a_5.l.length) ∧
      x.m = a_5.m ∧
      ((SV.val (Value.int IntKind.i64 (↑x.i : Int)) =
      SV.val (Value.int IntKind.i64 (↑a_5.i : Int)) ∧
      true = true) ∧
      (SV.val (Value.slice ao os.length co) = SV.val (Value.slice ao os.length co) ∧
      true = true) ∧
      (SV.val (Value.slice x.a x.l.length x.c) =
      SV.val (Value.slice a_5.a a_5.l.length a_5.c) ∧
      true = true) ∧
      (SV.val (Value.int IntKind.i64 (0 : Int)) =
      SV.val (Value.int IntKind.i64 (↑a_5.k : Int)) ∧
      true = true) ∧
      (SV.val (Value.slice x.x (doT x.l (opAt os x.i)).fst.length x.d) =
      SV.val
      (Value.slice a_5.x (doT a_5.l (opAt os a_5.i)).fst.length
      a_5.d) ∧
      true = true) ∧
      (SV.own (15 : Nat) (0 : Nat) = SV.own (15 : Nat) (0 : Nat) ∧
      true = true) ∧
      (SV.own (23 : Nat) (0 : Nat) = SV.own (23 : Nat) (0 : Nat) ∧
      true = true) ∧
      (SV.own
      ((0 : Nat) + (1 : Nat) + (2 : Nat) + (3 : Nat) +
      (1 : Nat) +
      (4 : Nat) +
      (6 : Nat) +
      (9 : Nat) +
      (15 : Nat) +
      (2 : Nat))
      (0 : Nat) =
      SV.own (43 : Nat) (0 : Nat) ∧
      true = true) ∧
      (SV.own
      ((0 : Nat) + (1 : Nat) + (2 : Nat) + (3 : Nat) +
      (1 : Nat) +
      (4 : Nat) +
      (6 : Nat) +
      (9 : Nat) +
      (15 : Nat) +
      (3 : Nat))
      (0 : Nat) =
      SV.own (44 : Nat) (0 : Nat) ∧
      true = true) ∧
      True) ∧
      (some
      { ty := (24 : TypeId), cs := [Value.int IntKind.i64 (opAt os x.i).kd, Value.string (opAt os x.i).ky, Value.string (opAt os x.i).ot, Value.int IntKind.i64 (opAt os x.i).n, Value.int IntKind.i64 (opAt os x.i).lo, Value.int IntKind.i64 (opAt os x.i).hi] : Bx } =
      some
      { ty := (24 : TypeId), cs := [Value.int IntKind.i64 (opAt os a_5.i).kd, Value.string (opAt os a_5.i).ky, Value.string (opAt os a_5.i).ot, Value.int IntKind.i64 (opAt os a_5.i).n, Value.int IntKind.i64 (opAt os a_5.i).lo, Value.int IntKind.i64 (opAt os a_5.i).hi] : Bx } ∧
      true = true) ∧
      (some
      { ty := (33 : TypeId), cs := [Value.int IntKind.i64 (doT x.l (opAt os x.i)).snd.er, Value.int IntKind.i64 (doT x.l (opAt os x.i)).snd.va, Value.int IntKind.i64 (doT x.l (opAt os x.i)).snd.le, Value.int IntKind.i64 (doT x.l (opAt os x.i)).snd.mo] : Bx } =
      some
      { ty := (33 : TypeId), cs := [Value.int IntKind.i64 (doT a_5.l (opAt os a_5.i)).snd.er, Value.int IntKind.i64 (doT a_5.l (opAt os a_5.i)).snd.va, Value.int IntKind.i64 (doT a_5.l (opAt os a_5.i)).snd.le, Value.int IntKind.i64 (doT a_5.l (opAt os a_5.i)).snd.mo] : Bx } ∧
      true = true) ∧
      (some
      { ty := (44 : Nat), cs := [Value.int IntKind.i64 n, Value.int IntKind.u64 n_10] : Bx } =
      some
      { ty := (44 : TypeId), cs := [Value.int IntKind.i64 (wideHi (sumT (List.take a_5.k a_5.l))), Value.int IntKind.u64 (wideLo (sumT (List.take a_5.k a_5.l)))] : Bx } ∧
      true = true) ∧
      (some
      { ty := (44 : Nat), cs := [Value.int IntKind.i64 n_11, Value.int IntKind.u64 n_12] : Bx } =
      some
      { ty := (44 : TypeId), cs := [Value.int IntKind.i64 (wideHi (0 : Int)), Value.int IntKind.u64 (wideLo (0 : Int))] : Bx } ∧
      true = true) ∧
      True) ∧
      [os.length - a.i] = [os.length - a_5.i]) ∧
      ∀ (a_5 : WbX),
      (WbJ l os ao { π := m.π, sz := N, uf := m.uf : M } a_5 (opAt os a_5.i) ∧
      a_5.k ≤ a_5.l.length) ∧
      [os.length - a.i] = [os.length - a_5.i] →
      ifB (decide ((↑a_5.k : Int) < (↑a_5.l.length : Int)))
      (true = true ∧
      ∃ (b : Nat),
      ∃ (off : Nat),
      a_5.a = some { block := b, off := off : Addr } ∧
      ((0 : Int) ≤ (↑a_5.k : Int) ∧ (↑a_5.k : Int) < (↑a_5.l.length : Int)) ∧
      ∃ (n : Int),
      CellsAt a_5.m b (off + (↑a_5.k : Int).toNat * (4 : Nat) + (3 : Nat))
      [Value.int IntKind.i64 n] ∧
      ∃ (n_13 : Int),
      ∃ (n_14 : Int),
      QSpec Try.prog (19 : Nat)
      [Value.agg
      #[Value.int IntKind.i64
      (wideHi (sumT (List.take a_5.k a_5.l))),
      Value.int IntKind.u64
      (wideLo (sumT (List.take a_5.k a_5.l)))],
      Value.int IntKind.i64 n]
      a_5.m
      (Value.agg
      #[Value.int IntKind.i64 n_13, Value.int IntKind.u64 n_14]) ∧
      ∃ (a' : WbX),
      (((WbJ l os ao { π := m.π, sz := N, uf := m.uf : M } a'
      (opAt os a'.i) ∧
      a'.k ≤ a'.l.length) ∧
      a_5.m = a'.m ∧
      ((SV.val (Value.int IntKind.i64 (↑a_5.i : Int)) =
      SV.val (Value.int IntKind.i64 (↑a'.i : Int)) ∧
      true = true) ∧
      (SV.val (Value.slice ao os.length co) =
      SV.val (Value.slice ao os.length co) ∧
      true = true) ∧
      (SV.val (Value.slice a_5.a a_5.l.length a_5.c) =
      SV.val
      (Value.slice a'.a a'.l.length a'.c) ∧
      true = true) ∧
      (SV.val
      (Value.int IntKind.i64
      (IntKind.i64.wrap
      ((↑a_5.k : Int) + (1 : Int)))) =
      SV.val
      (Value.int IntKind.i64
      (↑a'.k : Int)) ∧
      true = true) ∧
      (SV.val
      (Value.slice a_5.x
      (doT a_5.l
      (opAt os a_5.i)).fst.length
      a_5.d) =
      SV.val
      (Value.slice a'.x
      (doT a'.l
      (opAt os a'.i)).fst.length
      a'.d) ∧
      true = true) ∧
      (SV.own (15 : Nat) (0 : Nat) =
      SV.own (15 : Nat) (0 : Nat) ∧
      true = true) ∧
      (SV.own (23 : Nat) (0 : Nat) =
      SV.own (23 : Nat) (0 : Nat) ∧
      true = true) ∧
      (SV.own (43 : Nat) (0 : Nat) =
      SV.own (43 : Nat) (0 : Nat) ∧
      true = true) ∧
      (SV.own (44 : Nat) (0 : Nat) =
      SV.own (44 : Nat) (0 : Nat) ∧
      true = true) ∧
      True) ∧
      (some
      { ty := (24 : TypeId), cs := [Value.int IntKind.i64 (opAt os a_5.i).kd, Value.string (opAt os a_5.i).ky, Value.string (opAt os a_5.i).ot, Value.int IntKind.i64 (opAt os a_5.i).n, Value.int IntKind.i64 (opAt os a_5.i).lo, Value.int IntKind.i64 (opAt os a_5.i).hi] : Bx } =
      some
      { ty := (24 : TypeId), cs := [Value.int IntKind.i64 (opAt os a'.i).kd, Value.string (opAt os a'.i).ky, Value.string (opAt os a'.i).ot, Value.int IntKind.i64 (opAt os a'.i).n, Value.int IntKind.i64 (opAt os a'.i).lo, Value.int IntKind.i64 (opAt os a'.i).hi] : Bx } ∧
      true = true) ∧
      (some
      { ty := (33 : TypeId), cs := [Value.int IntKind.i64 (doT a_5.l (opAt os a_5.i)).snd.er, Value.int IntKind.i64 (doT a_5.l (opAt os a_5.i)).snd.va, Value.int IntKind.i64 (doT a_5.l (opAt os a_5.i)).snd.le, Value.int IntKind.i64 (doT a_5.l (opAt os a_5.i)).snd.mo] : Bx } =
      some
      { ty := (33 : TypeId), cs := [Value.int IntKind.i64 (doT a'.l (opAt os a'.i)).snd.er, Value.int IntKind.i64 (doT a'.l (opAt os a'.i)).snd.va, Value.int IntKind.i64 (doT a'.l (opAt os a'.i)).snd.le, Value.int IntKind.i64 (doT a'.l (opAt os a'.i)).snd.mo] : Bx } ∧
      true = true) ∧
      (some
      { ty := (44 : TypeId), cs := [Value.int IntKind.i64 n_13, Value.int IntKind.u64 n_14] : Bx } =
      some
      { ty := (44 : TypeId), cs := [Value.int IntKind.i64 (wideHi (sumT (List.take a'.k a'.l))), Value.int IntKind.u64 (wideLo (sumT (List.take a'.k a'.l)))] : Bx } ∧
      true = true) ∧
      (some
      { ty := (44 : TypeId), cs := [Value.int IntKind.i64 (wideHi (0 : Int)), Value.int IntKind.u64 (wideLo (0 : Int))] : Bx } =
      some
      { ty := (44 : TypeId), cs := [Value.int IntKind.i64 (wideHi (0 : Int)), Value.int IntKind.u64 (wideLo (0 : Int))] : Bx } ∧
      true = true) ∧
      True) ∧
      [os.length - a.i] = [os.length - a'.i]) ∧
      a'.l.length - a'.k < a_5.l.length - a_5.k)
      ((∃ (a_7 : WbX),
      ((WbJ l os ao { π := m.π, sz := N, uf := m.uf : M } a_7 (opAt os a_7.i) ∧
      a_7.k ≤ (doT a_7.l (opAt os a_7.i)).fst.length) ∧
      a_5.m = a_7.m ∧
      ((SV.val (Value.int IntKind.i64 (↑a_5.i : Int)) =
      SV.val (Value.int IntKind.i64 (↑a_7.i : Int)) ∧
      true = true) ∧
      (SV.val (Value.slice ao os.length co) =
      SV.val (Value.slice ao os.length co) ∧
      true = true) ∧
      (SV.val (Value.int IntKind.i64 (0 : Int)) =
      SV.val (Value.int IntKind.i64 (↑a_7.k : Int)) ∧
      true = true) ∧
      (SV.val
      (Value.slice a_5.x (doT a_5.l (opAt os a_5.i)).fst.length
      a_5.d) =
      SV.val
      (Value.slice a_7.x (doT a_7.l (opAt os a_7.i)).fst.length
      a_7.d) ∧
      true = true) ∧
      (SV.own (15 : Nat) (0 : Nat) = SV.own (15 : Nat) (0 : Nat) ∧
      true = true) ∧
      (SV.own (23 : Nat) (0 : Nat) = SV.own (23 : Nat) (0 : Nat) ∧
      true = true) ∧
      (SV.own (43 : Nat) (0 : Nat) = SV.own (43 : Nat) (0 : Nat) ∧
      true = true) ∧
      (SV.own (44 : Nat) (0 : Nat) =
      SV.own (44 : Nat) (0 : Nat) ∧
      true = true) ∧
      True) ∧
      (some
      { ty := (24 : TypeId), cs := [Value.int IntKind.i64 (opAt os a_5.i).kd, Value.string (opAt os a_5.i).ky, Value.string (opAt os a_5.i).ot, Value.int IntKind.i64 (opAt os a_5.i).n, Value.int IntKind.i64 (opAt os a_5.i).lo, Value.int IntKind.i64 (opAt os a_5.i).hi] : Bx } =
      some
      { ty := (24 : TypeId), cs := [Value.int IntKind.i64 (opAt os a_7.i).kd, Value.string (opAt os a_7.i).ky, Value.string (opAt os a_7.i).ot, Value.int IntKind.i64 (opAt os a_7.i).n, Value.int IntKind.i64 (opAt os a_7.i).lo, Value.int IntKind.i64 (opAt os a_7.i).hi] : Bx } ∧
      true = true) ∧
      (some
      { ty := (33 : TypeId), cs := [Value.int IntKind.i64 (doT a_5.l (opAt os a_5.i)).snd.er, Value.int IntKind.i64 (doT a_5.l (opAt os a_5.i)).snd.va, Value.int IntKind.i64 (doT a_5.l (opAt os a_5.i)).snd.le, Value.int IntKind.i64 (doT a_5.l (opAt os a_5.i)).snd.mo] : Bx } =
      some
      { ty := (33 : TypeId), cs := [Value.int IntKind.i64 (doT a_7.l (opAt os a_7.i)).snd.er, Value.int IntKind.i64 (doT a_7.l (opAt os a_7.i)).snd.va, Value.int IntKind.i64 (doT a_7.l (opAt os a_7.i)).snd.le, Value.int IntKind.i64 (doT a_7.l (opAt os a_7.i)).snd.mo] : Bx } ∧
      true = true) ∧
      (some
      { ty := (44 : TypeId), cs := [Value.int IntKind.i64 (wideHi (sumT (List.take a_5.k a_5.l))), Value.int IntKind.u64 (wideLo (sumT (List.take a_5.k a_5.l)))] : Bx } =
      some
      { ty := (44 : TypeId), cs := [Value.int IntKind.i64 (wideHi (sumT a_7.l)), Value.int IntKind.u64 (wideLo (sumT a_7.l))] : Bx } ∧
      true = true) ∧
      (some
      { ty := (44 : TypeId), cs := [Value.int IntKind.i64 (wideHi (0 : Int)), Value.int IntKind.u64 (wideLo (0 : Int))] : Bx } =
      some
      { ty := (44 : TypeId), cs := [Value.int IntKind.i64 (wideHi (sumT (List.take a_7.k (doT a_7.l (opAt os a_7.i)).fst))), Value.int IntKind.u64 (wideLo (sumT (List.take a_7.k (doT a_7.l (opAt os a_7.i)).fst)))] : Bx } ∧
      true = true) ∧
      True) ∧
      [os.length - a.i] = [os.length - a_7.i]) ∧
      ∀ (a_7 : WbX),
      (WbJ l os ao { π := m.π, sz := N, uf := m.uf : M } a_7 (opAt os a_7.i) ∧
      a_7.k ≤ (doT a_7.l (opAt os a_7.i)).fst.length) ∧
      [os.length - a.i] = [os.length - a_7.i] →
      ifB
      (decide ((↑a_7.k : Int) < (↑(doT a_7.l (opAt os a_7.i)).fst.length : Int)))
      (true = true ∧
      ∃ (b : Nat),
      ∃ (off : Nat),
      a_7.x = some { block := b, off := off : Addr } ∧
      ((0 : Int) ≤ (↑a_7.k : Int) ∧
      (↑a_7.k : Int) <
      (↑(doT a_7.l (opAt os a_7.i)).fst.length : Int)) ∧
      ∃ (n : Int),
      CellsAt a_7.m b
      (off + (↑a_7.k : Int).toNat * (4 : Nat) + (3 : Nat))
      [Value.int IntKind.i64 n] ∧
      ∃ (n_13 : Int),
      ∃ (n_14 : Int),
      QSpec Try.prog (19 : Nat)
      [Value.agg
      #[Value.int IntKind.i64
      (wideHi
      (sumT
      (List.take a_7.k
      (doT a_7.l (opAt os a_7.i)).fst))),
      Value.int IntKind.u64
      (wideLo
      (sumT
      (List.take a_7.k
      (doT a_7.l (opAt os a_7.i)).fst)))],
      Value.int IntKind.i64 n]
      a_7.m
      (Value.agg
      #[Value.int IntKind.i64 n_13,
      Value.int IntKind.u64 n_14]) ∧
      true = true ∧
      ∃ (b : Nat),
      ∃ (off : Nat),
      a_7.x = some { block := b, off := off : Addr } ∧
      ((0 : Int) ≤ (↑a_7.k : Int) ∧
      (↑a_7.k : Int) <
      (↑(doT a_7.l (opAt os a_7.i)).fst.length :
      Int)) ∧
      ∃ (n : Int),
      CellsAt a_7.m b
      (off +
      (↑a_7.k : Int).toNat * (4 : Nat) +
      (3 : Nat))
      [Value.int IntKind.i64 n] ∧
      ∃ (b : Nat),
      ∃ (off : Nat),
      a_7.x =
      some
      { block := b, off := off : Addr } ∧
      ((0 : Int) ≤ (↑a_7.k : Int) ∧
      (↑a_7.k : Int) <
      (↑(doT a_7.l
      (opAt os
      a_7.i)).fst.length :
      Int)) ∧
      ∃ (n_15 : Int),
      CellsAt a_7.m b
      (off +
      (↑a_7.k : Int).toNat *
      (4 : Nat) +
      (1 : Nat) +
      (0 : Nat))
      [Value.int IntKind.i64
      n_15] ∧
      ifB (decide (n < n_15))
      (Done
      (Value.bool false =
      Value.bool true))
      (∃ (b : Nat),
      ∃ (off : Nat),
      a_7.x =
      some
      { block := b, off := off : Addr } ∧
      ((0 : Int) ≤
      (↑a_7.k : Int) ∧
      (↑a_7.k : Int) <
      (↑(doT a_7.l
      (opAt
      os
      a_7.i)).fst.length :
      Int)) ∧
      ∃ (n : Int),
      CellsAt a_7.m b
      (off +
      (↑a_7.k :
      Int).toNat *
      (4 :
      Nat) +
      (3 : Nat))
      [Value.int
      IntKind.i64
      n] ∧
      ∃ (b : Nat),
      ∃ (off : Nat),
      a_7.x =
      some
      { block := b, off := off : Addr } ∧
      ((0 :
      Int) ≤
      (↑a_7.k :
      Int) ∧
      (↑a_7.k :
      Int) <
      (↑(doT
      a_7.l
      (opAt
      os
      a_7.i)).fst.length :
      Int)) ∧
      ∃ (n_16
      :
      Int),
      CellsAt
      a_7.m
      b
      (off +
      (↑a_7.k :
      Int).toNat *
      (4 :
      Nat) +
      (1 :
      Nat) +
      (1 :
      Nat))
      [Value.int
      IntKind.i64
      n_16] ∧
      ifB
      (decide
      (n >
      n_16))
      (Done
      (Value.bool
      false =
      Value.bool
      true))
      (∃
      (a'
      :
      WbX),
      (((WbJ
      l
      os
      ao
      { π := m.π, sz := N, uf := m.uf : M }
      a'
      (opAt
      os
      a'.i) ∧
      a'.k ≤
      (doT
      a'.l
      (opAt
      os
      a'.i)).fst.length) ∧
      a_7.m =
      a'.m ∧
      ((SV.val
      (Value.int
      IntKind.i64
      (↑a_7.i :
      Int)) =
      SV.val
      (Value.int
      IntKind.i64
      (↑a'.i :
      Int)) ∧
      true =
      true) ∧
      (SV.val
      (Value.slice
      ao
      os.length
      co) =
      SV.val
      (Value.slice
      ao
      os.length
      co) ∧
      true =
      true) ∧
      (SV.val
      (Value.int
      IntKind.i64
      (IntKind.i64.wrap
      ((↑a_7.k :
      Int) +
      (1 :
      Int)))) =
      SV.val
      (Value.int
      IntKind.i64
      (↑a'.k :
      Int)) ∧
      true =
      true) ∧
      (SV.val
      (Value.slice
      a_7.x
      (doT
      a_7.l
      (opAt
      os
      a_7.i)).fst.length
      a_7.d) =
      SV.val
      (Value.slice
      a'.x
      (doT
      a'.l
      (opAt
      os
      a'.i)).fst.length
      a'.d) ∧
      true =
      true) ∧
      (SV.own
      (15 :
      Nat)
      (0 :
      Nat) =
      SV.own
      (15 :
      Nat)
      (0 :
      Nat) ∧
      true =
      true) ∧
      (SV.own
      (23 :
      Nat)
      (0 :
      Nat) =
      SV.own
      (23 :
      Nat)
      (0 :
      Nat) ∧
      true =
      true) ∧
      (SV.own
      (43 :
      Nat)
      (0 :
      Nat) =
      SV.own
      (43 :
      Nat)
      (0 :
      Nat) ∧
      true =
      true) ∧
      (SV.own
      (44 :
      Nat)
      (0 :
      Nat) =
      SV.own
      (44 :
      Nat)
      (0 :
      Nat) ∧
      true =
      true) ∧
      True) ∧
      (some
      { ty := (24 : TypeId), cs := [Value.int IntKind.i64 (opAt os a_7.i).kd, Value.string (opAt os a_7.i).ky, Value.string (opAt os a_7.i).ot, Value.int IntKind.i64 (opAt os a_7.i).n, Value.int IntKind.i64 (opAt os a_7.i).lo, Value.int IntKind.i64 (opAt os a_7.i).hi] : Bx } =
      some
      { ty := (24 : TypeId), cs := [Value.int IntKind.i64 (opAt os a'.i).kd, Value.string (opAt os a'.i).ky, Value.string (opAt os a'.i).ot, Value.int IntKind.i64 (opAt os a'.i).n, Value.int IntKind.i64 (opAt os a'.i).lo, Value.int IntKind.i64 (opAt os a'.i).hi] : Bx } ∧
      true =
      true) ∧
      (some
      { ty := (33 : TypeId), cs := [Value.int IntKind.i64 (doT a_7.l (opAt os a_7.i)).snd.er, Value.int IntKind.i64 (doT a_7.l (opAt os a_7.i)).snd.va, Value.int IntKind.i64 (doT a_7.l (opAt os a_7.i)).snd.le, Value.int IntKind.i64 (doT a_7.l (opAt os a_7.i)).snd.mo] : Bx } =
      some
      { ty := (33 : TypeId), cs := [Value.int IntKind.i64 (doT a'.l (opAt os a'.i)).snd.er, Value.int IntKind.i64 (doT a'.l (opAt os a'.i)).snd.va, Value.int IntKind.i64 (doT a'.l (opAt os a'.i)).snd.le, Value.int IntKind.i64 (doT a'.l (opAt os a'.i)).snd.mo] : Bx } ∧
      true =
      true) ∧
      (some
      { ty := (44 : TypeId), cs := [Value.int IntKind.i64 (wideHi (sumT a_7.l)), Value.int IntKind.u64 (wideLo (sumT a_7.l))] : Bx } =
      some
      { ty := (44 : TypeId), cs := [Value.int IntKind.i64 (wideHi (sumT a'.l)), Value.int IntKind.u64 (wideLo (sumT a'.l))] : Bx } ∧
      true =
      true) ∧
      (some
      { ty := (44 : TypeId), cs := [Value.int IntKind.i64 n_13, Value.int IntKind.u64 n_14] : Bx } =
      some
      { ty := (44 : TypeId), cs := [Value.int IntKind.i64 (wideHi (sumT (List.take a'.k (doT a'.l (opAt os a'.i)).fst))), Value.int IntKind.u64 (wideLo (sumT (List.take a'.k (doT a'.l (opAt os a'.i)).fst)))] : Bx } ∧
      true =
      true) ∧
      True) ∧
      [os.length -
      a.i] =
      [os.length -
      a'.i]) ∧
      (doT
      a'.l
      (opAt
      os
      a'.i)).fst.length -
      a'.k <
      (doT
      a_7.l
      (opAt
      os
      a_7.i)).fst.length -
      a_7.k)))
      (ifB ((doT a_7.l (opAt os a_7.i)).snd.er == (0 : Int))
      (ifB ((opAt os a_7.i).kd == (1 : Int))
      (∃ (n : Int),
      ∃ (n_13 : Int),
      QSpec Try.prog (19 : Nat)
      [Value.agg
      #[Value.int IntKind.i64 (wideHi (sumT a_7.l)),
      Value.int IntKind.u64 (wideLo (sumT a_7.l))],
      Value.int IntKind.i64 (opAt os a_7.i).n]
      a_7.m
      (Value.agg
      #[Value.int IntKind.i64 n, Value.int IntKind.u64 n_13]) ∧
      ifB ((doT a_7.l (opAt os a_7.i)).snd.er == (0 : Int))
      (ifB ((opAt os a_7.i).kd == (2 : Int))
      (∃ (n_14 : Int),
      ∃ (n_15 : Int),
      QSpec Try.prog (20 : Nat)
      [Value.agg
      #[Value.int IntKind.i64 n,
      Value.int IntKind.u64 n_13],
      Value.int IntKind.i64 (opAt os a_7.i).n]
      a_7.m
      (Value.agg
      #[Value.int IntKind.i64 n_14,
      Value.int IntKind.u64 n_15]) ∧
      ifB
      (!(wideHi
      (sumT
      (List.take a_7.k
      (doT a_7.l (opAt os a_7.i)).fst)) ==
      n_14 &&
      (wideLo
      (sumT
      (List.take a_7.k
      (doT a_7.l (opAt os a_7.i)).fst)) ==
      n_15 &&
      true)))
      (Done (Value.bool false = Value.bool true))
      (∃ (a' : WbX),
      (WbI l os ao { π := m.π, sz := N, uf := m.uf : M }
      a' ∧
      a_7.m = a'.m ∧
      ((SV.val
      (Value.int IntKind.i64
      (IntKind.i64.wrap
      ((↑a_7.i : Int) + (1 : Int)))) =
      SV.val
      (Value.int IntKind.i64
      (↑a'.i : Int)) ∧
      true = true) ∧
      (SV.val (Value.slice ao os.length co) =
      SV.val
      (Value.slice ao os.length co) ∧
      true = true) ∧
      (SV.val
      (Value.slice a_7.x
      (doT a_7.l
      (opAt os
      a_7.i)).fst.length
      a_7.d) =
      SV.val
      (Value.slice a'.a a'.l.length
      a'.c) ∧
      true = true) ∧
      True) ∧
      True) ∧
      os.length - a'.i < os.length - a.i))
      (ifB
      (!(wideHi
      (sumT
      (List.take a_7.k
      (doT a_7.l (opAt os a_7.i)).fst)) ==
      n &&
      (wideLo
      (sumT
      (List.take a_7.k
      (doT a_7.l (opAt os a_7.i)).fst)) ==
      n_13 &&
      true)))
      (Done (Value.bool false = Value.bool true))
      (∃ (a' : WbX),
      (WbI l os ao { π := m.π, sz := N, uf := m.uf : M } a' ∧
      a_7.m = a'.m ∧
      ((SV.val
      (Value.int IntKind.i64
      (IntKind.i64.wrap
      ((↑a_7.i : Int) + (1 : Int)))) =
      SV.val
      (Value.int IntKind.i64 (↑a'.i : Int)) ∧
      true = true) ∧
      (SV.val (Value.slice ao os.length co) =
      SV.val (Value.slice ao os.length co) ∧
      true = true) ∧
      (SV.val
      (Value.slice a_7.x
      (doT a_7.l
      (opAt os a_7.i)).fst.length
      a_7.d) =
      SV.val
      (Value.slice a'.a a'.l.length a'.c) ∧
      true = true) ∧
      True) ∧
      True) ∧
      os.length - a'.i < os.length - a.i)))
      (ifB
      (!(wideHi
      (sumT
      (List.take a_7.k
      (doT a_7.l (opAt os a_7.i)).fst)) ==
      n &&
      (wideLo
      (sumT
      (List.take a_7.k
      (doT a_7.l (opAt os a_7.i)).fst)) ==
      n_13 &&
      true)))
      (Done (Value.bool false = Value.bool true))
      (∃ (a' : WbX),
      (WbI l os ao { π := m.π, sz := N, uf := m.uf : M } a' ∧
      a_7.m = a'.m ∧
      ((SV.val
      (Value.int IntKind.i64
      (IntKind.i64.wrap
      ((↑a_7.i : Int) + (1 : Int)))) =
      SV.val (Value.int IntKind.i64 (↑a'.i : Int)) ∧
      true = true) ∧
      (SV.val (Value.slice ao os.length co) =
      SV.val (Value.slice ao os.length co) ∧
      true = true) ∧
      (SV.val
      (Value.slice a_7.x
      (doT a_7.l (opAt os a_7.i)).fst.length
      a_7.d) =
      SV.val
      (Value.slice a'.a a'.l.length a'.c) ∧
      true = true) ∧
      True) ∧
      True) ∧
      os.length - a'.i < os.length - a.i)))
      (ifB ((doT a_7.l (opAt os a_7.i)).snd.er == (0 : Int))
      (ifB ((opAt os a_7.i).kd == (2 : Int))
      (∃ (n : Int),
      ∃ (n_13 : Int),
      QSpec Try.prog (20 : Nat)
      [Value.agg
      #[Value.int IntKind.i64 (wideHi (sumT a_7.l)),
      Value.int IntKind.u64 (wideLo (sumT a_7.l))],
      Value.int IntKind.i64 (opAt os a_7.i).n]
      a_7.m
      (Value.agg
      #[Value.int IntKind.i64 n, Value.int IntKind.u64 n_13]) ∧
      ifB
      (!(wideHi
      (sumT
      (List.take a_7.k
      (doT a_7.l (opAt os a_7.i)).fst)) ==
      n &&
      (wideLo
      (sumT
      (List.take a_7.k
      (doT a_7.l (opAt os a_7.i)).fst)) ==
      n_13 &&
      true)))
      (Done (Value.bool false = Value.bool true))
      (∃ (a' : WbX),
      (WbI l os ao { π := m.π, sz := N, uf := m.uf : M } a' ∧
      a_7.m = a'.m ∧
      ((SV.val
      (Value.int IntKind.i64
      (IntKind.i64.wrap
      ((↑a_7.i : Int) + (1 : Int)))) =
      SV.val
      (Value.int IntKind.i64 (↑a'.i : Int)) ∧
      true = true) ∧
      (SV.val (Value.slice ao os.length co) =
      SV.val (Value.slice ao os.length co) ∧
      true = true) ∧
      (SV.val
      (Value.slice a_7.x
      (doT a_7.l
      (opAt os a_7.i)).fst.length
      a_7.d) =
      SV.val
      (Value.slice a'.a a'.l.length a'.c) ∧
      true = true) ∧
      True) ∧
      True) ∧
      os.length - a'.i < os.length - a.i))
      (ifB
      (!(wideHi
      (sumT
      (List.take a_7.k (doT a_7.l (opAt os a_7.i)).fst)) ==
      wideHi (sumT a_7.l) &&
      (wideLo
      (sumT
      (List.take a_7.k (doT a_7.l (opAt os a_7.i)).fst)) ==
      wideLo (sumT a_7.l) &&
      true)))
      (Done (Value.bool false = Value.bool true))
      (∃ (a' : WbX),
      (WbI l os ao { π := m.π, sz := N, uf := m.uf : M } a' ∧
      a_7.m = a'.m ∧
      ((SV.val
      (Value.int IntKind.i64
      (IntKind.i64.wrap
      ((↑a_7.i : Int) + (1 : Int)))) =
      SV.val (Value.int IntKind.i64 (↑a'.i : Int)) ∧
      true = true) ∧
      (SV.val (Value.slice ao os.length co) =
      SV.val (Value.slice ao os.length co) ∧
      true = true) ∧
      (SV.val
      (Value.slice a_7.x
      (doT a_7.l (opAt os a_7.i)).fst.length
      a_7.d) =
      SV.val (Value.slice a'.a a'.l.length a'.c) ∧
      true = true) ∧
      True) ∧
      True) ∧
      os.length - a'.i < os.length - a.i)))
      (ifB
      (!(wideHi
      (sumT (List.take a_7.k (doT a_7.l (opAt os a_7.i)).fst)) ==
      wideHi (sumT a_7.l) &&
      (wideLo
      (sumT
      (List.take a_7.k (doT a_7.l (opAt os a_7.i)).fst)) ==
      wideLo (sumT a_7.l) &&
      true)))
      (Done (Value.bool false = Value.bool true))
      (∃ (a' : WbX),
      (WbI l os ao { π := m.π, sz := N, uf := m.uf : M } a' ∧
      a_7.m = a'.m ∧
      ((SV.val
      (Value.int IntKind.i64
      (IntKind.i64.wrap
      ((↑a_7.i : Int) + (1 : Int)))) =
      SV.val (Value.int IntKind.i64 (↑a'.i : Int)) ∧
      true = true) ∧
      (SV.val (Value.slice ao os.length co) =
      SV.val (Value.slice ao os.length co) ∧
      true = true) ∧
      (SV.val
      (Value.slice a_7.x
      (doT a_7.l (opAt os a_7.i)).fst.length
      a_7.d) =
      SV.val (Value.slice a'.a a'.l.length a'.c) ∧
      true = true) ∧
      True) ∧
      True) ∧
      os.length - a'.i < os.length - a.i))))
      (ifB ((doT a_7.l (opAt os a_7.i)).snd.er == (0 : Int))
      (ifB ((opAt os a_7.i).kd == (2 : Int))
      (∃ (n : Int),
      ∃ (n_13 : Int),
      QSpec Try.prog (20 : Nat)
      [Value.agg
      #[Value.int IntKind.i64 (wideHi (sumT a_7.l)),
      Value.int IntKind.u64 (wideLo (sumT a_7.l))],
      Value.int IntKind.i64 (opAt os a_7.i).n]
      a_7.m
      (Value.agg
      #[Value.int IntKind.i64 n, Value.int IntKind.u64 n_13]) ∧
      ifB
      (!(wideHi
      (sumT
      (List.take a_7.k
      (doT a_7.l (opAt os a_7.i)).fst)) ==
      n &&
      (wideLo
      (sumT
      (List.take a_7.k
      (doT a_7.l (opAt os a_7.i)).fst)) ==
      n_13 &&
      true)))
      (Done (Value.bool false = Value.bool true))
      (∃ (a' : WbX),
      (WbI l os ao { π := m.π, sz := N, uf := m.uf : M } a' ∧
      a_7.m = a'.m ∧
      ((SV.val
      (Value.int IntKind.i64
      (IntKind.i64.wrap
      ((↑a_7.i : Int) + (1 : Int)))) =
      SV.val (Value.int IntKind.i64 (↑a'.i : Int)) ∧
      true = true) ∧
      (SV.val (Value.slice ao os.length co) =
      SV.val (Value.slice ao os.length co) ∧
      true = true) ∧
      (SV.val
      (Value.slice a_7.x
      (doT a_7.l (opAt os a_7.i)).fst.length
      a_7.d) =
      SV.val
      (Value.slice a'.a a'.l.length a'.c) ∧
      true = true) ∧
      True) ∧
      True) ∧
      os.length - a'.i < os.length - a.i))
      (ifB
      (!(wideHi
      (sumT (List.take a_7.k (doT a_7.l (opAt os a_7.i)).fst)) ==
      wideHi (sumT a_7.l) &&
      (wideLo
      (sumT
      (List.take a_7.k (doT a_7.l (opAt os a_7.i)).fst)) ==
      wideLo (sumT a_7.l) &&
      true)))
      (Done (Value.bool false = Value.bool true))
      (∃ (a' : WbX),
      (WbI l os ao { π := m.π, sz := N, uf := m.uf : M } a' ∧
      a_7.m = a'.m ∧
      ((SV.val
      (Value.int IntKind.i64
      (IntKind.i64.wrap
      ((↑a_7.i : Int) + (1 : Int)))) =
      SV.val (Value.int IntKind.i64 (↑a'.i : Int)) ∧
      true = true) ∧
      (SV.val (Value.slice ao os.length co) =
      SV.val (Value.slice ao os.length co) ∧
      true = true) ∧
      (SV.val
      (Value.slice a_7.x
      (doT a_7.l (opAt os a_7.i)).fst.length
      a_7.d) =
      SV.val (Value.slice a'.a a'.l.length a'.c) ∧
      true = true) ∧
      True) ∧
      True) ∧
      os.length - a'.i < os.length - a.i)))
      (ifB
      (!(wideHi (sumT (List.take a_7.k (doT a_7.l (opAt os a_7.i)).fst)) ==
      wideHi (sumT a_7.l) &&
      (wideLo
      (sumT (List.take a_7.k (doT a_7.l (opAt os a_7.i)).fst)) ==
      wideLo (sumT a_7.l) &&
      true)))
      (Done (Value.bool false = Value.bool true))
      (∃ (a' : WbX),
      (WbI l os ao { π := m.π, sz := N, uf := m.uf : M } a' ∧
      a_7.m = a'.m ∧
      ((SV.val
      (Value.int IntKind.i64
      (IntKind.i64.wrap ((↑a_7.i : Int) + (1 : Int)))) =
      SV.val (Value.int IntKind.i64 (↑a'.i : Int)) ∧
      true = true) ∧
      (SV.val (Value.slice ao os.length co) =
      SV.val (Value.slice ao os.length co) ∧
      true = true) ∧
      (SV.val
      (Value.slice a_7.x
      (doT a_7.l (opAt os a_7.i)).fst.length
      a_7.d) =
      SV.val (Value.slice a'.a a'.l.length a'.c) ∧
      true = true) ∧
      True) ∧
      True) ∧
      os.length - a'.i < os.length - a.i))))))
      (Done (Value.bool true = Value.bool true))))) (by kernel_rfl) ?_
  refine ⟨rfl, _, wawake_q _, ifB_false ⟨_, rtright_q a cp l (by omega) _ (h.sz hN), ?_⟩⟩
  cases ht : totB none l
  · exact ifB_true ⟨_, wcheck_q a cp l (by omega) _ (h.sz hN), ⟨by rw [ht]; rfl⟩⟩
  refine ifB_false ⟨⟨⟨0, 0, l, a, cp, none, 0, _⟩, ⟨Nat.zero_le _, ht, hl, by simp, h.sz hN, ho.sz hN⟩, rfl, by simp⟩, fun y Y => ifB_intro (fun hb => ?_) (fun hb => ⟨rfl⟩)⟩
  have hi : y.i < os.length := by simpa using hb
  have ho1 : opAt os y.i = os[y.i] := by simp [opAt, List.getElem?_eq_getElem hi]
  have hof : ∀ j, (opAt os j).wf := fun j => by
    by_cases hj : j < os.length
    · rw [show opAt os j = os[j] by simp [opAt, List.getElem?_eq_getElem hj]]; exact hos _ (List.getElem_mem hj)
    · rw [show opAt os j = o5 by simp [opAt, List.getElem?_eq_none (Nat.le_of_not_lt hj)]]
      exact ⟨by decide, by decide, by decide, by decide, by decide, by decide⟩
  have hlen := Y.len
  obtain ⟨b, o, rfl, hc⟩ := Y.ops.cells (by rw [oq_len]; omega)
  refine ⟨b, o, rfl, by omega, os[y.i].kd, os[y.i].ky, os[y.i].ot, os[y.i].n, os[y.i].lo, os[y.i].hi, by simpa using oq_at hc hi, ?_⟩
  rw [← ho1]
  have R : Rs y.m [(y.a, tts y.l), (some ⟨b, o, none⟩, oqs os)] := ⟨Y.row, Y.ops, trivial⟩
  refine ⟨_, noS, fun N1 hN1 => (wdo_s y.a y.c y.l (opAt os y.i) (by omega) Y.wf (hof _) _ ((R.sz hN1).1)).monoW fun v1 m1 ag1 q1 => ?_⟩
  obtain ⟨x1, d1, e1, r1⟩ := q1
  have R1 := Rs.cons r1 (Rs.step R hN1 ag1)
  have P := do_p Y.right Y.wf (hof y.i)
  have dl := do_len y.l (opAt os y.i)
  refine ⟨_, _, _, _, _, _, _, e1, ⟨_, wcheck_q _ _ _ (by omega) _ R1.1, ?_⟩, fun z ⟨Z, Zc⟩ => ⟨_, _, of0 _, _, _, of0 _, ⟨{ z with k := 0 }, ⟨⟨Z.k _, Nat.zero_le _⟩, rfl, by simp, ⟨rfl, rfl⟩, ⟨rfl, rfl⟩, ⟨by simp [sumT, sumI], rfl⟩, ⟨rfl, rfl⟩, trivial⟩, Zc⟩, fun z ⟨⟨Z, Zk⟩, Zc⟩ => ifB_intro (fun hb => ?_) (fun hb => ⟨?_, fun z ⟨⟨Z, Zk⟩, Zc⟩ => ifB_intro (fun hb => ?_) (fun hb => ?_)⟩)⟩⟩
  · rw [P.right]
    have hx : WbJ l os (some ⟨b, o, none⟩) { m with sz := N } ⟨y.i, 0, y.l, y.a, y.c, x1, d1, m1⟩ (opAt os y.i) := ⟨⟨Y.i, Y.right, Y.wf, Y.len, R1.2.1, R1.2.2.1⟩, hi, by simp [ho1, List.getElem?_eq_getElem hi], R1.1⟩
    refine ifB_false (ifB_intro (fun h1 => ?_) (fun h1 => ⟨⟨y.i, 0, y.l, y.a, y.c, x1, d1, m1⟩, ⟨hx, rfl, by simp, ⟨rfl, rfl⟩, ⟨rfl, rfl⟩, trivial⟩, rfl⟩))
    have he := P.err (by simpa using h1)
    have hpl := tt_plain x1 y.a d1 y.c (doT y.l (opAt os y.i)).1 y.l (by omega) m1 R1.1 R1.2.1
    rw [decide_eq_true he] at hpl
    exact ⟨_, hpl, ifB_false ⟨⟨y.i, 0, y.l, y.a, y.c, x1, d1, m1⟩, ⟨hx, rfl, by simp, ⟨rfl, rfl⟩, ⟨rfl, rfl⟩, trivial⟩, rfl⟩⟩
  · have hk : z.k < z.l.length := by simpa using hb
    obtain ⟨b2, o2, e2, hc2⟩ := Z.i.row.cells (by rw [tt_len]; omega)
    have w1 : IntKind.i64.wrap ((z.k : Int) + 1) = ((z.k + 1 : Nat) : Int) := by have := Z.i.len; have := Z.i.i; simp [IntKind.wrap_i64]; omega
    have c3 := CellsAt.field tt_k hc2 hk (p := [.string z.l[z.k].ky, I z.l[z.k].sp_lo, I z.l[z.k].sp_hi]) (old := [I z.l[z.k].va]) (q := []) rfl
    have hv := (Z.i.wf _ (List.getElem_mem hk)).2.2.2
    refine ⟨rfl, b2, o2, e2, by omega, _, by simpa using c3, _, _, plus_q _ _ hv _, ⟨{ z with k := z.k + 1 }, ⟨⟨⟨Z.k _, hk⟩, rfl, by simp [w1], ⟨rfl, rfl⟩, ⟨rfl, rfl⟩, ⟨?_, rfl⟩, ⟨rfl, rfl⟩, trivial⟩, Zc⟩, by simp only; omega⟩⟩
    simp only [sumT_take hk]
  · have hk : z.k = z.l.length := by simp at hb; omega
    refine ⟨{ z with k := 0 }, ⟨⟨Z.k _, Nat.zero_le _⟩, rfl, by simp, ⟨rfl, rfl⟩, ⟨rfl, rfl⟩, ⟨by simp [hk], rfl⟩, ⟨by simp [sumT, sumI], rfl⟩, trivial⟩, Zc⟩
  · have hk : z.k < (doT z.l (opAt os z.i)).1.length := by simpa using hb
    obtain ⟨b2, o2, e2, hc2⟩ := Z.x.cells (by rw [tt_len]; omega)
    have P := do_p Z.i.right Z.i.wf (hof z.i)
    have dl := do_len z.l (opAt os z.i)
    have zl := Z.i.len
    have w1 : IntKind.i64.wrap ((z.k : Int) + 1) = ((z.k + 1 : Nat) : Int) := by have := Z.i.i; simp [IntKind.wrap_i64]; omega
    have hm := (tot_mem P.right _ (List.getElem_mem hk)).2
    have hv := (P.wf _ (List.getElem_mem hk)).2.2.2
    generalize hx : (doT z.l (opAt os z.i)).1[z.k] = x at *
    have c0 := CellsAt.field tt_k hc2 hk (p := [.string x.ky]) (old := [I x.sp_lo]) (q := [I x.sp_hi, I x.va]) (by rw [hx]; rfl)
    have c1 := CellsAt.field tt_k hc2 hk (p := [.string x.ky, I x.sp_lo]) (old := [I x.sp_hi]) (q := [I x.va]) (by rw [hx]; rfl)
    have c3 := CellsAt.field tt_k hc2 hk (p := [.string x.ky, I x.sp_lo, I x.sp_hi]) (old := [I x.va]) (q := []) (by rw [hx]; rfl)
    have hh : x.sp_lo ≤ x.va ∧ x.va ≤ x.sp_hi := by simp [tmayB, hasT] at hm; omega
    refine ⟨rfl, b2, o2, e2, by omega, _, by simpa using c3, _, _, plus_q _ _ hv _, rfl, b2, o2, e2, by omega, _, by simpa using c3, b2, o2, e2, by omega, _, by simpa using c0, ?_⟩
    rw [show decide (x.va < x.sp_lo) = false by simp; omega]
    refine ifB_false ⟨b2, o2, e2, by omega, _, by simpa using c3, b2, o2, e2, by omega, _, by simpa using c1, ?_⟩
    rw [show decide (x.va > x.sp_hi) = false by simp; omega]
    refine ifB_false ⟨{ z with k := z.k + 1 }, ⟨⟨⟨Z.k _, hk⟩, rfl, by simp [w1], ⟨rfl, rfl⟩, ⟨rfl, rfl⟩, ⟨rfl, rfl⟩, ⟨?_, rfl⟩, trivial⟩, Zc⟩, by simp only; omega⟩
    simp only [sumT_take hk, hx]
  · have hk : z.k = (doT z.l (opAt os z.i)).1.length := by simp at hb; omega
    have P := do_p Z.i.right Z.i.wf (hof z.i)
    have dl := do_len z.l (opAt os z.i)
    have zl := Z.i.len
    have zi : z.i = y.i := by have := Z.lt; simp at Zc; omega
    have w1 : IntKind.i64.wrap ((z.i : Int) + 1) = ((z.i + 1 : Nat) : Int) := by have := Z.i.i; simp [IntKind.wrap_i64]; omega
    have inv' : WbI l os (some ⟨b, o, none⟩) { m with sz := N } ⟨z.i + 1, 0, (doT z.l (opAt os z.i)).1, z.x, z.d, none, 0, z.m⟩ := ⟨Z.lt, P.right, P.wf, by simp only; omega, Z.x, Z.i.ops⟩
    have hs := P.sum
    rw [hk, List.take_length, hs]
    have hn64 := (hof z.i).2.2.2.1
    have eqT : ∀ W V : Int, W = V → (!(wideHi W == wideHi V && (wideLo W == wideLo V && true))) = false := fun W V e => by rw [e]; simp
    by_cases he : (doT z.l (opAt os z.i)).2.er = 0
    · rw [show ((doT z.l (opAt os z.i)).2.er == 0) = true by simpa using he]
      by_cases k1 : (opAt os z.i).kd = 1
      · rw [show ((opAt os z.i).kd == 1) = true by simpa using k1, show ((opAt os z.i).kd == 2) = false by simp [k1]]
        refine ifB_true (ifB_true ⟨_, _, plus_q _ _ hn64 _, ifB_true (ifB_false ?_)⟩)
        rw [eqT _ _ (by simp [addE2, he, k1])]
        exact ifB_false ⟨_, ⟨inv', rfl, by simp [w1], trivial⟩, by simp only; omega⟩
      · rw [show ((opAt os z.i).kd == 1) = false by simpa using k1]
        by_cases k2 : (opAt os z.i).kd = 2
        · rw [show ((opAt os z.i).kd == 2) = true by simpa using k2]
          refine ifB_true (ifB_false (ifB_true (ifB_true ⟨_, _, less_q _ _ hn64 _, ?_⟩)))
          rw [eqT _ _ (by simp [addE2, he, k2]; rfl)]
          exact ifB_false ⟨_, ⟨inv', rfl, by simp [w1], trivial⟩, by simp only; omega⟩
        · rw [show ((opAt os z.i).kd == 2) = false by simpa using k2]
          refine ifB_true (ifB_false (ifB_true (ifB_false ?_)))
          rw [eqT _ _ (by simp [addE2, k1, k2])]
          exact ifB_false ⟨_, ⟨inv', rfl, by simp [w1], trivial⟩, by simp only; omega⟩
    · rw [show ((doT z.l (opAt os z.i)).2.er == 0) = false by simpa using he]
      refine ifB_false (ifB_false ?_)
      rw [eqT _ _ (by simp [addE2, he])]
      exact ifB_false ⟨_, ⟨inv', rfl, by simp [w1], trivial⟩, by simp only; omega⟩

end Go.Proofs.Ytbhlhnkjmncloaa
set_option linter.unusedVariables false
set_option linter.unusedSimpArgs false
namespace Go.Proofs.Ytbhlhnkjmncloaa
open Go.Vc Go.RowKit
set_option maxRecDepth 100000

def cl0 : Cl := ⟨0, 0, 0, 0, .empty, .empty, 0, 0, 0, 0, 0, 0, 0, 0, 0, 0⟩
def clA (l : List Cl) (i : Nat) : Cl := (l[i]?).getD cl0
theorem clA_at {l : List Cl} {i : Nat} (h : i < l.length) : clA l i = l[i] := by simp [clA, List.getElem?_eq_getElem h]
theorem moA_cl (l : List Cl) (i : Nat) : moA l i = (clA l i).mo := by
  unfold moA clA
  cases l[i]? <;> rfl

def opC (c : Cl) : Oq := ⟨c.op_kd, c.op_ky, c.op_ot, c.op_n, c.op_lo, c.op_hi⟩
def anC (c : Cl) : An := ⟨c.an_er, c.an_va, c.an_le, c.an_mo⟩

theorem opC_wf {c : Cl} (h : c.wf) : (opC c).wf := ⟨h.2.2.2.1, h.2.2.2.2.1, h.2.2.2.2.2.1, h.2.2.2.2.2.2.1, h.2.2.2.2.2.2.2.1, h.2.2.2.2.2.2.2.2.1⟩

/-- the calls that have a moment, by rising moments -/
def ordC (l : List Cl) : List Cl := (ordL l).map (clA l)

theorem ordC_len (l : List Cl) : (ordC l).length = (ordL l).length := by simp [ordC]

/-- an error with which an operation had no effect -/
def noEff (e : Int) : Bool := decide (e = 190) || decide (e = 3) || decide (e = 171) || decide (e = 170)

def sqB (c : Cl) (e : List Cl) : Bool := e.any fun x => decide (x.cl = c.cl) && decide (c.sq ≤ x.sq)
def opnB (c : Cl) (e : List Cl) : Bool := e.any fun x => decide (x.cl = c.cl) && (decide (x.aw = 0) || decide (c.ca ≤ x.aw))
def badB (c : Cl) : Bool := !(decide (1 ≤ c.cl) && decide (c.cl ≤ 8)) || decide (c.ca < 1) || (!decide (c.aw = 0) && decide (c.aw < c.ca))
def oldB (c : Cl) : Bool := decide (0 < c.mo) && (decide (c.mo < c.ca) || (!decide (c.aw = 0) && decide (c.aw < c.mo)))
def nonB (c : Cl) : Bool := !decide (c.aw = 0) && (decide (0 < c.mo) == noEff c.an_er)

/-- what is wrong with a call behind earlier ones, whatever counters do -/
def wrgE (c : Cl) (e : List Cl) : Int := if badB c || sqB c e then 21 else if oldB c then 80 else if opnB c e then 230 else if nonB c then 60 else 0

theorem without_q (e : Int) (m : M) : QSpec Try.prog 60 [I e] m (.bool (noEff e)) := by
  refine QSpec.of_vc Try.func60 (ann := fun _ => noAnn) fun n hn => ?_
  refine vc_by (X :=
      true = true ∧
      ifB (e == (190 : Int)) (Done (Value.bool true = Value.bool (noEff e)))
      (ifB (e == (3 : Int)) (Done (Value.bool true = Value.bool (noEff e)))
      (ifB (e == (171 : Int)) (Done (Value.bool true = Value.bool (noEff e)))
      (ifB (e == (170 : Int)) (Done (Value.bool true = Value.bool (noEff e))) (Done (Value.bool false = Value.bool (noEff e))))))) (by kernel_rfl) ?_
  refine ⟨rfl, ?_⟩
  simp only [ifB_iff, done_iff, Value.bool.injEq]
  unfold noEff
  by_cases h1 : e = 190 <;> by_cases h2 : e = 3 <;> by_cases h3 : e = 171 <;> by_cases h4 : e = 170 <;> simp [*]

theorem nothing_q (e : Int) (m : M) : QSpec Try.prog 62 [I e] m (.bool (noEff e)) := by
  refine QSpec.of_vc Try.func62 (ann := fun _ => noAnn) fun n hn => ?_
  refine vc_by (X :=
      true = true ∧
      ifB (e == (190 : Int)) (Done (Value.bool true = Value.bool (noEff e)))
      (ifB (e == (3 : Int)) (Done (Value.bool true = Value.bool (noEff e)))
      (ifB (e == (171 : Int)) (Done (Value.bool true = Value.bool (noEff e))) (Done (Value.bool (e == (170 : Int)) = Value.bool (noEff e)))))) (by kernel_rfl) ?_
  refine ⟨rfl, ?_⟩
  simp only [ifB_iff, done_iff, Value.bool.injEq]
  unfold noEff
  by_cases h1 : e = 190 <;> by_cases h2 : e = 3 <;> by_cases h3 : e = 171 <;> by_cases h4 : e = 170 <;> simp [*]

theorem rclient_q (x : Int) (m : M) : QSpec Try.prog 61 [I x] m (.bool (decide (1 ≤ x) && decide (x ≤ 8))) := by
  refine QSpec.of_vc Try.func61 (ann := fun _ => noAnn) fun n hn => ?_
  refine vc_by (X :=
      true = true ∧
      ifB (decide (x ≥ (1 : Int))) (Done (Value.bool (decide (x ≤ (8 : Int))) = Value.bool (decide ((1 : Int) ≤ x) && decide (x ≤ (8 : Int)))))
      (Done (Value.bool false = Value.bool (decide ((1 : Int) ≤ x) && decide (x ≤ (8 : Int)))))) (by kernel_rfl) ?_
  refine ⟨rfl, ifB_intro (fun h => ⟨?_⟩) (fun h => ⟨?_⟩)⟩
  · simp at h; have : 1 ≤ x := by omega
    simp [this]
  · simp at h; have : ¬ 1 ≤ x := by omega
    simp [this]

/-- is a call that has a moment told what its operation plainly does? -/
def rigB (c : Cl) (a : An) : Bool := decide (c.aw = 0) || (decide (c.an_er = a.er) && (!decide (a.er = 0) || (if c.op_kd = 4 then decide (c.an_va = a.va) else if c.op_kd = 3 then decide (c.an_le ≤ a.le) && decide (a.mo ≤ c.an_mo) else true)))

theorem rightly_q (c : Cl) (a : An) (m : M) : QSpec Try.prog 48 [clv c, anv a] m (.bool (rigB c a)) := by
  refine QSpec.of_vc Try.func48 (ann := fun _ => noAnn) fun n hn => ?_
  refine vc_by (X :=
      true = true ∧
      ifB (c.aw == (0 : Int)) (Done (Value.bool true = Value.bool (rigB c a)))
      (ifB (c.an_er != a.er) (Done (Value.bool false = Value.bool (rigB c a)))
      (ifB (a.er != (0 : Int)) (Done (Value.bool true = Value.bool (rigB c a)))
      (ifB (c.op_kd == (4 : Int)) (Done (Value.bool (c.an_va == a.va) = Value.bool (rigB c a)))
      (ifB (c.op_kd == (3 : Int))
      (ifB (decide (c.an_le ≤ a.le)) (Done (Value.bool (decide (c.an_mo ≥ a.mo)) = Value.bool (rigB c a))) (Done (Value.bool false = Value.bool (rigB c a))))
      (Done (Value.bool true = Value.bool (rigB c a)))))))) (by kernel_rfl) ?_
  refine ⟨rfl, ?_⟩
  simp only [ifB_iff, done_iff, Value.bool.injEq]
  unfold rigB
  by_cases h1 : c.aw = 0
  · simp [h1]
  by_cases h2 : c.an_er = a.er
  · by_cases h3 : a.er = 0
    · by_cases h4 : c.op_kd = 4
      · simp [h1, h2, h3, h4, beq_eq_dec]
      · by_cases h5 : c.op_kd = 3
        · by_cases h6 : c.an_le ≤ a.le <;> simp [h1, h2, h3, h5, h6, show ¬ a.le < c.an_le ↔ c.an_le ≤ a.le by omega]
        · simp [h1, h2, h3, h4, h5]
    · simp [h1, h2, h3]
  · simp [h1, h2]

theorem rrightly_q (c : Cl) (a : An) (m : M) : QSpec Try.prog 50 [clv c, anv a] m (.bool (rigB c a)) := by
  refine QSpec.of_vc Try.func50 (ann := fun _ => noAnn) fun n hn => ?_
  refine vc_by (X :=
      true = true ∧
      ifB (c.aw == (0 : Int)) (Done (Value.bool true = Value.bool (rigB c a)))
      (ifB (c.an_er != a.er) (Done (Value.bool false = Value.bool (rigB c a)))
      (ifB (a.er != (0 : Int)) (Done (Value.bool true = Value.bool (rigB c a)))
      (ifB (c.op_kd == (4 : Int)) (Done (Value.bool (c.an_va == a.va) = Value.bool (rigB c a)))
      (ifB (c.op_kd == (3 : Int))
      (ifB (decide (c.an_le ≤ a.le)) (Done (Value.bool (decide (a.mo ≤ c.an_mo)) = Value.bool (rigB c a))) (Done (Value.bool false = Value.bool (rigB c a))))
      (Done (Value.bool true = Value.bool (rigB c a)))))))) (by kernel_rfl) ?_
  refine ⟨rfl, ?_⟩
  simp only [ifB_iff, done_iff, Value.bool.injEq]
  unfold rigB
  by_cases h1 : c.aw = 0
  · simp [h1]
  by_cases h2 : c.an_er = a.er
  · by_cases h3 : a.er = 0
    · by_cases h4 : c.op_kd = 4
      · simp [h1, h2, h3, h4, beq_eq_dec]
      · by_cases h5 : c.op_kd = 3
        · by_cases h6 : c.an_le ≤ a.le <;> simp [h1, h2, h3, h5, h6, show ¬ a.le < c.an_le ↔ c.an_le ≤ a.le by omega]
        · simp [h1, h2, h3, h4, h5]
    · simp [h1, h2, h3]
  · simp [h1, h2]

/-- what is left of the test, if it is no matter of form -/
theorem wrg_tail {c : Cl} {e : List Cl} (h1 : badB c = false) (h2 : sqB c e = false) : wrgE c e = if oldB c then 80 else if opnB c e then 230 else if nonB c then 60 else 0 := by simp [wrgE, h1, h2]

theorem bad_form {c : Cl} {e : List Cl} (h : badB c = true ∨ sqB c e = true) : wrgE c e = 21 := by
  have : (badB c || sqB c e) = true := by rcases h with h | h <;> simp [h]
  simp [wrgE, this]

theorem any_take {α : Type} (p : α → Bool) (l : List α) (k : Nat) (hk : k < l.length) : (l.take (k + 1)).any p = ((l.take k).any p || p l[k]) := by
  rw [List.take_succ_eq_append_getElem hk, List.any_append]; simp

theorem any_sub {α : Type} (p : α → Bool) (l : List α) (k : Nat) (h : (l.take k).any p = true) : l.any p = true := by
  rw [List.any_eq_true] at h ⊢
  obtain ⟨x, h1, h2⟩ := h
  exact ⟨x, List.mem_of_mem_take h1, h2⟩

theorem bad_no {c : Cl} (h1 : ¬ c.cl < 1) (h2 : ¬ c.cl > 8) (h3 : ¬ c.ca < 1) (h4 : ¬ (c.aw ≠ 0 ∧ c.aw < c.ca)) : badB c = false := by
  have a1 : 1 ≤ c.cl := by omega
  have a2 : c.cl ≤ 8 := by omega
  by_cases h : c.aw = 0
  · simp [badB, a1, a2, h]; omega
  · have : ¬ c.aw < c.ca := fun h5 => h4 ⟨h, h5⟩
    simp [badB, a1, a2, this]; omega

theorem wrong_q (c : Cl) (a : Option Addr) (cp : Nat) (e : List Cl) (hn : e.length ≤ 9223372036854775807) (m : M) (h : Row m a (cls e)) : QSpec Try.prog 47 [clv c, .slice a e.length cp] m (I (wrgE c e)) := by
  refine QSpec.of_vc Try.func47 (ann := fun n r => match r with
    | 5 => { A := Nat, inv := fun k => k ≤ e.length ∧ badB c = false ∧ sqB c (e.take k) = false, st := fun k => [(36, .val (I k)), (35, .val (I e.length)), (34, .val (.slice a e.length cp)), (2, .own 0 0), (5, .val (.bool (opnB c (e.take k))))], own := fun _ => [(0, ⟨51, encCl c⟩)], m := fun _ => { m with sz := n }, μ := fun k => e.length - k }
    | 3 => { A := Nat, inv := fun _ => badB c = false, st := fun k => [(1, .val (.slice a e.length cp)), (2, .own 0 0)], own := fun _ => [(0, ⟨51, encCl c⟩)], m := fun _ => { m with sz := n }, μ := fun k => 0, cut := true }
    | _ => noAnn 0) fun n hn => ?_
  refine vc_by (X :=
      true = true ∧
      ifB (decide (c.cl < (1 : Int))) (Done (Value.int IntKind.i64 (21 : Int) = Value.int IntKind.i64 (wrgE c e)))
      (ifB (decide (c.cl > (8 : Int))) (Done (Value.int IntKind.i64 (21 : Int) = Value.int IntKind.i64 (wrgE c e)))
      (ifB (decide (c.ca < (1 : Int))) (Done (Value.int IntKind.i64 (21 : Int) = Value.int IntKind.i64 (wrgE c e)))
      (ifB (c.aw != (0 : Int))
      (ifB (decide (c.aw < c.ca)) (Done (Value.int IntKind.i64 (21 : Int) = Value.int IntKind.i64 (wrgE c e)))
      (∃ (x : Nat),
      badB c = false ∧
      { π := m.π, sz := n, uf := m.uf : M } = { π := m.π, sz := n, uf := m.uf : M } ∧
      ((SV.val (Value.slice a e.length cp) = SV.val (Value.slice a e.length cp) ∧ true = true) ∧
      (SV.own ((0 : Nat) + (0 : Nat)) (0 : Nat) = SV.own (0 : Nat) (0 : Nat) ∧ true = true) ∧ True) ∧
      (some
      { ty := (51 : Nat), cs := [Value.int IntKind.i64 c.cl, Value.int IntKind.i64 c.sq, Value.int IntKind.i64 c.nd, Value.int IntKind.i64 c.op_kd, Value.string c.op_ky, Value.string c.op_ot, Value.int IntKind.i64 c.op_n, Value.int IntKind.i64 c.op_lo, Value.int IntKind.i64 c.op_hi, Value.int IntKind.i64 c.ca, Value.int IntKind.i64 c.mo, Value.int IntKind.i64 c.aw, Value.int IntKind.i64 c.an_er, Value.int IntKind.i64 c.an_va, Value.int IntKind.i64 c.an_le, Value.int IntKind.i64 c.an_mo] : Bx } =
      some
      { ty := (51 : TypeId), cs := [Value.int IntKind.i64 c.cl, Value.int IntKind.i64 c.sq, Value.int IntKind.i64 c.nd, Value.int IntKind.i64 c.op_kd, Value.string c.op_ky, Value.string c.op_ot, Value.int IntKind.i64 c.op_n, Value.int IntKind.i64 c.op_lo, Value.int IntKind.i64 c.op_hi, Value.int IntKind.i64 c.ca, Value.int IntKind.i64 c.mo, Value.int IntKind.i64 c.aw, Value.int IntKind.i64 c.an_er, Value.int IntKind.i64 c.an_va, Value.int IntKind.i64 c.an_le, Value.int IntKind.i64 c.an_mo] : Bx } ∧
      true = true) ∧
      True))
      (∃ (x : Nat),
      badB c = false ∧
      { π := m.π, sz := n, uf := m.uf : M } = { π := m.π, sz := n, uf := m.uf : M } ∧
      ((SV.val (Value.slice a e.length cp) = SV.val (Value.slice a e.length cp) ∧ true = true) ∧
      (SV.own ((0 : Nat) + (0 : Nat)) (0 : Nat) = SV.own (0 : Nat) (0 : Nat) ∧ true = true) ∧ True) ∧
      (some
      { ty := (51 : Nat), cs := [Value.int IntKind.i64 c.cl, Value.int IntKind.i64 c.sq, Value.int IntKind.i64 c.nd, Value.int IntKind.i64 c.op_kd, Value.string c.op_ky, Value.string c.op_ot, Value.int IntKind.i64 c.op_n, Value.int IntKind.i64 c.op_lo, Value.int IntKind.i64 c.op_hi, Value.int IntKind.i64 c.ca, Value.int IntKind.i64 c.mo, Value.int IntKind.i64 c.aw, Value.int IntKind.i64 c.an_er, Value.int IntKind.i64 c.an_va, Value.int IntKind.i64 c.an_le, Value.int IntKind.i64 c.an_mo] : Bx } =
      some
      { ty := (51 : TypeId), cs := [Value.int IntKind.i64 c.cl, Value.int IntKind.i64 c.sq, Value.int IntKind.i64 c.nd, Value.int IntKind.i64 c.op_kd, Value.string c.op_ky, Value.string c.op_ot, Value.int IntKind.i64 c.op_n, Value.int IntKind.i64 c.op_lo, Value.int IntKind.i64 c.op_hi, Value.int IntKind.i64 c.ca, Value.int IntKind.i64 c.mo, Value.int IntKind.i64 c.aw, Value.int IntKind.i64 c.an_er, Value.int IntKind.i64 c.an_va, Value.int IntKind.i64 c.an_le, Value.int IntKind.i64 c.an_mo] : Bx } ∧
      true = true) ∧
      True)))) ∧
      ∀ (x : Nat),
      badB c = false →
      (∃ (a_2 : Nat),
      (a_2 ≤ e.length ∧ badB c = false ∧ sqB c (List.take a_2 e) = false) ∧
      { π := m.π, sz := n, uf := m.uf : M } = { π := m.π, sz := n, uf := m.uf : M } ∧
      ((SV.val (Value.int IntKind.i64 (0 : Int)) = SV.val (Value.int IntKind.i64 (↑a_2 : Int)) ∧ true = true) ∧
      (SV.val (Value.int IntKind.i64 (↑e.length : Int)) = SV.val (Value.int IntKind.i64 (↑e.length : Int)) ∧ true = true) ∧
      (SV.val (Value.slice a e.length cp) = SV.val (Value.slice a e.length cp) ∧ true = true) ∧
      (SV.own (0 : Nat) (0 : Nat) = SV.own (0 : Nat) (0 : Nat) ∧ true = true) ∧
      (SV.val (Value.bool false) = SV.val (Value.bool (opnB c (List.take a_2 e))) ∧ true = true) ∧ True) ∧
      (some
      { ty := (51 : TypeId), cs := [Value.int IntKind.i64 c.cl, Value.int IntKind.i64 c.sq, Value.int IntKind.i64 c.nd, Value.int IntKind.i64 c.op_kd, Value.string c.op_ky, Value.string c.op_ot, Value.int IntKind.i64 c.op_n, Value.int IntKind.i64 c.op_lo, Value.int IntKind.i64 c.op_hi, Value.int IntKind.i64 c.ca, Value.int IntKind.i64 c.mo, Value.int IntKind.i64 c.aw, Value.int IntKind.i64 c.an_er, Value.int IntKind.i64 c.an_va, Value.int IntKind.i64 c.an_le, Value.int IntKind.i64 c.an_mo] : Bx } =
      some
      { ty := (51 : TypeId), cs := [Value.int IntKind.i64 c.cl, Value.int IntKind.i64 c.sq, Value.int IntKind.i64 c.nd, Value.int IntKind.i64 c.op_kd, Value.string c.op_ky, Value.string c.op_ot, Value.int IntKind.i64 c.op_n, Value.int IntKind.i64 c.op_lo, Value.int IntKind.i64 c.op_hi, Value.int IntKind.i64 c.ca, Value.int IntKind.i64 c.mo, Value.int IntKind.i64 c.aw, Value.int IntKind.i64 c.an_er, Value.int IntKind.i64 c.an_va, Value.int IntKind.i64 c.an_le, Value.int IntKind.i64 c.an_mo] : Bx } ∧
      true = true) ∧
      True) ∧
      ∀ (a_2 : Nat),
      a_2 ≤ e.length ∧ badB c = false ∧ sqB c (List.take a_2 e) = false →
      ifB (decide ((↑a_2 : Int) < (↑e.length : Int)))
      (∃ (b : Nat),
      ∃ (off : Nat),
      a = some { block := b, off := off : Addr } ∧
      ((0 : Int) ≤ (↑a_2 : Int) ∧ (↑a_2 : Int) < (↑e.length : Int)) ∧
      ∃ (n_1 : Int),
      ∃ (n_2 : Int),
      ∃ (n_3 : Int),
      ∃ (n_4 : Int),
      ∃ (s : ByteArray),
      ∃ (s_1 : ByteArray),
      ∃ (n_5 : Int),
      ∃ (n_6 : Int),
      ∃ (n_7 : Int),
      ∃ (n_8 : Int),
      ∃ (n_9 : Int),
      ∃ (n_10 : Int),
      ∃ (n_11 : Int),
      ∃ (n_12 : Int),
      ∃ (n_13 : Int),
      ∃ (n_14 : Int),
      CellsAt { π := m.π, sz := n, uf := m.uf : M } b (off + (↑a_2 : Int).toNat * (16 : Nat))
      [Value.int IntKind.i64 n_1, Value.int IntKind.i64 n_2, Value.int IntKind.i64 n_3, Value.int IntKind.i64 n_4,
      Value.string s, Value.string s_1, Value.int IntKind.i64 n_5, Value.int IntKind.i64 n_6, Value.int IntKind.i64 n_7,
      Value.int IntKind.i64 n_8, Value.int IntKind.i64 n_9, Value.int IntKind.i64 n_10, Value.int IntKind.i64 n_11,
      Value.int IntKind.i64 n_12, Value.int IntKind.i64 n_13, Value.int IntKind.i64 n_14] ∧
      ifB (n_1 != c.cl)
      (∃ (a' : Nat),
      ((a' ≤ e.length ∧ badB c = false ∧ sqB c (List.take a' e) = false) ∧
      { π := m.π, sz := n, uf := m.uf : M } = { π := m.π, sz := n, uf := m.uf : M } ∧
      ((SV.val (Value.int IntKind.i64 (IntKind.i64.wrap ((↑a_2 : Int) + (1 : Int)))) =
      SV.val (Value.int IntKind.i64 (↑a' : Int)) ∧
      true = true) ∧
      (SV.val (Value.int IntKind.i64 (↑e.length : Int)) = SV.val (Value.int IntKind.i64 (↑e.length : Int)) ∧
      true = true) ∧
      (SV.val (Value.slice a e.length cp) = SV.val (Value.slice a e.length cp) ∧ true = true) ∧
      (SV.own (0 : Nat) (0 : Nat) = SV.own (0 : Nat) (0 : Nat) ∧ true = true) ∧
      (SV.val (Value.bool (opnB c (List.take a_2 e))) = SV.val (Value.bool (opnB c (List.take a' e))) ∧
      true = true) ∧
      True) ∧
      (some
      { ty := (51 : TypeId), cs := [Value.int IntKind.i64 c.cl, Value.int IntKind.i64 c.sq, Value.int IntKind.i64 c.nd, Value.int IntKind.i64 c.op_kd, Value.string c.op_ky, Value.string c.op_ot, Value.int IntKind.i64 c.op_n, Value.int IntKind.i64 c.op_lo, Value.int IntKind.i64 c.op_hi, Value.int IntKind.i64 c.ca, Value.int IntKind.i64 c.mo, Value.int IntKind.i64 c.aw, Value.int IntKind.i64 c.an_er, Value.int IntKind.i64 c.an_va, Value.int IntKind.i64 c.an_le, Value.int IntKind.i64 c.an_mo] : Bx } =
      some
      { ty := (51 : TypeId), cs := [Value.int IntKind.i64 c.cl, Value.int IntKind.i64 c.sq, Value.int IntKind.i64 c.nd, Value.int IntKind.i64 c.op_kd, Value.string c.op_ky, Value.string c.op_ot, Value.int IntKind.i64 c.op_n, Value.int IntKind.i64 c.op_lo, Value.int IntKind.i64 c.op_hi, Value.int IntKind.i64 c.ca, Value.int IntKind.i64 c.mo, Value.int IntKind.i64 c.aw, Value.int IntKind.i64 c.an_er, Value.int IntKind.i64 c.an_va, Value.int IntKind.i64 c.an_le, Value.int IntKind.i64 c.an_mo] : Bx } ∧
      true = true) ∧
      True) ∧
      e.length - a' < e.length - a_2)
      (ifB (decide (c.sq ≤ n_2)) (Done (Value.int IntKind.i64 (21 : Int) = Value.int IntKind.i64 (wrgE c e)))
      (ifB (opnB c (List.take a_2 e))
      (∃ (a' : Nat),
      ((a' ≤ e.length ∧ badB c = false ∧ sqB c (List.take a' e) = false) ∧
      { π := m.π, sz := n, uf := m.uf : M } = { π := m.π, sz := n, uf := m.uf : M } ∧
      ((SV.val (Value.int IntKind.i64 (IntKind.i64.wrap ((↑a_2 : Int) + (1 : Int)))) =
      SV.val (Value.int IntKind.i64 (↑a' : Int)) ∧
      true = true) ∧
      (SV.val (Value.int IntKind.i64 (↑e.length : Int)) = SV.val (Value.int IntKind.i64 (↑e.length : Int)) ∧
      true = true) ∧
      (SV.val (Value.slice a e.length cp) = SV.val (Value.slice a e.length cp) ∧ true = true) ∧
      (SV.own (0 : Nat) (0 : Nat) = SV.own (0 : Nat) (0 : Nat) ∧ true = true) ∧
      (SV.val (Value.bool true) = SV.val (Value.bool (opnB c (List.take a' e))) ∧ true = true) ∧ True) ∧
      (some
      { ty := (51 : TypeId), cs := [Value.int IntKind.i64 c.cl, Value.int IntKind.i64 c.sq, Value.int IntKind.i64 c.nd, Value.int IntKind.i64 c.op_kd, Value.string c.op_ky, Value.string c.op_ot, Value.int IntKind.i64 c.op_n, Value.int IntKind.i64 c.op_lo, Value.int IntKind.i64 c.op_hi, Value.int IntKind.i64 c.ca, Value.int IntKind.i64 c.mo, Value.int IntKind.i64 c.aw, Value.int IntKind.i64 c.an_er, Value.int IntKind.i64 c.an_va, Value.int IntKind.i64 c.an_le, Value.int IntKind.i64 c.an_mo] : Bx } =
      some
      { ty := (51 : TypeId), cs := [Value.int IntKind.i64 c.cl, Value.int IntKind.i64 c.sq, Value.int IntKind.i64 c.nd, Value.int IntKind.i64 c.op_kd, Value.string c.op_ky, Value.string c.op_ot, Value.int IntKind.i64 c.op_n, Value.int IntKind.i64 c.op_lo, Value.int IntKind.i64 c.op_hi, Value.int IntKind.i64 c.ca, Value.int IntKind.i64 c.mo, Value.int IntKind.i64 c.aw, Value.int IntKind.i64 c.an_er, Value.int IntKind.i64 c.an_va, Value.int IntKind.i64 c.an_le, Value.int IntKind.i64 c.an_mo] : Bx } ∧
      true = true) ∧
      True) ∧
      e.length - a' < e.length - a_2)
      (ifB (n_10 == (0 : Int))
      (∃ (a' : Nat),
      ((a' ≤ e.length ∧ badB c = false ∧ sqB c (List.take a' e) = false) ∧
      { π := m.π, sz := n, uf := m.uf : M } = { π := m.π, sz := n, uf := m.uf : M } ∧
      ((SV.val (Value.int IntKind.i64 (IntKind.i64.wrap ((↑a_2 : Int) + (1 : Int)))) =
      SV.val (Value.int IntKind.i64 (↑a' : Int)) ∧
      true = true) ∧
      (SV.val (Value.int IntKind.i64 (↑e.length : Int)) = SV.val (Value.int IntKind.i64 (↑e.length : Int)) ∧
      true = true) ∧
      (SV.val (Value.slice a e.length cp) = SV.val (Value.slice a e.length cp) ∧ true = true) ∧
      (SV.own (0 : Nat) (0 : Nat) = SV.own (0 : Nat) (0 : Nat) ∧ true = true) ∧
      (SV.val (Value.bool true) = SV.val (Value.bool (opnB c (List.take a' e))) ∧ true = true) ∧
      True) ∧
      (some
      { ty := (51 : TypeId), cs := [Value.int IntKind.i64 c.cl, Value.int IntKind.i64 c.sq, Value.int IntKind.i64 c.nd, Value.int IntKind.i64 c.op_kd, Value.string c.op_ky, Value.string c.op_ot, Value.int IntKind.i64 c.op_n, Value.int IntKind.i64 c.op_lo, Value.int IntKind.i64 c.op_hi, Value.int IntKind.i64 c.ca, Value.int IntKind.i64 c.mo, Value.int IntKind.i64 c.aw, Value.int IntKind.i64 c.an_er, Value.int IntKind.i64 c.an_va, Value.int IntKind.i64 c.an_le, Value.int IntKind.i64 c.an_mo] : Bx } =
      some
      { ty := (51 : TypeId), cs := [Value.int IntKind.i64 c.cl, Value.int IntKind.i64 c.sq, Value.int IntKind.i64 c.nd, Value.int IntKind.i64 c.op_kd, Value.string c.op_ky, Value.string c.op_ot, Value.int IntKind.i64 c.op_n, Value.int IntKind.i64 c.op_lo, Value.int IntKind.i64 c.op_hi, Value.int IntKind.i64 c.ca, Value.int IntKind.i64 c.mo, Value.int IntKind.i64 c.aw, Value.int IntKind.i64 c.an_er, Value.int IntKind.i64 c.an_va, Value.int IntKind.i64 c.an_le, Value.int IntKind.i64 c.an_mo] : Bx } ∧
      true = true) ∧
      True) ∧
      e.length - a' < e.length - a_2)
      (∃ (a' : Nat),
      ((a' ≤ e.length ∧ badB c = false ∧ sqB c (List.take a' e) = false) ∧
      { π := m.π, sz := n, uf := m.uf : M } = { π := m.π, sz := n, uf := m.uf : M } ∧
      ((SV.val (Value.int IntKind.i64 (IntKind.i64.wrap ((↑a_2 : Int) + (1 : Int)))) =
      SV.val (Value.int IntKind.i64 (↑a' : Int)) ∧
      true = true) ∧
      (SV.val (Value.int IntKind.i64 (↑e.length : Int)) = SV.val (Value.int IntKind.i64 (↑e.length : Int)) ∧
      true = true) ∧
      (SV.val (Value.slice a e.length cp) = SV.val (Value.slice a e.length cp) ∧ true = true) ∧
      (SV.own (0 : Nat) (0 : Nat) = SV.own (0 : Nat) (0 : Nat) ∧ true = true) ∧
      (SV.val (Value.bool (decide (c.ca ≤ n_10))) = SV.val (Value.bool (opnB c (List.take a' e))) ∧
      true = true) ∧
      True) ∧
      (some
      { ty := (51 : TypeId), cs := [Value.int IntKind.i64 c.cl, Value.int IntKind.i64 c.sq, Value.int IntKind.i64 c.nd, Value.int IntKind.i64 c.op_kd, Value.string c.op_ky, Value.string c.op_ot, Value.int IntKind.i64 c.op_n, Value.int IntKind.i64 c.op_lo, Value.int IntKind.i64 c.op_hi, Value.int IntKind.i64 c.ca, Value.int IntKind.i64 c.mo, Value.int IntKind.i64 c.aw, Value.int IntKind.i64 c.an_er, Value.int IntKind.i64 c.an_va, Value.int IntKind.i64 c.an_le, Value.int IntKind.i64 c.an_mo] : Bx } =
      some
      { ty := (51 : TypeId), cs := [Value.int IntKind.i64 c.cl, Value.int IntKind.i64 c.sq, Value.int IntKind.i64 c.nd, Value.int IntKind.i64 c.op_kd, Value.string c.op_ky, Value.string c.op_ot, Value.int IntKind.i64 c.op_n, Value.int IntKind.i64 c.op_lo, Value.int IntKind.i64 c.op_hi, Value.int IntKind.i64 c.ca, Value.int IntKind.i64 c.mo, Value.int IntKind.i64 c.aw, Value.int IntKind.i64 c.an_er, Value.int IntKind.i64 c.an_va, Value.int IntKind.i64 c.an_le, Value.int IntKind.i64 c.an_mo] : Bx } ∧
      true = true) ∧
      True) ∧
      e.length - a' < e.length - a_2)))))
      (ifB (decide (c.mo > (0 : Int)))
      (ifB (decide (c.mo < c.ca)) (Done (Value.int IntKind.i64 (80 : Int) = Value.int IntKind.i64 (wrgE c e)))
      (ifB (c.aw != (0 : Int))
      (ifB (decide (c.mo > c.aw)) (Done (Value.int IntKind.i64 (80 : Int) = Value.int IntKind.i64 (wrgE c e)))
      (ifB (opnB c (List.take a_2 e)) (Done (Value.int IntKind.i64 (230 : Int) = Value.int IntKind.i64 (wrgE c e)))
      (ifB (c.aw != (0 : Int))
      (∃ (b : Bool),
      QSpec Try.prog (60 : Nat) [Value.int IntKind.i64 c.an_er] { π := m.π, sz := n, uf := m.uf : M } (Value.bool b) ∧
      ifB (decide (c.mo > (0 : Int)) == b) (Done (Value.int IntKind.i64 (60 : Int) = Value.int IntKind.i64 (wrgE c e)))
      (Done (Value.int IntKind.i64 (0 : Int) = Value.int IntKind.i64 (wrgE c e))))
      (Done (Value.int IntKind.i64 (0 : Int) = Value.int IntKind.i64 (wrgE c e))))))
      (ifB (opnB c (List.take a_2 e)) (Done (Value.int IntKind.i64 (230 : Int) = Value.int IntKind.i64 (wrgE c e)))
      (ifB (c.aw != (0 : Int))
      (∃ (b : Bool),
      QSpec Try.prog (60 : Nat) [Value.int IntKind.i64 c.an_er] { π := m.π, sz := n, uf := m.uf : M } (Value.bool b) ∧
      ifB (decide (c.mo > (0 : Int)) == b) (Done (Value.int IntKind.i64 (60 : Int) = Value.int IntKind.i64 (wrgE c e)))
      (Done (Value.int IntKind.i64 (0 : Int) = Value.int IntKind.i64 (wrgE c e))))
      (Done (Value.int IntKind.i64 (0 : Int) = Value.int IntKind.i64 (wrgE c e)))))))
      (ifB (opnB c (List.take a_2 e)) (Done (Value.int IntKind.i64 (230 : Int) = Value.int IntKind.i64 (wrgE c e)))
      (ifB (c.aw != (0 : Int))
      (∃ (b : Bool),
      QSpec Try.prog (60 : Nat) [Value.int IntKind.i64 c.an_er] { π := m.π, sz := n, uf := m.uf : M } (Value.bool b) ∧
      ifB (decide (c.mo > (0 : Int)) == b) (Done (Value.int IntKind.i64 (60 : Int) = Value.int IntKind.i64 (wrgE c e)))
      (Done (Value.int IntKind.i64 (0 : Int) = Value.int IntKind.i64 (wrgE c e))))
      (Done (Value.int IntKind.i64 (0 : Int) = Value.int IntKind.i64 (wrgE c e))))))) (by kernel_rfl) ?_
  have h' := h.sz hn
  refine ⟨rfl, ⟨ifB_intro (fun h1 => ⟨?_⟩) (fun h1 => ifB_intro (fun h2 => ⟨?_⟩) (fun h2 => ifB_intro (fun h3 => ⟨?_⟩) (fun h3 => ifB_intro (fun h4 => ifB_intro (fun h5 => ⟨?_⟩) (fun h5 => ⟨0, ?_, rfl, by simp⟩)) (fun h4 => ⟨0, ?_, rfl, by simp⟩)))), fun _ hbad => ⟨⟨0, ⟨Nat.zero_le _, hbad, by simp [sqB]⟩, rfl, by simp [opnB]⟩, fun k ⟨hk, _, hs⟩ => ifB_intro (fun hb => ?_) (fun hb => ?_)⟩⟩⟩
  · simp at h1; rw [bad_form (.inl (by simp [badB]; omega))]
  · simp at h1 h2; rw [bad_form (.inl (by simp [badB]; omega))]
  · simp at h3; rw [bad_form (.inl (by simp [badB]; omega))]
  · simp at h4 h5; rw [bad_form (.inl (by simp [badB, h4, h5]))]
  · simp at h1 h2 h3 h4 h5; exact bad_no (by omega) (by omega) (by omega) (by omega)
  · simp at h1 h2 h3 h4; exact bad_no (by omega) (by omega) (by omega) (by omega)
  · have hk2 : k < e.length := by simpa using hb
    obtain ⟨b, o, rfl, hc⟩ := h'.cells (by rw [cl_len]; omega)
    have w1 : IntKind.i64.wrap ((k : Int) + 1) = ((k + 1 : Nat) : Int) := by simp [IntKind.wrap_i64]; omega
    have e1 : sqB c (e.take (k + 1)) = _ := any_take _ e k hk2
    have e2 : opnB c (e.take (k + 1)) = _ := any_take _ e k hk2
    have f1 : sqB c (e.take k) = (e.take k).any (fun x => decide (x.cl = c.cl) && decide (c.sq ≤ x.sq)) := rfl
    have f2 : opnB c (e.take k) = (e.take k).any (fun x => decide (x.cl = c.cl) && (decide (x.aw = 0) || decide (c.ca ≤ x.aw))) := rfl
    rw [← f1, hs] at e1
    rw [← f2] at e2
    refine ⟨b, o, rfl, by omega, _, _, _, _, _, _, _, _, _, _, _, _, _, _, _, _, by simpa using cl_at hc hk2, ifB_intro (fun h1 => ⟨k + 1, ⟨⟨hk2, hbad, ?_⟩, rfl, (by simp at h1; simp [w1, e2, h1])⟩, by omega⟩) (fun h1 => ifB_intro (fun h2 => ⟨?_⟩) (fun h2 => ifB_intro (fun h3 => ⟨k + 1, ⟨⟨hk2, hbad, ?_⟩, rfl, by simp [w1, e2, h3]⟩, by omega⟩) (fun h3 => ifB_intro (fun h4 => ⟨k + 1, ⟨⟨hk2, hbad, ?_⟩, rfl, ?_⟩, by omega⟩) (fun h4 => ⟨k + 1, ⟨⟨hk2, hbad, ?_⟩, rfl, ?_⟩, by omega⟩))))⟩
    · rw [e1]; simp at h1; simp [h1]
    · simp at h1 h2
      rw [bad_form (.inr (any_sub _ e (k + 1) (by rw [any_take _ e k hk2]; simp [h1, h2])))]
    all_goals simp at h1 h2
    · rw [e1]; simp; omega
    · rw [e1]; simp; omega
    · simp at h4; simp [w1, e2, h3, h1, h4]
    · rw [e1]; simp; omega
    · simp at h4; simp [w1, e2, h3, h1, h4]
  · have hk2 : k = e.length := by simp at hb; omega
    rw [hk2, List.take_length] at hs ⊢
    rw [wrg_tail hbad hs]
    have X : oldB c = false → ifB (opnB c e) (Done (Value.int .i64 230 = I (if oldB c then 80 else if opnB c e then 230 else if nonB c then 60 else 0))) (ifB (c.aw != 0) (∃ b, QSpec Try.prog 60 [I c.an_er] { m with sz := n } (.bool b) ∧ ifB (decide (c.mo > 0) == b) (Done (I 60 = I (if oldB c then 80 else if opnB c e then 230 else if nonB c then 60 else 0))) (Done (I 0 = I (if oldB c then 80 else if opnB c e then 230 else if nonB c then 60 else 0)))) (Done (I 0 = I (if oldB c then 80 else if opnB c e then 230 else if nonB c then 60 else 0)))) := fun ho => by
      rw [ho]
      refine ifB_intro (fun h1 => ⟨by simp [h1]⟩) (fun h1 => ifB_intro (fun h2 => ⟨_, without_q _ _, ifB_intro (fun h3 => ⟨?_⟩) (fun h3 => ⟨?_⟩)⟩) (fun h2 => ⟨?_⟩))
      · simp at h2
        have : nonB c = true := by simp only [nonB, h2, decide_false, Bool.not_false, Bool.true_and]; exact h3
        simp [h1, this]
      · simp at h2
        have : nonB c = false := by simp only [nonB, h2, decide_false, Bool.not_false, Bool.true_and]; exact h3
        simp [h1, this]
      · simp at h2
        have : nonB c = false := by simp [nonB, h2]
        simp [h1, this]
    refine ifB_intro (fun h1 => ifB_intro (fun h2 => ⟨?_⟩) (fun h2 => ifB_intro (fun h3 => ifB_intro (fun h4 => ⟨?_⟩) (fun h4 => X ?_)) (fun h3 => X ?_))) (fun h1 => X ?_)
    · simp at h1 h2; simp [oldB, h1, h2]
    · simp at h1 h2 h3 h4; simp [oldB, h1, h3, h4]
    · simp at h1 h2 h3 h4; simp [oldB, h3]; omega
    · simp at h1 h2 h3; simp [oldB, h3]; omega
    · simp at h1; simp [oldB]; omega

theorem form_q (a : Option Addr) (cp : Nat) (l : List Cl) (i : Nat) (hi : i < l.length) (hn : l.length ≤ 9223372036854775807) (m : M) (h : Row m a (cls l)) : QSpec Try.prog 49 [.slice a l.length cp, I i] m (I (wrgE (clA l i) (l.take i))) := by
  refine QSpec.of_vc Try.func49 (ann := fun n r => match r with
    | 4 => { A := Nat, inv := fun k => k ≤ i, st := fun k => [(7, .val (I k)), (1, .val (I i)), (0, .val (.slice a l.length cp)), (5, .own 5 0), (6, .val (I (if sqB (clA l i) (l.take k) then 21 else 0)))], own := fun _ => [(5, ⟨51, encCl (clA l i)⟩)], m := fun _ => { m with sz := n }, μ := fun k => i - k }
    | 10 => { A := Nat, inv := fun k => badB (clA l i) = false ∧ sqB (clA l i) (l.take i) = false, st := fun k => [(1, .val (I i)), (0, .val (.slice a l.length cp)), (5, .own 5 0)], own := fun _ => [(5, ⟨51, encCl (clA l i)⟩)], m := fun _ => { m with sz := n }, μ := fun k => 0, cut := true }
    | 12 => { A := Nat, inv := fun k => oldB (clA l i) = false, st := fun k => [(1, .val (I i)), (0, .val (.slice a l.length cp)), (5, .own 5 0)], own := fun _ => [(5, ⟨51, encCl (clA l i)⟩)], m := fun _ => { m with sz := n }, μ := fun k => 0, cut := true }
    | 13 => { A := Nat, inv := fun k => k ≤ i ∧ opnB (clA l i) (l.take k) = false, st := fun k => [(8, .val (I k)), (1, .val (I i)), (0, .val (.slice a l.length cp)), (5, .own 5 0)], own := fun _ => [(5, ⟨51, encCl (clA l i)⟩)], m := fun _ => { m with sz := n }, μ := fun k => i - k }
    | _ => noAnn 0) fun n hn => ?_
  refine vc_by (X :=
      true = true ∧
      ∃ (b : Nat),
      ∃ (off : Nat),
      a = some { block := b, off := off : Addr } ∧
      ((0 : Int) ≤ (↑i : Int) ∧ (↑i : Int) < (↑l.length : Int)) ∧
      ∃ (n_1 : Int),
      ∃ (n_2 : Int),
      ∃ (n_3 : Int),
      ∃ (n_4 : Int),
      ∃ (s : ByteArray),
      ∃ (s_1 : ByteArray),
      ∃ (n_5 : Int),
      ∃ (n_6 : Int),
      ∃ (n_7 : Int),
      ∃ (n_8 : Int),
      ∃ (n_9 : Int),
      ∃ (n_10 : Int),
      ∃ (n_11 : Int),
      ∃ (n_12 : Int),
      ∃ (n_13 : Int),
      ∃ (n_14 : Int),
      CellsAt { π := m.π, sz := n, uf := m.uf : M } b (off + (↑i : Int).toNat * (16 : Nat))
      [Value.int IntKind.i64 n_1, Value.int IntKind.i64 n_2, Value.int IntKind.i64 n_3, Value.int IntKind.i64 n_4, Value.string s,
      Value.string s_1, Value.int IntKind.i64 n_5, Value.int IntKind.i64 n_6, Value.int IntKind.i64 n_7, Value.int IntKind.i64 n_8,
      Value.int IntKind.i64 n_9, Value.int IntKind.i64 n_10, Value.int IntKind.i64 n_11, Value.int IntKind.i64 n_12,
      Value.int IntKind.i64 n_13, Value.int IntKind.i64 n_14] ∧
      (∃ (a_1 : Nat),
      a_1 ≤ i ∧
      { π := m.π, sz := n, uf := m.uf : M } = { π := m.π, sz := n, uf := m.uf : M } ∧
      ((SV.val (Value.int IntKind.i64 (0 : Int)) = SV.val (Value.int IntKind.i64 (↑a_1 : Int)) ∧ true = true) ∧
      (SV.val (Value.int IntKind.i64 (↑i : Int)) = SV.val (Value.int IntKind.i64 (↑i : Int)) ∧ true = true) ∧
      (SV.val (Value.slice a l.length cp) = SV.val (Value.slice a l.length cp) ∧ true = true) ∧
      (SV.own ((0 : Nat) + (1 : Nat) + (4 : Nat)) (0 : Nat) = SV.own (5 : Nat) (0 : Nat) ∧ true = true) ∧
      (SV.val (Value.int IntKind.i64 (0 : Int)) =
      SV.val (Value.int IntKind.i64 (if sqB (clA l i) (List.take a_1 l) = true then (21 : Int) else (0 : Int))) ∧
      true = true) ∧
      True) ∧
      (some
      { ty := (51 : Nat), cs := [Value.int IntKind.i64 n_1, Value.int IntKind.i64 n_2, Value.int IntKind.i64 n_3, Value.int IntKind.i64 n_4, Value.string s, Value.string s_1, Value.int IntKind.i64 n_5, Value.int IntKind.i64 n_6, Value.int IntKind.i64 n_7, Value.int IntKind.i64 n_8, Value.int IntKind.i64 n_9, Value.int IntKind.i64 n_10, Value.int IntKind.i64 n_11, Value.int IntKind.i64 n_12, Value.int IntKind.i64 n_13, Value.int IntKind.i64 n_14] : Bx } =
      some
      { ty := (51 : TypeId), cs := [Value.int IntKind.i64 (clA l i).cl, Value.int IntKind.i64 (clA l i).sq, Value.int IntKind.i64 (clA l i).nd, Value.int IntKind.i64 (clA l i).op_kd, Value.string (clA l i).op_ky, Value.string (clA l i).op_ot, Value.int IntKind.i64 (clA l i).op_n, Value.int IntKind.i64 (clA l i).op_lo, Value.int IntKind.i64 (clA l i).op_hi, Value.int IntKind.i64 (clA l i).ca, Value.int IntKind.i64 (clA l i).mo, Value.int IntKind.i64 (clA l i).aw, Value.int IntKind.i64 (clA l i).an_er, Value.int IntKind.i64 (clA l i).an_va, Value.int IntKind.i64 (clA l i).an_le, Value.int IntKind.i64 (clA l i).an_mo] : Bx } ∧
      true = true) ∧
      True) ∧
      ∀ (a_1 : Nat),
      a_1 ≤ i →
      ifB (decide ((↑a_1 : Int) < (↑i : Int)))
      (true = true ∧
      ∃ (b : Nat),
      ∃ (off : Nat),
      a = some { block := b, off := off : Addr } ∧
      ((0 : Int) ≤ (↑a_1 : Int) ∧ (↑a_1 : Int) < (↑l.length : Int)) ∧
      ∃ (n_15 : Int),
      CellsAt { π := m.π, sz := n, uf := m.uf : M } b (off + (↑a_1 : Int).toNat * (16 : Nat) + (0 : Nat))
      [Value.int IntKind.i64 n_15] ∧
      ifB (n_15 == (clA l i).cl)
      (∃ (b : Nat),
      ∃ (off : Nat),
      a = some { block := b, off := off : Addr } ∧
      ((0 : Int) ≤ (↑a_1 : Int) ∧ (↑a_1 : Int) < (↑l.length : Int)) ∧
      ∃ (n_16 : Int),
      CellsAt { π := m.π, sz := n, uf := m.uf : M } b (off + (↑a_1 : Int).toNat * (16 : Nat) + (1 : Nat))
      [Value.int IntKind.i64 n_16] ∧
      ifB (decide ((clA l i).sq ≤ n_16))
      (∃ (a' : Nat),
      (a' ≤ i ∧
      { π := m.π, sz := n, uf := m.uf : M } = { π := m.π, sz := n, uf := m.uf : M } ∧
      ((SV.val (Value.int IntKind.i64 (IntKind.i64.wrap ((↑a_1 : Int) + (1 : Int)))) =
      SV.val (Value.int IntKind.i64 (↑a' : Int)) ∧
      true = true) ∧
      (SV.val (Value.int IntKind.i64 (↑i : Int)) =
      SV.val (Value.int IntKind.i64 (↑i : Int)) ∧
      true = true) ∧
      (SV.val (Value.slice a l.length cp) = SV.val (Value.slice a l.length cp) ∧
      true = true) ∧
      (SV.own (5 : Nat) (0 : Nat) = SV.own (5 : Nat) (0 : Nat) ∧ true = true) ∧
      (SV.val (Value.int IntKind.i64 (21 : Int)) =
      SV.val
      (Value.int IntKind.i64
      (if sqB (clA l i) (List.take a' l) = true then (21 : Int)
      else (0 : Int))) ∧
      true = true) ∧
      True) ∧
      (some
      { ty := (51 : TypeId), cs := [Value.int IntKind.i64 (clA l i).cl, Value.int IntKind.i64 (clA l i).sq, Value.int IntKind.i64 (clA l i).nd, Value.int IntKind.i64 (clA l i).op_kd, Value.string (clA l i).op_ky, Value.string (clA l i).op_ot, Value.int IntKind.i64 (clA l i).op_n, Value.int IntKind.i64 (clA l i).op_lo, Value.int IntKind.i64 (clA l i).op_hi, Value.int IntKind.i64 (clA l i).ca, Value.int IntKind.i64 (clA l i).mo, Value.int IntKind.i64 (clA l i).aw, Value.int IntKind.i64 (clA l i).an_er, Value.int IntKind.i64 (clA l i).an_va, Value.int IntKind.i64 (clA l i).an_le, Value.int IntKind.i64 (clA l i).an_mo] : Bx } =
      some
      { ty := (51 : TypeId), cs := [Value.int IntKind.i64 (clA l i).cl, Value.int IntKind.i64 (clA l i).sq, Value.int IntKind.i64 (clA l i).nd, Value.int IntKind.i64 (clA l i).op_kd, Value.string (clA l i).op_ky, Value.string (clA l i).op_ot, Value.int IntKind.i64 (clA l i).op_n, Value.int IntKind.i64 (clA l i).op_lo, Value.int IntKind.i64 (clA l i).op_hi, Value.int IntKind.i64 (clA l i).ca, Value.int IntKind.i64 (clA l i).mo, Value.int IntKind.i64 (clA l i).aw, Value.int IntKind.i64 (clA l i).an_er, Value.int IntKind.i64 (clA l i).an_va, Value.int IntKind.i64 (clA l i).an_le, Value.int IntKind.i64 (clA l i).an_mo] : Bx } ∧
      true = true) ∧
      True) ∧
      i - a' < i - a_1)
      (∃ (a' : Nat),
      (a' ≤ i ∧
      { π := m.π, sz := n, uf := m.uf : M } = { π := m.π, sz := n, uf := m.uf : M } ∧
      ((SV.val (Value.int IntKind.i64 (IntKind.i64.wrap ((↑a_1 : Int) + (1 : Int)))) =
      SV.val (Value.int IntKind.i64 (↑a' : Int)) ∧
      true = true) ∧
      (SV.val (Value.int IntKind.i64 (↑i : Int)) =
      SV.val (Value.int IntKind.i64 (↑i : Int)) ∧
      true = true) ∧
      (SV.val (Value.slice a l.length cp) = SV.val (Value.slice a l.length cp) ∧
      true = true) ∧
      (SV.own (5 : Nat) (0 : Nat) = SV.own (5 : Nat) (0 : Nat) ∧ true = true) ∧
      (SV.val
      (Value.int IntKind.i64
      (if sqB (clA l i) (List.take a_1 l) = true then (21 : Int)
      else (0 : Int))) =
      SV.val
      (Value.int IntKind.i64
      (if sqB (clA l i) (List.take a' l) = true then (21 : Int)
      else (0 : Int))) ∧
      true = true) ∧
      True) ∧
      (some
      { ty := (51 : TypeId), cs := [Value.int IntKind.i64 (clA l i).cl, Value.int IntKind.i64 (clA l i).sq, Value.int IntKind.i64 (clA l i).nd, Value.int IntKind.i64 (clA l i).op_kd, Value.string (clA l i).op_ky, Value.string (clA l i).op_ot, Value.int IntKind.i64 (clA l i).op_n, Value.int IntKind.i64 (clA l i).op_lo, Value.int IntKind.i64 (clA l i).op_hi, Value.int IntKind.i64 (clA l i).ca, Value.int IntKind.i64 (clA l i).mo, Value.int IntKind.i64 (clA l i).aw, Value.int IntKind.i64 (clA l i).an_er, Value.int IntKind.i64 (clA l i).an_va, Value.int IntKind.i64 (clA l i).an_le, Value.int IntKind.i64 (clA l i).an_mo] : Bx } =
      some
      { ty := (51 : TypeId), cs := [Value.int IntKind.i64 (clA l i).cl, Value.int IntKind.i64 (clA l i).sq, Value.int IntKind.i64 (clA l i).nd, Value.int IntKind.i64 (clA l i).op_kd, Value.string (clA l i).op_ky, Value.string (clA l i).op_ot, Value.int IntKind.i64 (clA l i).op_n, Value.int IntKind.i64 (clA l i).op_lo, Value.int IntKind.i64 (clA l i).op_hi, Value.int IntKind.i64 (clA l i).ca, Value.int IntKind.i64 (clA l i).mo, Value.int IntKind.i64 (clA l i).aw, Value.int IntKind.i64 (clA l i).an_er, Value.int IntKind.i64 (clA l i).an_va, Value.int IntKind.i64 (clA l i).an_le, Value.int IntKind.i64 (clA l i).an_mo] : Bx } ∧
      true = true) ∧
      True) ∧
      i - a' < i - a_1))
      (∃ (a' : Nat),
      (a' ≤ i ∧
      { π := m.π, sz := n, uf := m.uf : M } = { π := m.π, sz := n, uf := m.uf : M } ∧
      ((SV.val (Value.int IntKind.i64 (IntKind.i64.wrap ((↑a_1 : Int) + (1 : Int)))) =
      SV.val (Value.int IntKind.i64 (↑a' : Int)) ∧
      true = true) ∧
      (SV.val (Value.int IntKind.i64 (↑i : Int)) = SV.val (Value.int IntKind.i64 (↑i : Int)) ∧
      true = true) ∧
      (SV.val (Value.slice a l.length cp) = SV.val (Value.slice a l.length cp) ∧ true = true) ∧
      (SV.own (5 : Nat) (0 : Nat) = SV.own (5 : Nat) (0 : Nat) ∧ true = true) ∧
      (SV.val
      (Value.int IntKind.i64
      (if sqB (clA l i) (List.take a_1 l) = true then (21 : Int) else (0 : Int))) =
      SV.val
      (Value.int IntKind.i64
      (if sqB (clA l i) (List.take a' l) = true then (21 : Int) else (0 : Int))) ∧
      true = true) ∧
      True) ∧
      (some
      { ty := (51 : TypeId), cs := [Value.int IntKind.i64 (clA l i).cl, Value.int IntKind.i64 (clA l i).sq, Value.int IntKind.i64 (clA l i).nd, Value.int IntKind.i64 (clA l i).op_kd, Value.string (clA l i).op_ky, Value.string (clA l i).op_ot, Value.int IntKind.i64 (clA l i).op_n, Value.int IntKind.i64 (clA l i).op_lo, Value.int IntKind.i64 (clA l i).op_hi, Value.int IntKind.i64 (clA l i).ca, Value.int IntKind.i64 (clA l i).mo, Value.int IntKind.i64 (clA l i).aw, Value.int IntKind.i64 (clA l i).an_er, Value.int IntKind.i64 (clA l i).an_va, Value.int IntKind.i64 (clA l i).an_le, Value.int IntKind.i64 (clA l i).an_mo] : Bx } =
      some
      { ty := (51 : TypeId), cs := [Value.int IntKind.i64 (clA l i).cl, Value.int IntKind.i64 (clA l i).sq, Value.int IntKind.i64 (clA l i).nd, Value.int IntKind.i64 (clA l i).op_kd, Value.string (clA l i).op_ky, Value.string (clA l i).op_ot, Value.int IntKind.i64 (clA l i).op_n, Value.int IntKind.i64 (clA l i).op_lo, Value.int IntKind.i64 (clA l i).op_hi, Value.int IntKind.i64 (clA l i).ca, Value.int IntKind.i64 (clA l i).mo, Value.int IntKind.i64 (clA l i).aw, Value.int IntKind.i64 (clA l i).an_er, Value.int IntKind.i64 (clA l i).an_va, Value.int IntKind.i64 (clA l i).an_le, Value.int IntKind.i64 (clA l i).an_mo] : Bx } ∧
      true = true) ∧
      True) ∧
      i - a' < i - a_1))
      (ifB ((if sqB (clA l i) (List.take a_1 l) = true then (21 : Int) else (0 : Int)) != (0 : Int))
      (Done (Value.int IntKind.i64 (21 : Int) = Value.int IntKind.i64 (wrgE (clA l i) (List.take i l))))
      (∃ (b : Bool),
      QSpec Try.prog (61 : Nat) [Value.int IntKind.i64 (clA l i).cl] { π := m.π, sz := n, uf := m.uf : M } (Value.bool b) ∧
      ifB (!b) (Done (Value.int IntKind.i64 (21 : Int) = Value.int IntKind.i64 (wrgE (clA l i) (List.take i l))))
      (ifB (decide ((clA l i).ca < (1 : Int)))
      (Done (Value.int IntKind.i64 (21 : Int) = Value.int IntKind.i64 (wrgE (clA l i) (List.take i l))))
      (ifB ((clA l i).aw != (0 : Int))
      (ifB (decide ((clA l i).aw < (clA l i).ca))
      (Done (Value.int IntKind.i64 (21 : Int) = Value.int IntKind.i64 (wrgE (clA l i) (List.take i l))))
      (∃ (x : Nat),
      (badB (clA l i) = false ∧ sqB (clA l i) (List.take i l) = false) ∧
      { π := m.π, sz := n, uf := m.uf : M } = { π := m.π, sz := n, uf := m.uf : M } ∧
      ((SV.val (Value.int IntKind.i64 (↑i : Int)) = SV.val (Value.int IntKind.i64 (↑i : Int)) ∧ true = true) ∧
      (SV.val (Value.slice a l.length cp) = SV.val (Value.slice a l.length cp) ∧ true = true) ∧
      (SV.own (5 : Nat) (0 : Nat) = SV.own (5 : Nat) (0 : Nat) ∧ true = true) ∧ True) ∧
      (some
      { ty := (51 : TypeId), cs := [Value.int IntKind.i64 (clA l i).cl, Value.int IntKind.i64 (clA l i).sq, Value.int IntKind.i64 (clA l i).nd, Value.int IntKind.i64 (clA l i).op_kd, Value.string (clA l i).op_ky, Value.string (clA l i).op_ot, Value.int IntKind.i64 (clA l i).op_n, Value.int IntKind.i64 (clA l i).op_lo, Value.int IntKind.i64 (clA l i).op_hi, Value.int IntKind.i64 (clA l i).ca, Value.int IntKind.i64 (clA l i).mo, Value.int IntKind.i64 (clA l i).aw, Value.int IntKind.i64 (clA l i).an_er, Value.int IntKind.i64 (clA l i).an_va, Value.int IntKind.i64 (clA l i).an_le, Value.int IntKind.i64 (clA l i).an_mo] : Bx } =
      some
      { ty := (51 : TypeId), cs := [Value.int IntKind.i64 (clA l i).cl, Value.int IntKind.i64 (clA l i).sq, Value.int IntKind.i64 (clA l i).nd, Value.int IntKind.i64 (clA l i).op_kd, Value.string (clA l i).op_ky, Value.string (clA l i).op_ot, Value.int IntKind.i64 (clA l i).op_n, Value.int IntKind.i64 (clA l i).op_lo, Value.int IntKind.i64 (clA l i).op_hi, Value.int IntKind.i64 (clA l i).ca, Value.int IntKind.i64 (clA l i).mo, Value.int IntKind.i64 (clA l i).aw, Value.int IntKind.i64 (clA l i).an_er, Value.int IntKind.i64 (clA l i).an_va, Value.int IntKind.i64 (clA l i).an_le, Value.int IntKind.i64 (clA l i).an_mo] : Bx } ∧
      true = true) ∧
      True))
      (∃ (x : Nat),
      (badB (clA l i) = false ∧ sqB (clA l i) (List.take i l) = false) ∧
      { π := m.π, sz := n, uf := m.uf : M } = { π := m.π, sz := n, uf := m.uf : M } ∧
      ((SV.val (Value.int IntKind.i64 (↑i : Int)) = SV.val (Value.int IntKind.i64 (↑i : Int)) ∧ true = true) ∧
      (SV.val (Value.slice a l.length cp) = SV.val (Value.slice a l.length cp) ∧ true = true) ∧
      (SV.own (5 : Nat) (0 : Nat) = SV.own (5 : Nat) (0 : Nat) ∧ true = true) ∧ True) ∧
      (some
      { ty := (51 : TypeId), cs := [Value.int IntKind.i64 (clA l i).cl, Value.int IntKind.i64 (clA l i).sq, Value.int IntKind.i64 (clA l i).nd, Value.int IntKind.i64 (clA l i).op_kd, Value.string (clA l i).op_ky, Value.string (clA l i).op_ot, Value.int IntKind.i64 (clA l i).op_n, Value.int IntKind.i64 (clA l i).op_lo, Value.int IntKind.i64 (clA l i).op_hi, Value.int IntKind.i64 (clA l i).ca, Value.int IntKind.i64 (clA l i).mo, Value.int IntKind.i64 (clA l i).aw, Value.int IntKind.i64 (clA l i).an_er, Value.int IntKind.i64 (clA l i).an_va, Value.int IntKind.i64 (clA l i).an_le, Value.int IntKind.i64 (clA l i).an_mo] : Bx } =
      some
      { ty := (51 : TypeId), cs := [Value.int IntKind.i64 (clA l i).cl, Value.int IntKind.i64 (clA l i).sq, Value.int IntKind.i64 (clA l i).nd, Value.int IntKind.i64 (clA l i).op_kd, Value.string (clA l i).op_ky, Value.string (clA l i).op_ot, Value.int IntKind.i64 (clA l i).op_n, Value.int IntKind.i64 (clA l i).op_lo, Value.int IntKind.i64 (clA l i).op_hi, Value.int IntKind.i64 (clA l i).ca, Value.int IntKind.i64 (clA l i).mo, Value.int IntKind.i64 (clA l i).aw, Value.int IntKind.i64 (clA l i).an_er, Value.int IntKind.i64 (clA l i).an_va, Value.int IntKind.i64 (clA l i).an_le, Value.int IntKind.i64 (clA l i).an_mo] : Bx } ∧
      true = true) ∧
      True)))) ∧
      ∀ (x : Nat),
      badB (clA l i) = false ∧ sqB (clA l i) (List.take i l) = false →
      ifB (decide ((clA l i).mo > (0 : Int)))
      (ifB (decide ((clA l i).mo < (clA l i).ca))
      (Done (Value.int IntKind.i64 (80 : Int) = Value.int IntKind.i64 (wrgE (clA l i) (List.take i l))))
      (ifB ((clA l i).aw != (0 : Int))
      (ifB (decide ((clA l i).mo > (clA l i).aw))
      (Done (Value.int IntKind.i64 (80 : Int) = Value.int IntKind.i64 (wrgE (clA l i) (List.take i l))))
      (∃ (x : Nat),
      oldB (clA l i) = false ∧
      { π := m.π, sz := n, uf := m.uf : M } = { π := m.π, sz := n, uf := m.uf : M } ∧
      ((SV.val (Value.int IntKind.i64 (↑i : Int)) = SV.val (Value.int IntKind.i64 (↑i : Int)) ∧ true = true) ∧
      (SV.val (Value.slice a l.length cp) = SV.val (Value.slice a l.length cp) ∧ true = true) ∧
      (SV.own (5 : Nat) (0 : Nat) = SV.own (5 : Nat) (0 : Nat) ∧ true = true) ∧ True) ∧
      (some
      { ty := (51 : TypeId), cs := [Value.int IntKind.i64 (clA l i).cl, Value.int IntKind.i64 (clA l i).sq, Value.int IntKind.i64 (clA l i).nd, Value.int IntKind.i64 (clA l i).op_kd, Value.string (clA l i).op_ky, Value.string (clA l i).op_ot, Value.int IntKind.i64 (clA l i).op_n, Value.int IntKind.i64 (clA l i).op_lo, Value.int IntKind.i64 (clA l i).op_hi, Value.int IntKind.i64 (clA l i).ca, Value.int IntKind.i64 (clA l i).mo, Value.int IntKind.i64 (clA l i).aw, Value.int IntKind.i64 (clA l i).an_er, Value.int IntKind.i64 (clA l i).an_va, Value.int IntKind.i64 (clA l i).an_le, Value.int IntKind.i64 (clA l i).an_mo] : Bx } =
      some
      { ty := (51 : TypeId), cs := [Value.int IntKind.i64 (clA l i).cl, Value.int IntKind.i64 (clA l i).sq, Value.int IntKind.i64 (clA l i).nd, Value.int IntKind.i64 (clA l i).op_kd, Value.string (clA l i).op_ky, Value.string (clA l i).op_ot, Value.int IntKind.i64 (clA l i).op_n, Value.int IntKind.i64 (clA l i).op_lo, Value.int IntKind.i64 (clA l i).op_hi, Value.int IntKind.i64 (clA l i).ca, Value.int IntKind.i64 (clA l i).mo, Value.int IntKind.i64 (clA l i).aw, Value.int IntKind.i64 (clA l i).an_er, Value.int IntKind.i64 (clA l i).an_va, Value.int IntKind.i64 (clA l i).an_le, Value.int IntKind.i64 (clA l i).an_mo] : Bx } ∧
      true = true) ∧
      True))
      (∃ (x : Nat),
      oldB (clA l i) = false ∧
      { π := m.π, sz := n, uf := m.uf : M } = { π := m.π, sz := n, uf := m.uf : M } ∧
      ((SV.val (Value.int IntKind.i64 (↑i : Int)) = SV.val (Value.int IntKind.i64 (↑i : Int)) ∧ true = true) ∧
      (SV.val (Value.slice a l.length cp) = SV.val (Value.slice a l.length cp) ∧ true = true) ∧
      (SV.own (5 : Nat) (0 : Nat) = SV.own (5 : Nat) (0 : Nat) ∧ true = true) ∧ True) ∧
      (some
      { ty := (51 : TypeId), cs := [Value.int IntKind.i64 (clA l i).cl, Value.int IntKind.i64 (clA l i).sq, Value.int IntKind.i64 (clA l i).nd, Value.int IntKind.i64 (clA l i).op_kd, Value.string (clA l i).op_ky, Value.string (clA l i).op_ot, Value.int IntKind.i64 (clA l i).op_n, Value.int IntKind.i64 (clA l i).op_lo, Value.int IntKind.i64 (clA l i).op_hi, Value.int IntKind.i64 (clA l i).ca, Value.int IntKind.i64 (clA l i).mo, Value.int IntKind.i64 (clA l i).aw, Value.int IntKind.i64 (clA l i).an_er, Value.int IntKind.i64 (clA l i).an_va, Value.int IntKind.i64 (clA l i).an_le, Value.int IntKind.i64 (clA l i).an_mo] : Bx } =
      some
      { ty := (51 : TypeId), cs := [Value.int IntKind.i64 (clA l i).cl, Value.int IntKind.i64 (clA l i).sq, Value.int IntKind.i64 (clA l i).nd, Value.int IntKind.i64 (clA l i).op_kd, Value.string (clA l i).op_ky, Value.string (clA l i).op_ot, Value.int IntKind.i64 (clA l i).op_n, Value.int IntKind.i64 (clA l i).op_lo, Value.int IntKind.i64 (clA l i).op_hi, Value.int IntKind.i64 (clA l i).ca, Value.int IntKind.i64 (clA l i).mo, Value.int IntKind.i64 (clA l i).aw, Value.int IntKind.i64 (clA l i).an_er, Value.int IntKind.i64 (clA l i).an_va, Value.int IntKind.i64 (clA l i).an_le, Value.int IntKind.i64 (clA l i).an_mo] : Bx } ∧
      true = true) ∧
      True)))
      (∃ (x : Nat),
      oldB (clA l i) = false ∧
      { π := m.π, sz := n, uf := m.uf : M } = { π := m.π, sz := n, uf := m.uf : M } ∧
      ((SV.val (Value.int IntKind.i64 (↑i : Int)) = SV.val (Value.int IntKind.i64 (↑i : Int)) ∧ true = true) ∧
      (SV.val (Value.slice a l.length cp) = SV.val (Value.slice a l.length cp) ∧ true = true) ∧
      (SV.own (5 : Nat) (0 : Nat) = SV.own (5 : Nat) (0 : Nat) ∧ true = true) ∧ True) ∧
      (some
      { ty := (51 : TypeId), cs := [Value.int IntKind.i64 (clA l i).cl, Value.int IntKind.i64 (clA l i).sq, Value.int IntKind.i64 (clA l i).nd, Value.int IntKind.i64 (clA l i).op_kd, Value.string (clA l i).op_ky, Value.string (clA l i).op_ot, Value.int IntKind.i64 (clA l i).op_n, Value.int IntKind.i64 (clA l i).op_lo, Value.int IntKind.i64 (clA l i).op_hi, Value.int IntKind.i64 (clA l i).ca, Value.int IntKind.i64 (clA l i).mo, Value.int IntKind.i64 (clA l i).aw, Value.int IntKind.i64 (clA l i).an_er, Value.int IntKind.i64 (clA l i).an_va, Value.int IntKind.i64 (clA l i).an_le, Value.int IntKind.i64 (clA l i).an_mo] : Bx } =
      some
      { ty := (51 : TypeId), cs := [Value.int IntKind.i64 (clA l i).cl, Value.int IntKind.i64 (clA l i).sq, Value.int IntKind.i64 (clA l i).nd, Value.int IntKind.i64 (clA l i).op_kd, Value.string (clA l i).op_ky, Value.string (clA l i).op_ot, Value.int IntKind.i64 (clA l i).op_n, Value.int IntKind.i64 (clA l i).op_lo, Value.int IntKind.i64 (clA l i).op_hi, Value.int IntKind.i64 (clA l i).ca, Value.int IntKind.i64 (clA l i).mo, Value.int IntKind.i64 (clA l i).aw, Value.int IntKind.i64 (clA l i).an_er, Value.int IntKind.i64 (clA l i).an_va, Value.int IntKind.i64 (clA l i).an_le, Value.int IntKind.i64 (clA l i).an_mo] : Bx } ∧
      true = true) ∧
      True) ∧
      ∀ (x : Nat),
      oldB (clA l i) = false →
      (∃ (a_5 : Nat),
      (a_5 ≤ i ∧ opnB (clA l i) (List.take a_5 l) = false) ∧
      { π := m.π, sz := n, uf := m.uf : M } = { π := m.π, sz := n, uf := m.uf : M } ∧
      ((SV.val (Value.int IntKind.i64 (0 : Int)) = SV.val (Value.int IntKind.i64 (↑a_5 : Int)) ∧ true = true) ∧
      (SV.val (Value.int IntKind.i64 (↑i : Int)) = SV.val (Value.int IntKind.i64 (↑i : Int)) ∧ true = true) ∧
      (SV.val (Value.slice a l.length cp) = SV.val (Value.slice a l.length cp) ∧ true = true) ∧
      (SV.own (5 : Nat) (0 : Nat) = SV.own (5 : Nat) (0 : Nat) ∧ true = true) ∧ True) ∧
      (some
      { ty := (51 : TypeId), cs := [Value.int IntKind.i64 (clA l i).cl, Value.int IntKind.i64 (clA l i).sq, Value.int IntKind.i64 (clA l i).nd, Value.int IntKind.i64 (clA l i).op_kd, Value.string (clA l i).op_ky, Value.string (clA l i).op_ot, Value.int IntKind.i64 (clA l i).op_n, Value.int IntKind.i64 (clA l i).op_lo, Value.int IntKind.i64 (clA l i).op_hi, Value.int IntKind.i64 (clA l i).ca, Value.int IntKind.i64 (clA l i).mo, Value.int IntKind.i64 (clA l i).aw, Value.int IntKind.i64 (clA l i).an_er, Value.int IntKind.i64 (clA l i).an_va, Value.int IntKind.i64 (clA l i).an_le, Value.int IntKind.i64 (clA l i).an_mo] : Bx } =
      some
      { ty := (51 : TypeId), cs := [Value.int IntKind.i64 (clA l i).cl, Value.int IntKind.i64 (clA l i).sq, Value.int IntKind.i64 (clA l i).nd, Value.int IntKind.i64 (clA l i).op_kd, Value.string (clA l i).op_ky, Value.string (clA l i).op_ot, Value.int IntKind.i64 (clA l i).op_n, Value.int IntKind.i64 (clA l i).op_lo, Value.int IntKind.i64 (clA l i).op_hi, Value.int IntKind.i64 (clA l i).ca, Value.int IntKind.i64 (clA l i).mo, Value.int IntKind.i64 (clA l i).aw, Value.int IntKind.i64 (clA l i).an_er, Value.int IntKind.i64 (clA l i).an_va, Value.int IntKind.i64 (clA l i).an_le, Value.int IntKind.i64 (clA l i).an_mo] : Bx } ∧
      true = true) ∧
      True) ∧
      ∀ (a_5 : Nat),
      a_5 ≤ i ∧ opnB (clA l i) (List.take a_5 l) = false →
      ifB (decide ((↑a_5 : Int) < (↑i : Int)))
      (true = true ∧
      ∃ (b : Nat),
      ∃ (off : Nat),
      a = some { block := b, off := off : Addr } ∧
      ((0 : Int) ≤ (↑a_5 : Int) ∧ (↑a_5 : Int) < (↑l.length : Int)) ∧
      ∃ (n_15 : Int),
      CellsAt { π := m.π, sz := n, uf := m.uf : M } b
      (off + (↑a_5 : Int).toNat * (16 : Nat) + (0 : Nat)) [Value.int IntKind.i64 n_15] ∧
      ifB (n_15 == (clA l i).cl)
      (∃ (b : Nat),
      ∃ (off : Nat),
      a = some { block := b, off := off : Addr } ∧
      ((0 : Int) ≤ (↑a_5 : Int) ∧ (↑a_5 : Int) < (↑l.length : Int)) ∧
      ∃ (n_16 : Int),
      CellsAt { π := m.π, sz := n, uf := m.uf : M } b
      (off + (↑a_5 : Int).toNat * (16 : Nat) + (11 : Nat))
      [Value.int IntKind.i64 n_16] ∧
      ifB (n_16 == (0 : Int))
      (Done
      (Value.int IntKind.i64 (230 : Int) =
      Value.int IntKind.i64 (wrgE (clA l i) (List.take i l))))
      (∃ (b : Nat),
      ∃ (off : Nat),
      a = some { block := b, off := off : Addr } ∧
      ((0 : Int) ≤ (↑a_5 : Int) ∧ (↑a_5 : Int) < (↑l.length : Int)) ∧
      ∃ (n_17 : Int),
      CellsAt { π := m.π, sz := n, uf := m.uf : M } b
      (off + (↑a_5 : Int).toNat * (16 : Nat) + (11 : Nat))
      [Value.int IntKind.i64 n_17] ∧
      ifB (decide ((clA l i).ca ≤ n_17))
      (Done
      (Value.int IntKind.i64 (230 : Int) =
      Value.int IntKind.i64 (wrgE (clA l i) (List.take i l))))
      (∃ (a' : Nat),
      ((a' ≤ i ∧ opnB (clA l i) (List.take a' l) = false) ∧
      { π := m.π, sz := n, uf := m.uf : M } =
      { π := m.π, sz := n, uf := m.uf : M } ∧
      ((SV.val
      (Value.int IntKind.i64
      (IntKind.i64.wrap
      ((↑a_5 : Int) + (1 : Int)))) =
      SV.val (Value.int IntKind.i64 (↑a' : Int)) ∧
      true = true) ∧
      (SV.val (Value.int IntKind.i64 (↑i : Int)) =
      SV.val (Value.int IntKind.i64 (↑i : Int)) ∧
      true = true) ∧
      (SV.val (Value.slice a l.length cp) =
      SV.val (Value.slice a l.length cp) ∧
      true = true) ∧
      (SV.own (5 : Nat) (0 : Nat) =
      SV.own (5 : Nat) (0 : Nat) ∧
      true = true) ∧
      True) ∧
      (some
      { ty := (51 : TypeId), cs := [Value.int IntKind.i64 (clA l i).cl, Value.int IntKind.i64 (clA l i).sq, Value.int IntKind.i64 (clA l i).nd, Value.int IntKind.i64 (clA l i).op_kd, Value.string (clA l i).op_ky, Value.string (clA l i).op_ot, Value.int IntKind.i64 (clA l i).op_n, Value.int IntKind.i64 (clA l i).op_lo, Value.int IntKind.i64 (clA l i).op_hi, Value.int IntKind.i64 (clA l i).ca, Value.int IntKind.i64 (clA l i).mo, Value.int IntKind.i64 (clA l i).aw, Value.int IntKind.i64 (clA l i).an_er, Value.int IntKind.i64 (clA l i).an_va, Value.int IntKind.i64 (clA l i).an_le, Value.int IntKind.i64 (clA l i).an_mo] : Bx } =
      some
      { ty := (51 : TypeId), cs := [Value.int IntKind.i64 (clA l i).cl, Value.int IntKind.i64 (clA l i).sq, Value.int IntKind.i64 (clA l i).nd, Value.int IntKind.i64 (clA l i).op_kd, Value.string (clA l i).op_ky, Value.string (clA l i).op_ot, Value.int IntKind.i64 (clA l i).op_n, Value.int IntKind.i64 (clA l i).op_lo, Value.int IntKind.i64 (clA l i).op_hi, Value.int IntKind.i64 (clA l i).ca, Value.int IntKind.i64 (clA l i).mo, Value.int IntKind.i64 (clA l i).aw, Value.int IntKind.i64 (clA l i).an_er, Value.int IntKind.i64 (clA l i).an_va, Value.int IntKind.i64 (clA l i).an_le, Value.int IntKind.i64 (clA l i).an_mo] : Bx } ∧
      true = true) ∧
      True) ∧
      i - a' < i - a_5)))
      (∃ (a' : Nat),
      ((a' ≤ i ∧ opnB (clA l i) (List.take a' l) = false) ∧
      { π := m.π, sz := n, uf := m.uf : M } = { π := m.π, sz := n, uf := m.uf : M } ∧
      ((SV.val (Value.int IntKind.i64 (IntKind.i64.wrap ((↑a_5 : Int) + (1 : Int)))) =
      SV.val (Value.int IntKind.i64 (↑a' : Int)) ∧
      true = true) ∧
      (SV.val (Value.int IntKind.i64 (↑i : Int)) =
      SV.val (Value.int IntKind.i64 (↑i : Int)) ∧
      true = true) ∧
      (SV.val (Value.slice a l.length cp) = SV.val (Value.slice a l.length cp) ∧
      true = true) ∧
      (SV.own (5 : Nat) (0 : Nat) = SV.own (5 : Nat) (0 : Nat) ∧ true = true) ∧
      True) ∧
      (some
      { ty := (51 : TypeId), cs := [Value.int IntKind.i64 (clA l i).cl, Value.int IntKind.i64 (clA l i).sq, Value.int IntKind.i64 (clA l i).nd, Value.int IntKind.i64 (clA l i).op_kd, Value.string (clA l i).op_ky, Value.string (clA l i).op_ot, Value.int IntKind.i64 (clA l i).op_n, Value.int IntKind.i64 (clA l i).op_lo, Value.int IntKind.i64 (clA l i).op_hi, Value.int IntKind.i64 (clA l i).ca, Value.int IntKind.i64 (clA l i).mo, Value.int IntKind.i64 (clA l i).aw, Value.int IntKind.i64 (clA l i).an_er, Value.int IntKind.i64 (clA l i).an_va, Value.int IntKind.i64 (clA l i).an_le, Value.int IntKind.i64 (clA l i).an_mo] : Bx } =
      some
      { ty := (51 : TypeId), cs := [Value.int IntKind.i64 (clA l i).cl, Value.int IntKind.i64 (clA l i).sq, Value.int IntKind.i64 (clA l i).nd, Value.int IntKind.i64 (clA l i).op_kd, Value.string (clA l i).op_ky, Value.string (clA l i).op_ot, Value.int IntKind.i64 (clA l i).op_n, Value.int IntKind.i64 (clA l i).op_lo, Value.int IntKind.i64 (clA l i).op_hi, Value.int IntKind.i64 (clA l i).ca, Value.int IntKind.i64 (clA l i).mo, Value.int IntKind.i64 (clA l i).aw, Value.int IntKind.i64 (clA l i).an_er, Value.int IntKind.i64 (clA l i).an_va, Value.int IntKind.i64 (clA l i).an_le, Value.int IntKind.i64 (clA l i).an_mo] : Bx } ∧
      true = true) ∧
      True) ∧
      i - a' < i - a_5))
      (ifB ((clA l i).aw == (0 : Int))
      (Done (Value.int IntKind.i64 (0 : Int) = Value.int IntKind.i64 (wrgE (clA l i) (List.take i l))))
      (true = true ∧
      ∃ (b : Bool),
      QSpec Try.prog (62 : Nat) [Value.int IntKind.i64 (clA l i).an_er]
      { π := m.π, sz := n, uf := m.uf : M } (Value.bool b) ∧
      ifB (!b == decide ((clA l i).mo ≤ (0 : Int)))
      (Done (Value.int IntKind.i64 (60 : Int) = Value.int IntKind.i64 (wrgE (clA l i) (List.take i l))))
      (Done
      (Value.int IntKind.i64 (0 : Int) = Value.int IntKind.i64 (wrgE (clA l i) (List.take i l)))))))) (by kernel_rfl) ?_
  have h' := h.sz hn
  obtain ⟨b, o, rfl, hc⟩ := h'.cells (by rw [cl_len]; omega)
  have ec := clA_at hi
  have f1 : ∀ k (hk : k < l.length), CellsAt { m with sz := n } b (o + k * 16 + 0) [I l[k].cl] := fun k hk => CellsAt.field cl_k hc hk (p := []) (old := [I l[k].cl]) (q := [I l[k].sq, I l[k].nd, I l[k].op_kd, .string l[k].op_ky, .string l[k].op_ot, I l[k].op_n, I l[k].op_lo, I l[k].op_hi, I l[k].ca, I l[k].mo, I l[k].aw, I l[k].an_er, I l[k].an_va, I l[k].an_le, I l[k].an_mo]) rfl
  have f2 : ∀ k (hk : k < l.length), CellsAt { m with sz := n } b (o + k * 16 + 1) [I l[k].sq] := fun k hk => CellsAt.field cl_k hc hk (p := [I l[k].cl]) (old := [I l[k].sq]) (q := [I l[k].nd, I l[k].op_kd, .string l[k].op_ky, .string l[k].op_ot, I l[k].op_n, I l[k].op_lo, I l[k].op_hi, I l[k].ca, I l[k].mo, I l[k].aw, I l[k].an_er, I l[k].an_va, I l[k].an_le, I l[k].an_mo]) rfl
  have f3 : ∀ k (hk : k < l.length), CellsAt { m with sz := n } b (o + k * 16 + 11) [I l[k].aw] := fun k hk => CellsAt.field cl_k hc hk (p := [I l[k].cl, I l[k].sq, I l[k].nd, I l[k].op_kd, .string l[k].op_ky, .string l[k].op_ot, I l[k].op_n, I l[k].op_lo, I l[k].op_hi, I l[k].ca, I l[k].mo]) (old := [I l[k].aw]) (q := [I l[k].an_er, I l[k].an_va, I l[k].an_le, I l[k].an_mo]) rfl
  generalize hcc : clA l i = c at *
  have hce : encCl l[i] = encCl c := by rw [ec]
  have w1 : ∀ k, k < l.length → IntKind.i64.wrap ((k : Int) + 1) = ((k + 1 : Nat) : Int) := fun k hk => by simp [IntKind.wrap_i64]; omega
  have gl : ∀ k, k < i → (l.take i).any (fun x => decide (x.cl = c.cl) && decide (c.sq ≤ x.sq)) = sqB c (l.take i) := fun k hk => rfl
  have tt : ∀ k (p : Cl → Bool), k ≤ i → (l.take k).any p = true → (l.take i).any p = true := fun k p hk h => by
    rw [show l.take k = (l.take i).take k by rw [List.take_take, Nat.min_eq_left hk]] at h
    exact any_sub p _ k h
  refine ⟨rfl, b, o, rfl, by omega, _, _, _, _, _, _, _, _, _, _, _, _, _, _, _, _, by simpa [← ec] using cl_at hc hi, ⟨0, Nat.zero_le _, rfl, by simp [sqB], by simp⟩, fun k hk => ifB_intro (fun hb => ?_) (fun hb => ⟨ifB_intro (fun h1 => ⟨?_⟩) (fun h1 => ⟨_, rclient_q _ _, ifB_intro (fun h2 => ⟨?_⟩) (fun h2 => ifB_intro (fun h3 => ⟨?_⟩) (fun h3 => ifB_intro (fun h4 => ifB_intro (fun h5 => ⟨?_⟩) (fun h5 => ⟨0, ⟨?_, ?_⟩, rfl, by simp⟩)) (fun h4 => ⟨0, ⟨?_, ?_⟩, rfl, by simp⟩)))⟩), fun _ ⟨hbad, hsq⟩ => ⟨ifB_intro (fun h1 => ifB_intro (fun h2 => ⟨?_⟩) (fun h2 => ifB_intro (fun h3 => ifB_intro (fun h4 => ⟨?_⟩) (fun h4 => ⟨0, ?_, rfl, by simp⟩)) (fun h3 => ⟨0, ?_, rfl, by simp⟩))) (fun h1 => ⟨0, ?_, rfl, by simp⟩), fun _ hold => ⟨⟨0, ⟨Nat.zero_le _, by simp [opnB]⟩, rfl, by simp⟩, fun k ⟨hk, hop⟩ => ifB_intro (fun hb => ?_) (fun hb => ?_)⟩⟩⟩)⟩
  · have hk2 : k < i := by simpa using hb
    have hk3 : k < l.length := by omega
    have e1 : sqB c (l.take (k + 1)) = (sqB c (l.take k) || (decide (l[k].cl = c.cl) && decide (c.sq ≤ l[k].sq))) := any_take _ l k hk3
    refine ⟨rfl, b, o, rfl, by omega, _, by simpa using f1 k hk3, ifB_intro (fun h1 => ⟨b, o, rfl, by omega, _, by simpa using f2 k hk3, ifB_intro (fun h2 => ⟨k + 1, ⟨hk2, rfl, ?_⟩, by omega⟩) (fun h2 => ⟨k + 1, ⟨hk2, rfl, ?_⟩, by omega⟩)⟩) (fun h1 => ⟨k + 1, ⟨hk2, rfl, ?_⟩, by omega⟩)⟩
    · simp at h1 h2; simp [w1 k hk3, e1, h1, h2]
    · simp at h1 h2; simp [w1 k hk3, e1, show ¬ c.sq ≤ l[k].sq by omega]
    · simp at h1; simp [w1 k hk3, e1, h1]
  all_goals try (have hki : k = i := by simp at hb; omega)
  all_goals try subst hki
  · rw [bad_form (.inr (by by_cases h : sqB c (l.take k) = true; exact h; simp [h] at h1))]
  · rw [bad_form (.inl (by simp at h2; simp [badB]; omega))]
  · simp at h3; rw [bad_form (.inl (by simp [badB]; omega))]
  · simp at h4 h5; rw [bad_form (.inl (by simp [badB, h4, h5]))]
  · simp at h2 h3 h4 h5; exact bad_no (by omega) (by omega) (by omega) (by omega)
  · by_cases h : sqB c (l.take k) = true
    · simp [h] at h1
    · simpa using h
  · simp at h2 h3 h4; exact bad_no (by omega) (by omega) (by omega) (by omega)
  · by_cases h : sqB c (l.take k) = true
    · simp [h] at h1
    · simpa using h
  · rw [wrg_tail hbad hsq]; simp at h1 h2; simp [oldB, h1, h2]
  · rw [wrg_tail hbad hsq]; simp at h1 h2 h3 h4; simp [oldB, h1, h3, h4]
  · simp at h1 h2 h3 h4; simp [oldB, h3]; omega
  · simp at h1 h2 h3; simp [oldB, h3]; omega
  · simp at h1; simp [oldB]; omega
  · have hk2 : k < i := by simpa using hb
    have hk3 : k < l.length := by omega
    have e1 : opnB c (l.take (k + 1)) = (opnB c (l.take k) || (decide (l[k].cl = c.cl) && (decide (l[k].aw = 0) || decide (c.ca ≤ l[k].aw)))) := any_take _ l k hk3
    rw [hop] at e1
    have fin : (decide (l[k].cl = c.cl) && (decide (l[k].aw = 0) || decide (c.ca ≤ l[k].aw))) = true → wrgE c (l.take i) = 230 := fun h => by
      have : opnB c (l.take i) = true := tt (k + 1) _ hk2 (by
        have := e1; rw [h] at this; simpa [opnB] using this)
      rw [wrg_tail hbad hsq, hold, this]; rfl
    refine ⟨rfl, b, o, rfl, by omega, _, by simpa using f1 k hk3, ifB_intro (fun h1 => ⟨b, o, rfl, by omega, _, by simpa using f3 k hk3, ifB_intro (fun h2 => ⟨?_⟩) (fun h2 => ⟨b, o, rfl, by omega, _, by simpa using f3 k hk3, ifB_intro (fun h3 => ⟨?_⟩) (fun h3 => ⟨k + 1, ⟨⟨hk2, ?_⟩, rfl, by simp [w1 k hk3]⟩, by omega⟩)⟩)⟩) (fun h1 => ⟨k + 1, ⟨⟨hk2, ?_⟩, rfl, by simp [w1 k hk3]⟩, by omega⟩)⟩
    · simp at h1 h2; rw [fin (by simp [h1, h2])]
    · simp at h1 h2 h3; rw [fin (by simp [h1, h3])]
    · simp at h1 h2 h3; rw [e1]; simp [h2]; omega
    · simp at h1; rw [e1]; simp [h1]
  · rw [wrg_tail hbad hsq, hold, hop]
    refine ifB_intro (fun h1 => ⟨?_⟩) (fun h1 => ⟨rfl, _, nothing_q _ _, ifB_intro (fun h2 => ⟨?_⟩) (fun h2 => ⟨?_⟩)⟩)
    · simp at h1; simp [nonB, h1]
    · simp at h1 h2
      have : nonB c = true := by
        by_cases h3 : 0 < c.mo <;> cases h4 : noEff c.an_er <;> simp [h4] at h2 <;> simp [nonB, h1, h3, h4] <;> omega
      simp [this]
    · simp at h1 h2
      have : nonB c = false := by
        by_cases h3 : 0 < c.mo <;> cases h4 : noEff c.an_er <;> simp [h4] at h2 <;> simp [nonB, h1, h3, h4] <;> omega
      simp [this]

end Go.Proofs.Ytbhlhnkjmncloaa
set_option linter.unusedVariables false
set_option linter.unusedSimpArgs false
namespace Go.Proofs.Ytbhlhnkjmncloaa
open Go.Vc Go.RowKit
set_option maxRecDepth 100000

/-- the totals behind calls, one behind the other -/
def runC (cs : List Cl) (t : List Tt) : List Tt := cs.foldl (fun t c => (doT t (opC c)).1) t

theorem runC_snoc (cs : List Cl) (c : Cl) (t : List Tt) : runC (cs ++ [c]) t = (doT (runC cs t) (opC c)).1 := by simp [runC]

structure TotI (t : List Tt) (n : Nat) : Prop where
  right : totB none t = true
  wf : ∀ x ∈ t, x.wf
  len : t.length ≤ n

theorem TotI.nil {n : Nat} : TotI [] n := ⟨rfl, by simp, by simp⟩

theorem TotI.step {t : List Tt} {n : Nat} (h : TotI t n) {o : Oq} (ho : o.wf) : TotI (doT t o).1 (n + 2) := by
  have P := do_p h.right h.wf ho
  have := do_len t o
  exact ⟨P.right, P.wf, by have := h.len; omega⟩

theorem runC_ok : ∀ (cs : List Cl) {t : List Tt} {n : Nat}, TotI t n → (∀ c ∈ cs, c.wf) → TotI (runC cs t) (n + 2 * cs.length)
  | [], t, n, h, _ => by simpa [runC] using h
  | c :: cs, t, n, h, hw => by
    have := runC_ok cs (h.step (opC_wf (hw c (by simp)))) (fun x hx => hw x (by simp [hx]))
    have e : runC (c :: cs) t = runC cs (doT t (opC c)).1 := rfl
    rw [e, List.length_cons]
    exact ⟨this.right, this.wf, by have := this.len; omega⟩

theorem clA_wf {l : List Cl} (hl : ∀ x ∈ l, x.wf) {i : Nat} : (clA l i).wf := by
  by_cases h : i < l.length
  · rw [clA_at h]; exact hl _ (List.getElem_mem h)
  · simp only [clA, List.getElem?_eq_none (Nat.le_of_not_lt h), Option.getD_none, cl0, Cl.wf]
    refine ⟨by decide, by decide, by decide, by decide, by decide, by decide, by decide, by decide, by decide, by decide, by decide, by decide, by decide, by decide, by decide, by decide⟩

theorem ordC_wf {l : List Cl} (hl : ∀ x ∈ l, x.wf) : ∀ x ∈ ordC l, x.wf := fun x hx => by
  obtain ⟨i, -, rfl⟩ := List.mem_map.1 hx
  exact clA_wf hl

theorem ordC_le (l : List Cl) : (ordC l).length ≤ l.length := by rw [ordC_len]; exact ordL_len l

theorem ordC_get {l : List Cl} {k : Nat} (hk : k < (ordL l).length) : (ordC l)[k]'(by rw [ordC_len]; exact hk) = clA l (ordL l)[k] := by simp [ordC]

structure OcX where
  k : Nat
  x : Option Addr
  d : Nat
  a : Option Addr
  c : Nat
  m1 : M
  m : M

structure OcI (l : List Cl) (al : Option Addr) (m : M) (y : OcX) : Prop where
  k : y.k ≤ (ordL l).length
  ns : Row y.m1 y.x (nsv (ordL l))
  src : Row y.m1 al (cls l)
  out : NewR y.m1.sz (fun _ => False) y.m 16 y.a y.k y.c (cls ((ordC l).take y.k))
  ag0 : Agree m.sz m y.m1
  ag : Agree y.m1.sz y.m1 y.m

theorem wOrder_s (a : Option Addr) (cp : Nat) (l : List Cl) (hn : l.length ≤ 977343669105) (m : M) (h : Row m a (cls l)) : Vc.Spec Try.prog 21 [.slice a l.length cp] m fun v m' => ∃ a' c', v = .slice a' (ordC l).length c' ∧ Row m' a' (cls (ordC l)) := by
  refine Vc.Spec.of_vc Try.func21 (ann := fun _ => { A := OcX, inv := OcI l a m, st := fun y => [(9, .val (I y.k)), (8, .val (I (ordL l).length)), (7, .val (.slice y.x (ordL l).length y.d)), (3, .val (.slice y.a y.k y.c)), (0, .val (.slice a l.length cp))], own := fun _ => [], m := fun y => y.m, μ := fun y => (ordL l).length - y.k }) ?_
  refine vc_by (X :=
      true = true ∧
      ∃ (S' : Nat → Prop),
      (∀ (b : Nat), S' b → m.uf b ∧ (m.sz ≤ b ∨ False)) ∧
      ∀ (n : Nat),
      m.sz ≤ n →
      SpecW Try.prog (46 : Nat) [Value.slice a l.length cp] { π := m.π, sz := n, uf := m.uf : M } S' fun (v : Value) (m' : M) =>
      ∃ (a_2 : Option Addr),
      ∃ (n : Nat),
      ∃ (c : Nat),
      v = Value.slice a_2 n c ∧
      (∃ (a_3 : OcX),
      OcI l a m a_3 ∧
      m' = a_3.m ∧
      ((SV.val (Value.int IntKind.i64 (0 : Int)) = SV.val (Value.int IntKind.i64 (↑a_3.k : Int)) ∧ true = true) ∧
      (SV.val (Value.int IntKind.i64 (↑n : Int)) = SV.val (Value.int IntKind.i64 (↑(ordL l).length : Int)) ∧ true = true) ∧
      (SV.val (Value.slice a_2 n c) = SV.val (Value.slice a_3.x (ordL l).length a_3.d) ∧ true = true) ∧
      (SV.val (Value.slice none (0 : Nat) (0 : Nat)) = SV.val (Value.slice a_3.a a_3.k a_3.c) ∧ true = true) ∧
      (SV.val (Value.slice a l.length cp) = SV.val (Value.slice a l.length cp) ∧ true = true) ∧ True) ∧
      True) ∧
      ∀ (a_3 : OcX),
      OcI l a m a_3 →
      ifB (decide ((↑a_3.k : Int) < (↑(ordL l).length : Int)))
      (∃ (b : Nat),
      ∃ (off : Nat),
      a_3.x = some { block := b, off := off : Addr } ∧
      ((0 : Int) ≤ (↑a_3.k : Int) ∧ (↑a_3.k : Int) < (↑(ordL l).length : Int)) ∧
      ∃ (n : Int),
      CellsAt a_3.m b (off + (↑a_3.k : Int).toNat * (1 : Nat)) [Value.int IntKind.i64 n] ∧
      ∃ (b : Nat),
      ∃ (off : Nat),
      a = some { block := b, off := off : Addr } ∧
      ((0 : Int) ≤ n ∧ n < (↑l.length : Int)) ∧
      ∃ (n_1 : Int),
      ∃ (n_2 : Int),
      ∃ (n_3 : Int),
      ∃ (n_4 : Int),
      ∃ (s : ByteArray),
      ∃ (s_1 : ByteArray),
      ∃ (n_5 : Int),
      ∃ (n_6 : Int),
      ∃ (n_7 : Int),
      ∃ (n_8 : Int),
      ∃ (n_9 : Int),
      ∃ (n_10 : Int),
      ∃ (n_11 : Int),
      ∃ (n_12 : Int),
      ∃ (n_13 : Int),
      ∃ (n_14 : Int),
      CellsAt a_3.m b (off + n.toNat * (16 : Nat))
      [Value.int IntKind.i64 n_1, Value.int IntKind.i64 n_2, Value.int IntKind.i64 n_3,
      Value.int IntKind.i64 n_4, Value.string s, Value.string s_1, Value.int IntKind.i64 n_5,
      Value.int IntKind.i64 n_6, Value.int IntKind.i64 n_7, Value.int IntKind.i64 n_8,
      Value.int IntKind.i64 n_9, Value.int IntKind.i64 n_10, Value.int IntKind.i64 n_11,
      Value.int IntKind.i64 n_12, Value.int IntKind.i64 n_13, Value.int IntKind.i64 n_14] ∧
      true = true ∧
      ∀ (b : Nat),
      a_3.m.sz ≤ b →
      ∃ (old : List Value),
      ∃ (src : List Value),
      AppPre m.sz (fun (x : Nat) => False)
      (a_3.m.newBlock b
      [Value.int IntKind.i64 n_1, Value.int IntKind.i64 n_2, Value.int IntKind.i64 n_3,
      Value.int IntKind.i64 n_4, Value.string s, Value.string s_1,
      Value.int IntKind.i64 n_5, Value.int IntKind.i64 n_6, Value.int IntKind.i64 n_7,
      Value.int IntKind.i64 n_8, Value.int IntKind.i64 n_9,
      Value.int IntKind.i64 n_10, Value.int IntKind.i64 n_11,
      Value.int IntKind.i64 n_12, Value.int IntKind.i64 n_13,
      Value.int IntKind.i64 n_14])
      (16 : Nat) (144 : Nat) a_3.a a_3.k a_3.c
      (some { block := b, off := (0 : Nat) : Addr }) (1 : Nat) old src ∧
      ∀ (a' : Option Addr) (c' : Nat) (m' : M),
      AppPost Try.prog (51 : Nat)
      (a_3.m.newBlock b
      [Value.int IntKind.i64 n_1, Value.int IntKind.i64 n_2,
      Value.int IntKind.i64 n_3, Value.int IntKind.i64 n_4, Value.string s,
      Value.string s_1, Value.int IntKind.i64 n_5, Value.int IntKind.i64 n_6,
      Value.int IntKind.i64 n_7, Value.int IntKind.i64 n_8,
      Value.int IntKind.i64 n_9, Value.int IntKind.i64 n_10,
      Value.int IntKind.i64 n_11, Value.int IntKind.i64 n_12,
      Value.int IntKind.i64 n_13, Value.int IntKind.i64 n_14])
      (16 : Nat) a_3.a a_3.k a_3.c (1 : Nat) old src a' c' m' →
      ∃ (a'_1 : OcX),
      (OcI l a m a'_1 ∧
      m' = a'_1.m ∧
      ((SV.val
      (Value.int IntKind.i64
      (IntKind.i64.wrap ((↑a_3.k : Int) + (1 : Int)))) =
      SV.val (Value.int IntKind.i64 (↑a'_1.k : Int)) ∧
      true = true) ∧
      (SV.val (Value.int IntKind.i64 (↑(ordL l).length : Int)) =
      SV.val (Value.int IntKind.i64 (↑(ordL l).length : Int)) ∧
      true = true) ∧
      (SV.val (Value.slice a_3.x (ordL l).length a_3.d) =
      SV.val (Value.slice a'_1.x (ordL l).length a'_1.d) ∧
      true = true) ∧
      (SV.val (Value.slice a' (a_3.k + (1 : Nat)) c') =
      SV.val (Value.slice a'_1.a a'_1.k a'_1.c) ∧
      true = true) ∧
      (SV.val (Value.slice a l.length cp) =
      SV.val (Value.slice a l.length cp) ∧
      true = true) ∧
      True) ∧
      True) ∧
      (ordL l).length - a'_1.k < (ordL l).length - a_3.k)
      (Done (∃ (a' : Option Addr), ∃ (c' : Nat), Value.slice a_3.a a_3.k a_3.c = Value.slice a' (ordC l).length c' ∧ Row a_3.m a' (cls (ordC l))))) (by kernel_rfl) ?_
  refine ⟨rfl, _, noS, fun N hN => (worder_s a cp l (by omega) _ (h.sz hN)).monoW fun v m' hag ⟨x, d, hv, hr⟩ => ⟨x, _, d, hv, ⟨⟨0, x, d, none, 0, m', m'⟩, ⟨Nat.zero_le _, hr, (h.sz hN).agree hag, .nil _, (Agree.szl hN).trans (hag.mono hN), Agree.refl _ _⟩, rfl, by simp⟩, fun y Y => ifB_intro (fun hb => ?_) (fun hb => ⟨?_⟩)⟩⟩
  · have hk : y.k < (ordL l).length := by simpa using hb
    have hle := ordL_len l
    obtain ⟨b, o, hx, hc⟩ := (Y.ns.agree Y.ag).cells (by rw [ns_len]; omega)
    have hi := ordL_lt (List.getElem_mem hk)
    obtain ⟨b2, o2, ha2, hc2⟩ := (Y.src.agree Y.ag).cells (by rw [cl_len]; omega)
    have w1 : IntKind.i64.wrap ((y.k : Int) + 1) = ((y.k + 1 : Nat) : Int) := by simp [IntKind.wrap_i64]; omega
    have e : (ordC l).take (y.k + 1) = (ordC l).take y.k ++ [l[(ordL l)[y.k]]] := by
      rw [List.take_succ_eq_append_getElem (by rw [ordC_len]; exact hk), ordC_get hk, clA_at hi]
    refine ⟨b, o, hx, by omega, _, by simpa using ns_at hc hk, b2, o2, ha2, by omega, _, _, _, _, _, _, _, _, _, _, _, _, _, _, _, _, by simpa using cl_at hc2 hi, rfl, fun b3 hb3 => ?_⟩
    obtain ⟨p1, -⟩ := (Y.out.lower Y.ag0.2.2).push (P := Try.prog) (e := 51) (bytes := 144) (src := encCl l[(ordL l)[y.k]]) hb3 (Nat.le_trans Y.ag0.2.2 Y.ag.2.2) rfl rfl (by omega) cl_zr
    obtain ⟨-, p2⟩ := Y.out.push (P := Try.prog) (e := 51) (bytes := 144) (src := encCl l[(ordL l)[y.k]]) hb3 Y.ag.2.2 rfl rfl (by omega) cl_zr
    refine ⟨_, _, p1, fun a' c' m' hp => ?_⟩
    obtain ⟨g1, g2⟩ := p2 a' c' m' hp
    refine ⟨⟨y.k + 1, y.x, y.d, a', c', y.m1, m'⟩, ⟨⟨hk, Y.ns, Y.src, ?_, Y.ag0, Y.ag.trans g2⟩, rfl, by simp [w1]⟩, by simp only; omega⟩
    simp only
    rw [e, show cls ((ordC l).take y.k ++ [l[(ordL l)[y.k]]]) = cls ((ordC l).take y.k) ++ encCl l[(ordL l)[y.k]] by simp [cls]]
    exact g1
  · have hk : y.k = (ordL l).length := by have := Y.k; simp at hb; omega
    have ho := Y.out.row
    rw [hk, ← ordC_len, List.take_length] at ho
    exact ⟨y.a, y.c, by rw [hk, ordC_len], ho⟩

structure RuX where
  k : Nat
  x : Option Addr
  d : Nat
  a : Option Addr
  c : Nat
  m : M

structure RuI (l : List Cl) (m : M) (y : RuX) : Prop where
  k : y.k ≤ (ordC l).length
  ns : Row y.m y.x (cls (ordC l))
  t : Row y.m y.a (tts (runC ((ordC l).take y.k) []))

theorem wRun_s (a : Option Addr) (cp : Nat) (l : List Cl) (hn : l.length ≤ 977343669105) (hl : ∀ x ∈ l, x.wf) (m : M) (h : Row m a (cls l)) : Vc.Spec Try.prog 22 [.slice a l.length cp] m fun v m' => ∃ a' c', v = .slice a' (runC (ordC l) []).length c' ∧ Row m' a' (tts (runC (ordC l) [])) := by
  refine Vc.Spec.of_vc Try.func22 (ann := fun _ => { A := RuX, inv := RuI l m, st := fun y => [(9, .val (I y.k)), (8, .val (I (ordC l).length)), (7, .val (.slice y.x (ordC l).length y.d)), (3, .val (.slice y.a (runC ((ordC l).take y.k) []).length y.c))], own := fun _ => [], m := fun y => y.m, μ := fun y => (ordC l).length - y.k }) ?_
  refine vc_by (X :=
      true = true ∧
      ∃ (S' : Nat → Prop),
      (∀ (b : Nat), S' b → m.uf b ∧ (m.sz ≤ b ∨ False)) ∧
      ∀ (n : Nat),
      m.sz ≤ n →
      SpecW Try.prog (21 : Nat) [Value.slice a l.length cp] { π := m.π, sz := n, uf := m.uf : M } S' fun (v : Value) (m' : M) =>
      ∃ (a : Option Addr),
      ∃ (n : Nat),
      ∃ (c : Nat),
      v = Value.slice a n c ∧
      (∃ (a_2 : RuX),
      RuI l m a_2 ∧
      m' = a_2.m ∧
      ((SV.val (Value.int IntKind.i64 (0 : Int)) = SV.val (Value.int IntKind.i64 (↑a_2.k : Int)) ∧ true = true) ∧
      (SV.val (Value.int IntKind.i64 (↑n : Int)) = SV.val (Value.int IntKind.i64 (↑(ordC l).length : Int)) ∧ true = true) ∧
      (SV.val (Value.slice a n c) = SV.val (Value.slice a_2.x (ordC l).length a_2.d) ∧ true = true) ∧
      (SV.val (Value.slice none (0 : Nat) (0 : Nat)) = SV.val (Value.slice a_2.a (runC (List.take a_2.k (ordC l)) []).length a_2.c) ∧ true = true) ∧
      True) ∧
      True) ∧
      ∀ (a : RuX),
      RuI l m a →
      ifB (decide ((↑a.k : Int) < (↑(ordC l).length : Int)))
      (∃ (b : Nat),
      ∃ (off : Nat),
      a.x = some { block := b, off := off : Addr } ∧
      ((0 : Int) ≤ (↑a.k : Int) ∧ (↑a.k : Int) < (↑(ordC l).length : Int)) ∧
      ∃ (n : Int),
      ∃ (n_1 : Int),
      ∃ (n_2 : Int),
      ∃ (n_3 : Int),
      ∃ (s : ByteArray),
      ∃ (s_1 : ByteArray),
      ∃ (n_4 : Int),
      ∃ (n_5 : Int),
      ∃ (n_6 : Int),
      ∃ (n_7 : Int),
      ∃ (n_8 : Int),
      ∃ (n_9 : Int),
      ∃ (n_10 : Int),
      ∃ (n_11 : Int),
      ∃ (n_12 : Int),
      ∃ (n_13 : Int),
      CellsAt a.m b (off + (↑a.k : Int).toNat * (16 : Nat))
      [Value.int IntKind.i64 n, Value.int IntKind.i64 n_1, Value.int IntKind.i64 n_2, Value.int IntKind.i64 n_3,
      Value.string s, Value.string s_1, Value.int IntKind.i64 n_4, Value.int IntKind.i64 n_5,
      Value.int IntKind.i64 n_6, Value.int IntKind.i64 n_7, Value.int IntKind.i64 n_8,
      Value.int IntKind.i64 n_9, Value.int IntKind.i64 n_10, Value.int IntKind.i64 n_11,
      Value.int IntKind.i64 n_12, Value.int IntKind.i64 n_13] ∧
      ∃ (S' : Nat → Prop),
      (∀ (b : Nat), S' b → a.m.uf b ∧ (m.sz ≤ b ∨ False)) ∧
      ∀ (n : Nat),
      a.m.sz ≤ n →
      SpecW Try.prog (12 : Nat)
      [Value.slice a.a (runC (List.take a.k (ordC l)) []).length a.c,
      Value.agg
      #[Value.int IntKind.i64 n_3, Value.string s, Value.string s_1, Value.int IntKind.i64 n_4,
      Value.int IntKind.i64 n_5, Value.int IntKind.i64 n_6]]
      { π := a.m.π, sz := n, uf := a.m.uf : M } S' fun (v : Value) (m' : M) =>
      ∃ (a_4 : Option Addr),
      ∃ (n : Nat),
      ∃ (c : Nat),
      ∃ (n_14 : Int),
      ∃ (n_15 : Int),
      ∃ (n_16 : Int),
      ∃ (n_17 : Int),
      v =
      Value.tuple
      #[Value.slice a_4 n c,
      Value.agg
      #[Value.int IntKind.i64 n_14, Value.int IntKind.i64 n_15,
      Value.int IntKind.i64 n_16, Value.int IntKind.i64 n_17]] ∧
      ∃ (a' : RuX),
      (RuI l m a' ∧
      m' = a'.m ∧
      ((SV.val
      (Value.int IntKind.i64
      (IntKind.i64.wrap ((↑a.k : Int) + (1 : Int)))) =
      SV.val (Value.int IntKind.i64 (↑a'.k : Int)) ∧
      true = true) ∧
      (SV.val (Value.int IntKind.i64 (↑(ordC l).length : Int)) =
      SV.val (Value.int IntKind.i64 (↑(ordC l).length : Int)) ∧
      true = true) ∧
      (SV.val (Value.slice a.x (ordC l).length a.d) =
      SV.val (Value.slice a'.x (ordC l).length a'.d) ∧
      true = true) ∧
      (SV.val (Value.slice a_4 n c) =
      SV.val
      (Value.slice a'.a (runC (List.take a'.k (ordC l)) []).length
      a'.c) ∧
      true = true) ∧
      True) ∧
      True) ∧
      (ordC l).length - a'.k < (ordC l).length - a.k)
      (Done
      (∃ (a' : Option Addr),
      ∃ (c' : Nat),
      Value.slice a.a (runC (List.take a.k (ordC l)) []).length a.c = Value.slice a' (runC (ordC l) []).length c' ∧
      Row a.m a' (tts (runC (ordC l) []))))) (by kernel_rfl) ?_
  have hle := ordC_le l
  refine ⟨rfl, _, noS, fun N hN => (wOrder_s a cp l hn _ (h.sz hN)).monoW fun v m' hag ⟨x, d, hv, hr⟩ => ⟨x, _, d, hv, ⟨⟨0, x, d, none, 0, m'⟩, ⟨Nat.zero_le _, hr, .nil _⟩, rfl, by simp [runC]⟩, fun y Y => ifB_intro (fun hb => ?_) (fun hb => ⟨?_⟩)⟩⟩
  · have hk : y.k < (ordC l).length := by simpa using hb
    obtain ⟨b, o, hx, hc⟩ := Y.ns.cells (by rw [cl_len]; omega)
    have w1 : IntKind.i64.wrap ((y.k : Int) + 1) = ((y.k + 1 : Nat) : Int) := by simp [IntKind.wrap_i64]; omega
    have hw := ordC_wf hl
    have T := runC_ok ((ordC l).take y.k) (TotI.nil (n := 0)) fun c hc => hw c (List.mem_of_mem_take hc)
    have tl := T.len
    rw [List.length_take] at tl
    have e : runC ((ordC l).take (y.k + 1)) [] = (doT (runC ((ordC l).take y.k) []) (opC (ordC l)[y.k])).1 := by
      rw [List.take_succ_eq_append_getElem hk, runC_snoc]
    refine ⟨b, o, hx, by omega, _, _, _, _, _, _, _, _, _, _, _, _, _, _, _, _, by simpa using cl_at hc hk, ?_⟩
    refine ⟨_, noS, fun N2 hN2 => (wdo_s y.a y.c _ (opC (ordC l)[y.k]) (by omega) T.wf (opC_wf (hw _ (List.getElem_mem hk))) _ (Y.t.sz hN2)).monoW fun v2 m2 hag2 q2 => ?_⟩
    obtain ⟨x2, d2, hv2, hr2⟩ := q2
    exact ⟨_, _, _, _, _, _, _, hv2, ⟨y.k + 1, y.x, y.d, x2, d2, m2⟩, ⟨⟨hk, (Y.ns.sz hN2).agree hag2, by simp only; rw [e]; exact hr2⟩, rfl, by simp [w1, e]⟩, by simp only; omega⟩
  · have hk : y.k = (ordC l).length := by have := Y.k; simp at hb; omega
    have ho := Y.t
    rw [hk, List.take_length] at ho ⊢
    exact ⟨y.a, y.c, rfl, ho⟩

end Go.Proofs.Ytbhlhnkjmncloaa
set_option linter.unusedVariables false
set_option linter.unusedSimpArgs false
namespace Go.Proofs.Ytbhlhnkjmncloaa
open Go.Vc Go.RowKit
set_option maxRecDepth 100000

/-- nx is the least moment behind v among the first k calls; 0: there is none -/
def minI (l : List Cl) (v : Int) (k : Nat) (nx : Int) : Prop := (nx = 0 ∧ ∀ j, j < k → ¬ v < moA l j) ∨ (∃ j, j < k ∧ moA l j = nx ∧ v < nx ∧ ∀ j', j' < k → v < moA l j' → nx ≤ moA l j')

theorem minI_yes {l : List Cl} {v nx : Int} {k : Nat} (h : minI l v k nx) (h1 : v < moA l k) (h2 : nx = 0 ∨ moA l k < nx) (hv : 0 ≤ v) : minI l v (k + 1) (moA l k) := by
  refine .inr ⟨k, by omega, rfl, h1, fun j hj hv2 => ?_⟩
  by_cases e : j = k
  · rw [e]; exact Int.le_refl _
  · rcases h with ⟨h3, h4⟩ | ⟨j0, h3, h4, h5, h6⟩
    · exact absurd hv2 (h4 j (by omega))
    · have := h6 j (by omega) hv2; omega

theorem minI_no {l : List Cl} {v nx : Int} {k : Nat} (h : minI l v k nx) (h1 : ¬ (v < moA l k ∧ (nx = 0 ∨ moA l k < nx))) : minI l v (k + 1) nx := by
  rcases h with ⟨h3, h4⟩ | ⟨j0, h3, h4, h5, h6⟩
  · refine .inl ⟨h3, fun j hj => ?_⟩
    by_cases e : j = k
    · rw [e]; intro hh; exact h1 ⟨hh, .inl h3⟩
    · exact h4 j (by omega)
  · refine .inr ⟨j0, by omega, h4, h5, fun j hj hv2 => ?_⟩
    by_cases e : j = k
    · subst e; omega
    · exact h6 j (by omega) hv2

theorem mo_at {l : List Cl} {m : M} {b o k : Nat} (hc : CellsAt m b o (cls l)) (hk : k < l.length) : CellsAt m b (o + k * 16 + 10) [I (moA l k)] := by
  rw [moA_at hk]
  exact CellsAt.field cl_k hc hk (p := [I l[k].cl, I l[k].sq, I l[k].nd, I l[k].op_kd, .string l[k].op_ky, .string l[k].op_ot, I l[k].op_n, I l[k].op_lo, I l[k].op_hi, I l[k].ca]) (old := [I l[k].mo]) (q := [I l[k].aw, I l[k].an_er, I l[k].an_va, I l[k].an_le, I l[k].an_mo]) rfl

theorem minI_end {l : List Cl} {v nx : Int} (h : minI l v l.length nx) (hv : 0 ≤ v) : (nx = 0 ∧ ordG l v = []) ∨ (nx ≠ 0 ∧ 0 ≤ nx ∧ ordG l v = eqsC l nx 0 ++ ordG l nx ∧ behC l nx < behC l v) := by
  rcases h with ⟨h3, h4⟩ | ⟨j0, h3, h4, h5, h6⟩
  · exact .inl ⟨h3, ordG_none l hv h4⟩
  · exact .inr ⟨by omega, by omega, ordG_next l hv h5 h6, behC_lt h3 (by omega) (by omega) (by omega)⟩

structure RcX where
  v : Int
  L : List Nat
  i : Nat
  nx : Int
  a : Option Addr
  c : Nat
  m : M

structure RcI (l : List Cl) (m : M) (y : RcX) : Prop where
  v0 : 0 ≤ y.v
  out : NewR m.sz (fun _ => False) y.m 16 y.a y.L.length y.c (cls (y.L.map (clA l)))
  ag : Agree m.sz m y.m

theorem rOrder_s (a : Option Addr) (cp : Nat) (l : List Cl) (hn : l.length ≤ 977343669105) (m : M) (h : Row m a (cls l)) : Vc.Spec Try.prog 28 [.slice a l.length cp] m fun v m' => ∃ a' c', v = .slice a' (ordC l).length c' ∧ Row m' a' (cls (ordC l)) := by
  refine Vc.Spec.of_vc Try.func28 (ann := fun r => match r with
    | 3 => { A := RcX, inv := fun y => RcI l m y ∧ ordL l = y.L ++ ordG l y.v, st := fun y => [(4, .val (I y.v)), (3, .val (.slice y.a y.L.length y.c)), (0, .val (.slice a l.length cp))], own := fun _ => [], m := fun y => y.m, μ := fun y => behC l y.v }
    | 5 => { A := RcX, inv := fun y => RcI l m y ∧ ordL l = y.L ++ ordG l y.v ∧ y.i ≤ l.length ∧ minI l y.v y.i y.nx, st := fun y => [(6, .val (I y.i)), (5, .val (I y.nx)), (4, .val (I y.v)), (3, .val (.slice y.a y.L.length y.c)), (0, .val (.slice a l.length cp))], own := fun _ => [], m := fun y => y.m, μ := fun y => l.length - y.i, link := some fun y ctx => ctx = [behC l y.v] }
    | 13 => { A := RcX, inv := fun y => RcI l m y ∧ ordL l = y.L ++ (eqsC l y.v y.i ++ ordG l y.v) ∧ y.i ≤ l.length, st := fun y => [(7, .val (I y.i)), (4, .val (I y.v)), (3, .val (.slice y.a y.L.length y.c)), (0, .val (.slice a l.length cp))], own := fun _ => [], m := fun y => y.m, μ := fun y => l.length - y.i, link := some fun y ctx => ∃ v, ctx = [v] ∧ behC l y.v < v }
    | _ => noAnn 0) ?_
  refine vc_by (X :=
      true = true ∧
      (∃ (a_1 : RcX),
      (RcI l m a_1 ∧ ordL l = a_1.L ++ ordG l a_1.v) ∧
      m = a_1.m ∧
      ((SV.val (Value.int IntKind.i64 (0 : Int)) = SV.val (Value.int IntKind.i64 a_1.v) ∧ true = true) ∧
      (SV.val (Value.slice none (0 : Nat) (0 : Nat)) = SV.val (Value.slice a_1.a a_1.L.length a_1.c) ∧ true = true) ∧
      (SV.val (Value.slice a l.length cp) = SV.val (Value.slice a l.length cp) ∧ true = true) ∧ True) ∧
      True) ∧
      ∀ (a_1 : RcX),
      RcI l m a_1 ∧ ordL l = a_1.L ++ ordG l a_1.v →
      (∃ (a_3 : RcX),
      ((RcI l m a_3 ∧ ordL l = a_3.L ++ ordG l a_3.v ∧ a_3.i ≤ l.length ∧ minI l a_3.v a_3.i a_3.nx) ∧
      a_1.m = a_3.m ∧
      ((SV.val (Value.int IntKind.i64 (0 : Int)) = SV.val (Value.int IntKind.i64 (↑a_3.i : Int)) ∧ true = true) ∧
      (SV.val (Value.int IntKind.i64 (0 : Int)) = SV.val (Value.int IntKind.i64 a_3.nx) ∧ true = true) ∧
      (SV.val (Value.int IntKind.i64 a_1.v) = SV.val (Value.int IntKind.i64 a_3.v) ∧ true = true) ∧
      (SV.val (Value.slice a_1.a a_1.L.length a_1.c) = SV.val (Value.slice a_3.a a_3.L.length a_3.c) ∧ true = true) ∧
      (SV.val (Value.slice a l.length cp) = SV.val (Value.slice a l.length cp) ∧ true = true) ∧ True) ∧
      True) ∧
      [behC l a_1.v] = [behC l a_3.v]) ∧
      ∀ (a_3 : RcX),
      (RcI l m a_3 ∧ ordL l = a_3.L ++ ordG l a_3.v ∧ a_3.i ≤ l.length ∧ minI l a_3.v a_3.i a_3.nx) ∧ [behC l a_1.v] = [behC l a_3.v] →
      ifB (decide ((↑a_3.i : Int) < (↑l.length : Int)))
      (∃ (b : Nat),
      ∃ (off : Nat),
      a = some { block := b, off := off : Addr } ∧
      ((0 : Int) ≤ (↑a_3.i : Int) ∧ (↑a_3.i : Int) < (↑l.length : Int)) ∧
      ∃ (n : Int),
      CellsAt a_3.m b (off + (↑a_3.i : Int).toNat * (16 : Nat) + (10 : Nat)) [Value.int IntKind.i64 n] ∧
      ifB (decide (n > a_3.v))
      (ifB (a_3.nx == (0 : Int))
      (∃ (b : Nat),
      ∃ (off : Nat),
      a = some { block := b, off := off : Addr } ∧
      ((0 : Int) ≤ (↑a_3.i : Int) ∧ (↑a_3.i : Int) < (↑l.length : Int)) ∧
      ∃ (n : Int),
      CellsAt a_3.m b (off + (↑a_3.i : Int).toNat * (16 : Nat) + (10 : Nat)) [Value.int IntKind.i64 n] ∧
      ∃ (a' : RcX),
      (((RcI l m a' ∧ ordL l = a'.L ++ ordG l a'.v ∧ a'.i ≤ l.length ∧ minI l a'.v a'.i a'.nx) ∧
      a_3.m = a'.m ∧
      ((SV.val (Value.int IntKind.i64 (IntKind.i64.wrap ((↑a_3.i : Int) + (1 : Int)))) =
      SV.val (Value.int IntKind.i64 (↑a'.i : Int)) ∧
      true = true) ∧
      (SV.val (Value.int IntKind.i64 n) = SV.val (Value.int IntKind.i64 a'.nx) ∧ true = true) ∧
      (SV.val (Value.int IntKind.i64 a_3.v) = SV.val (Value.int IntKind.i64 a'.v) ∧ true = true) ∧
      (SV.val (Value.slice a_3.a a_3.L.length a_3.c) = SV.val (Value.slice a'.a a'.L.length a'.c) ∧ true = true) ∧
      (SV.val (Value.slice a l.length cp) = SV.val (Value.slice a l.length cp) ∧ true = true) ∧ True) ∧
      True) ∧
      [behC l a_1.v] = [behC l a'.v]) ∧
      l.length - a'.i < l.length - a_3.i)
      (∃ (b : Nat),
      ∃ (off : Nat),
      a = some { block := b, off := off : Addr } ∧
      ((0 : Int) ≤ (↑a_3.i : Int) ∧ (↑a_3.i : Int) < (↑l.length : Int)) ∧
      ∃ (n : Int),
      CellsAt a_3.m b (off + (↑a_3.i : Int).toNat * (16 : Nat) + (10 : Nat)) [Value.int IntKind.i64 n] ∧
      ifB (decide (n < a_3.nx))
      (∃ (b : Nat),
      ∃ (off : Nat),
      a = some { block := b, off := off : Addr } ∧
      ((0 : Int) ≤ (↑a_3.i : Int) ∧ (↑a_3.i : Int) < (↑l.length : Int)) ∧
      ∃ (n : Int),
      CellsAt a_3.m b (off + (↑a_3.i : Int).toNat * (16 : Nat) + (10 : Nat)) [Value.int IntKind.i64 n] ∧
      ∃ (a' : RcX),
      (((RcI l m a' ∧ ordL l = a'.L ++ ordG l a'.v ∧ a'.i ≤ l.length ∧ minI l a'.v a'.i a'.nx) ∧
      a_3.m = a'.m ∧
      ((SV.val (Value.int IntKind.i64 (IntKind.i64.wrap ((↑a_3.i : Int) + (1 : Int)))) =
      SV.val (Value.int IntKind.i64 (↑a'.i : Int)) ∧
      true = true) ∧
      (SV.val (Value.int IntKind.i64 n) = SV.val (Value.int IntKind.i64 a'.nx) ∧ true = true) ∧
      (SV.val (Value.int IntKind.i64 a_3.v) = SV.val (Value.int IntKind.i64 a'.v) ∧ true = true) ∧
      (SV.val (Value.slice a_3.a a_3.L.length a_3.c) = SV.val (Value.slice a'.a a'.L.length a'.c) ∧
      true = true) ∧
      (SV.val (Value.slice a l.length cp) = SV.val (Value.slice a l.length cp) ∧ true = true) ∧ True) ∧
      True) ∧
      [behC l a_1.v] = [behC l a'.v]) ∧
      l.length - a'.i < l.length - a_3.i)
      (∃ (a' : RcX),
      (((RcI l m a' ∧ ordL l = a'.L ++ ordG l a'.v ∧ a'.i ≤ l.length ∧ minI l a'.v a'.i a'.nx) ∧
      a_3.m = a'.m ∧
      ((SV.val (Value.int IntKind.i64 (IntKind.i64.wrap ((↑a_3.i : Int) + (1 : Int)))) =
      SV.val (Value.int IntKind.i64 (↑a'.i : Int)) ∧
      true = true) ∧
      (SV.val (Value.int IntKind.i64 a_3.nx) = SV.val (Value.int IntKind.i64 a'.nx) ∧ true = true) ∧
      (SV.val (Value.int IntKind.i64 a_3.v) = SV.val (Value.int IntKind.i64 a'.v) ∧ true = true) ∧
      (SV.val (Value.slice a_3.a a_3.L.length a_3.c) = SV.val (Value.slice a'.a a'.L.length a'.c) ∧ true = true) ∧
      (SV.val (Value.slice a l.length cp) = SV.val (Value.slice a l.length cp) ∧ true = true) ∧ True) ∧
      True) ∧
      [behC l a_1.v] = [behC l a'.v]) ∧
      l.length - a'.i < l.length - a_3.i)))
      (∃ (a' : RcX),
      (((RcI l m a' ∧ ordL l = a'.L ++ ordG l a'.v ∧ a'.i ≤ l.length ∧ minI l a'.v a'.i a'.nx) ∧
      a_3.m = a'.m ∧
      ((SV.val (Value.int IntKind.i64 (IntKind.i64.wrap ((↑a_3.i : Int) + (1 : Int)))) = SV.val (Value.int IntKind.i64 (↑a'.i : Int)) ∧
      true = true) ∧
      (SV.val (Value.int IntKind.i64 a_3.nx) = SV.val (Value.int IntKind.i64 a'.nx) ∧ true = true) ∧
      (SV.val (Value.int IntKind.i64 a_3.v) = SV.val (Value.int IntKind.i64 a'.v) ∧ true = true) ∧
      (SV.val (Value.slice a_3.a a_3.L.length a_3.c) = SV.val (Value.slice a'.a a'.L.length a'.c) ∧ true = true) ∧
      (SV.val (Value.slice a l.length cp) = SV.val (Value.slice a l.length cp) ∧ true = true) ∧ True) ∧
      True) ∧
      [behC l a_1.v] = [behC l a'.v]) ∧
      l.length - a'.i < l.length - a_3.i))
      (ifB (a_3.nx == (0 : Int))
      (Done (∃ (a' : Option Addr), ∃ (c' : Nat), Value.slice a_3.a a_3.L.length a_3.c = Value.slice a' (ordC l).length c' ∧ Row a_3.m a' (cls (ordC l))))
      ((∃ (a_5 : RcX),
      ((RcI l m a_5 ∧ ordL l = a_5.L ++ (eqsC l a_5.v a_5.i ++ ordG l a_5.v) ∧ a_5.i ≤ l.length) ∧
      a_3.m = a_5.m ∧
      ((SV.val (Value.int IntKind.i64 (0 : Int)) = SV.val (Value.int IntKind.i64 (↑a_5.i : Int)) ∧ true = true) ∧
      (SV.val (Value.int IntKind.i64 a_3.nx) = SV.val (Value.int IntKind.i64 a_5.v) ∧ true = true) ∧
      (SV.val (Value.slice a_3.a a_3.L.length a_3.c) = SV.val (Value.slice a_5.a a_5.L.length a_5.c) ∧ true = true) ∧
      (SV.val (Value.slice a l.length cp) = SV.val (Value.slice a l.length cp) ∧ true = true) ∧ True) ∧
      True) ∧
      ∃ (v : Nat), [behC l a_1.v] = [v] ∧ behC l a_5.v < v) ∧
      ∀ (a_5 : RcX),
      ((RcI l m a_5 ∧ ordL l = a_5.L ++ (eqsC l a_5.v a_5.i ++ ordG l a_5.v) ∧ a_5.i ≤ l.length) ∧ ∃ (v : Nat), [behC l a_1.v] = [v] ∧ behC l a_5.v < v) →
      ifB (decide ((↑a_5.i : Int) < (↑l.length : Int)))
      (∃ (b : Nat),
      ∃ (off : Nat),
      a = some { block := b, off := off : Addr } ∧
      ((0 : Int) ≤ (↑a_5.i : Int) ∧ (↑a_5.i : Int) < (↑l.length : Int)) ∧
      ∃ (n : Int),
      CellsAt a_5.m b (off + (↑a_5.i : Int).toNat * (16 : Nat) + (10 : Nat)) [Value.int IntKind.i64 n] ∧
      ifB (n == a_5.v)
      (∃ (b : Nat),
      ∃ (off : Nat),
      a = some { block := b, off := off : Addr } ∧
      ((0 : Int) ≤ (↑a_5.i : Int) ∧ (↑a_5.i : Int) < (↑l.length : Int)) ∧
      ∃ (n : Int),
      ∃ (n_1 : Int),
      ∃ (n_2 : Int),
      ∃ (n_3 : Int),
      ∃ (s : ByteArray),
      ∃ (s_1 : ByteArray),
      ∃ (n_4 : Int),
      ∃ (n_5 : Int),
      ∃ (n_6 : Int),
      ∃ (n_7 : Int),
      ∃ (n_8 : Int),
      ∃ (n_9 : Int),
      ∃ (n_10 : Int),
      ∃ (n_11 : Int),
      ∃ (n_12 : Int),
      ∃ (n_13 : Int),
      CellsAt a_5.m b (off + (↑a_5.i : Int).toNat * (16 : Nat))
      [Value.int IntKind.i64 n, Value.int IntKind.i64 n_1, Value.int IntKind.i64 n_2,
      Value.int IntKind.i64 n_3, Value.string s, Value.string s_1, Value.int IntKind.i64 n_4,
      Value.int IntKind.i64 n_5, Value.int IntKind.i64 n_6, Value.int IntKind.i64 n_7,
      Value.int IntKind.i64 n_8, Value.int IntKind.i64 n_9, Value.int IntKind.i64 n_10,
      Value.int IntKind.i64 n_11, Value.int IntKind.i64 n_12, Value.int IntKind.i64 n_13] ∧
      true = true ∧
      ∀ (b : Nat),
      a_5.m.sz ≤ b →
      ∃ (old : List Value),
      ∃ (src : List Value),
      AppPre m.sz (fun (x : Nat) => False)
      (a_5.m.newBlock b
      [Value.int IntKind.i64 n, Value.int IntKind.i64 n_1, Value.int IntKind.i64 n_2,
      Value.int IntKind.i64 n_3, Value.string s, Value.string s_1,
      Value.int IntKind.i64 n_4, Value.int IntKind.i64 n_5, Value.int IntKind.i64 n_6,
      Value.int IntKind.i64 n_7, Value.int IntKind.i64 n_8, Value.int IntKind.i64 n_9,
      Value.int IntKind.i64 n_10, Value.int IntKind.i64 n_11,
      Value.int IntKind.i64 n_12, Value.int IntKind.i64 n_13])
      (16 : Nat) (144 : Nat) a_5.a a_5.L.length a_5.c
      (some { block := b, off := (0 : Nat) : Addr }) (1 : Nat) old src ∧
      ∀ (a' : Option Addr) (c' : Nat) (m' : M),
      AppPost Try.prog (51 : Nat)
      (a_5.m.newBlock b
      [Value.int IntKind.i64 n, Value.int IntKind.i64 n_1,
      Value.int IntKind.i64 n_2, Value.int IntKind.i64 n_3, Value.string s,
      Value.string s_1, Value.int IntKind.i64 n_4, Value.int IntKind.i64 n_5,
      Value.int IntKind.i64 n_6, Value.int IntKind.i64 n_7,
      Value.int IntKind.i64 n_8, Value.int IntKind.i64 n_9,
      Value.int IntKind.i64 n_10, Value.int IntKind.i64 n_11,
      Value.int IntKind.i64 n_12, Value.int IntKind.i64 n_13])
      (16 : Nat) a_5.a a_5.L.length a_5.c (1 : Nat) old src a' c' m' →
      ∃ (a'_1 : RcX),
      (((RcI l m a'_1 ∧
      ordL l = a'_1.L ++ (eqsC l a'_1.v a'_1.i ++ ordG l a'_1.v) ∧
      a'_1.i ≤ l.length) ∧
      m' = a'_1.m ∧
      ((SV.val
      (Value.int IntKind.i64
      (IntKind.i64.wrap ((↑a_5.i : Int) + (1 : Int)))) =
      SV.val (Value.int IntKind.i64 (↑a'_1.i : Int)) ∧
      true = true) ∧
      (SV.val (Value.int IntKind.i64 a_5.v) =
      SV.val (Value.int IntKind.i64 a'_1.v) ∧
      true = true) ∧
      (SV.val (Value.slice a' (a_5.L.length + (1 : Nat)) c') =
      SV.val (Value.slice a'_1.a a'_1.L.length a'_1.c) ∧
      true = true) ∧
      (SV.val (Value.slice a l.length cp) =
      SV.val (Value.slice a l.length cp) ∧
      true = true) ∧
      True) ∧
      True) ∧
      ∃ (v : Nat), [behC l a_1.v] = [v] ∧ behC l a'_1.v < v) ∧
      l.length - a'_1.i < l.length - a_5.i)
      (∃ (a' : RcX),
      (((RcI l m a' ∧ ordL l = a'.L ++ (eqsC l a'.v a'.i ++ ordG l a'.v) ∧ a'.i ≤ l.length) ∧
      a_5.m = a'.m ∧
      ((SV.val (Value.int IntKind.i64 (IntKind.i64.wrap ((↑a_5.i : Int) + (1 : Int)))) = SV.val (Value.int IntKind.i64 (↑a'.i : Int)) ∧
      true = true) ∧
      (SV.val (Value.int IntKind.i64 a_5.v) = SV.val (Value.int IntKind.i64 a'.v) ∧ true = true) ∧
      (SV.val (Value.slice a_5.a a_5.L.length a_5.c) = SV.val (Value.slice a'.a a'.L.length a'.c) ∧ true = true) ∧
      (SV.val (Value.slice a l.length cp) = SV.val (Value.slice a l.length cp) ∧ true = true) ∧ True) ∧
      True) ∧
      ∃ (v : Nat), [behC l a_1.v] = [v] ∧ behC l a'.v < v) ∧
      l.length - a'.i < l.length - a_5.i))
      (∃ (a' : RcX),
      ((RcI l m a' ∧ ordL l = a'.L ++ ordG l a'.v) ∧
      a_5.m = a'.m ∧
      ((SV.val (Value.int IntKind.i64 a_5.v) = SV.val (Value.int IntKind.i64 a'.v) ∧ true = true) ∧
      (SV.val (Value.slice a_5.a a_5.L.length a_5.c) = SV.val (Value.slice a'.a a'.L.length a'.c) ∧ true = true) ∧
      (SV.val (Value.slice a l.length cp) = SV.val (Value.slice a l.length cp) ∧ true = true) ∧ True) ∧
      True) ∧
      behC l a'.v < behC l a_1.v)))) (by kernel_rfl) ?_
  have ol := ordL_len l
  have w : ∀ k, k < l.length → IntKind.i64.wrap ((k : Int) + 1) = ((k + 1 : Nat) : Int) := fun k hk => by simp [IntKind.wrap_i64]; omega
  refine ⟨rfl, ⟨⟨0, [], 0, 0, none, 0, m⟩, ⟨⟨Int.le_refl _, .nil _, Agree.refl _ _⟩, by simp [ordG_zero]⟩, rfl, by simp⟩, fun y ⟨Y, yL⟩ => ⟨⟨⟨y.v, y.L, 0, 0, y.a, y.c, y.m⟩, ⟨⟨⟨Y.v0, Y.out, Y.ag⟩, yL, Nat.zero_le _, .inl ⟨rfl, fun j hj => by simp at hj⟩⟩, rfl, by simp⟩, rfl⟩, fun z ⟨⟨Z, zL, zi, zm⟩, zc⟩ => ifB_intro (fun hb => ?_) (fun hb => ifB_intro (fun h0 => ⟨?_⟩) (fun h0 => ⟨?_, fun u ⟨⟨U, uL, ui⟩, uc⟩ => ifB_intro (fun hb2 => ?_) (fun hb2 => ?_)⟩))⟩⟩
  · have hk : z.i < l.length := by simpa using hb
    obtain ⟨b, o, ha, hc⟩ := (h.agree Z.ag).cells (by rw [cl_len]; omega)
    have hm := mo_at hc hk
    refine ⟨b, o, ha, by omega, _, by simpa using hm, ifB_intro (fun h1 => ifB_intro (fun h2 => ⟨b, o, ha, by omega, _, by simpa using hm, ⟨z.v, z.L, z.i + 1, moA l z.i, z.a, z.c, z.m⟩, ⟨⟨⟨⟨Z.v0, Z.out, Z.ag⟩, zL, hk, minI_yes zm (by simpa using h1) (.inl (by simpa using h2)) Z.v0⟩, rfl, by simp [w _ hk]⟩, zc⟩, by simp only; omega⟩) (fun h2 => ⟨b, o, ha, by omega, _, by simpa using hm, ifB_intro (fun h3 => ⟨b, o, ha, by omega, _, by simpa using hm, ⟨z.v, z.L, z.i + 1, moA l z.i, z.a, z.c, z.m⟩, ⟨⟨⟨⟨Z.v0, Z.out, Z.ag⟩, zL, hk, minI_yes zm (by simpa using h1) (.inr (by simpa using h3)) Z.v0⟩, rfl, by simp [w _ hk]⟩, zc⟩, by simp only; omega⟩) (fun h3 => ⟨⟨z.v, z.L, z.i + 1, z.nx, z.a, z.c, z.m⟩, ⟨⟨⟨⟨Z.v0, Z.out, Z.ag⟩, zL, hk, minI_no zm ?_⟩, rfl, by simp [w _ hk]⟩, zc⟩, by simp only; omega⟩)⟩)) (fun h1 => ⟨⟨z.v, z.L, z.i + 1, z.nx, z.a, z.c, z.m⟩, ⟨⟨⟨⟨Z.v0, Z.out, Z.ag⟩, zL, hk, minI_no zm ?_⟩, rfl, by simp [w _ hk]⟩, zc⟩, by simp only; omega⟩)⟩
    · simp at h2 h3; simp only; rintro ⟨-, h4 | h4⟩ <;> omega
    · simp at h1; simp only; omega
  · have hi : z.i = l.length := by simp at hb; omega
    rw [hi] at zm
    rcases minI_end zm Z.v0 with ⟨e1, e2⟩ | ⟨e1, -, -, -⟩
    · rw [e2, List.append_nil] at zL
      have ho := Z.out.row
      rw [← zL] at ho
      exact ⟨z.a, z.c, by rw [ordC_len, zL], ho⟩
    · exact absurd (by simpa using h0) e1
  · have hi : z.i = l.length := by simp at hb; omega
    rw [hi] at zm
    rcases minI_end zm Z.v0 with ⟨e1, e2⟩ | ⟨e1, e2, e3, e4⟩
    · exact absurd e1 (by simpa using h0)
    · refine ⟨⟨z.nx, z.L, 0, 0, z.a, z.c, z.m⟩, ⟨⟨⟨e2, Z.out, Z.ag⟩, by simp only; rw [← e3]; exact zL, Nat.zero_le _⟩, rfl, by simp⟩, behC l y.v, rfl, ?_⟩
      have : behC l y.v = behC l z.v := by simpa using zc
      rw [this]; exact e4
  · have hk : u.i < l.length := by simpa using hb2
    obtain ⟨b, o, ha, hc⟩ := (h.agree U.ag).cells (by rw [cl_len]; omega)
    have hm := mo_at hc hk
    have ec := eqsC_cons (v := u.v) hk
    refine ⟨b, o, ha, by omega, _, by simpa using hm, ifB_intro (fun h1 => ⟨b, o, ha, by omega, _, _, _, _, _, _, _, _, _, _, _, _, _, _, _, _, by simpa using cl_at hc hk, rfl, fun b3 hb3 => ?_⟩) (fun h1 => ⟨⟨u.v, u.L, u.i + 1, 0, u.a, u.c, u.m⟩, ⟨⟨⟨⟨U.v0, U.out, U.ag⟩, ?_, hk⟩, rfl, by simp [w _ hk]⟩, uc⟩, by simp only; omega⟩)⟩
    · have h1 : moA l u.i = u.v := by simpa using h1
      rw [if_pos h1] at ec
      have hL : u.L.length < l.length := by
        have := congrArg List.length uL
        rw [ec] at this
        simp at this; omega
      obtain ⟨p1, p2⟩ := U.out.push (P := Try.prog) (e := 51) (bytes := 144) (src := encCl l[u.i]) hb3 U.ag.2.2 rfl rfl (by omega) cl_zr
      refine ⟨_, _, p1, fun a' c' m' hp => ?_⟩
      obtain ⟨g1, g2⟩ := p2 a' c' m' hp
      refine ⟨⟨u.v, u.L ++ [u.i], u.i + 1, 0, a', c', m'⟩, ⟨⟨⟨⟨U.v0, ?_, U.ag.trans g2⟩, by simp only; rw [uL, ec]; simp, hk⟩, rfl, by simp [w _ hk]⟩, uc⟩, by simp only; omega⟩
      simp only [List.length_append, List.map_append, List.map_cons, List.map_nil, List.length_singleton]
      rw [show cls (u.L.map (clA l) ++ [clA l u.i]) = cls (u.L.map (clA l)) ++ encCl l[u.i] by rw [clA_at hk]; simp [cls]]
      exact g1
    · have h1 : ¬ moA l u.i = u.v := by simpa using h1
      rw [if_neg h1, List.nil_append] at ec
      rw [uL, ec]
  · have hi : u.i = l.length := by simp at hb2; omega
    rw [hi, eqsC_end, List.nil_append] at uL
    obtain ⟨v, e1, e2⟩ := uc
    refine ⟨⟨u.v, u.L, 0, 0, u.a, u.c, u.m⟩, ⟨⟨⟨U.v0, U.out, U.ag⟩, uL⟩, rfl, by simp⟩, ?_⟩
    simp at e1
    simp only; omega

end Go.Proofs.Ytbhlhnkjmncloaa
set_option linter.unusedVariables false
set_option linter.unusedSimpArgs false
namespace Go.Proofs.Ytbhlhnkjmncloaa
open Go.Vc Go.RowKit
set_option maxRecDepth 100000

theorem rRun_s (a : Option Addr) (cp : Nat) (l : List Cl) (hn : l.length ≤ 977343669105) (hl : ∀ x ∈ l, x.wf) (m : M) (h : Row m a (cls l)) : Vc.Spec Try.prog 29 [.slice a l.length cp] m fun v m' => ∃ a' c', v = .slice a' (runC (ordC l) []).length c' ∧ Row m' a' (tts (runC (ordC l) [])) := by
  refine Vc.Spec.of_vc Try.func29 (ann := fun _ => { A := RuX, inv := RuI l m, st := fun y => [(5, .val (I y.k)), (4, .val (.slice y.x (ordC l).length y.d)), (3, .val (.slice y.a (runC ((ordC l).take y.k) []).length y.c))], own := fun _ => [], m := fun y => y.m, μ := fun y => (ordC l).length - y.k }) ?_
  refine vc_by (X :=
      true = true ∧
      ∃ (S' : Nat → Prop),
      (∀ (b : Nat), S' b → m.uf b ∧ (m.sz ≤ b ∨ False)) ∧
      ∀ (n : Nat),
      m.sz ≤ n →
      SpecW Try.prog (28 : Nat) [Value.slice a l.length cp] { π := m.π, sz := n, uf := m.uf : M } S' fun (v : Value) (m' : M) =>
      ∃ (a : Option Addr),
      ∃ (n : Nat),
      ∃ (c : Nat),
      v = Value.slice a n c ∧
      (∃ (a_2 : RuX),
      RuI l m a_2 ∧
      m' = a_2.m ∧
      ((SV.val (Value.int IntKind.i64 (0 : Int)) = SV.val (Value.int IntKind.i64 (↑a_2.k : Int)) ∧ true = true) ∧
      (SV.val (Value.slice a n c) = SV.val (Value.slice a_2.x (ordC l).length a_2.d) ∧ true = true) ∧
      (SV.val (Value.slice none (0 : Nat) (0 : Nat)) = SV.val (Value.slice a_2.a (runC (List.take a_2.k (ordC l)) []).length a_2.c) ∧ true = true) ∧
      True) ∧
      True) ∧
      ∀ (a : RuX),
      RuI l m a →
      ifB (decide ((↑a.k : Int) < (↑(ordC l).length : Int)))
      (∃ (b : Nat),
      ∃ (off : Nat),
      a.x = some { block := b, off := off : Addr } ∧
      ((0 : Int) ≤ (↑a.k : Int) ∧ (↑a.k : Int) < (↑(ordC l).length : Int)) ∧
      ∃ (n : Int),
      ∃ (s : ByteArray),
      ∃ (s_1 : ByteArray),
      ∃ (n_1 : Int),
      ∃ (n_2 : Int),
      ∃ (n_3 : Int),
      CellsAt a.m b (off + (↑a.k : Int).toNat * (16 : Nat) + (3 : Nat))
      [Value.int IntKind.i64 n, Value.string s, Value.string s_1, Value.int IntKind.i64 n_1, Value.int IntKind.i64 n_2,
      Value.int IntKind.i64 n_3] ∧
      ∃ (S' : Nat → Prop),
      (∀ (b : Nat), S' b → a.m.uf b ∧ (m.sz ≤ b ∨ False)) ∧
      ∀ (n_4 : Nat),
      a.m.sz ≤ n_4 →
      SpecW Try.prog (13 : Nat)
      [Value.slice a.a (runC (List.take a.k (ordC l)) []).length a.c,
      Value.agg
      #[Value.int IntKind.i64 n, Value.string s, Value.string s_1, Value.int IntKind.i64 n_1, Value.int IntKind.i64 n_2,
      Value.int IntKind.i64 n_3]]
      { π := a.m.π, sz := n_4, uf := a.m.uf : M } S' fun (v : Value) (m' : M) =>
      ∃ (a_4 : Option Addr),
      ∃ (n : Nat),
      ∃ (c : Nat),
      ∃ (n_5 : Int),
      ∃ (n_6 : Int),
      ∃ (n_7 : Int),
      ∃ (n_8 : Int),
      v =
      Value.tuple
      #[Value.slice a_4 n c,
      Value.agg
      #[Value.int IntKind.i64 n_5, Value.int IntKind.i64 n_6, Value.int IntKind.i64 n_7,
      Value.int IntKind.i64 n_8]] ∧
      ∃ (a' : RuX),
      (RuI l m a' ∧
      m' = a'.m ∧
      ((SV.val (Value.int IntKind.i64 (IntKind.i64.wrap ((↑a.k : Int) + (1 : Int)))) =
      SV.val (Value.int IntKind.i64 (↑a'.k : Int)) ∧
      true = true) ∧
      (SV.val (Value.slice a.x (ordC l).length a.d) =
      SV.val (Value.slice a'.x (ordC l).length a'.d) ∧
      true = true) ∧
      (SV.val (Value.slice a_4 n c) =
      SV.val (Value.slice a'.a (runC (List.take a'.k (ordC l)) []).length a'.c) ∧
      true = true) ∧
      True) ∧
      True) ∧
      (ordC l).length - a'.k < (ordC l).length - a.k)
      (Done
      (∃ (a' : Option Addr),
      ∃ (c' : Nat),
      Value.slice a.a (runC (List.take a.k (ordC l)) []).length a.c = Value.slice a' (runC (ordC l) []).length c' ∧
      Row a.m a' (tts (runC (ordC l) []))))) (by kernel_rfl) ?_
  have hle := ordC_le l
  refine ⟨rfl, _, noS, fun N hN => (rOrder_s a cp l hn _ (h.sz hN)).monoW fun v m' hag ⟨x, d, hv, hr⟩ => ⟨x, _, d, hv, ⟨⟨0, x, d, none, 0, m'⟩, ⟨Nat.zero_le _, hr, .nil _⟩, rfl, by simp [runC]⟩, fun y Y => ifB_intro (fun hb => ?_) (fun hb => ⟨?_⟩)⟩⟩
  · have hk : y.k < (ordC l).length := by simpa using hb
    obtain ⟨b, o, hx, hc⟩ := Y.ns.cells (by rw [cl_len]; omega)
    have w1 : IntKind.i64.wrap ((y.k : Int) + 1) = ((y.k + 1 : Nat) : Int) := by simp [IntKind.wrap_i64]; omega
    have hw := ordC_wf hl
    have T := runC_ok ((ordC l).take y.k) (TotI.nil (n := 0)) fun c hc => hw c (List.mem_of_mem_take hc)
    have tl := T.len
    rw [List.length_take] at tl
    have e : runC ((ordC l).take (y.k + 1)) [] = (doT (runC ((ordC l).take y.k) []) (opC (ordC l)[y.k])).1 := by
      rw [List.take_succ_eq_append_getElem hk, runC_snoc]
    have c1 := CellsAt.field cl_k hc hk (p := [I (ordC l)[y.k].cl, I (ordC l)[y.k].sq, I (ordC l)[y.k].nd]) (old := encOq (opC (ordC l)[y.k])) (q := [I (ordC l)[y.k].ca, I (ordC l)[y.k].mo, I (ordC l)[y.k].aw, I (ordC l)[y.k].an_er, I (ordC l)[y.k].an_va, I (ordC l)[y.k].an_le, I (ordC l)[y.k].an_mo]) rfl
    refine ⟨b, o, hx, by omega, _, _, _, _, _, _, by simpa using c1, ?_⟩
    refine ⟨_, noS, fun N2 hN2 => (rdo_s y.a y.c _ (opC (ordC l)[y.k]) (by omega) T.wf (opC_wf (hw _ (List.getElem_mem hk))) _ (Y.t.sz hN2)).monoW fun v2 m2 hag2 q2 => ?_⟩
    obtain ⟨x2, d2, hv2, hr2⟩ := q2
    exact ⟨_, _, _, _, _, _, _, hv2, ⟨y.k + 1, y.x, y.d, x2, d2, m2⟩, ⟨⟨hk, (Y.ns.sz hN2).agree hag2, by simp only; rw [e]; exact hr2⟩, rfl, by simp [w1, e]⟩, by simp only; omega⟩
  · have hk : y.k = (ordC l).length := by have := Y.k; simp at hb; omega
    have ho := Y.t
    rw [hk, List.take_length] at ho ⊢
    exact ⟨y.a, y.c, rfl, ho⟩

/-- the first call of an order that was not told rightly -/
def secP (l : List Cl) : List Nat → List Tt → Option Nat
  | [], _ => none
  | i :: r, t => if rigB (clA l i) (doT t (opC (clA l i))).2 then secP l r (doT t (opC (clA l i))).1 else some i

/-- the first call of which the form is wrong -/
def frmP (l : List Cl) : Option Nat := (List.range l.length).find? fun i => !decide (wrgE (clA l i) (l.take i) = 0)

def legP (l : List Cl) : Int × Int := match frmP l with
  | some i => (i, wrgE (clA l i) (l.take i))
  | none => match secP l (ordL l) [] with
    | some i => (i, 150)
    | none => (l.length, 0)

theorem frm_some {l : List Cl} {i : Nat} (hi : i < l.length) (h1 : ∀ j, j < i → wrgE (clA l j) (l.take j) = 0) (h2 : wrgE (clA l i) (l.take i) ≠ 0) : frmP l = some i := by
  unfold frmP
  rw [List.find?_range_eq_some]
  refine ⟨by simpa using h2, by simpa using hi, fun j hj => by simp [h1 j hj]⟩

theorem frm_none {l : List Cl} (h1 : ∀ j, j < l.length → wrgE (clA l j) (l.take j) = 0) : frmP l = none := by
  unfold frmP
  rw [List.find?_range_eq_none]
  intro j hj; simp [h1 j hj]

structure LgX where
  k : Nat
  x : Option Addr
  d : Nat
  a : Option Addr
  c : Nat
  m : M

structure LgI (l : List Cl) (al : Option Addr) (y : LgX) : Prop where
  k : y.k ≤ (ordL l).length
  ns : Row y.m y.x (nsv (ordL l))
  src : Row y.m al (cls l)
  t : Row y.m y.a (tts (runC ((ordC l).take y.k) []))
  sec : secP l (ordL l) [] = secP l ((ordL l).drop y.k) (runC ((ordC l).take y.k) [])

theorem run_take {l : List Cl} {k : Nat} (hk : k < (ordL l).length) : runC ((ordC l).take (k + 1)) [] = (doT (runC ((ordC l).take k) []) (opC (clA l (ordL l)[k]))).1 := by
  rw [List.take_succ_eq_append_getElem (by rw [ordC_len]; exact hk), runC_snoc, ordC_get hk]

theorem run_tot {l : List Cl} (hl : ∀ x ∈ l, x.wf) (k : Nat) : TotI (runC ((ordC l).take k) []) (2 * l.length) := by
  have T := runC_ok ((ordC l).take k) (TotI.nil (n := 0)) fun c hc => ordC_wf hl c (List.mem_of_mem_take hc)
  have h2 := ordC_le l
  have h3 := T.len
  rw [List.length_take] at h3
  exact ⟨T.right, T.wf, by omega⟩

theorem wLegal_q (a : Option Addr) (cp : Nat) (l : List Cl) (hn : l.length ≤ 977343669105) (hcp : l.length ≤ cp) (hl : ∀ x ∈ l, x.wf) (m : M) (h : Row m a (cls l)) : QSpec Try.prog 24 [.slice a l.length cp] m (.tuple #[I (legP l).1, I (legP l).2]) := by
  refine QSpec.of_vc Try.func24 (ann := fun n r => match r with
    | 2 => { A := Nat, inv := fun k => k ≤ l.length ∧ ∀ j, j < k → wrgE (clA l j) (l.take j) = 0, st := fun k => [(14, .val (I k)), (13, .val (I l.length)), (12, .val (.slice a l.length cp)), (0, .val (.slice a l.length cp))], own := fun _ => [], m := fun _ => { m with sz := n }, μ := fun k => l.length - k }
    | 10 => { A := LgX, inv := LgI l a, st := fun y => [(32, .val (I y.k)), (31, .val (I (ordL l).length)), (30, .val (.slice y.x (ordL l).length y.d)), (7, .val (.slice y.a (runC ((ordC l).take y.k) []).length y.c)), (0, .val (.slice a l.length cp))], own := fun _ => [], m := fun y => y.m, μ := fun y => (ordL l).length - y.k }
    | _ => noAnn 0) fun n hn' => ?_
  refine vc_by (X :=
      true = true ∧
      (∃ (a_1 : Nat),
      (a_1 ≤ l.length ∧ ∀ (j : Nat), j < a_1 → wrgE (clA l j) (List.take j l) = (0 : Int)) ∧
      { π := m.π, sz := n, uf := m.uf : M } = { π := m.π, sz := n, uf := m.uf : M } ∧
      ((SV.val (Value.int IntKind.i64 (0 : Int)) = SV.val (Value.int IntKind.i64 (↑a_1 : Int)) ∧ true = true) ∧
      (SV.val (Value.int IntKind.i64 (↑l.length : Int)) = SV.val (Value.int IntKind.i64 (↑l.length : Int)) ∧ true = true) ∧
      (SV.val (Value.slice a l.length cp) = SV.val (Value.slice a l.length cp) ∧ true = true) ∧
      (SV.val (Value.slice a l.length cp) = SV.val (Value.slice a l.length cp) ∧ true = true) ∧ True) ∧
      True) ∧
      ∀ (a_1 : Nat),
      (a_1 ≤ l.length ∧ ∀ (j : Nat), j < a_1 → wrgE (clA l j) (List.take j l) = (0 : Int)) →
      ifB (decide ((↑a_1 : Int) < (↑l.length : Int)))
      (∃ (b : Nat),
      ∃ (off : Nat),
      a = some { block := b, off := off : Addr } ∧
      ((0 : Int) ≤ (↑a_1 : Int) ∧ (↑a_1 : Int) < (↑l.length : Int)) ∧
      ∃ (n_1 : Int),
      ∃ (n_2 : Int),
      ∃ (n_3 : Int),
      ∃ (n_4 : Int),
      ∃ (s : ByteArray),
      ∃ (s_1 : ByteArray),
      ∃ (n_5 : Int),
      ∃ (n_6 : Int),
      ∃ (n_7 : Int),
      ∃ (n_8 : Int),
      ∃ (n_9 : Int),
      ∃ (n_10 : Int),
      ∃ (n_11 : Int),
      ∃ (n_12 : Int),
      ∃ (n_13 : Int),
      ∃ (n_14 : Int),
      CellsAt { π := m.π, sz := n, uf := m.uf : M } b (off + (↑a_1 : Int).toNat * (16 : Nat))
      [Value.int IntKind.i64 n_1, Value.int IntKind.i64 n_2, Value.int IntKind.i64 n_3, Value.int IntKind.i64 n_4, Value.string s,
      Value.string s_1, Value.int IntKind.i64 n_5, Value.int IntKind.i64 n_6, Value.int IntKind.i64 n_7,
      Value.int IntKind.i64 n_8, Value.int IntKind.i64 n_9, Value.int IntKind.i64 n_10, Value.int IntKind.i64 n_11,
      Value.int IntKind.i64 n_12, Value.int IntKind.i64 n_13, Value.int IntKind.i64 n_14] ∧
      true = true ∧
      (true = true ∧ (0 : Int) ≤ (0 : Int) ∧ (0 : Int) ≤ (↑a_1 : Int) ∧ (↑a_1 : Int) ≤ (↑cp : Int) ∧ True) ∧
      ∃ (n_15 : Int),
      QSpec Try.prog (47 : Nat)
      [Value.agg
      #[Value.int IntKind.i64 n_1, Value.int IntKind.i64 n_2, Value.int IntKind.i64 n_3, Value.int IntKind.i64 n_4,
      Value.string s, Value.string s_1, Value.int IntKind.i64 n_5, Value.int IntKind.i64 n_6,
      Value.int IntKind.i64 n_7, Value.int IntKind.i64 n_8, Value.int IntKind.i64 n_9, Value.int IntKind.i64 n_10,
      Value.int IntKind.i64 n_11, Value.int IntKind.i64 n_12, Value.int IntKind.i64 n_13, Value.int IntKind.i64 n_14],
      Value.slice (if (↑cp : Int).toNat = (0 : Nat) then a else Option.map (fun (x : Addr) => x) a)
      ((↑a_1 : Int).toNat - (0 : Nat)) ((↑cp : Int).toNat - (0 : Nat))]
      { π := m.π, sz := n, uf := m.uf : M } (Value.int IntKind.i64 n_15) ∧
      ifB (n_15 != (0 : Int))
      (Done
      (Value.tuple #[Value.int IntKind.i64 (↑a_1 : Int), Value.int IntKind.i64 n_15] =
      Value.tuple #[Value.int IntKind.i64 (legP l).fst, Value.int IntKind.i64 (legP l).snd]))
      (∃ (a' : Nat),
      ((a' ≤ l.length ∧ ∀ (j : Nat), j < a' → wrgE (clA l j) (List.take j l) = (0 : Int)) ∧
      { π := m.π, sz := n, uf := m.uf : M } = { π := m.π, sz := n, uf := m.uf : M } ∧
      ((SV.val (Value.int IntKind.i64 (IntKind.i64.wrap ((↑a_1 : Int) + (1 : Int)))) =
      SV.val (Value.int IntKind.i64 (↑a' : Int)) ∧
      true = true) ∧
      (SV.val (Value.int IntKind.i64 (↑l.length : Int)) = SV.val (Value.int IntKind.i64 (↑l.length : Int)) ∧
      true = true) ∧
      (SV.val (Value.slice a l.length cp) = SV.val (Value.slice a l.length cp) ∧ true = true) ∧
      (SV.val (Value.slice a l.length cp) = SV.val (Value.slice a l.length cp) ∧ true = true) ∧ True) ∧
      True) ∧
      l.length - a' < l.length - a_1))
      (∃ (S' : Nat → Prop),
      (∀ (b : Nat), S' b → m.uf b ∧ (n ≤ b ∨ False)) ∧
      ∀ (n_1 : Nat),
      n ≤ n_1 →
      SpecW Try.prog (46 : Nat) [Value.slice a l.length cp] { π := m.π, sz := n_1, uf := m.uf : M } S' fun (v : Value) (m' : M) =>
      ∃ (a_4 : Option Addr),
      ∃ (n_2 : Nat),
      ∃ (c : Nat),
      v = Value.slice a_4 n_2 c ∧
      (∃ (a_5 : LgX),
      LgI l a a_5 ∧
      m' = a_5.m ∧
      ((SV.val (Value.int IntKind.i64 (0 : Int)) = SV.val (Value.int IntKind.i64 (↑a_5.k : Int)) ∧ true = true) ∧
      (SV.val (Value.int IntKind.i64 (↑n_2 : Int)) = SV.val (Value.int IntKind.i64 (↑(ordL l).length : Int)) ∧ true = true) ∧
      (SV.val (Value.slice a_4 n_2 c) = SV.val (Value.slice a_5.x (ordL l).length a_5.d) ∧ true = true) ∧
      (SV.val (Value.slice none (0 : Nat) (0 : Nat)) = SV.val (Value.slice a_5.a (runC (List.take a_5.k (ordC l)) []).length a_5.c) ∧
      true = true) ∧
      (SV.val (Value.slice a l.length cp) = SV.val (Value.slice a l.length cp) ∧ true = true) ∧ True) ∧
      True) ∧
      ∀ (a_5 : LgX),
      LgI l a a_5 →
      ifB (decide ((↑a_5.k : Int) < (↑(ordL l).length : Int)))
      (∃ (b : Nat),
      ∃ (off : Nat),
      a_5.x = some { block := b, off := off : Addr } ∧
      ((0 : Int) ≤ (↑a_5.k : Int) ∧ (↑a_5.k : Int) < (↑(ordL l).length : Int)) ∧
      ∃ (n_3 : Int),
      CellsAt a_5.m b (off + (↑a_5.k : Int).toNat * (1 : Nat)) [Value.int IntKind.i64 n_3] ∧
      ∃ (b : Nat),
      ∃ (off : Nat),
      a = some { block := b, off := off : Addr } ∧
      ((0 : Int) ≤ n_3 ∧ n_3 < (↑l.length : Int)) ∧
      ∃ (n_4 : Int),
      ∃ (s : ByteArray),
      ∃ (s_1 : ByteArray),
      ∃ (n_5 : Int),
      ∃ (n_6 : Int),
      ∃ (n_7 : Int),
      CellsAt a_5.m b (off + n_3.toNat * (16 : Nat) + (3 : Nat))
      [Value.int IntKind.i64 n_4, Value.string s, Value.string s_1, Value.int IntKind.i64 n_5,
      Value.int IntKind.i64 n_6, Value.int IntKind.i64 n_7] ∧
      ∃ (S' : Nat → Prop),
      (∀ (b : Nat), S' b → a_5.m.uf b ∧ (n ≤ b ∨ False)) ∧
      ∀ (n : Nat),
      a_5.m.sz ≤ n →
      SpecW Try.prog (12 : Nat)
      [Value.slice a_5.a (runC (List.take a_5.k (ordC l)) []).length a_5.c,
      Value.agg
      #[Value.int IntKind.i64 n_4, Value.string s, Value.string s_1, Value.int IntKind.i64 n_5,
      Value.int IntKind.i64 n_6, Value.int IntKind.i64 n_7]]
      { π := a_5.m.π, sz := n, uf := a_5.m.uf : M } S' fun (v : Value) (m' : M) =>
      ∃ (a_8 : Option Addr),
      ∃ (n : Nat),
      ∃ (c : Nat),
      ∃ (n_8 : Int),
      ∃ (n_9 : Int),
      ∃ (n_10 : Int),
      ∃ (n_11 : Int),
      v =
      Value.tuple
      #[Value.slice a_8 n c,
      Value.agg
      #[Value.int IntKind.i64 n_8, Value.int IntKind.i64 n_9,
      Value.int IntKind.i64 n_10, Value.int IntKind.i64 n_11]] ∧
      true = true ∧
      ∃ (b : Nat),
      ∃ (off : Nat),
      a = some { block := b, off := off : Addr } ∧
      ((0 : Int) ≤ n_3 ∧ n_3 < (↑l.length : Int)) ∧
      ∃ (n_12 : Int),
      ∃ (n_13 : Int),
      ∃ (n_14 : Int),
      ∃ (n_15 : Int),
      ∃ (s : ByteArray),
      ∃ (s_2 : ByteArray),
      ∃ (n_16 : Int),
      ∃ (n_17 : Int),
      ∃ (n_18 : Int),
      ∃ (n_19 : Int),
      ∃ (n_20 : Int),
      ∃ (n_21 : Int),
      ∃ (n_22 : Int),
      ∃ (n_23 : Int),
      ∃ (n_24 : Int),
      ∃ (n_25 : Int),
      CellsAt m' b
      (off + n_3.toNat * (16 : Nat))
      [Value.int IntKind.i64 n_12,
      Value.int IntKind.i64 n_13,
      Value.int IntKind.i64 n_14,
      Value.int IntKind.i64 n_15,
      Value.string s, Value.string s_2,
      Value.int IntKind.i64 n_16,
      Value.int IntKind.i64 n_17,
      Value.int IntKind.i64 n_18,
      Value.int IntKind.i64 n_19,
      Value.int IntKind.i64 n_20,
      Value.int IntKind.i64 n_21,
      Value.int IntKind.i64 n_22,
      Value.int IntKind.i64 n_23,
      Value.int IntKind.i64 n_24,
      Value.int IntKind.i64 n_25] ∧
      ∃ (b : Bool),
      QSpec Try.prog (48 : Nat)
      [Value.agg
      #[Value.int IntKind.i64 n_12,
      Value.int IntKind.i64 n_13,
      Value.int IntKind.i64 n_14,
      Value.int IntKind.i64 n_15,
      Value.string s,
      Value.string s_2,
      Value.int IntKind.i64 n_16,
      Value.int IntKind.i64 n_17,
      Value.int IntKind.i64 n_18,
      Value.int IntKind.i64 n_19,
      Value.int IntKind.i64 n_20,
      Value.int IntKind.i64 n_21,
      Value.int IntKind.i64 n_22,
      Value.int IntKind.i64 n_23,
      Value.int IntKind.i64 n_24,
      Value.int IntKind.i64 n_25],
      Value.agg
      #[Value.int IntKind.i64 n_8,
      Value.int IntKind.i64 n_9,
      Value.int IntKind.i64 n_10,
      Value.int IntKind.i64 n_11]]
      m' (Value.bool b) ∧
      ifB (!b)
      (Done
      (Value.tuple
      #[Value.int IntKind.i64 n_3,
      Value.int IntKind.i64
      (150 : Int)] =
      Value.tuple
      #[Value.int IntKind.i64
      (legP l).fst,
      Value.int IntKind.i64
      (legP l).snd]))
      (∃ (a' : LgX),
      (LgI l a a' ∧
      m' = a'.m ∧
      ((SV.val
      (Value.int
      IntKind.i64
      (IntKind.i64.wrap
      ((↑a_5.k :
      Int) +
      (1 :
      Int)))) =
      SV.val
      (Value.int
      IntKind.i64
      (↑a'.k :
      Int)) ∧
      true = true) ∧
      (SV.val
      (Value.int
      IntKind.i64
      (↑(ordL
      l).length :
      Int)) =
      SV.val
      (Value.int
      IntKind.i64
      (↑(ordL
      l).length :
      Int)) ∧
      true = true) ∧
      (SV.val
      (Value.slice
      a_5.x
      (ordL
      l).length
      a_5.d) =
      SV.val
      (Value.slice
      a'.x
      (ordL
      l).length
      a'.d) ∧
      true = true) ∧
      (SV.val
      (Value.slice
      a_8 n
      c) =
      SV.val
      (Value.slice
      a'.a
      (runC
      (List.take
      a'.k
      (ordC
      l))
      []).length
      a'.c) ∧
      true = true) ∧
      (SV.val
      (Value.slice
      a
      l.length
      cp) =
      SV.val
      (Value.slice
      a
      l.length
      cp) ∧
      true =
      true) ∧
      True) ∧
      True) ∧
      (ordL l).length - a'.k <
      (ordL l).length - a_5.k))
      (Done
      (Value.tuple #[Value.int IntKind.i64 (↑l.length : Int), Value.int IntKind.i64 (0 : Int)] =
      Value.tuple #[Value.int IntKind.i64 (legP l).fst, Value.int IntKind.i64 (legP l).snd])))) (by kernel_rfl) ?_
  have h' := h.sz hn'
  have w : ∀ k, k < l.length → IntKind.i64.wrap ((k : Int) + 1) = ((k + 1 : Nat) : Int) := fun k hk => by simp [IntKind.wrap_i64]; omega
  have ol := ordL_len l
  refine ⟨rfl, ⟨0, ⟨Nat.zero_le _, fun j hj => by omega⟩, rfl, by simp⟩, fun k ⟨hk, hq⟩ => ifB_intro (fun hb => ?_) (fun hb => ?_)⟩
  · have hk2 : k < l.length := by simpa using hb
    obtain ⟨b, o, rfl, hc⟩ := h'.cells (by rw [cl_len]; omega)
    have hr : Row { m with sz := n } (some ⟨b, o, none⟩) (cls (l.take k)) := by
      have := h'
      rw [show cls l = cls (l.take k) ++ cls (l.drop k) from flat_cut l k] at this
      exact this.take
    have hw := wrong_q l[k] (some ⟨b, o, none⟩) cp (l.take k) (by rw [List.length_take]; omega) _ hr
    rw [List.length_take, Nat.min_eq_left hk] at hw
    refine ⟨b, o, rfl, by omega, _, _, _, _, _, _, _, _, _, _, _, _, _, _, _, _, by simpa using cl_at hc hk2, rfl, ⟨rfl, by omega, by omega, by omega, trivial⟩, _, by simpa using hw, ifB_intro (fun h1 => ⟨?_⟩) (fun h1 => ⟨k + 1, ⟨⟨hk2, fun j hj => ?_⟩, rfl, by simp [w k hk2]⟩, by omega⟩)⟩
    · have h1 : wrgE l[k] (l.take k) ≠ 0 := by simpa using h1
      rw [← clA_at hk2] at h1 ⊢
      simp only [legP, frm_some hk2 hq h1]
    · have h1 : wrgE l[k] (l.take k) = 0 := by simpa using h1
      by_cases e : j = k
      · rw [e, clA_at hk2]; exact h1
      · exact hq j (by omega)
  · have hk2 : k = l.length := by simp at hb; omega
    rw [hk2] at hq
    have hleg : legP l = match secP l (ordL l) [] with | some i => ((i : Int), 150) | none => ((l.length : Int), 0) := by simp only [legP, frm_none hq]
    refine ⟨_, noS, fun N hN => (worder_s a cp l (by omega) _ (h'.sz hN)).monoW fun v m' hag ⟨x, d, hv, hr⟩ => ⟨x, _, d, hv, ⟨⟨0, x, d, none, 0, m'⟩, ⟨Nat.zero_le _, hr, (h'.sz hN).agree hag, .nil _, rfl⟩, rfl, by simp [runC]⟩, fun y Y => ifB_intro (fun hb => ?_) (fun hb => ⟨?_⟩)⟩⟩
    · have hk : y.k < (ordL l).length := by simpa using hb
      obtain ⟨b, o, hx, hc⟩ := Y.ns.cells (by rw [ns_len]; omega)
      have hi := ordL_lt (List.getElem_mem hk)
      have T := run_tot hl y.k
      have e := run_take hk
      have hs := Y.sec
      rw [List.drop_eq_getElem_cons hk, secP] at hs
      have tl := T.len
      have fld : ∀ (m2 : M) (b2 o2 : Nat), CellsAt m2 b2 o2 (cls l) → CellsAt m2 b2 (o2 + (ordL l)[y.k] * 16 + 3) (encOq (opC (clA l (ordL l)[y.k]))) := fun m2 b2 o2 hc2 => by
        rw [clA_at hi]
        exact CellsAt.field cl_k hc2 hi (p := [I l[(ordL l)[y.k]].cl, I l[(ordL l)[y.k]].sq, I l[(ordL l)[y.k]].nd]) (old := encOq (opC l[(ordL l)[y.k]])) (q := [I l[(ordL l)[y.k]].ca, I l[(ordL l)[y.k]].mo, I l[(ordL l)[y.k]].aw, I l[(ordL l)[y.k]].an_er, I l[(ordL l)[y.k]].an_va, I l[(ordL l)[y.k]].an_le, I l[(ordL l)[y.k]].an_mo]) rfl
      have whl : ∀ (m2 : M) (b2 o2 : Nat), CellsAt m2 b2 o2 (cls l) → CellsAt m2 b2 (o2 + (ordL l)[y.k] * 16) (encCl (clA l (ordL l)[y.k])) := fun m2 b2 o2 hc2 => by
        rw [clA_at hi]; exact cl_at hc2 hi
      have hown : (clA l (ordL l)[y.k]).wf := clA_wf hl
      generalize hgi : (ordL l)[y.k] = i at *
      generalize hgc : clA l i = c at *
      obtain ⟨b2, o2, ha2, hc2⟩ := Y.src.cells (by rw [cl_len]; omega)
      refine ⟨b, o, hx, by omega, (i : Int), by rw [← hgi]; simpa using ns_at hc hk, b2, o2, ha2, by omega, _, _, _, _, _, _, by simpa using fld _ _ _ hc2, ?_⟩
      refine ⟨_, noS, fun N2 hN2 => (wdo_s y.a y.c _ (opC c) (by omega) T.wf (opC_wf hown) _ (Y.t.sz hN2)).monoW fun v2 m2 hag2 q2 => ?_⟩
      obtain ⟨x2, d2, hv2, hr2⟩ := q2
      have hsrc := (Y.src.sz hN2).agree hag2
      obtain ⟨b3, o3, ha3, hc3⟩ := hsrc.cells (by rw [cl_len]; omega)
      refine ⟨_, _, _, _, _, _, _, hv2, rfl, b3, o3, ha3, by omega, _, _, _, _, _, _, _, _, _, _, _, _, _, _, _, _, by simpa using whl _ _ _ hc3, _, rightly_q c _ _, ifB_intro (fun h1 => ⟨?_⟩) (fun h1 => ⟨⟨y.k + 1, y.x, y.d, x2, d2, m2⟩, ⟨⟨hk, (Y.ns.sz hN2).agree hag2, hsrc, by simp only; rw [e]; exact hr2, ?_⟩, rfl, by simp [w _ (show y.k < l.length by omega), e]⟩, by simp only; omega⟩)⟩
      · have h1 : rigB c (doT (runC ((ordC l).take y.k) []) (opC c)).2 = false := by
          have e : (!rigB c (doT (runC ((ordC l).take y.k) []) (opC c)).2) = true := h1
          simpa using e
        rw [h1] at hs
        simp only [hleg, hs]
        rfl
      · have h1 : rigB c (doT (runC ((ordC l).take y.k) []) (opC c)).2 = true := by
          have e : (!rigB c (doT (runC ((ordC l).take y.k) []) (opC c)).2) = false := h1
          simpa using e
        rw [h1, if_pos rfl] at hs
        simp only
        rw [hs, e]
    · have hk : y.k = (ordL l).length := by have := Y.k; simp at hb; omega
      have hs := Y.sec
      rw [hk, List.drop_length, secP] at hs
      simp only [hleg, hs]

end Go.Proofs.Ytbhlhnkjmncloaa
