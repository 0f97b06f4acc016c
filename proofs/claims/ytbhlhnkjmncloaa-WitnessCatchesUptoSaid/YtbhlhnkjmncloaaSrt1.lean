/-
  Contracts of functions of this seat: what each hands back, and what it leaves of memory (srt1). Nothing here is trusted: Lean checks it.
-/
import Derived.Test.YtbhlhnkjmncloaaSrt0
import Derived.Test.YtbhlhnkjmncloaaWit8
set_option linter.unusedVariables false
set_option linter.unusedSimpArgs false
namespace Go.Proofs.Ytbhlhnkjmncloaa
open Go.Vc Go.RowKit
set_option maxRecDepth 100000

/-- a list of ints that may be written, and what the comparing function looks at beside it -/
structure DatC (b o n : Nat) (env : M → Prop) (ok : Int → Prop) (g : Nat → Int) (m : M) : Prop where
  cell : ∀ j, j < n → m.π b (o + j) = some (I (g j))
  uf : 0 < n → m.uf b
  lt : 0 < n → b < m.sz
  env : env m
  ok : ∀ j, j < n → ok (g j)

/-- the closure that compares: below 0 just if the first's number is less -/
structure CmpC (b bl : Nat) (env : M → Prop) (ok : Int → Prop) (f : Int → Int) : Prop where
  q : ∀ m, env m → ∀ x y, ok x → ok y → ∃ v, QSpec Try.prog 58 [I x, I y, .pointer (some ⟨bl, 0, none⟩)] m (I v) ∧ (v < 0 ↔ f x < f y)
  sz : ∀ m n, env m → m.sz ≤ n → env { m with sz := n }
  set : ∀ m o cs, env m → env (m.setCells b o cs)

abbrev cmpV (bl : Nat) : Value := .func (.func 58) #[] #[.pointer (some ⟨bl, 0, none⟩)]

section
variable {b o n bl : Nat} {env : M → Prop} {g : Nat → Int} {m : M} {ok : Int → Prop} {f : Int → Int}

theorem DatC.sz (h : DatC b o n env ok g m) (C : CmpC b bl env ok f) {k : Nat} (hk : m.sz ≤ k) : DatC b o n env ok g { m with sz := k } :=
  ⟨h.cell, h.uf, fun h0 => Nat.lt_of_lt_of_le (h.lt h0) hk, C.sz _ _ h.env hk, h.ok⟩

theorem DatC.at (h : DatC b o n env ok g m) {j : Nat} (hj : j < n) : CellsAt m b (o + j * 1) [I (g j)] := ⟨fun i hi => by
  have : i = 0 := by simpa using hi
  subst this
  rw [Nat.mul_one]
  exact h.cell j hj⟩

theorem DatC.wr (h : DatC b o n env ok g m) {B : Nat} {S : Nat → Prop} {j : Nat} (hS : B ≤ b ∨ S b) (hj : j < n) : Wr B S m b (o + j * 1) 1 := ⟨hS, h.uf (by omega), fun i hi => ⟨I (g j), by
  have : i = 0 := by omega
  subst this
  rw [Nat.mul_one]
  exact h.cell j hj⟩⟩

theorem DatC.set (h : DatC b o n env ok g m) (C : CmpC b bl env ok f) {k : Nat} (hk : k < n) (v : Int) (hv : ok v) : DatC b o n env ok (upd g k v) (m.setCells b (o + k * 1) [I v]) := by
  refine ⟨fun j hj => ?_, h.uf, h.lt, C.set _ _ _ h.env, fun j hj => by unfold upd; split; exact hv; exact h.ok j hj⟩
  simp only [M.setCells, List.length_singleton]
  by_cases e : j = k
  · subst e; simp [upd]
  · rw [if_neg (by omega)]; simp only [upd, e, if_false]; exact h.cell j hj

theorem DatC.congr {g' : Nat → Int} (h : DatC b o n env ok g m) (e : ∀ j, j < n → g j = g' j) : DatC b o n env ok g' m := ⟨fun j hj => by rw [← e j hj]; exact h.cell j hj, h.uf, h.lt, h.env, fun j hj => by rw [← e j hj]; exact h.ok j hj⟩
end

structure SwX where
  i : Nat
  m : M

theorem wrapN {x : Int} {k : Nat} (h : x = (k : Int)) (hk : k ≤ 9223372036854775807) : IntKind.i64.wrap x = (k : Int) := by subst h; simp [IntKind.wrap_i64]; omega

theorem swaprange_s (av : Option Addr) (b o n c bl x y k : Nat) (ha : 0 < n → av = some ⟨b, o, none⟩) (env : M → Prop) (ok : Int → Prop) (f : Int → Int) (C : CmpC b bl env ok f) (g : Nat → Int) (hn : n ≤ 4194304) (hxy : x + k ≤ y) (hy : y + k ≤ n) (m : M) (h : DatC b o n env ok g m) :
    SpecW Try.prog 77 [.slice av n c, I x, I y, I k, cmpV bl] m (fun z => 0 < n ∧ z = b) fun v m' => v = .tuple #[] ∧ DatC b o n env ok (swpF x y k g) m' := by
  refine SpecW.of_vc Try.func77 (ann := fun r => { A := SwX, loose := Nat.beq r 3, inv := fun z => z.i ≤ k ∧ DatC b o n env ok (swpF x y z.i g) z.m ∧ m.sz ≤ z.m.sz, st := fun z => [(10, .val (I z.i)), (3, .val (I k)), (0, .val (.slice av n c)), (1, .val (I x)), (2, .val (I y))], own := fun _ => [], m := fun z => z.m, μ := fun z => k - z.i }) ?_
  refine vc_by (X :=
      true = true ∧
      (∃ (a : SwX),
      (a.i ≤ k ∧ DatC b o n env ok (swpF x y a.i g) a.m ∧ m.sz ≤ a.m.sz) ∧
      m = a.m ∧
      ((SV.val (Value.int IntKind.i64 (0 : Int)) = SV.val (Value.int IntKind.i64 (↑a.i : Int)) ∧ true = true) ∧
      (SV.val (Value.int IntKind.i64 (↑k : Int)) = SV.val (Value.int IntKind.i64 (↑k : Int)) ∧ true = true) ∧
      (SV.val (Value.slice av n c) = SV.val (Value.slice av n c) ∧ true = true) ∧
      (SV.val (Value.int IntKind.i64 (↑x : Int)) = SV.val (Value.int IntKind.i64 (↑x : Int)) ∧ true = true) ∧
      (SV.val (Value.int IntKind.i64 (↑y : Int)) = SV.val (Value.int IntKind.i64 (↑y : Int)) ∧ true = true) ∧ True) ∧
      True) ∧
      ∀ (a : SwX),
      a.i ≤ k ∧ DatC b o n env ok (swpF x y a.i g) a.m ∧ m.sz ≤ a.m.sz →
      ifB (decide ((↑a.i : Int) < (↑k : Int)))
      (true = true ∧
      ∃ (b_1 : Nat),
      ∃ (off : Nat),
      av = some { block := b_1, off := off : Addr } ∧
      ((0 : Int) ≤ IntKind.i64.wrap ((↑y : Int) + (↑a.i : Int)) ∧ IntKind.i64.wrap ((↑y : Int) + (↑a.i : Int)) < (↑n : Int)) ∧
      ∃ (n_1 : Int),
      CellsAt a.m b_1 (off + (IntKind.i64.wrap ((↑y : Int) + (↑a.i : Int))).toNat * (1 : Nat)) [Value.int IntKind.i64 n_1] ∧
      ∃ (b_2 : Nat),
      ∃ (off : Nat),
      av = some { block := b_2, off := off : Addr } ∧
      ((0 : Int) ≤ IntKind.i64.wrap ((↑x : Int) + (↑a.i : Int)) ∧ IntKind.i64.wrap ((↑x : Int) + (↑a.i : Int)) < (↑n : Int)) ∧
      ∃ (n_2 : Int),
      CellsAt a.m b_2 (off + (IntKind.i64.wrap ((↑x : Int) + (↑a.i : Int))).toNat * (1 : Nat)) [Value.int IntKind.i64 n_2] ∧
      ∃ (b_3 : Nat),
      ∃ (off : Nat),
      av = some { block := b_3, off := off : Addr } ∧
      ((0 : Int) ≤ IntKind.i64.wrap ((↑x : Int) + (↑a.i : Int)) ∧ IntKind.i64.wrap ((↑x : Int) + (↑a.i : Int)) < (↑n : Int)) ∧
      (Wr m.sz (fun (z : Nat) => (0 : Nat) < n ∧ z = b) a.m b_3 (off + (IntKind.i64.wrap ((↑x : Int) + (↑a.i : Int))).toNat * (1 : Nat))
      #[Value.int IntKind.i64 n_1].size ∧
      True ∧
      ∃ (b_4 : Nat),
      ∃ (off_1 : Nat),
      av = some { block := b_4, off := off_1 : Addr } ∧
      ((0 : Int) ≤ IntKind.i64.wrap ((↑y : Int) + (↑a.i : Int)) ∧ IntKind.i64.wrap ((↑y : Int) + (↑a.i : Int)) < (↑n : Int)) ∧
      (Wr m.sz (fun (z : Nat) => (0 : Nat) < n ∧ z = b)
      (a.m.setCells b_3 (off + (IntKind.i64.wrap ((↑x : Int) + (↑a.i : Int))).toNat * (1 : Nat))
      [Value.int IntKind.i64 n_1])
      b_4 (off_1 + (IntKind.i64.wrap ((↑y : Int) + (↑a.i : Int))).toNat * (1 : Nat)) #[Value.int IntKind.i64 n_2].size ∧
      ∃ (a' : SwX),
      ((a'.i ≤ k ∧ DatC b o n env ok (swpF x y a'.i g) a'.m ∧ m.sz ≤ a'.m.sz) ∧
      (a.m.setCells b_3 (off + (IntKind.i64.wrap ((↑x : Int) + (↑a.i : Int))).toNat * (1 : Nat))
      [Value.int IntKind.i64 n_1]).setCells
      b_4 (off_1 + (IntKind.i64.wrap ((↑y : Int) + (↑a.i : Int))).toNat * (1 : Nat))
      [Value.int IntKind.i64 n_2] =
      a'.m ∧
      ((SV.val (Value.int IntKind.i64 (IntKind.i64.wrap ((↑a.i : Int) + (1 : Int)))) =
      SV.val (Value.int IntKind.i64 (↑a'.i : Int)) ∧
      true = true) ∧
      (SV.val (Value.int IntKind.i64 (↑k : Int)) = SV.val (Value.int IntKind.i64 (↑k : Int)) ∧ true = true) ∧
      (SV.val (Value.slice av n c) = SV.val (Value.slice av n c) ∧ true = true) ∧
      (SV.val (Value.int IntKind.i64 (↑x : Int)) = SV.val (Value.int IntKind.i64 (↑x : Int)) ∧
      true = true) ∧
      (SV.val (Value.int IntKind.i64 (↑y : Int)) = SV.val (Value.int IntKind.i64 (↑y : Int)) ∧
      true = true) ∧
      True) ∧
      True) ∧
      k - a'.i < k - a.i) ∧
      True) ∧
      True)
      (Done (Value.tuple #[] = Value.tuple #[] ∧ DatC b o n env ok (swpF x y k g) a.m))) (by kernel_rfl) ?_
  refine ⟨rfl, ⟨⟨0, m⟩, ⟨Nat.zero_le _, h.congr fun j hj => by simp only [swpF]; rw [if_neg (by omega), if_neg (by omega)], Nat.le_refl _⟩, rfl, by simp⟩, fun z ⟨hz, hd, hs⟩ => ifB_intro (fun hb => ?_) (fun hb => ⟨rfl, ?_⟩)⟩
  · have hk : z.i < k := by simpa using hb
    have w1 : IntKind.i64.wrap ((x : Int) + z.i) = ((x + z.i : Nat) : Int) := wrapN (by simp) (by omega)
    have w2 : IntKind.i64.wrap ((y : Int) + z.i) = ((y + z.i : Nat) : Int) := wrapN (by simp) (by omega)
    have w3 : IntKind.i64.wrap ((z.i : Int) + 1) = ((z.i + 1 : Nat) : Int) := wrapN (by simp) (by omega)
    rw [w1, w2, w3]
    simp only [Int.toNat_natCast]
    have h1 : x + z.i < n := by omega
    have h2 : y + z.i < n := by omega
    have hS : m.sz ≤ b ∨ (0 < n ∧ b = b) := .inr ⟨by omega, rfl⟩
    have hd1 := hd.set C h1 (swpF x y z.i g (y + z.i)) (hd.ok _ h2)
    have hd2 := hd1.set C h2 (swpF x y z.i g (x + z.i)) (hd.ok _ h1)
    refine ⟨trivial, b, o, ha (by omega), by omega, _, hd.at h2, b, o, ha (by omega), by omega, _, hd.at h1, b, o, ha (by omega), by omega, ⟨hd.wr (S := fun z => 0 < n ∧ z = b) hS h1, trivial, b, o, ha (by omega), by omega, ⟨hd1.wr (S := fun z => 0 < n ∧ z = b) hS h2, ⟨z.i + 1, _⟩, ⟨⟨hk, hd2.congr fun j hj => ?_, hs⟩, rfl, by simp⟩, by simp only; omega⟩, trivial⟩, trivial⟩
    exact swp_step hxy hk j
  · have : z.i = k := by simp at hb; omega
    rw [← this]; exact hd

structure RoX where
  i : Nat
  j : Nat
  g : Nat → Int
  m : M

theorem rotate_s (av : Option Addr) (b o n c bl x y z : Nat) (ha : 0 < n → av = some ⟨b, o, none⟩) (env : M → Prop) (ok : Int → Prop) (f : Int → Int) (C : CmpC b bl env ok f) (g : Nat → Int) (hn : n ≤ 4194304) (hxy : x < y) (hy : y < z) (hz : z ≤ n) (m : M) (h : DatC b o n env ok g m) :
    SpecW Try.prog 76 [.slice av n c, I x, I y, I z, cmpV bl] m (fun z => 0 < n ∧ z = b) fun v m' => v = .tuple #[] ∧ DatC b o n env ok (rotF x y z g) m' := by
  refine SpecW.of_vc Try.func76 (ann := fun r => { A := RoX, inv := fun t => 0 < t.i ∧ 0 < t.j ∧ t.i ≤ y - x ∧ t.j ≤ z - y ∧ DatC b o n env ok t.g t.m ∧ rotF (y - t.i) y (y + t.j) t.g = rotF x y z g ∧ m.sz ≤ t.m.sz, st := fun t => [(10, .val (I t.i)), (11, .val (I t.j)), (0, .val (.slice av n c)), (2, .val (I y)), (4, .val (cmpV bl))], own := fun _ => [], m := fun t => t.m, μ := fun t => t.i + t.j }) ?_
  refine vc_by (X :=
      true = true ∧
      (∃ (a : RoX),
      ((0 : Nat) < a.i ∧ (0 : Nat) < a.j ∧ a.i ≤ y - x ∧ a.j ≤ z - y ∧ DatC b o n env ok a.g a.m ∧ rotF (y - a.i) y (y + a.j) a.g = rotF x y z g ∧ m.sz ≤ a.m.sz) ∧
      m = a.m ∧
      ((SV.val (Value.int IntKind.i64 (IntKind.i64.wrap ((↑y : Int) - (↑x : Int)))) = SV.val (Value.int IntKind.i64 (↑a.i : Int)) ∧ true = true) ∧
      (SV.val (Value.int IntKind.i64 (IntKind.i64.wrap ((↑z : Int) - (↑y : Int)))) = SV.val (Value.int IntKind.i64 (↑a.j : Int)) ∧ true = true) ∧
      (SV.val (Value.slice av n c) = SV.val (Value.slice av n c) ∧ true = true) ∧
      (SV.val (Value.int IntKind.i64 (↑y : Int)) = SV.val (Value.int IntKind.i64 (↑y : Int)) ∧ true = true) ∧
      (SV.val (Value.func (Fn.func (58 : FuncId)) #[] #[Value.pointer (some { block := bl, off := (0 : Nat) : Addr })]) =
      SV.val (Value.func (Fn.func (58 : FuncId)) #[] #[Value.pointer (some { block := bl, off := (0 : Nat) : Addr })]) ∧
      true = true) ∧
      True) ∧
      True) ∧
      ∀ (a : RoX),
      (0 : Nat) < a.i ∧ (0 : Nat) < a.j ∧ a.i ≤ y - x ∧ a.j ≤ z - y ∧ DatC b o n env ok a.g a.m ∧ rotF (y - a.i) y (y + a.j) a.g = rotF x y z g ∧ m.sz ≤ a.m.sz →
      ifB ((↑a.i : Int) != (↑a.j : Int))
      (ifB (decide ((↑a.i : Int) > (↑a.j : Int)))
      (∃ (S' : Nat → Prop),
      (∀ (b_1 : Nat), S' b_1 → a.m.uf b_1 ∧ (m.sz ≤ b_1 ∨ (0 : Nat) < n ∧ b_1 = b)) ∧
      ∀ (n_1 : Nat),
      a.m.sz ≤ n_1 →
      SpecW Try.prog (77 : Nat)
      [Value.slice av n c, Value.int IntKind.i64 (IntKind.i64.wrap ((↑y : Int) - (↑a.i : Int))), Value.int IntKind.i64 (↑y : Int),
      Value.int IntKind.i64 (↑a.j : Int), Value.func (Fn.func (58 : FuncId)) #[] #[Value.pointer (some { block := bl, off := (0 : Nat) : Addr })]]
      { π := a.m.π, sz := n_1, uf := a.m.uf : M } S' fun (v : Value) (m' : M) =>
      v = Value.tuple #[] ∧
      ∃ (a' : RoX),
      (((0 : Nat) < a'.i ∧
      (0 : Nat) < a'.j ∧ a'.i ≤ y - x ∧ a'.j ≤ z - y ∧ DatC b o n env ok a'.g a'.m ∧ rotF (y - a'.i) y (y + a'.j) a'.g = rotF x y z g ∧ m.sz ≤ a'.m.sz) ∧
      m' = a'.m ∧
      ((SV.val (Value.int IntKind.i64 (IntKind.i64.wrap ((↑a.i : Int) - (↑a.j : Int)))) = SV.val (Value.int IntKind.i64 (↑a'.i : Int)) ∧ true = true) ∧
      (SV.val (Value.int IntKind.i64 (↑a.j : Int)) = SV.val (Value.int IntKind.i64 (↑a'.j : Int)) ∧ true = true) ∧
      (SV.val (Value.slice av n c) = SV.val (Value.slice av n c) ∧ true = true) ∧
      (SV.val (Value.int IntKind.i64 (↑y : Int)) = SV.val (Value.int IntKind.i64 (↑y : Int)) ∧ true = true) ∧
      (SV.val (Value.func (Fn.func (58 : FuncId)) #[] #[Value.pointer (some { block := bl, off := (0 : Nat) : Addr })]) =
      SV.val (Value.func (Fn.func (58 : FuncId)) #[] #[Value.pointer (some { block := bl, off := (0 : Nat) : Addr })]) ∧
      true = true) ∧
      True) ∧
      True) ∧
      a'.i + a'.j < a.i + a.j)
      (∃ (S' : Nat → Prop),
      (∀ (b_1 : Nat), S' b_1 → a.m.uf b_1 ∧ (m.sz ≤ b_1 ∨ (0 : Nat) < n ∧ b_1 = b)) ∧
      ∀ (n_1 : Nat),
      a.m.sz ≤ n_1 →
      SpecW Try.prog (77 : Nat)
      [Value.slice av n c, Value.int IntKind.i64 (IntKind.i64.wrap ((↑y : Int) - (↑a.i : Int))),
      Value.int IntKind.i64 (IntKind.i64.wrap (IntKind.i64.wrap ((↑y : Int) + (↑a.j : Int)) - (↑a.i : Int))), Value.int IntKind.i64 (↑a.i : Int),
      Value.func (Fn.func (58 : FuncId)) #[] #[Value.pointer (some { block := bl, off := (0 : Nat) : Addr })]]
      { π := a.m.π, sz := n_1, uf := a.m.uf : M } S' fun (v : Value) (m' : M) =>
      v = Value.tuple #[] ∧
      ∃ (a' : RoX),
      (((0 : Nat) < a'.i ∧
      (0 : Nat) < a'.j ∧ a'.i ≤ y - x ∧ a'.j ≤ z - y ∧ DatC b o n env ok a'.g a'.m ∧ rotF (y - a'.i) y (y + a'.j) a'.g = rotF x y z g ∧ m.sz ≤ a'.m.sz) ∧
      m' = a'.m ∧
      ((SV.val (Value.int IntKind.i64 (↑a.i : Int)) = SV.val (Value.int IntKind.i64 (↑a'.i : Int)) ∧ true = true) ∧
      (SV.val (Value.int IntKind.i64 (IntKind.i64.wrap ((↑a.j : Int) - (↑a.i : Int)))) = SV.val (Value.int IntKind.i64 (↑a'.j : Int)) ∧ true = true) ∧
      (SV.val (Value.slice av n c) = SV.val (Value.slice av n c) ∧ true = true) ∧
      (SV.val (Value.int IntKind.i64 (↑y : Int)) = SV.val (Value.int IntKind.i64 (↑y : Int)) ∧ true = true) ∧
      (SV.val (Value.func (Fn.func (58 : FuncId)) #[] #[Value.pointer (some { block := bl, off := (0 : Nat) : Addr })]) =
      SV.val (Value.func (Fn.func (58 : FuncId)) #[] #[Value.pointer (some { block := bl, off := (0 : Nat) : Addr })]) ∧
      true = true) ∧
      True) ∧
      True) ∧
      a'.i + a'.j < a.i + a.j))
      (∃ (S' : Nat → Prop),
      (∀ (b_1 : Nat), S' b_1 → a.m.uf b_1 ∧ (m.sz ≤ b_1 ∨ (0 : Nat) < n ∧ b_1 = b)) ∧
      ∀ (n_1 : Nat),
      a.m.sz ≤ n_1 →
      SpecW Try.prog (77 : Nat)
      [Value.slice av n c, Value.int IntKind.i64 (IntKind.i64.wrap ((↑y : Int) - (↑a.i : Int))), Value.int IntKind.i64 (↑y : Int), Value.int IntKind.i64 (↑a.i : Int),
      Value.func (Fn.func (58 : FuncId)) #[] #[Value.pointer (some { block := bl, off := (0 : Nat) : Addr })]]
      { π := a.m.π, sz := n_1, uf := a.m.uf : M } S' fun (v : Value) (m' : M) =>
      v = Value.tuple #[] ∧ Done (Value.tuple #[] = Value.tuple #[] ∧ DatC b o n env ok (rotF x y z g) m'))) (by kernel_rfl) ?_
  have w1 : IntKind.i64.wrap ((y : Int) - x) = ((y - x : Nat) : Int) := wrapN (by omega) (by omega)
  have w2 : IntKind.i64.wrap ((z : Int) - y) = ((z - y : Nat) : Int) := wrapN (by omega) (by omega)
  rw [w1, w2]
  refine ⟨rfl, ⟨⟨y - x, z - y, g, m⟩, ⟨by simp only; omega, by simp only; omega, Nat.le_refl _, Nat.le_refl _, h, by congr 1 <;> simp only <;> omega, Nat.le_refl _⟩, rfl, by simp⟩, fun t ⟨h1, h2, h3, h4, hd, hr, hs⟩ => ?_⟩
  have v1 : IntKind.i64.wrap ((y : Int) - t.i) = ((y - t.i : Nat) : Int) := wrapN (by omega) (by omega)
  have hS : ∀ z, (0 < n ∧ z = b) → t.m.uf z ∧ (m.sz ≤ z ∨ (0 < n ∧ z = b)) := fun z ⟨h0, e⟩ => by subst e; exact ⟨hd.uf h0, .inr ⟨h0, rfl⟩⟩
  rw [v1]
  refine ifB_intro (fun hb => ifB_intro (fun hb2 => ?_) (fun hb2 => ?_)) (fun hb => ?_)
  · have hij : t.j < t.i := by simp at hb2; omega
    have v2 : IntKind.i64.wrap ((t.i : Int) - t.j) = ((t.i - t.j : Nat) : Int) := wrapN (by omega) (by omega)
    rw [v2]
    refine ⟨fun z => 0 < n ∧ z = b, hS, fun N hN => (swaprange_s av b o n c bl (y - t.i) y t.j ha env ok f C t.g hn (by omega) (by omega) _ (hd.sz C hN)).mono fun v m' hag ⟨e, hd'⟩ => ⟨e, ⟨t.i - t.j, t.j, swpF (y - t.i) y t.j t.g, m'⟩, ⟨⟨by simp only; omega, h2, by simp only; omega, h4, hd', ?_, ?_⟩, rfl, by simp⟩, by simp only; omega⟩⟩
    · simp only; rw [swp_rot (by omega) hij]; exact hr
    · have := hag.2.2; simp only at this ⊢; omega
  · have hij : t.i < t.j := by simp at hb hb2; omega
    have v2 : IntKind.i64.wrap ((t.j : Int) - t.i) = ((t.j - t.i : Nat) : Int) := wrapN (by omega) (by omega)
    have v3 : IntKind.i64.wrap ((y : Int) + t.j) = ((y + t.j : Nat) : Int) := wrapN (by omega) (by omega)
    rw [v3]
    have v4 : IntKind.i64.wrap (((y + t.j : Nat) : Int) - t.i) = ((y + t.j - t.i : Nat) : Int) := wrapN (by omega) (by omega)
    rw [v2, v4]
    refine ⟨fun z => 0 < n ∧ z = b, hS, fun N hN => (swaprange_s av b o n c bl (y - t.i) (y + t.j - t.i) t.i ha env ok f C t.g hn (by omega) (by omega) _ (hd.sz C hN)).mono fun v m' hag ⟨e, hd'⟩ => ⟨e, ⟨t.i, t.j - t.i, swpF (y - t.i) (y + t.j - t.i) t.i t.g, m'⟩, ⟨⟨h1, by simp only; omega, h3, by simp only; omega, hd', ?_, ?_⟩, rfl, by simp⟩, by simp only; omega⟩⟩
    · simp only; rw [swp_rot2 (by omega) hij]; exact hr
    · have := hag.2.2; simp only at this ⊢; omega
  · have hij : t.i = t.j := by simp at hb; omega
    refine ⟨fun z => 0 < n ∧ z = b, hS, fun N hN => (swaprange_s av b o n c bl (y - t.i) y t.i ha env ok f C t.g hn (by omega) (by omega) _ (hd.sz C hN)).mono fun v m' hag ⟨e, hd'⟩ => ⟨e, rfl, hd'.congr fun j hj => ?_⟩⟩
    rw [swp_rot3 (by omega), ← hr, hij]

structure InX where
  i : Nat
  j : Nat
  g : Nat → Int
  m : M

structure InI (b o n x z : Nat) (env : M → Prop) (ok : Int → Prop) (f : Int → Int) (g : Nat → Int) (m : M) (t : InX) : Prop where
  lo : x + 1 ≤ t.i
  hi : t.i ≤ z ∨ t.i = x + 1
  mem : Mem x z g t.g
  srt : Srt f x t.i t.g
  stb : Stb f x z t.g
  sz : m.sz ≤ t.m.sz

structure InJ (b o n x z : Nat) (env : M → Prop) (ok : Int → Prop) (f : Int → Int) (g : Nat → Int) (m : M) (t : InX) : Prop where
  i : InI b o n x z env ok f g m t
  lt : t.i < z
  lo : x ≤ t.j
  hi : t.j ≤ t.i
  dat : DatC b o n env ok (rotF t.j t.i (t.i + 1) t.g) t.m
  big : ∀ p, t.j ≤ p → p < t.i → lexN f (t.g t.i) (t.g p)

theorem inssort_s (av : Option Addr) (b o n c bl x z : Nat) (ha : 0 < n → av = some ⟨b, o, none⟩) (env : M → Prop) (ok : Int → Prop) (f : Int → Int) (C : CmpC b bl env ok f) (g : Nat → Int) (hn : n ≤ 4194304) (hxz : x ≤ z) (hz : z ≤ n) (hst : Stb f x z g) (m : M) (h : DatC b o n env ok g m) :
    SpecW Try.prog 72 [.slice av n c, I x, I z, cmpV bl] m (fun z => 0 < n ∧ z = b) fun v m' => v = .tuple #[] ∧ ∃ g', DatC b o n env ok g' m' ∧ Mem x z g g' ∧ Srt f x z g' := by
  refine SpecW.of_vc Try.func72 (ann := fun r => match r with
    | 1 => { A := InX, inv := fun t => InI b o n x z env ok f g m t ∧ DatC b o n env ok t.g t.m, st := fun t => [(8, .val (I t.i)), (2, .val (I z)), (1, .val (I x)), (3, .val (cmpV bl)), (0, .val (.slice av n c))], own := fun _ => [], m := fun t => t.m, μ := fun t => z - t.i }
    | 4 => { A := InX, inv := fun t => InJ b o n x z env ok f g m t, st := fun t => [(9, .val (I t.j)), (8, .val (I t.i)), (2, .val (I z)), (1, .val (I x)), (3, .val (cmpV bl)), (0, .val (.slice av n c))], own := fun _ => [], m := fun t => t.m, μ := fun t => t.j, link := some fun t ctx => ctx = [z - t.i] }
    | 6 => { noAnn 0 with loose := true }
    | _ => noAnn 0) ?_
  refine vc_by (X :=
      true = true ∧
      (∃ (a : InX),
      (InI b o n x z env ok f g m a ∧ DatC b o n env ok a.g a.m) ∧
      m = a.m ∧
      ((SV.val (Value.int IntKind.i64 (IntKind.i64.wrap ((↑x : Int) + (1 : Int)))) = SV.val (Value.int IntKind.i64 (↑a.i : Int)) ∧ true = true) ∧
      (SV.val (Value.int IntKind.i64 (↑z : Int)) = SV.val (Value.int IntKind.i64 (↑z : Int)) ∧ true = true) ∧
      (SV.val (Value.int IntKind.i64 (↑x : Int)) = SV.val (Value.int IntKind.i64 (↑x : Int)) ∧ true = true) ∧
      (SV.val (Value.func (Fn.func (58 : FuncId)) #[] #[Value.pointer (some { block := bl, off := (0 : Nat) : Addr })]) =
      SV.val (Value.func (Fn.func (58 : FuncId)) #[] #[Value.pointer (some { block := bl, off := (0 : Nat) : Addr })]) ∧
      true = true) ∧
      (SV.val (Value.slice av n c) = SV.val (Value.slice av n c) ∧ true = true) ∧ True) ∧
      True) ∧
      ∀ (a : InX),
      InI b o n x z env ok f g m a ∧ DatC b o n env ok a.g a.m →
      ifB (decide ((↑a.i : Int) < (↑z : Int)))
      ((∃ (a_2 : InX),
      (InJ b o n x z env ok f g m a_2 ∧
      a.m = a_2.m ∧
      ((SV.val (Value.int IntKind.i64 (↑a.i : Int)) = SV.val (Value.int IntKind.i64 (↑a_2.j : Int)) ∧ true = true) ∧
      (SV.val (Value.int IntKind.i64 (↑a.i : Int)) = SV.val (Value.int IntKind.i64 (↑a_2.i : Int)) ∧ true = true) ∧
      (SV.val (Value.int IntKind.i64 (↑z : Int)) = SV.val (Value.int IntKind.i64 (↑z : Int)) ∧ true = true) ∧
      (SV.val (Value.int IntKind.i64 (↑x : Int)) = SV.val (Value.int IntKind.i64 (↑x : Int)) ∧ true = true) ∧
      (SV.val (Value.func (Fn.func (58 : FuncId)) #[] #[Value.pointer (some { block := bl, off := (0 : Nat) : Addr })]) =
      SV.val (Value.func (Fn.func (58 : FuncId)) #[] #[Value.pointer (some { block := bl, off := (0 : Nat) : Addr })]) ∧
      true = true) ∧
      (SV.val (Value.slice av n c) = SV.val (Value.slice av n c) ∧ true = true) ∧ True) ∧
      True) ∧
      [z - a.i] = [z - a_2.i]) ∧
      ∀ (a_2 : InX),
      InJ b o n x z env ok f g m a_2 ∧ [z - a.i] = [z - a_2.i] →
      true = true ∧
      ifB (decide ((↑a_2.j : Int) > (↑x : Int)))
      (∃ (b_1 : Nat),
      ∃ (off : Nat),
      av = some { block := b_1, off := off : Addr } ∧
      ((0 : Int) ≤ (↑a_2.j : Int) ∧ (↑a_2.j : Int) < (↑n : Int)) ∧
      ∃ (n_1 : Int),
      CellsAt a_2.m b_1 (off + (↑a_2.j : Int).toNat * (1 : Nat)) [Value.int IntKind.i64 n_1] ∧
      ∃ (b_2 : Nat),
      ∃ (off : Nat),
      av = some { block := b_2, off := off : Addr } ∧
      ((0 : Int) ≤ IntKind.i64.wrap ((↑a_2.j : Int) - (1 : Int)) ∧ IntKind.i64.wrap ((↑a_2.j : Int) - (1 : Int)) < (↑n : Int)) ∧
      ∃ (n_2 : Int),
      CellsAt a_2.m b_2 (off + (IntKind.i64.wrap ((↑a_2.j : Int) - (1 : Int))).toNat * (1 : Nat)) [Value.int IntKind.i64 n_2] ∧
      ∃ (n_3 : Int),
      QSpec Try.prog (58 : FuncId)
      [Value.int IntKind.i64 n_1, Value.int IntKind.i64 n_2, Value.pointer (some { block := bl, off := (0 : Nat) : Addr })] a_2.m
      (Value.int IntKind.i64 n_3) ∧
      ifB (decide (n_3 < (0 : Int)))
      (true = true ∧
      ∃ (b_3 : Nat),
      ∃ (off : Nat),
      av = some { block := b_3, off := off : Addr } ∧
      ((0 : Int) ≤ IntKind.i64.wrap ((↑a_2.j : Int) - (1 : Int)) ∧ IntKind.i64.wrap ((↑a_2.j : Int) - (1 : Int)) < (↑n : Int)) ∧
      ∃ (n_4 : Int),
      CellsAt a_2.m b_3 (off + (IntKind.i64.wrap ((↑a_2.j : Int) - (1 : Int))).toNat * (1 : Nat))
      [Value.int IntKind.i64 n_4] ∧
      ∃ (b_4 : Nat),
      ∃ (off : Nat),
      av = some { block := b_4, off := off : Addr } ∧
      ((0 : Int) ≤ (↑a_2.j : Int) ∧ (↑a_2.j : Int) < (↑n : Int)) ∧
      ∃ (n_5 : Int),
      CellsAt a_2.m b_4 (off + (↑a_2.j : Int).toNat * (1 : Nat)) [Value.int IntKind.i64 n_5] ∧
      ∃ (b_5 : Nat),
      ∃ (off : Nat),
      av = some { block := b_5, off := off : Addr } ∧
      ((0 : Int) ≤ (↑a_2.j : Int) ∧ (↑a_2.j : Int) < (↑n : Int)) ∧
      (Wr m.sz (fun (z : Nat) => (0 : Nat) < n ∧ z = b) a_2.m b_5
      (off + (↑a_2.j : Int).toNat * (1 : Nat)) #[Value.int IntKind.i64 n_4].size ∧
      True ∧
      ∃ (b_6 : Nat),
      ∃ (off_1 : Nat),
      av = some { block := b_6, off := off_1 : Addr } ∧
      ((0 : Int) ≤ IntKind.i64.wrap ((↑a_2.j : Int) - (1 : Int)) ∧
      IntKind.i64.wrap ((↑a_2.j : Int) - (1 : Int)) < (↑n : Int)) ∧
      (Wr m.sz (fun (z : Nat) => (0 : Nat) < n ∧ z = b)
      (a_2.m.setCells b_5 (off + (↑a_2.j : Int).toNat * (1 : Nat))
      [Value.int IntKind.i64 n_4])
      b_6
      (off_1 + (IntKind.i64.wrap ((↑a_2.j : Int) - (1 : Int))).toNat * (1 : Nat))
      #[Value.int IntKind.i64 n_5].size ∧
      ∃ (a' : InX),
      ((InJ b o n x z env ok f g m a' ∧
      (a_2.m.setCells b_5 (off + (↑a_2.j : Int).toNat * (1 : Nat))
      [Value.int IntKind.i64 n_4]).setCells
      b_6
      (off_1 +
      (IntKind.i64.wrap ((↑a_2.j : Int) - (1 : Int))).toNat *
      (1 : Nat))
      [Value.int IntKind.i64 n_5] =
      a'.m ∧
      ((SV.val
      (Value.int IntKind.i64
      (IntKind.i64.wrap ((↑a_2.j : Int) - (1 : Int)))) =
      SV.val (Value.int IntKind.i64 (↑a'.j : Int)) ∧
      true = true) ∧
      (SV.val (Value.int IntKind.i64 (↑a_2.i : Int)) =
      SV.val (Value.int IntKind.i64 (↑a'.i : Int)) ∧
      true = true) ∧
      (SV.val (Value.int IntKind.i64 (↑z : Int)) =
      SV.val (Value.int IntKind.i64 (↑z : Int)) ∧
      true = true) ∧
      (SV.val (Value.int IntKind.i64 (↑x : Int)) =
      SV.val (Value.int IntKind.i64 (↑x : Int)) ∧
      true = true) ∧
      (SV.val
      (Value.func (Fn.func (58 : FuncId)) #[]
      #[Value.pointer
      (some
      { block := bl, off := (0 : Nat) : Addr })]) =
      SV.val
      (Value.func (Fn.func (58 : FuncId)) #[]
      #[Value.pointer
      (some
      { block := bl, off := (0 : Nat) : Addr })]) ∧
      true = true) ∧
      (SV.val (Value.slice av n c) =
      SV.val (Value.slice av n c) ∧
      true = true) ∧
      True) ∧
      True) ∧
      [z - a.i] = [z - a'.i]) ∧
      a'.j < a_2.j) ∧
      True) ∧
      True)
      (∃ (a' : InX),
      ((InI b o n x z env ok f g m a' ∧ DatC b o n env ok a'.g a'.m) ∧
      a_2.m = a'.m ∧
      ((SV.val (Value.int IntKind.i64 (IntKind.i64.wrap ((↑a_2.i : Int) + (1 : Int)))) =
      SV.val (Value.int IntKind.i64 (↑a'.i : Int)) ∧
      true = true) ∧
      (SV.val (Value.int IntKind.i64 (↑z : Int)) = SV.val (Value.int IntKind.i64 (↑z : Int)) ∧ true = true) ∧
      (SV.val (Value.int IntKind.i64 (↑x : Int)) = SV.val (Value.int IntKind.i64 (↑x : Int)) ∧ true = true) ∧
      (SV.val
      (Value.func (Fn.func (58 : FuncId)) #[]
      #[Value.pointer (some { block := bl, off := (0 : Nat) : Addr })]) =
      SV.val
      (Value.func (Fn.func (58 : FuncId)) #[]
      #[Value.pointer (some { block := bl, off := (0 : Nat) : Addr })]) ∧
      true = true) ∧
      (SV.val (Value.slice av n c) = SV.val (Value.slice av n c) ∧ true = true) ∧ True) ∧
      True) ∧
      z - a'.i < z - a.i))
      (∃ (a' : InX),
      ((InI b o n x z env ok f g m a' ∧ DatC b o n env ok a'.g a'.m) ∧
      a_2.m = a'.m ∧
      ((SV.val (Value.int IntKind.i64 (IntKind.i64.wrap ((↑a_2.i : Int) + (1 : Int)))) = SV.val (Value.int IntKind.i64 (↑a'.i : Int)) ∧ true = true) ∧
      (SV.val (Value.int IntKind.i64 (↑z : Int)) = SV.val (Value.int IntKind.i64 (↑z : Int)) ∧ true = true) ∧
      (SV.val (Value.int IntKind.i64 (↑x : Int)) = SV.val (Value.int IntKind.i64 (↑x : Int)) ∧ true = true) ∧
      (SV.val (Value.func (Fn.func (58 : FuncId)) #[] #[Value.pointer (some { block := bl, off := (0 : Nat) : Addr })]) =
      SV.val (Value.func (Fn.func (58 : FuncId)) #[] #[Value.pointer (some { block := bl, off := (0 : Nat) : Addr })]) ∧
      true = true) ∧
      (SV.val (Value.slice av n c) = SV.val (Value.slice av n c) ∧ true = true) ∧ True) ∧
      True) ∧
      z - a'.i < z - a.i))
      (Done (Value.tuple #[] = Value.tuple #[] ∧ ∃ (g' : Nat → Int), DatC b o n env ok g' a.m ∧ Mem x z g g' ∧ Srt f x z g'))) (by kernel_rfl) ?_
  have w1 : IntKind.i64.wrap ((x : Int) + 1) = ((x + 1 : Nat) : Int) := wrapN (by omega) (by omega)
  rw [w1]
  refine ⟨rfl, ⟨⟨x + 1, 0, g, m⟩, ⟨⟨Nat.le_refl _, .inr rfl, .refl, fun i j h1 h2 h3 => by simp only at h3; omega, hst, Nat.le_refl _⟩, h⟩, rfl, by simp⟩, fun t ⟨T, D⟩ => ifB_intro (fun hb => ⟨⟨⟨t.i, t.i, t.g, t.m⟩, ⟨⟨⟨T.lo, T.hi, T.mem, T.srt, T.stb, T.sz⟩, ?_, ?_, Nat.le_refl _, D.congr fun p hp => ?_, fun p h1 h2 => ?_⟩, rfl, by simp⟩, rfl⟩, fun u ⟨U, Uc⟩ => ?_⟩) (fun hb => ⟨rfl, t.g, D, T.mem, ?_⟩)⟩
  · simpa using hb
  · have := T.lo; simp only; omega
  · simp only; rw [rotF_id2 (by omega)]
  · simp only at h1 h2; omega
  · have hu := U.lt
    have hlo := U.lo
    have hhi := U.hi
    have hl1 := U.i.lo
    have hS : m.sz ≤ b ∨ (0 < n ∧ b = b) := .inr ⟨by omega, rfl⟩
    have hui : u.i = t.i := by simp at Uc hb; omega
    have w3 : IntKind.i64.wrap ((u.i : Int) + 1) = ((u.i + 1 : Nat) : Int) := wrapN (by omega) (by omega)
    rw [w3]
    have next : ∀ j, x ≤ j → j ≤ u.i → (∀ p, j ≤ p → p < u.i → lexN f (u.g u.i) (u.g p)) → (∀ p, x ≤ p → p < j → lexN f (u.g p) (u.g u.i)) → ∀ g', g' = rotF j u.i (u.i + 1) u.g → InI b o n x z env ok f g m ⟨u.i + 1, 0, g', u.m⟩ := fun j h1 h2 h3 h4 g' e => by
      subst e
      have hs := Srt.insBack h1 h2 U.i.srt h3 h4
      have hm : Mem j (u.i + 1) u.g (rotF j u.i (u.i + 1) u.g) := rotF_mem h2 (by omega)
      exact ⟨by simp only; omega, .inl (by simp only; omega), U.i.mem.trans (hm.wide h1 (by omega)), hs, U.i.stb.mem (hm.wide h1 (Nat.le_refl _)) hs (Nat.le_refl _) (by omega), U.i.sz⟩
    refine ⟨rfl, ifB_intro (fun hb2 => ?_) (fun hb2 => ?_)⟩
    · have hj : x < u.j := by simp at hb2; omega
      have w2 : IntKind.i64.wrap ((u.j : Int) - 1) = ((u.j - 1 : Nat) : Int) := wrapN (by omega) (by omega)
      rw [w2]
      simp only [Int.toNat_natCast]
      have l1 : u.j < n := by omega
      have l2 : u.j - 1 < n := by omega
      have e1 : rotF u.j u.i (u.i + 1) u.g u.j = u.g u.i := by rw [rotF_lo (by omega) (by omega)]; congr 1; omega
      have e2 : rotF u.j u.i (u.i + 1) u.g (u.j - 1) = u.g (u.j - 1) := rotF_out (by omega) (by omega) (by omega)
      have c1 := U.dat.at l1
      have c2 := U.dat.at l2
      have o1 := U.dat.ok _ l1
      have o2 := U.dat.ok _ l2
      rw [e1] at c1 o1
      rw [e2] at c2 o2
      obtain ⟨v, hq, hv⟩ := C.q u.m U.dat.env _ _ o1 o2
      refine ⟨b, o, ha (by omega), by omega, _, c1, b, o, ha (by omega), by omega, _, c2, v, hq, ifB_intro (fun hb3 => ?_) (fun hb3 => ?_)⟩
      · have hlt : f (u.g u.i) < f (u.g (u.j - 1)) := hv.1 (by simpa using hb3)
        have hd1 := U.dat.set C l1 _ o2
        have hd2 := hd1.set C l2 _ o1
        refine ⟨trivial, b, o, ha (by omega), by omega, _, c2, b, o, ha (by omega), by omega, _, c1, b, o, ha (by omega), by omega, ⟨U.dat.wr (S := fun z => 0 < n ∧ z = b) hS l1, trivial, b, o, ha (by omega), by omega, ⟨hd1.wr (S := fun z => 0 < n ∧ z = b) hS l2, ⟨⟨u.i, u.j - 1, u.g, (u.m.setCells b (o + u.j * 1) [I (u.g (u.j - 1))]).setCells b (o + (u.j - 1) * 1) [I (u.g u.i)]⟩, ⟨⟨⟨⟨U.i.lo, U.i.hi, U.i.mem, U.i.srt, U.i.stb, U.i.sz⟩, hu, by simp only; omega, by simp only; omega, hd2.congr fun p hp => ?_, fun p h1 h2 => ?_⟩, rfl, by simp⟩, Uc⟩, by simp only; omega⟩⟩, trivial⟩, trivial⟩
        · exact rot_back (by omega) hhi p
        · by_cases e : p = u.j - 1
          · rw [e]; exact .inl hlt
          · exact U.big p (by simp only at h1; omega) h2
      · have hge : ¬ f (u.g u.i) < f (u.g (u.j - 1)) := fun hh => by
          have := hv.2 hh
          simp at hb3; omega
        have hm := U.i.stb.more (i := u.j - 1) (j := u.i) (by omega) (by omega) hu hge
        refine ⟨⟨u.i + 1, 0, _, u.m⟩, ⟨⟨next u.j hlo hhi U.big (fun p h1 h2 => ?_) _ rfl, U.dat⟩, rfl, by simp⟩, by simp only; omega⟩
        by_cases e : p = u.j - 1
        · rw [e]; exact hm
        · exact lexN_trans (U.i.srt p (u.j - 1) h1 (by omega) (by omega)) hm
    · have hj : u.j = x := by simp at hb2; omega
      exact ⟨⟨u.i + 1, 0, _, u.m⟩, ⟨⟨next u.j hlo hhi U.big (fun p h1 h2 => by omega) _ rfl, U.dat⟩, rfl, by simp⟩, by simp only; omega⟩
  · refine T.srt.sub (Nat.le_refl _) ?_
    have := T.hi; simp at hb; omega

end Go.Proofs.Ytbhlhnkjmncloaa
