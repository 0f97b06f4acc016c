/-
  Contracts of functions of this seat: what each hands back, and what it leaves of memory (srt2). Nothing here is trusted: Lean checks it.
-/
import Derived.Test.YtbhlhnkjmncloaaSrt1
set_option linter.unusedVariables false
set_option linter.unusedSimpArgs false
namespace Go.Proofs.Ytbhlhnkjmncloaa
open Go.Vc Go.RowKit
set_option maxRecDepth 100000

structure SyX where
  i : Nat
  j : Nat
  k : Nat
  g : Nat → Int
  m : M

def symAnn (av : Option Addr) (b o n c bl x y z mid L R : Nat) (env : M → Prop) (ok : Int → Prop) (f : Int → Int) (g : Nat → Int) (m : M) : Nat → Ann
  | 3 => { A := SyX, inv := fun t => y ≤ t.i ∧ t.i ≤ t.j ∧ t.j ≤ z ∧ (∀ p, y ≤ p → p < t.i → lexN f (g p) (g x)) ∧ (∀ p, t.j ≤ p → p < z → lexN f (g x) (g p)), st := fun t => [(10, .val (I t.i)), (11, .val (I t.j)), (4, .val (cmpV bl)), (0, .val (.slice av n c)), (1, .val (I x)), (3, .val (I z)), (2, .val (I y))], own := fun _ => [], m := fun _ => m, μ := fun t => t.j - t.i }
  | 9 => { A := SyX, inv := fun t => y ≤ t.i ∧ t.i ≤ z ∧ (∀ p, y ≤ p → p < t.i → lexN f (g p) (g x)) ∧ (∀ p, t.i ≤ p → p < z → lexN f (g x) (g p)) ∧ x ≤ t.k ∧ t.k + 1 ≤ t.i ∧ DatC b o n env ok (rotF x (x + 1) (t.k + 1) g) t.m ∧ m.sz ≤ t.m.sz, st := fun t => [(13, .val (I t.k)), (10, .val (I t.i)), (4, .val (cmpV bl)), (0, .val (.slice av n c)), (1, .val (I x)), (3, .val (I z)), (2, .val (I y))], own := fun _ => [], m := fun t => t.m, μ := fun t => t.i - t.k }
  | 15 => { A := SyX, inv := fun t => x ≤ t.i ∧ t.i ≤ t.j ∧ t.j ≤ y ∧ (∀ p, x ≤ p → p < t.i → lexN f (g p) (g y)) ∧ (∀ p, t.j ≤ p → p < y → lexN f (g y) (g p)), st := fun t => [(14, .val (I t.i)), (15, .val (I t.j)), (4, .val (cmpV bl)), (0, .val (.slice av n c)), (1, .val (I x)), (3, .val (I z)), (2, .val (I y))], own := fun _ => [], m := fun _ => m, μ := fun t => t.j - t.i }
  | 21 => { A := SyX, inv := fun t => x ≤ t.i ∧ t.i ≤ y ∧ (∀ p, x ≤ p → p < t.i → lexN f (g p) (g y)) ∧ (∀ p, t.i ≤ p → p < y → lexN f (g y) (g p)) ∧ t.i ≤ t.k ∧ t.k ≤ y ∧ DatC b o n env ok (rotF t.k y (y + 1) g) t.m ∧ m.sz ≤ t.m.sz, st := fun t => [(17, .val (I t.k)), (14, .val (I t.i)), (4, .val (cmpV bl)), (0, .val (.slice av n c)), (1, .val (I x)), (3, .val (I z)), (2, .val (I y))], own := fun _ => [], m := fun t => t.m, μ := fun t => t.k }
  | 32 => { A := SyX, inv := fun t => t.i = L ∧ t.j = R, st := fun t => [(20, .val (I t.i)), (21, .val (I t.j)), (4, .val (cmpV bl)), (0, .val (.slice av n c)), (19, .val (I (mid + y : Nat))), (2, .val (I y)), (1, .val (I x)), (18, .val (I mid)), (3, .val (I z))], own := fun _ => [], m := fun _ => m, μ := fun _ => 0, cut := true }
  | 33 => { A := SyX, inv := fun t => SymB f y mid L R t.i t.j g, st := fun t => [(20, .val (I t.i)), (21, .val (I t.j)), (4, .val (cmpV bl)), (0, .val (.slice av n c)), (22, .val (I (mid + y - 1 : Nat))), (19, .val (I (mid + y : Nat))), (2, .val (I y)), (1, .val (I x)), (18, .val (I mid)), (3, .val (I z))], own := fun _ => [], m := fun _ => m, μ := fun t => t.j - t.i }
  | 41 => { A := SyX, inv := fun t => SymR f x mid z t.i t.j t.g ∧ DatC b o n env ok t.g t.m ∧ Mem x z g t.g ∧ m.sz ≤ t.m.sz, st := fun t => [(20, .val (I t.i)), (24, .val (I t.j)), (4, .val (cmpV bl)), (0, .val (.slice av n c)), (1, .val (I x)), (18, .val (I mid)), (3, .val (I z))], own := fun _ => [], m := fun t => t.m, μ := fun _ => 0, cut := true }
  | 43 => { A := SyX, inv := fun t => mid ≤ t.j ∧ t.j ≤ z ∧ Srt f x mid t.g ∧ Srt f mid t.j t.g ∧ Srt f t.j z t.g ∧ Stb f mid z t.g ∧ (∀ p q, x ≤ p → p < mid → mid ≤ q → q < z → lexN f (t.g p) (t.g q)) ∧ DatC b o n env ok t.g t.m ∧ Mem x z g t.g ∧ m.sz ≤ t.m.sz, st := fun t => [(24, .val (I t.j)), (4, .val (cmpV bl)), (0, .val (.slice av n c)), (18, .val (I mid)), (3, .val (I z))], own := fun _ => [], m := fun t => t.m, μ := fun _ => 0, cut := true }
  | 11 => { noAnn 0 with loose := true }
  | 23 => { noAnn 0 with loose := true }
  | _ => noAnn 0

theorem halfN {i j : Nat} (hi : i ≤ 4194304) (hj : j ≤ 4194304) : IntKind.i64.wrap ((IntKind.u64.wrap (IntKind.i64.wrap ((i : Int) + (j : Int)))).fdiv (2 ^ 1)) = (((i + j) / 2 : Nat) : Int) := by
  rw [Int.fdiv_eq_ediv_of_nonneg _ (by decide)]
  simp [IntKind.wrap_i64, IntKind.wrap_u64]; omega

set_option maxHeartbeats 1000000 in
theorem symmerge_s (av : Option Addr) (b o n c bl : Nat) (ha : 0 < n → av = some ⟨b, o, none⟩) (env : M → Prop) (ok : Int → Prop) (f : Int → Int) (C : CmpC b bl env ok f) (hn : n ≤ 4194304) : ∀ (N x y z : Nat) (g : Nat → Int), z - x ≤ N → x < y → y < z → z ≤ n → Stb f x z g → Srt f x y g → Srt f y z g → ∀ (m : M) (h : DatC b o n env ok g m),
    SpecW Try.prog 73 [.slice av n c, I x, I y, I z, cmpV bl] m (fun z => 0 < n ∧ z = b) fun v m' => v = .tuple #[] ∧ ∃ g', DatC b o n env ok g' m' ∧ Mem x z g g' ∧ Srt f x z g' := by
  intro N
  induction N with
  | zero => intro x y z g h1 h2 h3; omega
  | succ N ih =>
  intro x y z g hN hxy hyz hz hst hl hr m h
  obtain ⟨L, R, hLR⟩ : ∃ L R, SymL x y z ((x + z) / 2) L R := by
    by_cases e : (x + z) / 2 < y
    · exact ⟨_, _, hxy, hyz, rfl, fun _ => ⟨rfl, rfl⟩, fun _ => by omega⟩
    · exact ⟨_, _, hxy, hyz, rfl, fun _ => by omega, fun _ => ⟨rfl, rfl⟩⟩
  generalize hmid : (x + z) / 2 = mid at hLR
  refine SpecW.of_vc Try.func73 (ann := symAnn av b o n c bl x y z mid L R env ok f g m) ?_
  refine vc_by (X :=
      true = true ∧
      ifB (IntKind.i64.wrap ((↑y : Int) - (↑x : Int)) == (1 : Int))
      ((∃ (a : SyX),
      (y ≤ a.i ∧ a.i ≤ a.j ∧ a.j ≤ z ∧ (∀ (p : Nat), y ≤ p → p < a.i → lexN f (g p) (g x)) ∧ ∀ (p : Nat), a.j ≤ p → p < z → lexN f (g x) (g p)) ∧
      m = m ∧
      ((SV.val (Value.int IntKind.i64 (↑y : Int)) = SV.val (Value.int IntKind.i64 (↑a.i : Int)) ∧ true = true) ∧
      (SV.val (Value.int IntKind.i64 (↑z : Int)) = SV.val (Value.int IntKind.i64 (↑a.j : Int)) ∧ true = true) ∧
      (SV.val (Value.func (Fn.func (58 : FuncId)) #[] #[Value.pointer (some { block := bl, off := (0 : Nat) : Addr })]) =
      SV.val (Value.func (Fn.func (58 : FuncId)) #[] #[Value.pointer (some { block := bl, off := (0 : Nat) : Addr })]) ∧
      true = true) ∧
      (SV.val (Value.slice av n c) = SV.val (Value.slice av n c) ∧ true = true) ∧
      (SV.val (Value.int IntKind.i64 (↑x : Int)) = SV.val (Value.int IntKind.i64 (↑x : Int)) ∧ true = true) ∧
      (SV.val (Value.int IntKind.i64 (↑z : Int)) = SV.val (Value.int IntKind.i64 (↑z : Int)) ∧ true = true) ∧
      (SV.val (Value.int IntKind.i64 (↑y : Int)) = SV.val (Value.int IntKind.i64 (↑y : Int)) ∧ true = true) ∧ True) ∧
      True) ∧
      ∀ (a : SyX),
      (y ≤ a.i ∧ a.i ≤ a.j ∧ a.j ≤ z ∧ (∀ (p : Nat), y ≤ p → p < a.i → lexN f (g p) (g x)) ∧ ∀ (p : Nat), a.j ≤ p → p < z → lexN f (g x) (g p)) →
      ifB (decide ((↑a.i : Int) < (↑a.j : Int)))
      (true = true ∧
      ∃ (b : Nat),
      ∃ (off : Nat),
      av = some { block := b, off := off : Addr } ∧
      ((0 : Int) ≤ IntKind.i64.wrap ((IntKind.u64.wrap (IntKind.i64.wrap ((↑a.i : Int) + (↑a.j : Int)))).fdiv ((2 : Int) ^ (1 : Nat))) ∧
      IntKind.i64.wrap ((IntKind.u64.wrap (IntKind.i64.wrap ((↑a.i : Int) + (↑a.j : Int)))).fdiv ((2 : Int) ^ (1 : Nat))) < (↑n : Int)) ∧
      ∃ (n_1 : Int),
      CellsAt m b (off + (IntKind.i64.wrap ((IntKind.u64.wrap (IntKind.i64.wrap ((↑a.i : Int) + (↑a.j : Int)))).fdiv ((2 : Int) ^ (1 : Nat)))).toNat * (1 : Nat))
      [Value.int IntKind.i64 n_1] ∧
      ∃ (b : Nat),
      ∃ (off : Nat),
      av = some { block := b, off := off : Addr } ∧
      ((0 : Int) ≤ (↑x : Int) ∧ (↑x : Int) < (↑n : Int)) ∧
      ∃ (n_2 : Int),
      CellsAt m b (off + (↑x : Int).toNat * (1 : Nat)) [Value.int IntKind.i64 n_2] ∧
      ∃ (n_3 : Int),
      QSpec Try.prog (58 : FuncId)
      [Value.int IntKind.i64 n_1, Value.int IntKind.i64 n_2, Value.pointer (some { block := bl, off := (0 : Nat) : Addr })] m
      (Value.int IntKind.i64 n_3) ∧
      ifB (decide (n_3 < (0 : Int)))
      (∃ (a' : SyX),
      ((y ≤ a'.i ∧
      a'.i ≤ a'.j ∧
      a'.j ≤ z ∧ (∀ (p : Nat), y ≤ p → p < a'.i → lexN f (g p) (g x)) ∧ ∀ (p : Nat), a'.j ≤ p → p < z → lexN f (g x) (g p)) ∧
      m = m ∧
      ((SV.val
      (Value.int IntKind.i64
      (IntKind.i64.wrap
      (IntKind.i64.wrap
      ((IntKind.u64.wrap (IntKind.i64.wrap ((↑a.i : Int) + (↑a.j : Int)))).fdiv ((2 : Int) ^ (1 : Nat))) +
      (1 : Int)))) =
      SV.val (Value.int IntKind.i64 (↑a'.i : Int)) ∧
      true = true) ∧
      (SV.val (Value.int IntKind.i64 (↑a.j : Int)) = SV.val (Value.int IntKind.i64 (↑a'.j : Int)) ∧ true = true) ∧
      (SV.val (Value.func (Fn.func (58 : FuncId)) #[] #[Value.pointer (some { block := bl, off := (0 : Nat) : Addr })]) =
      SV.val (Value.func (Fn.func (58 : FuncId)) #[] #[Value.pointer (some { block := bl, off := (0 : Nat) : Addr })]) ∧
      true = true) ∧
      (SV.val (Value.slice av n c) = SV.val (Value.slice av n c) ∧ true = true) ∧
      (SV.val (Value.int IntKind.i64 (↑x : Int)) = SV.val (Value.int IntKind.i64 (↑x : Int)) ∧ true = true) ∧
      (SV.val (Value.int IntKind.i64 (↑z : Int)) = SV.val (Value.int IntKind.i64 (↑z : Int)) ∧ true = true) ∧
      (SV.val (Value.int IntKind.i64 (↑y : Int)) = SV.val (Value.int IntKind.i64 (↑y : Int)) ∧ true = true) ∧ True) ∧
      True) ∧
      a'.j - a'.i < a.j - a.i)
      (∃ (a' : SyX),
      ((y ≤ a'.i ∧
      a'.i ≤ a'.j ∧
      a'.j ≤ z ∧ (∀ (p : Nat), y ≤ p → p < a'.i → lexN f (g p) (g x)) ∧ ∀ (p : Nat), a'.j ≤ p → p < z → lexN f (g x) (g p)) ∧
      m = m ∧
      ((SV.val (Value.int IntKind.i64 (↑a.i : Int)) = SV.val (Value.int IntKind.i64 (↑a'.i : Int)) ∧ true = true) ∧
      (SV.val
      (Value.int IntKind.i64
      (IntKind.i64.wrap
      ((IntKind.u64.wrap (IntKind.i64.wrap ((↑a.i : Int) + (↑a.j : Int)))).fdiv ((2 : Int) ^ (1 : Nat))))) =
      SV.val (Value.int IntKind.i64 (↑a'.j : Int)) ∧
      true = true) ∧
      (SV.val (Value.func (Fn.func (58 : FuncId)) #[] #[Value.pointer (some { block := bl, off := (0 : Nat) : Addr })]) =
      SV.val (Value.func (Fn.func (58 : FuncId)) #[] #[Value.pointer (some { block := bl, off := (0 : Nat) : Addr })]) ∧
      true = true) ∧
      (SV.val (Value.slice av n c) = SV.val (Value.slice av n c) ∧ true = true) ∧
      (SV.val (Value.int IntKind.i64 (↑x : Int)) = SV.val (Value.int IntKind.i64 (↑x : Int)) ∧ true = true) ∧
      (SV.val (Value.int IntKind.i64 (↑z : Int)) = SV.val (Value.int IntKind.i64 (↑z : Int)) ∧ true = true) ∧
      (SV.val (Value.int IntKind.i64 (↑y : Int)) = SV.val (Value.int IntKind.i64 (↑y : Int)) ∧ true = true) ∧ True) ∧
      True) ∧
      a'.j - a'.i < a.j - a.i))
      ((∃ (a_2 : SyX),
      (y ≤ a_2.i ∧
      a_2.i ≤ z ∧
      (∀ (p : Nat), y ≤ p → p < a_2.i → lexN f (g p) (g x)) ∧
      (∀ (p : Nat), a_2.i ≤ p → p < z → lexN f (g x) (g p)) ∧
      x ≤ a_2.k ∧ a_2.k + (1 : Nat) ≤ a_2.i ∧ DatC b o n env ok (rotF x (x + (1 : Nat)) (a_2.k + (1 : Nat)) g) a_2.m ∧ m.sz ≤ a_2.m.sz) ∧
      m = a_2.m ∧
      ((SV.val (Value.int IntKind.i64 (↑x : Int)) = SV.val (Value.int IntKind.i64 (↑a_2.k : Int)) ∧ true = true) ∧
      (SV.val (Value.int IntKind.i64 (↑a.i : Int)) = SV.val (Value.int IntKind.i64 (↑a_2.i : Int)) ∧ true = true) ∧
      (SV.val (Value.func (Fn.func (58 : FuncId)) #[] #[Value.pointer (some { block := bl, off := (0 : Nat) : Addr })]) =
      SV.val (Value.func (Fn.func (58 : FuncId)) #[] #[Value.pointer (some { block := bl, off := (0 : Nat) : Addr })]) ∧
      true = true) ∧
      (SV.val (Value.slice av n c) = SV.val (Value.slice av n c) ∧ true = true) ∧
      (SV.val (Value.int IntKind.i64 (↑x : Int)) = SV.val (Value.int IntKind.i64 (↑x : Int)) ∧ true = true) ∧
      (SV.val (Value.int IntKind.i64 (↑z : Int)) = SV.val (Value.int IntKind.i64 (↑z : Int)) ∧ true = true) ∧
      (SV.val (Value.int IntKind.i64 (↑y : Int)) = SV.val (Value.int IntKind.i64 (↑y : Int)) ∧ true = true) ∧ True) ∧
      True) ∧
      ∀ (a : SyX),
      y ≤ a.i ∧
      a.i ≤ z ∧
      (∀ (p : Nat), y ≤ p → p < a.i → lexN f (g p) (g x)) ∧
      (∀ (p : Nat), a.i ≤ p → p < z → lexN f (g x) (g p)) ∧
      x ≤ a.k ∧ a.k + (1 : Nat) ≤ a.i ∧ DatC b o n env ok (rotF x (x + (1 : Nat)) (a.k + (1 : Nat)) g) a.m ∧ m.sz ≤ a.m.sz →
      ifB (decide ((↑a.k : Int) < IntKind.i64.wrap ((↑a.i : Int) - (1 : Int))))
      (true = true ∧
      ∃ (b_1 : Nat),
      ∃ (off : Nat),
      av = some { block := b_1, off := off : Addr } ∧
      ((0 : Int) ≤ IntKind.i64.wrap ((↑a.k : Int) + (1 : Int)) ∧ IntKind.i64.wrap ((↑a.k : Int) + (1 : Int)) < (↑n : Int)) ∧
      ∃ (n_1 : Int),
      CellsAt a.m b_1 (off + (IntKind.i64.wrap ((↑a.k : Int) + (1 : Int))).toNat * (1 : Nat)) [Value.int IntKind.i64 n_1] ∧
      ∃ (b_2 : Nat),
      ∃ (off : Nat),
      av = some { block := b_2, off := off : Addr } ∧
      ((0 : Int) ≤ (↑a.k : Int) ∧ (↑a.k : Int) < (↑n : Int)) ∧
      ∃ (n_2 : Int),
      CellsAt a.m b_2 (off + (↑a.k : Int).toNat * (1 : Nat)) [Value.int IntKind.i64 n_2] ∧
      ∃ (b_3 : Nat),
      ∃ (off : Nat),
      av = some { block := b_3, off := off : Addr } ∧
      ((0 : Int) ≤ (↑a.k : Int) ∧ (↑a.k : Int) < (↑n : Int)) ∧
      (Wr m.sz (fun (z : Nat) => (0 : Nat) < n ∧ z = b) a.m b_3 (off + (↑a.k : Int).toNat * (1 : Nat))
      #[Value.int IntKind.i64 n_1].size ∧
      True ∧
      ∃ (b_4 : Nat),
      ∃ (off_1 : Nat),
      av = some { block := b_4, off := off_1 : Addr } ∧
      ((0 : Int) ≤ IntKind.i64.wrap ((↑a.k : Int) + (1 : Int)) ∧
      IntKind.i64.wrap ((↑a.k : Int) + (1 : Int)) < (↑n : Int)) ∧
      (Wr m.sz (fun (z : Nat) => (0 : Nat) < n ∧ z = b)
      (a.m.setCells b_3 (off + (↑a.k : Int).toNat * (1 : Nat)) [Value.int IntKind.i64 n_1]) b_4
      (off_1 + (IntKind.i64.wrap ((↑a.k : Int) + (1 : Int))).toNat * (1 : Nat))
      #[Value.int IntKind.i64 n_2].size ∧
      ∃ (a' : SyX),
      ((y ≤ a'.i ∧
      a'.i ≤ z ∧
      (∀ (p : Nat), y ≤ p → p < a'.i → lexN f (g p) (g x)) ∧
      (∀ (p : Nat), a'.i ≤ p → p < z → lexN f (g x) (g p)) ∧
      x ≤ a'.k ∧
      a'.k + (1 : Nat) ≤ a'.i ∧
      DatC b o n env ok (rotF x (x + (1 : Nat)) (a'.k + (1 : Nat)) g) a'.m ∧ m.sz ≤ a'.m.sz) ∧
      (a.m.setCells b_3 (off + (↑a.k : Int).toNat * (1 : Nat)) [Value.int IntKind.i64 n_1]).setCells b_4
      (off_1 + (IntKind.i64.wrap ((↑a.k : Int) + (1 : Int))).toNat * (1 : Nat))
      [Value.int IntKind.i64 n_2] =
      a'.m ∧
      ((SV.val (Value.int IntKind.i64 (IntKind.i64.wrap ((↑a.k : Int) + (1 : Int)))) =
      SV.val (Value.int IntKind.i64 (↑a'.k : Int)) ∧
      true = true) ∧
      (SV.val (Value.int IntKind.i64 (↑a.i : Int)) = SV.val (Value.int IntKind.i64 (↑a'.i : Int)) ∧
      true = true) ∧
      (SV.val
      (Value.func (Fn.func (58 : FuncId)) #[]
      #[Value.pointer (some { block := bl, off := (0 : Nat) : Addr })]) =
      SV.val
      (Value.func (Fn.func (58 : FuncId)) #[]
      #[Value.pointer (some { block := bl, off := (0 : Nat) : Addr })]) ∧
      true = true) ∧
      (SV.val (Value.slice av n c) = SV.val (Value.slice av n c) ∧ true = true) ∧
      (SV.val (Value.int IntKind.i64 (↑x : Int)) = SV.val (Value.int IntKind.i64 (↑x : Int)) ∧
      true = true) ∧
      (SV.val (Value.int IntKind.i64 (↑z : Int)) = SV.val (Value.int IntKind.i64 (↑z : Int)) ∧
      true = true) ∧
      (SV.val (Value.int IntKind.i64 (↑y : Int)) =
      SV.val (Value.int IntKind.i64 (↑y : Int)) ∧
      true = true) ∧
      True) ∧
      True) ∧
      a'.i - a'.k < a.i - a.k) ∧
      True) ∧
      True)
      (Done (Value.tuple #[] = Value.tuple #[] ∧ ∃ (g' : Nat → Int), DatC b o n env ok g' a.m ∧ Mem x z g g' ∧ Srt f x z g'))))
      (ifB (IntKind.i64.wrap ((↑z : Int) - (↑y : Int)) == (1 : Int))
      ((∃ (a : SyX),
      (x ≤ a.i ∧ a.i ≤ a.j ∧ a.j ≤ y ∧ (∀ (p : Nat), x ≤ p → p < a.i → lexN f (g p) (g y)) ∧ ∀ (p : Nat), a.j ≤ p → p < y → lexN f (g y) (g p)) ∧
      m = m ∧
      ((SV.val (Value.int IntKind.i64 (↑x : Int)) = SV.val (Value.int IntKind.i64 (↑a.i : Int)) ∧ true = true) ∧
      (SV.val (Value.int IntKind.i64 (↑y : Int)) = SV.val (Value.int IntKind.i64 (↑a.j : Int)) ∧ true = true) ∧
      (SV.val (Value.func (Fn.func (58 : FuncId)) #[] #[Value.pointer (some { block := bl, off := (0 : Nat) : Addr })]) =
      SV.val (Value.func (Fn.func (58 : FuncId)) #[] #[Value.pointer (some { block := bl, off := (0 : Nat) : Addr })]) ∧
      true = true) ∧
      (SV.val (Value.slice av n c) = SV.val (Value.slice av n c) ∧ true = true) ∧
      (SV.val (Value.int IntKind.i64 (↑x : Int)) = SV.val (Value.int IntKind.i64 (↑x : Int)) ∧ true = true) ∧
      (SV.val (Value.int IntKind.i64 (↑z : Int)) = SV.val (Value.int IntKind.i64 (↑z : Int)) ∧ true = true) ∧
      (SV.val (Value.int IntKind.i64 (↑y : Int)) = SV.val (Value.int IntKind.i64 (↑y : Int)) ∧ true = true) ∧ True) ∧
      True) ∧
      ∀ (a : SyX),
      (x ≤ a.i ∧ a.i ≤ a.j ∧ a.j ≤ y ∧ (∀ (p : Nat), x ≤ p → p < a.i → lexN f (g p) (g y)) ∧ ∀ (p : Nat), a.j ≤ p → p < y → lexN f (g y) (g p)) →
      ifB (decide ((↑a.i : Int) < (↑a.j : Int)))
      (true = true ∧
      ∃ (b : Nat),
      ∃ (off : Nat),
      av = some { block := b, off := off : Addr } ∧
      ((0 : Int) ≤ (↑y : Int) ∧ (↑y : Int) < (↑n : Int)) ∧
      ∃ (n_1 : Int),
      CellsAt m b (off + (↑y : Int).toNat * (1 : Nat)) [Value.int IntKind.i64 n_1] ∧
      ∃ (b : Nat),
      ∃ (off : Nat),
      av = some { block := b, off := off : Addr } ∧
      ((0 : Int) ≤ IntKind.i64.wrap ((IntKind.u64.wrap (IntKind.i64.wrap ((↑a.i : Int) + (↑a.j : Int)))).fdiv ((2 : Int) ^ (1 : Nat))) ∧
      IntKind.i64.wrap ((IntKind.u64.wrap (IntKind.i64.wrap ((↑a.i : Int) + (↑a.j : Int)))).fdiv ((2 : Int) ^ (1 : Nat))) < (↑n : Int)) ∧
      ∃ (n_2 : Int),
      CellsAt m b
      (off +
      (IntKind.i64.wrap ((IntKind.u64.wrap (IntKind.i64.wrap ((↑a.i : Int) + (↑a.j : Int)))).fdiv ((2 : Int) ^ (1 : Nat)))).toNat * (1 : Nat))
      [Value.int IntKind.i64 n_2] ∧
      ∃ (n_3 : Int),
      QSpec Try.prog (58 : FuncId)
      [Value.int IntKind.i64 n_1, Value.int IntKind.i64 n_2, Value.pointer (some { block := bl, off := (0 : Nat) : Addr })] m
      (Value.int IntKind.i64 n_3) ∧
      ifB (!decide (n_3 < (0 : Int)))
      (∃ (a' : SyX),
      ((x ≤ a'.i ∧
      a'.i ≤ a'.j ∧
      a'.j ≤ y ∧ (∀ (p : Nat), x ≤ p → p < a'.i → lexN f (g p) (g y)) ∧ ∀ (p : Nat), a'.j ≤ p → p < y → lexN f (g y) (g p)) ∧
      m = m ∧
      ((SV.val
      (Value.int IntKind.i64
      (IntKind.i64.wrap
      (IntKind.i64.wrap
      ((IntKind.u64.wrap (IntKind.i64.wrap ((↑a.i : Int) + (↑a.j : Int)))).fdiv ((2 : Int) ^ (1 : Nat))) +
      (1 : Int)))) =
      SV.val (Value.int IntKind.i64 (↑a'.i : Int)) ∧
      true = true) ∧
      (SV.val (Value.int IntKind.i64 (↑a.j : Int)) = SV.val (Value.int IntKind.i64 (↑a'.j : Int)) ∧ true = true) ∧
      (SV.val (Value.func (Fn.func (58 : FuncId)) #[] #[Value.pointer (some { block := bl, off := (0 : Nat) : Addr })]) =
      SV.val (Value.func (Fn.func (58 : FuncId)) #[] #[Value.pointer (some { block := bl, off := (0 : Nat) : Addr })]) ∧
      true = true) ∧
      (SV.val (Value.slice av n c) = SV.val (Value.slice av n c) ∧ true = true) ∧
      (SV.val (Value.int IntKind.i64 (↑x : Int)) = SV.val (Value.int IntKind.i64 (↑x : Int)) ∧ true = true) ∧
      (SV.val (Value.int IntKind.i64 (↑z : Int)) = SV.val (Value.int IntKind.i64 (↑z : Int)) ∧ true = true) ∧
      (SV.val (Value.int IntKind.i64 (↑y : Int)) = SV.val (Value.int IntKind.i64 (↑y : Int)) ∧ true = true) ∧ True) ∧
      True) ∧
      a'.j - a'.i < a.j - a.i)
      (∃ (a' : SyX),
      ((x ≤ a'.i ∧
      a'.i ≤ a'.j ∧
      a'.j ≤ y ∧ (∀ (p : Nat), x ≤ p → p < a'.i → lexN f (g p) (g y)) ∧ ∀ (p : Nat), a'.j ≤ p → p < y → lexN f (g y) (g p)) ∧
      m = m ∧
      ((SV.val (Value.int IntKind.i64 (↑a.i : Int)) = SV.val (Value.int IntKind.i64 (↑a'.i : Int)) ∧ true = true) ∧
      (SV.val
      (Value.int IntKind.i64
      (IntKind.i64.wrap
      ((IntKind.u64.wrap (IntKind.i64.wrap ((↑a.i : Int) + (↑a.j : Int)))).fdiv ((2 : Int) ^ (1 : Nat))))) =
      SV.val (Value.int IntKind.i64 (↑a'.j : Int)) ∧
      true = true) ∧
      (SV.val (Value.func (Fn.func (58 : FuncId)) #[] #[Value.pointer (some { block := bl, off := (0 : Nat) : Addr })]) =
      SV.val (Value.func (Fn.func (58 : FuncId)) #[] #[Value.pointer (some { block := bl, off := (0 : Nat) : Addr })]) ∧
      true = true) ∧
      (SV.val (Value.slice av n c) = SV.val (Value.slice av n c) ∧ true = true) ∧
      (SV.val (Value.int IntKind.i64 (↑x : Int)) = SV.val (Value.int IntKind.i64 (↑x : Int)) ∧ true = true) ∧
      (SV.val (Value.int IntKind.i64 (↑z : Int)) = SV.val (Value.int IntKind.i64 (↑z : Int)) ∧ true = true) ∧
      (SV.val (Value.int IntKind.i64 (↑y : Int)) = SV.val (Value.int IntKind.i64 (↑y : Int)) ∧ true = true) ∧ True) ∧
      True) ∧
      a'.j - a'.i < a.j - a.i))
      ((∃ (a_2 : SyX),
      (x ≤ a_2.i ∧
      a_2.i ≤ y ∧
      (∀ (p : Nat), x ≤ p → p < a_2.i → lexN f (g p) (g y)) ∧
      (∀ (p : Nat), a_2.i ≤ p → p < y → lexN f (g y) (g p)) ∧
      a_2.i ≤ a_2.k ∧ a_2.k ≤ y ∧ DatC b o n env ok (rotF a_2.k y (y + (1 : Nat)) g) a_2.m ∧ m.sz ≤ a_2.m.sz) ∧
      m = a_2.m ∧
      ((SV.val (Value.int IntKind.i64 (↑y : Int)) = SV.val (Value.int IntKind.i64 (↑a_2.k : Int)) ∧ true = true) ∧
      (SV.val (Value.int IntKind.i64 (↑a.i : Int)) = SV.val (Value.int IntKind.i64 (↑a_2.i : Int)) ∧ true = true) ∧
      (SV.val (Value.func (Fn.func (58 : FuncId)) #[] #[Value.pointer (some { block := bl, off := (0 : Nat) : Addr })]) =
      SV.val (Value.func (Fn.func (58 : FuncId)) #[] #[Value.pointer (some { block := bl, off := (0 : Nat) : Addr })]) ∧
      true = true) ∧
      (SV.val (Value.slice av n c) = SV.val (Value.slice av n c) ∧ true = true) ∧
      (SV.val (Value.int IntKind.i64 (↑x : Int)) = SV.val (Value.int IntKind.i64 (↑x : Int)) ∧ true = true) ∧
      (SV.val (Value.int IntKind.i64 (↑z : Int)) = SV.val (Value.int IntKind.i64 (↑z : Int)) ∧ true = true) ∧
      (SV.val (Value.int IntKind.i64 (↑y : Int)) = SV.val (Value.int IntKind.i64 (↑y : Int)) ∧ true = true) ∧ True) ∧
      True) ∧
      ∀ (a : SyX),
      x ≤ a.i ∧
      a.i ≤ y ∧
      (∀ (p : Nat), x ≤ p → p < a.i → lexN f (g p) (g y)) ∧
      (∀ (p : Nat), a.i ≤ p → p < y → lexN f (g y) (g p)) ∧ a.i ≤ a.k ∧ a.k ≤ y ∧ DatC b o n env ok (rotF a.k y (y + (1 : Nat)) g) a.m ∧ m.sz ≤ a.m.sz →
      ifB (decide ((↑a.k : Int) > (↑a.i : Int)))
      (true = true ∧
      ∃ (b_1 : Nat),
      ∃ (off : Nat),
      av = some { block := b_1, off := off : Addr } ∧
      ((0 : Int) ≤ IntKind.i64.wrap ((↑a.k : Int) - (1 : Int)) ∧ IntKind.i64.wrap ((↑a.k : Int) - (1 : Int)) < (↑n : Int)) ∧
      ∃ (n_1 : Int),
      CellsAt a.m b_1 (off + (IntKind.i64.wrap ((↑a.k : Int) - (1 : Int))).toNat * (1 : Nat)) [Value.int IntKind.i64 n_1] ∧
      ∃ (b_2 : Nat),
      ∃ (off : Nat),
      av = some { block := b_2, off := off : Addr } ∧
      ((0 : Int) ≤ (↑a.k : Int) ∧ (↑a.k : Int) < (↑n : Int)) ∧
      ∃ (n_2 : Int),
      CellsAt a.m b_2 (off + (↑a.k : Int).toNat * (1 : Nat)) [Value.int IntKind.i64 n_2] ∧
      ∃ (b_3 : Nat),
      ∃ (off : Nat),
      av = some { block := b_3, off := off : Addr } ∧
      ((0 : Int) ≤ (↑a.k : Int) ∧ (↑a.k : Int) < (↑n : Int)) ∧
      (Wr m.sz (fun (z : Nat) => (0 : Nat) < n ∧ z = b) a.m b_3 (off + (↑a.k : Int).toNat * (1 : Nat))
      #[Value.int IntKind.i64 n_1].size ∧
      True ∧
      ∃ (b_4 : Nat),
      ∃ (off_1 : Nat),
      av = some { block := b_4, off := off_1 : Addr } ∧
      ((0 : Int) ≤ IntKind.i64.wrap ((↑a.k : Int) - (1 : Int)) ∧
      IntKind.i64.wrap ((↑a.k : Int) - (1 : Int)) < (↑n : Int)) ∧
      (Wr m.sz (fun (z : Nat) => (0 : Nat) < n ∧ z = b)
      (a.m.setCells b_3 (off + (↑a.k : Int).toNat * (1 : Nat)) [Value.int IntKind.i64 n_1]) b_4
      (off_1 + (IntKind.i64.wrap ((↑a.k : Int) - (1 : Int))).toNat * (1 : Nat))
      #[Value.int IntKind.i64 n_2].size ∧
      ∃ (a' : SyX),
      ((x ≤ a'.i ∧
      a'.i ≤ y ∧
      (∀ (p : Nat), x ≤ p → p < a'.i → lexN f (g p) (g y)) ∧
      (∀ (p : Nat), a'.i ≤ p → p < y → lexN f (g y) (g p)) ∧
      a'.i ≤ a'.k ∧
      a'.k ≤ y ∧ DatC b o n env ok (rotF a'.k y (y + (1 : Nat)) g) a'.m ∧ m.sz ≤ a'.m.sz) ∧
      (a.m.setCells b_3 (off + (↑a.k : Int).toNat * (1 : Nat)) [Value.int IntKind.i64 n_1]).setCells b_4
      (off_1 + (IntKind.i64.wrap ((↑a.k : Int) - (1 : Int))).toNat * (1 : Nat))
      [Value.int IntKind.i64 n_2] =
      a'.m ∧
      ((SV.val (Value.int IntKind.i64 (IntKind.i64.wrap ((↑a.k : Int) - (1 : Int)))) =
      SV.val (Value.int IntKind.i64 (↑a'.k : Int)) ∧
      true = true) ∧
      (SV.val (Value.int IntKind.i64 (↑a.i : Int)) = SV.val (Value.int IntKind.i64 (↑a'.i : Int)) ∧
      true = true) ∧
      (SV.val
      (Value.func (Fn.func (58 : FuncId)) #[]
      #[Value.pointer (some { block := bl, off := (0 : Nat) : Addr })]) =
      SV.val
      (Value.func (Fn.func (58 : FuncId)) #[]
      #[Value.pointer (some { block := bl, off := (0 : Nat) : Addr })]) ∧
      true = true) ∧
      (SV.val (Value.slice av n c) = SV.val (Value.slice av n c) ∧ true = true) ∧
      (SV.val (Value.int IntKind.i64 (↑x : Int)) = SV.val (Value.int IntKind.i64 (↑x : Int)) ∧
      true = true) ∧
      (SV.val (Value.int IntKind.i64 (↑z : Int)) =
      SV.val (Value.int IntKind.i64 (↑z : Int)) ∧
      true = true) ∧
      (SV.val (Value.int IntKind.i64 (↑y : Int)) =
      SV.val (Value.int IntKind.i64 (↑y : Int)) ∧
      true = true) ∧
      True) ∧
      True) ∧
      a'.k < a.k) ∧
      True) ∧
      True)
      (Done (Value.tuple #[] = Value.tuple #[] ∧ ∃ (g' : Nat → Int), DatC b o n env ok g' a.m ∧ Mem x z g g' ∧ Srt f x z g'))))
      (ifB (decide ((↑y : Int) > IntKind.i64.wrap ((IntKind.u64.wrap (IntKind.i64.wrap ((↑x : Int) + (↑z : Int)))).fdiv ((2 : Int) ^ (1 : Nat)))))
      (∃ (x_1 : SyX),
      (x_1.i = L ∧ x_1.j = R) ∧
      m = m ∧
      ((SV.val
      (Value.int IntKind.i64
      (IntKind.i64.wrap
      (IntKind.i64.wrap (IntKind.i64.wrap ((IntKind.u64.wrap (IntKind.i64.wrap ((↑x : Int) + (↑z : Int)))).fdiv ((2 : Int) ^ (1 : Nat))) + (↑y : Int)) -
      (↑z : Int)))) =
      SV.val (Value.int IntKind.i64 (↑x_1.i : Int)) ∧
      true = true) ∧
      (SV.val (Value.int IntKind.i64 (IntKind.i64.wrap ((IntKind.u64.wrap (IntKind.i64.wrap ((↑x : Int) + (↑z : Int)))).fdiv ((2 : Int) ^ (1 : Nat))))) =
      SV.val (Value.int IntKind.i64 (↑x_1.j : Int)) ∧
      true = true) ∧
      (SV.val (Value.func (Fn.func (58 : FuncId)) #[] #[Value.pointer (some { block := bl, off := (0 : Nat) : Addr })]) =
      SV.val (Value.func (Fn.func (58 : FuncId)) #[] #[Value.pointer (some { block := bl, off := (0 : Nat) : Addr })]) ∧
      true = true) ∧
      (SV.val (Value.slice av n c) = SV.val (Value.slice av n c) ∧ true = true) ∧
      (SV.val
      (Value.int IntKind.i64
      (IntKind.i64.wrap
      (IntKind.i64.wrap ((IntKind.u64.wrap (IntKind.i64.wrap ((↑x : Int) + (↑z : Int)))).fdiv ((2 : Int) ^ (1 : Nat))) + (↑y : Int)))) =
      SV.val (Value.int IntKind.i64 (↑(mid + y) : Int)) ∧
      true = true) ∧
      (SV.val (Value.int IntKind.i64 (↑y : Int)) = SV.val (Value.int IntKind.i64 (↑y : Int)) ∧ true = true) ∧
      (SV.val (Value.int IntKind.i64 (↑x : Int)) = SV.val (Value.int IntKind.i64 (↑x : Int)) ∧ true = true) ∧
      (SV.val (Value.int IntKind.i64 (IntKind.i64.wrap ((IntKind.u64.wrap (IntKind.i64.wrap ((↑x : Int) + (↑z : Int)))).fdiv ((2 : Int) ^ (1 : Nat))))) =
      SV.val (Value.int IntKind.i64 (↑mid : Int)) ∧
      true = true) ∧
      (SV.val (Value.int IntKind.i64 (↑z : Int)) = SV.val (Value.int IntKind.i64 (↑z : Int)) ∧ true = true) ∧ True) ∧
      True)
      (∃ (x_1 : SyX),
      (x_1.i = L ∧ x_1.j = R) ∧
      m = m ∧
      ((SV.val (Value.int IntKind.i64 (↑x : Int)) = SV.val (Value.int IntKind.i64 (↑x_1.i : Int)) ∧ true = true) ∧
      (SV.val (Value.int IntKind.i64 (↑y : Int)) = SV.val (Value.int IntKind.i64 (↑x_1.j : Int)) ∧ true = true) ∧
      (SV.val (Value.func (Fn.func (58 : FuncId)) #[] #[Value.pointer (some { block := bl, off := (0 : Nat) : Addr })]) =
      SV.val (Value.func (Fn.func (58 : FuncId)) #[] #[Value.pointer (some { block := bl, off := (0 : Nat) : Addr })]) ∧
      true = true) ∧
      (SV.val (Value.slice av n c) = SV.val (Value.slice av n c) ∧ true = true) ∧
      (SV.val
      (Value.int IntKind.i64
      (IntKind.i64.wrap
      (IntKind.i64.wrap ((IntKind.u64.wrap (IntKind.i64.wrap ((↑x : Int) + (↑z : Int)))).fdiv ((2 : Int) ^ (1 : Nat))) + (↑y : Int)))) =
      SV.val (Value.int IntKind.i64 (↑(mid + y) : Int)) ∧
      true = true) ∧
      (SV.val (Value.int IntKind.i64 (↑y : Int)) = SV.val (Value.int IntKind.i64 (↑y : Int)) ∧ true = true) ∧
      (SV.val (Value.int IntKind.i64 (↑x : Int)) = SV.val (Value.int IntKind.i64 (↑x : Int)) ∧ true = true) ∧
      (SV.val (Value.int IntKind.i64 (IntKind.i64.wrap ((IntKind.u64.wrap (IntKind.i64.wrap ((↑x : Int) + (↑z : Int)))).fdiv ((2 : Int) ^ (1 : Nat))))) =
      SV.val (Value.int IntKind.i64 (↑mid : Int)) ∧
      true = true) ∧
      (SV.val (Value.int IntKind.i64 (↑z : Int)) = SV.val (Value.int IntKind.i64 (↑z : Int)) ∧ true = true) ∧ True) ∧
      True) ∧
      ∀ (x_1 : SyX),
      x_1.i = L ∧ x_1.j = R →
      (∃ (a : SyX),
      SymB f y mid L R a.i a.j g ∧
      m = m ∧
      ((SV.val (Value.int IntKind.i64 (↑x_1.i : Int)) = SV.val (Value.int IntKind.i64 (↑a.i : Int)) ∧ true = true) ∧
      (SV.val (Value.int IntKind.i64 (↑x_1.j : Int)) = SV.val (Value.int IntKind.i64 (↑a.j : Int)) ∧ true = true) ∧
      (SV.val (Value.func (Fn.func (58 : FuncId)) #[] #[Value.pointer (some { block := bl, off := (0 : Nat) : Addr })]) =
      SV.val (Value.func (Fn.func (58 : FuncId)) #[] #[Value.pointer (some { block := bl, off := (0 : Nat) : Addr })]) ∧
      true = true) ∧
      (SV.val (Value.slice av n c) = SV.val (Value.slice av n c) ∧ true = true) ∧
      (SV.val (Value.int IntKind.i64 (IntKind.i64.wrap ((↑(mid + y) : Int) - (1 : Int)))) = SV.val (Value.int IntKind.i64 (↑(mid + y - (1 : Nat)) : Int)) ∧
      true = true) ∧
      (SV.val (Value.int IntKind.i64 (↑(mid + y) : Int)) = SV.val (Value.int IntKind.i64 (↑(mid + y) : Int)) ∧ true = true) ∧
      (SV.val (Value.int IntKind.i64 (↑y : Int)) = SV.val (Value.int IntKind.i64 (↑y : Int)) ∧ true = true) ∧
      (SV.val (Value.int IntKind.i64 (↑x : Int)) = SV.val (Value.int IntKind.i64 (↑x : Int)) ∧ true = true) ∧
      (SV.val (Value.int IntKind.i64 (↑mid : Int)) = SV.val (Value.int IntKind.i64 (↑mid : Int)) ∧ true = true) ∧
      (SV.val (Value.int IntKind.i64 (↑z : Int)) = SV.val (Value.int IntKind.i64 (↑z : Int)) ∧ true = true) ∧ True) ∧
      True) ∧
      ∀ (a : SyX),
      SymB f y mid L R a.i a.j g →
      ifB (decide ((↑a.i : Int) < (↑a.j : Int)))
      (true = true ∧
      ∃ (b : Nat),
      ∃ (off : Nat),
      av = some { block := b, off := off : Addr } ∧
      ((0 : Int) ≤
      IntKind.i64.wrap
      ((↑(mid + y - (1 : Nat)) : Int) -
      IntKind.i64.wrap ((IntKind.u64.wrap (IntKind.i64.wrap ((↑a.i : Int) + (↑a.j : Int)))).fdiv ((2 : Int) ^ (1 : Nat)))) ∧
      IntKind.i64.wrap
      ((↑(mid + y - (1 : Nat)) : Int) -
      IntKind.i64.wrap ((IntKind.u64.wrap (IntKind.i64.wrap ((↑a.i : Int) + (↑a.j : Int)))).fdiv ((2 : Int) ^ (1 : Nat)))) <
      (↑n : Int)) ∧
      ∃ (n_1 : Int),
      CellsAt m b
      (off +
      (IntKind.i64.wrap
      ((↑(mid + y - (1 : Nat)) : Int) -
      IntKind.i64.wrap ((IntKind.u64.wrap (IntKind.i64.wrap ((↑a.i : Int) + (↑a.j : Int)))).fdiv ((2 : Int) ^ (1 : Nat))))).toNat *
      (1 : Nat))
      [Value.int IntKind.i64 n_1] ∧
      ∃ (b : Nat),
      ∃ (off : Nat),
      av = some { block := b, off := off : Addr } ∧
      ((0 : Int) ≤ IntKind.i64.wrap ((IntKind.u64.wrap (IntKind.i64.wrap ((↑a.i : Int) + (↑a.j : Int)))).fdiv ((2 : Int) ^ (1 : Nat))) ∧
      IntKind.i64.wrap ((IntKind.u64.wrap (IntKind.i64.wrap ((↑a.i : Int) + (↑a.j : Int)))).fdiv ((2 : Int) ^ (1 : Nat))) < (↑n : Int)) ∧
      ∃ (n_2 : Int),
      CellsAt m b
      (off +
      (IntKind.i64.wrap ((IntKind.u64.wrap (IntKind.i64.wrap ((↑a.i : Int) + (↑a.j : Int)))).fdiv ((2 : Int) ^ (1 : Nat)))).toNat *
      (1 : Nat))
      [Value.int IntKind.i64 n_2] ∧
      ∃ (n_3 : Int),
      QSpec Try.prog (58 : FuncId)
      [Value.int IntKind.i64 n_1, Value.int IntKind.i64 n_2, Value.pointer (some { block := bl, off := (0 : Nat) : Addr })] m
      (Value.int IntKind.i64 n_3) ∧
      ifB (!decide (n_3 < (0 : Int)))
      (∃ (a' : SyX),
      (SymB f y mid L R a'.i a'.j g ∧
      m = m ∧
      ((SV.val
      (Value.int IntKind.i64
      (IntKind.i64.wrap
      (IntKind.i64.wrap
      ((IntKind.u64.wrap (IntKind.i64.wrap ((↑a.i : Int) + (↑a.j : Int)))).fdiv ((2 : Int) ^ (1 : Nat))) +
      (1 : Int)))) =
      SV.val (Value.int IntKind.i64 (↑a'.i : Int)) ∧
      true = true) ∧
      (SV.val (Value.int IntKind.i64 (↑a.j : Int)) = SV.val (Value.int IntKind.i64 (↑a'.j : Int)) ∧ true = true) ∧
      (SV.val
      (Value.func (Fn.func (58 : FuncId)) #[]
      #[Value.pointer (some { block := bl, off := (0 : Nat) : Addr })]) =
      SV.val
      (Value.func (Fn.func (58 : FuncId)) #[]
      #[Value.pointer (some { block := bl, off := (0 : Nat) : Addr })]) ∧
      true = true) ∧
      (SV.val (Value.slice av n c) = SV.val (Value.slice av n c) ∧ true = true) ∧
      (SV.val (Value.int IntKind.i64 (↑(mid + y - (1 : Nat)) : Int)) =
      SV.val (Value.int IntKind.i64 (↑(mid + y - (1 : Nat)) : Int)) ∧
      true = true) ∧
      (SV.val (Value.int IntKind.i64 (↑(mid + y) : Int)) = SV.val (Value.int IntKind.i64 (↑(mid + y) : Int)) ∧
      true = true) ∧
      (SV.val (Value.int IntKind.i64 (↑y : Int)) = SV.val (Value.int IntKind.i64 (↑y : Int)) ∧ true = true) ∧
      (SV.val (Value.int IntKind.i64 (↑x : Int)) = SV.val (Value.int IntKind.i64 (↑x : Int)) ∧ true = true) ∧
      (SV.val (Value.int IntKind.i64 (↑mid : Int)) = SV.val (Value.int IntKind.i64 (↑mid : Int)) ∧
      true = true) ∧
      (SV.val (Value.int IntKind.i64 (↑z : Int)) = SV.val (Value.int IntKind.i64 (↑z : Int)) ∧
      true = true) ∧
      True) ∧
      True) ∧
      a'.j - a'.i < a.j - a.i)
      (∃ (a' : SyX),
      (SymB f y mid L R a'.i a'.j g ∧
      m = m ∧
      ((SV.val (Value.int IntKind.i64 (↑a.i : Int)) = SV.val (Value.int IntKind.i64 (↑a'.i : Int)) ∧ true = true) ∧
      (SV.val
      (Value.int IntKind.i64
      (IntKind.i64.wrap
      ((IntKind.u64.wrap (IntKind.i64.wrap ((↑a.i : Int) + (↑a.j : Int)))).fdiv ((2 : Int) ^ (1 : Nat))))) =
      SV.val (Value.int IntKind.i64 (↑a'.j : Int)) ∧
      true = true) ∧
      (SV.val
      (Value.func (Fn.func (58 : FuncId)) #[]
      #[Value.pointer (some { block := bl, off := (0 : Nat) : Addr })]) =
      SV.val
      (Value.func (Fn.func (58 : FuncId)) #[]
      #[Value.pointer (some { block := bl, off := (0 : Nat) : Addr })]) ∧
      true = true) ∧
      (SV.val (Value.slice av n c) = SV.val (Value.slice av n c) ∧ true = true) ∧
      (SV.val (Value.int IntKind.i64 (↑(mid + y - (1 : Nat)) : Int)) =
      SV.val (Value.int IntKind.i64 (↑(mid + y - (1 : Nat)) : Int)) ∧
      true = true) ∧
      (SV.val (Value.int IntKind.i64 (↑(mid + y) : Int)) = SV.val (Value.int IntKind.i64 (↑(mid + y) : Int)) ∧
      true = true) ∧
      (SV.val (Value.int IntKind.i64 (↑y : Int)) = SV.val (Value.int IntKind.i64 (↑y : Int)) ∧ true = true) ∧
      (SV.val (Value.int IntKind.i64 (↑x : Int)) = SV.val (Value.int IntKind.i64 (↑x : Int)) ∧ true = true) ∧
      (SV.val (Value.int IntKind.i64 (↑mid : Int)) = SV.val (Value.int IntKind.i64 (↑mid : Int)) ∧
      true = true) ∧
      (SV.val (Value.int IntKind.i64 (↑z : Int)) = SV.val (Value.int IntKind.i64 (↑z : Int)) ∧
      true = true) ∧
      True) ∧
      True) ∧
      a'.j - a'.i < a.j - a.i))
      (ifB (decide ((↑a.i : Int) < (↑y : Int)))
      (ifB (decide ((↑y : Int) < IntKind.i64.wrap ((↑(mid + y) : Int) - (↑a.i : Int))))
      (∃ (S' : Nat → Prop),
      (∀ (b_1 : Nat), S' b_1 → m.uf b_1 ∧ (m.sz ≤ b_1 ∨ (0 : Nat) < n ∧ b_1 = b)) ∧
      ∀ (n_1 : Nat),
      m.sz ≤ n_1 →
      SpecW Try.prog (76 : Nat)
      [Value.slice av n c, Value.int IntKind.i64 (↑a.i : Int), Value.int IntKind.i64 (↑y : Int),
      Value.int IntKind.i64 (IntKind.i64.wrap ((↑(mid + y) : Int) - (↑a.i : Int))),
      Value.func (Fn.func (58 : FuncId)) #[] #[Value.pointer (some { block := bl, off := (0 : Nat) : Addr })]]
      { π := m.π, sz := n_1, uf := m.uf : M } S' fun (v : Value) (m' : M) =>
      v = Value.tuple #[] ∧
      ∃ (x_2 : SyX),
      (SymR f x mid z x_2.i x_2.j x_2.g ∧ DatC b o n env ok x_2.g x_2.m ∧ Mem x z g x_2.g ∧ m.sz ≤ x_2.m.sz) ∧
      m' = x_2.m ∧
      ((SV.val (Value.int IntKind.i64 (↑a.i : Int)) = SV.val (Value.int IntKind.i64 (↑x_2.i : Int)) ∧ true = true) ∧
      (SV.val (Value.int IntKind.i64 (IntKind.i64.wrap ((↑(mid + y) : Int) - (↑a.i : Int)))) =
      SV.val (Value.int IntKind.i64 (↑x_2.j : Int)) ∧
      true = true) ∧
      (SV.val (Value.func (Fn.func (58 : FuncId)) #[] #[Value.pointer (some { block := bl, off := (0 : Nat) : Addr })]) =
      SV.val (Value.func (Fn.func (58 : FuncId)) #[] #[Value.pointer (some { block := bl, off := (0 : Nat) : Addr })]) ∧
      true = true) ∧
      (SV.val (Value.slice av n c) = SV.val (Value.slice av n c) ∧ true = true) ∧
      (SV.val (Value.int IntKind.i64 (↑x : Int)) = SV.val (Value.int IntKind.i64 (↑x : Int)) ∧ true = true) ∧
      (SV.val (Value.int IntKind.i64 (↑mid : Int)) = SV.val (Value.int IntKind.i64 (↑mid : Int)) ∧ true = true) ∧
      (SV.val (Value.int IntKind.i64 (↑z : Int)) = SV.val (Value.int IntKind.i64 (↑z : Int)) ∧ true = true) ∧ True) ∧
      True)
      (∃ (x_2 : SyX),
      (SymR f x mid z x_2.i x_2.j x_2.g ∧ DatC b o n env ok x_2.g x_2.m ∧ Mem x z g x_2.g ∧ m.sz ≤ x_2.m.sz) ∧
      m = x_2.m ∧
      ((SV.val (Value.int IntKind.i64 (↑a.i : Int)) = SV.val (Value.int IntKind.i64 (↑x_2.i : Int)) ∧ true = true) ∧
      (SV.val (Value.int IntKind.i64 (IntKind.i64.wrap ((↑(mid + y) : Int) - (↑a.i : Int)))) = SV.val (Value.int IntKind.i64 (↑x_2.j : Int)) ∧
      true = true) ∧
      (SV.val (Value.func (Fn.func (58 : FuncId)) #[] #[Value.pointer (some { block := bl, off := (0 : Nat) : Addr })]) =
      SV.val (Value.func (Fn.func (58 : FuncId)) #[] #[Value.pointer (some { block := bl, off := (0 : Nat) : Addr })]) ∧
      true = true) ∧
      (SV.val (Value.slice av n c) = SV.val (Value.slice av n c) ∧ true = true) ∧
      (SV.val (Value.int IntKind.i64 (↑x : Int)) = SV.val (Value.int IntKind.i64 (↑x : Int)) ∧ true = true) ∧
      (SV.val (Value.int IntKind.i64 (↑mid : Int)) = SV.val (Value.int IntKind.i64 (↑mid : Int)) ∧ true = true) ∧
      (SV.val (Value.int IntKind.i64 (↑z : Int)) = SV.val (Value.int IntKind.i64 (↑z : Int)) ∧ true = true) ∧ True) ∧
      True))
      (∃ (x_2 : SyX),
      (SymR f x mid z x_2.i x_2.j x_2.g ∧ DatC b o n env ok x_2.g x_2.m ∧ Mem x z g x_2.g ∧ m.sz ≤ x_2.m.sz) ∧
      m = x_2.m ∧
      ((SV.val (Value.int IntKind.i64 (↑a.i : Int)) = SV.val (Value.int IntKind.i64 (↑x_2.i : Int)) ∧ true = true) ∧
      (SV.val (Value.int IntKind.i64 (IntKind.i64.wrap ((↑(mid + y) : Int) - (↑a.i : Int)))) = SV.val (Value.int IntKind.i64 (↑x_2.j : Int)) ∧
      true = true) ∧
      (SV.val (Value.func (Fn.func (58 : FuncId)) #[] #[Value.pointer (some { block := bl, off := (0 : Nat) : Addr })]) =
      SV.val (Value.func (Fn.func (58 : FuncId)) #[] #[Value.pointer (some { block := bl, off := (0 : Nat) : Addr })]) ∧
      true = true) ∧
      (SV.val (Value.slice av n c) = SV.val (Value.slice av n c) ∧ true = true) ∧
      (SV.val (Value.int IntKind.i64 (↑x : Int)) = SV.val (Value.int IntKind.i64 (↑x : Int)) ∧ true = true) ∧
      (SV.val (Value.int IntKind.i64 (↑mid : Int)) = SV.val (Value.int IntKind.i64 (↑mid : Int)) ∧ true = true) ∧
      (SV.val (Value.int IntKind.i64 (↑z : Int)) = SV.val (Value.int IntKind.i64 (↑z : Int)) ∧ true = true) ∧ True) ∧
      True) ∧
      ∀ (x_2 : SyX),
      SymR f x mid z x_2.i x_2.j x_2.g ∧ DatC b o n env ok x_2.g x_2.m ∧ Mem x z g x_2.g ∧ m.sz ≤ x_2.m.sz →
      ifB (decide ((↑x : Int) < (↑x_2.i : Int)))
      (ifB (decide ((↑x_2.i : Int) < (↑mid : Int)))
      (∃ (S' : Nat → Prop),
      (∀ (b_1 : Nat), S' b_1 → x_2.m.uf b_1 ∧ (m.sz ≤ b_1 ∨ (0 : Nat) < n ∧ b_1 = b)) ∧
      ∀ (n_1 : Nat),
      x_2.m.sz ≤ n_1 →
      SpecW Try.prog (73 : Nat)
      [Value.slice av n c, Value.int IntKind.i64 (↑x : Int), Value.int IntKind.i64 (↑x_2.i : Int), Value.int IntKind.i64 (↑mid : Int),
      Value.func (Fn.func (58 : FuncId)) #[] #[Value.pointer (some { block := bl, off := (0 : Nat) : Addr })]]
      { π := x_2.m.π, sz := n_1, uf := x_2.m.uf : M } S' fun (v : Value) (m' : M) =>
      v = Value.tuple #[] ∧
      ∃ (x_3 : SyX),
      (mid ≤ x_3.j ∧
      x_3.j ≤ z ∧
      Srt f x mid x_3.g ∧
      Srt f mid x_3.j x_3.g ∧
      Srt f x_3.j z x_3.g ∧
      Stb f mid z x_3.g ∧
      (∀ (p q : Nat), x ≤ p → p < mid → mid ≤ q → q < z → lexN f (x_3.4 p) (x_3.4 q)) ∧
      DatC b o n env ok x_3.g x_3.m ∧ Mem x z g x_3.g ∧ m.sz ≤ x_3.m.sz) ∧
      m' = x_3.m ∧
      ((SV.val (Value.int IntKind.i64 (↑x_2.j : Int)) = SV.val (Value.int IntKind.i64 (↑x_3.j : Int)) ∧ true = true) ∧
      (SV.val (Value.func (Fn.func (58 : FuncId)) #[] #[Value.pointer (some { block := bl, off := (0 : Nat) : Addr })]) =
      SV.val (Value.func (Fn.func (58 : FuncId)) #[] #[Value.pointer (some { block := bl, off := (0 : Nat) : Addr })]) ∧
      true = true) ∧
      (SV.val (Value.slice av n c) = SV.val (Value.slice av n c) ∧ true = true) ∧
      (SV.val (Value.int IntKind.i64 (↑mid : Int)) = SV.val (Value.int IntKind.i64 (↑mid : Int)) ∧ true = true) ∧
      (SV.val (Value.int IntKind.i64 (↑z : Int)) = SV.val (Value.int IntKind.i64 (↑z : Int)) ∧ true = true) ∧ True) ∧
      True)
      (∃ (x_3 : SyX),
      (mid ≤ x_3.j ∧
      x_3.j ≤ z ∧
      Srt f x mid x_3.g ∧
      Srt f mid x_3.j x_3.g ∧
      Srt f x_3.j z x_3.g ∧
      Stb f mid z x_3.g ∧
      (∀ (p q : Nat), x ≤ p → p < mid → mid ≤ q → q < z → lexN f (x_3.4 p) (x_3.4 q)) ∧
      DatC b o n env ok x_3.g x_3.m ∧ Mem x z g x_3.g ∧ m.sz ≤ x_3.m.sz) ∧
      x_2.m = x_3.m ∧
      ((SV.val (Value.int IntKind.i64 (↑x_2.j : Int)) = SV.val (Value.int IntKind.i64 (↑x_3.j : Int)) ∧ true = true) ∧
      (SV.val (Value.func (Fn.func (58 : FuncId)) #[] #[Value.pointer (some { block := bl, off := (0 : Nat) : Addr })]) =
      SV.val (Value.func (Fn.func (58 : FuncId)) #[] #[Value.pointer (some { block := bl, off := (0 : Nat) : Addr })]) ∧
      true = true) ∧
      (SV.val (Value.slice av n c) = SV.val (Value.slice av n c) ∧ true = true) ∧
      (SV.val (Value.int IntKind.i64 (↑mid : Int)) = SV.val (Value.int IntKind.i64 (↑mid : Int)) ∧ true = true) ∧
      (SV.val (Value.int IntKind.i64 (↑z : Int)) = SV.val (Value.int IntKind.i64 (↑z : Int)) ∧ true = true) ∧ True) ∧
      True))
      (∃ (x_3 : SyX),
      (mid ≤ x_3.j ∧
      x_3.j ≤ z ∧
      Srt f x mid x_3.g ∧
      Srt f mid x_3.j x_3.g ∧
      Srt f x_3.j z x_3.g ∧
      Stb f mid z x_3.g ∧
      (∀ (p q : Nat), x ≤ p → p < mid → mid ≤ q → q < z → lexN f (x_3.4 p) (x_3.4 q)) ∧
      DatC b o n env ok x_3.g x_3.m ∧ Mem x z g x_3.g ∧ m.sz ≤ x_3.m.sz) ∧
      x_2.m = x_3.m ∧
      ((SV.val (Value.int IntKind.i64 (↑x_2.j : Int)) = SV.val (Value.int IntKind.i64 (↑x_3.j : Int)) ∧ true = true) ∧
      (SV.val (Value.func (Fn.func (58 : FuncId)) #[] #[Value.pointer (some { block := bl, off := (0 : Nat) : Addr })]) =
      SV.val (Value.func (Fn.func (58 : FuncId)) #[] #[Value.pointer (some { block := bl, off := (0 : Nat) : Addr })]) ∧
      true = true) ∧
      (SV.val (Value.slice av n c) = SV.val (Value.slice av n c) ∧ true = true) ∧
      (SV.val (Value.int IntKind.i64 (↑mid : Int)) = SV.val (Value.int IntKind.i64 (↑mid : Int)) ∧ true = true) ∧
      (SV.val (Value.int IntKind.i64 (↑z : Int)) = SV.val (Value.int IntKind.i64 (↑z : Int)) ∧ true = true) ∧ True) ∧
      True) ∧
      ∀ (x_3 : SyX),
      mid ≤ x_3.j ∧
      x_3.j ≤ z ∧
      Srt f x mid x_3.g ∧
      Srt f mid x_3.j x_3.g ∧
      Srt f x_3.j z x_3.g ∧
      Stb f mid z x_3.g ∧
      (∀ (p q : Nat), x ≤ p → p < mid → mid ≤ q → q < z → lexN f (x_3.4 p) (x_3.4 q)) ∧
      DatC b o n env ok x_3.g x_3.m ∧ Mem x z g x_3.g ∧ m.sz ≤ x_3.m.sz →
      ifB (decide ((↑mid : Int) < (↑x_3.j : Int)))
      (ifB (decide ((↑x_3.j : Int) < (↑z : Int)))
      (∃ (S' : Nat → Prop),
      (∀ (b_1 : Nat), S' b_1 → x_3.m.uf b_1 ∧ (m.sz ≤ b_1 ∨ (0 : Nat) < n ∧ b_1 = b)) ∧
      ∀ (n_1 : Nat),
      x_3.m.sz ≤ n_1 →
      SpecW Try.prog (73 : Nat)
      [Value.slice av n c, Value.int IntKind.i64 (↑mid : Int), Value.int IntKind.i64 (↑x_3.j : Int), Value.int IntKind.i64 (↑z : Int),
      Value.func (Fn.func (58 : FuncId)) #[] #[Value.pointer (some { block := bl, off := (0 : Nat) : Addr })]]
      { π := x_3.m.π, sz := n_1, uf := x_3.m.uf : M } S' fun (v : Value) (m' : M) =>
      v = Value.tuple #[] ∧
      Done (Value.tuple #[] = Value.tuple #[] ∧ ∃ (g' : Nat → Int), DatC b o n env ok g' m' ∧ Mem x z g g' ∧ Srt f x z g'))
      (Done (Value.tuple #[] = Value.tuple #[] ∧ ∃ (g' : Nat → Int), DatC b o n env ok g' x_3.m ∧ Mem x z g g' ∧ Srt f x z g')))
      (Done (Value.tuple #[] = Value.tuple #[] ∧ ∃ (g' : Nat → Int), DatC b o n env ok g' x_3.m ∧ Mem x z g g' ∧ Srt f x z g')))))) (by kernel_rfl) ?_
  have hm1 : x ≤ mid := by omega
  have hm2 : mid ≤ z := by omega
  have hmz : mid < z := by omega
  have hxm : x < mid ∨ (x = mid ∧ z = x + 1) := by omega
  have hLR2 := hLR.start (f := f) (g := g)
  have hst0 : L ≤ R := hLR2.le
  have hRle : R ≤ y ∧ R ≤ mid := by
    by_cases e : mid < y
    · have := hLR.a e; omega
    · have := hLR.b (by omega); omega
  have hS0 : m.sz ≤ b ∨ (0 < n ∧ b = b) := .inr ⟨by omega, rfl⟩
  have hS : ∀ (t : M) (g' : Nat → Int), DatC b o n env ok g' t → ∀ z, (0 < n ∧ z = b) → t.uf z ∧ (m.sz ≤ z ∨ (0 < n ∧ z = b)) := fun t g' D z ⟨h0, e⟩ => by subst e; exact ⟨D.uf h0, .inr ⟨h0, rfl⟩⟩
  have wm := halfN (i := x) (j := z) (by omega) (by omega)
  rw [hmid] at wm
  have wn : IntKind.i64.wrap ((mid : Int) + y) = ((mid + y : Nat) : Int) := wrapN (by simp) (by omega)
  have wp : IntKind.i64.wrap (((mid + y : Nat) : Int) - 1) = ((mid + y - 1 : Nat) : Int) := wrapN (by omega) (by omega)
  rw [wm, wn]
  rw [wp]
  have w1 : IntKind.i64.wrap ((y : Int) - x) = ((y - x : Nat) : Int) := wrapN (by omega) (by omega)
  have w2 : IntKind.i64.wrap ((z : Int) - y) = ((z - y : Nat) : Int) := wrapN (by omega) (by omega)
  rw [w1, w2]
  refine ⟨rfl, ifB_intro (fun hb => ?_) (fun hb => ifB_intro (fun hb2 => ?_) (fun hb2 => ?_))⟩
  · have ey : y = x + 1 := by simp at hb; omega
    refine ⟨⟨⟨y, z, 0, g, m⟩, ⟨Nat.le_refl _, by simp only; omega, Nat.le_refl _, fun p h1 h2 => by simp only at h2; omega, fun p h1 h2 => by simp only at h1; omega⟩, rfl, by simp⟩, fun t ⟨t1, t2, t3, t4, t5⟩ => ifB_intro (fun hb3 => ?_) (fun hb3 => ?_)⟩
    · have hij : t.i < t.j := by simp at hb3; omega
      have wh := halfN (i := t.i) (j := t.j) (by omega) (by omega)
      rw [wh]
      have wh1 : IntKind.i64.wrap ((((t.i + t.j) / 2 : Nat) : Int) + 1) = (((t.i + t.j) / 2 + 1 : Nat) : Int) := wrapN (by simp) (by omega)
      rw [wh1]
      simp only [Int.toNat_natCast]
      have l1 : (t.i + t.j) / 2 < n := by omega
      have l2 : x < n := by omega
      obtain ⟨v, hq, hv⟩ := C.q m h.env _ _ (h.ok _ l1) (h.ok _ l2)
      refine ⟨trivial, b, o, ha (by omega), by omega, _, h.at l1, b, o, ha (by omega), by omega, _, h.at l2, v, hq, ifB_intro (fun hb4 => ⟨⟨(t.i + t.j) / 2 + 1, t.j, 0, g, m⟩, ⟨⟨by simp only; omega, by simp only; omega, t3, fun p h1 h2 => ?_, t5⟩, trivial, by simp⟩, by simp only; omega⟩) (fun hb4 => ⟨⟨t.i, (t.i + t.j) / 2, 0, g, m⟩, ⟨⟨t1, by simp only; omega, by simp only; omega, t4, fun p h1 h2 => ?_⟩, trivial, by simp⟩, by simp only; omega⟩)⟩
      · have hlt : lexN f (g ((t.i + t.j) / 2)) (g x) := .inl (hv.1 (by simpa using hb4))
        by_cases e : p = (t.i + t.j) / 2
        · rw [e]; exact hlt
        · exact lexN_trans (hr p ((t.i + t.j) / 2) h1 (by simp only at h2; omega) (by omega)) hlt
      · have hge : lexN f (g x) (g ((t.i + t.j) / 2)) := hst.more (Nat.le_refl _) (by omega) (by omega) fun hh => by
          have := hv.2 hh
          simp at hb4; omega
        by_cases e : p = (t.i + t.j) / 2
        · rw [e]; exact hge
        · exact lexN_trans hge (hr ((t.i + t.j) / 2) p (by omega) (by simp only at h1; omega) h2)
    · have hij : t.i = t.j := by simp at hb3; omega
      refine ⟨⟨⟨t.i, t.j, x, g, m⟩, ⟨t1, by simp only; omega, t4, fun p h1 h2 => t5 p (by simp only at h1; omega) h2, Nat.le_refl _, by simp only; omega, h.congr fun j hj => by simp only; rw [rotF_id1 (by omega)], Nat.le_refl _⟩, rfl, by simp⟩, fun u ⟨u1, u2, u3, u4, u5, u6, u7, u8⟩ => ?_⟩
      have wi : IntKind.i64.wrap ((u.i : Int) - 1) = ((u.i - 1 : Nat) : Int) := wrapN (by omega) (by omega)
      have wk : IntKind.i64.wrap ((u.k : Int) + 1) = ((u.k + 1 : Nat) : Int) := wrapN (by simp) (by omega)
      rw [wi, wk]
      refine ifB_intro (fun hb4 => ?_) (fun hb4 => ⟨rfl, _, u7, ?_, ?_⟩)
      · have hk : u.k < u.i - 1 := by simp at hb4; omega
        simp only [Int.toNat_natCast]
        have l1 : u.k + 1 < n := by omega
        have l2 : u.k < n := by omega
        have e1 : rotF x (x + 1) (u.k + 1) g (u.k + 1) = g (u.k + 1) := rotF_out (by omega) (by omega) (by omega)
        have e2 : rotF x (x + 1) (u.k + 1) g u.k = g x := by rw [rotF_hi (by omega) (by omega)]; congr 1; omega
        have c1 := u7.at l1
        have c2 := u7.at l2
        have o1 := u7.ok _ l1
        have o2 := u7.ok _ l2
        rw [e1] at c1 o1
        rw [e2] at c2 o2
        have hd1 := u7.set C l2 _ o1
        have hd2 := hd1.set C l1 _ o2
        refine ⟨trivial, b, o, ha (by omega), by omega, _, c1, b, o, ha (by omega), by omega, _, c2, b, o, ha (by omega), by omega, ⟨u7.wr (S := fun z => 0 < n ∧ z = b) hS0 l2, trivial, b, o, ha (by omega), by omega, ⟨hd1.wr (S := fun z => 0 < n ∧ z = b) hS0 l1, ⟨⟨u.i, 0, u.k + 1, g, (u.m.setCells b (o + u.k * 1) [I (g (u.k + 1))]).setCells b (o + (u.k + 1) * 1) [I (g x)]⟩, ⟨⟨u1, u2, u3, u4, by simp only; omega, by simp only; omega, hd2.congr fun j hj => rot_fwd u5 j, u8⟩, rfl, by simp⟩, by simp only; omega⟩⟩, trivial⟩, trivial⟩
      · exact (rotF_mem (by omega) (by omega)).wide (Nat.le_refl _) (by omega)
      · have hk : u.k + 1 = u.i := by simp at hb4; omega
        rw [hk]
        exact Srt.insFwd (by omega) u2 (by rw [← ey]; exact hr) (fun p h1 h2 => u3 p (by omega) h2) u4
  · have ez : z = y + 1 := by simp at hb2; omega
    refine ⟨⟨⟨x, y, 0, g, m⟩, ⟨Nat.le_refl _, by simp only; omega, Nat.le_refl _, fun p h1 h2 => by simp only at h2; omega, fun p h1 h2 => by simp only at h1; omega⟩, rfl, by simp⟩, fun t ⟨t1, t2, t3, t4, t5⟩ => ifB_intro (fun hb3 => ?_) (fun hb3 => ?_)⟩
    · have hij : t.i < t.j := by simp at hb3; omega
      have wh := halfN (i := t.i) (j := t.j) (by omega) (by omega)
      rw [wh]
      have wh1 : IntKind.i64.wrap ((((t.i + t.j) / 2 : Nat) : Int) + 1) = (((t.i + t.j) / 2 + 1 : Nat) : Int) := wrapN (by simp) (by omega)
      rw [wh1]
      simp only [Int.toNat_natCast]
      have l1 : (t.i + t.j) / 2 < n := by omega
      have l2 : y < n := by omega
      obtain ⟨v, hq, hv⟩ := C.q m h.env _ _ (h.ok _ l2) (h.ok _ l1)
      refine ⟨trivial, b, o, ha (by omega), by omega, _, h.at l2, b, o, ha (by omega), by omega, _, h.at l1, v, hq, ifB_intro (fun hb4 => ⟨⟨(t.i + t.j) / 2 + 1, t.j, 0, g, m⟩, ⟨⟨by simp only; omega, by simp only; omega, t3, fun p h1 h2 => ?_, t5⟩, trivial, by simp⟩, by simp only; omega⟩) (fun hb4 => ⟨⟨t.i, (t.i + t.j) / 2, 0, g, m⟩, ⟨⟨t1, by simp only; omega, by simp only; omega, t4, fun p h1 h2 => ?_⟩, trivial, by simp⟩, by simp only; omega⟩)⟩
      · have hge : lexN f (g ((t.i + t.j) / 2)) (g y) := hst.more (by omega) (by omega) (by omega) fun hh => by
          have := hv.2 hh
          simp at hb4; omega
        by_cases e : p = (t.i + t.j) / 2
        · rw [e]; exact hge
        · exact lexN_trans (hl p ((t.i + t.j) / 2) h1 (by simp only at h2; omega) (by omega)) hge
      · have hlt : lexN f (g y) (g ((t.i + t.j) / 2)) := .inl (hv.1 (by simpa using hb4))
        by_cases e : p = (t.i + t.j) / 2
        · rw [e]; exact hlt
        · exact lexN_trans hlt (hl ((t.i + t.j) / 2) p (by omega) (by simp only at h1; omega) h2)
    · have hij : t.i = t.j := by simp at hb3; omega
      refine ⟨⟨⟨t.i, t.j, y, g, m⟩, ⟨t1, by simp only; omega, t4, fun p h1 h2 => t5 p (by simp only at h1; omega) h2, by simp only; omega, Nat.le_refl _, h.congr fun j hj => by simp only; rw [rotF_id2 (by omega)], Nat.le_refl _⟩, rfl, by simp⟩, fun u ⟨u1, u2, u3, u4, u5, u6, u7, u8⟩ => ?_⟩
      refine ifB_intro (fun hb4 => ?_) (fun hb4 => ⟨rfl, _, u7, ?_, ?_⟩)
      · have hk : u.i < u.k := by simp at hb4; omega
        have wk : IntKind.i64.wrap ((u.k : Int) - 1) = ((u.k - 1 : Nat) : Int) := wrapN (by omega) (by omega)
        rw [wk]
        simp only [Int.toNat_natCast]
        have l1 : u.k - 1 < n := by omega
        have l2 : u.k < n := by omega
        have e1 : rotF u.k y (y + 1) g (u.k - 1) = g (u.k - 1) := rotF_out (by omega) (by omega) (by omega)
        have e2 : rotF u.k y (y + 1) g u.k = g y := by rw [rotF_lo (by omega) (by omega)]; congr 1; omega
        have c1 := u7.at l1
        have c2 := u7.at l2
        have o1 := u7.ok _ l1
        have o2 := u7.ok _ l2
        rw [e1] at c1 o1
        rw [e2] at c2 o2
        have hd1 := u7.set C l2 _ o1
        have hd2 := hd1.set C l1 _ o2
        refine ⟨trivial, b, o, ha (by omega), by omega, _, c1, b, o, ha (by omega), by omega, _, c2, b, o, ha (by omega), by omega, ⟨u7.wr (S := fun z => 0 < n ∧ z = b) hS0 l2, trivial, b, o, ha (by omega), by omega, ⟨hd1.wr (S := fun z => 0 < n ∧ z = b) hS0 l1, ⟨⟨u.i, 0, u.k - 1, g, (u.m.setCells b (o + u.k * 1) [I (g (u.k - 1))]).setCells b (o + (u.k - 1) * 1) [I (g y)]⟩, ⟨⟨u1, u2, u3, u4, by simp only; omega, by simp only; omega, hd2.congr fun j hj => rot_back (by omega) u6 j, u8⟩, rfl, by simp⟩, by simp only; omega⟩⟩, trivial⟩, trivial⟩
      · exact (rotF_mem (by omega) (by omega)).wide (by omega) (by omega)
      · have hk : u.k = u.i := by simp at hb4; omega
        rw [hk, ez]
        exact Srt.insBack u1 u2 hl u4 u3
  · refine ⟨ifB_intro (fun hb3 => ?_) (fun hb3 => ?_), fun t0 ⟨t01, t02⟩ => ⟨⟨⟨L, R, 0, g, m⟩, hLR2, rfl, by simp [t01, t02]⟩, fun t B => ifB_intro (fun hb3 => ?_) (fun hb3 => ⟨?_, fun u ⟨U, uD, uM, uz⟩ => ⟨?_, fun w ⟨w1, w2, w3, w4, w5, w6, w7, wD, wM, wz⟩ => ?_⟩⟩)⟩⟩
    · have hy : mid < y := by simp at hb3; omega
      have hh := hLR.a hy
      have wq : IntKind.i64.wrap (((mid + y : Nat) : Int) - z) = ((mid + y - z : Nat) : Int) := wrapN (by omega) (by omega)
      rw [wq]
      exact ⟨⟨L, R, 0, g, m⟩, ⟨rfl, rfl⟩, rfl, by simp [hh.1, hh.2]⟩
    · have hy : y ≤ mid := by simp at hb3; omega
      have hh := hLR.b hy
      exact ⟨⟨L, R, 0, g, m⟩, ⟨rfl, rfl⟩, rfl, by simp [hh.1, hh.2]⟩
    · have hij : t.i < t.j := by simp at hb3; omega
      have t1 := B.lo
      have t3 := B.hi
      have wh := halfN (i := t.i) (j := t.j) (by omega) (by omega)
      rw [wh]
      have p1 := hLR.at (c := (t.i + t.j) / 2) (by omega) (by omega)
      have wc : IntKind.i64.wrap (((mid + y - 1 : Nat) : Int) - (((t.i + t.j) / 2 : Nat) : Int)) = ((mid + y - 1 - (t.i + t.j) / 2 : Nat) : Int) := wrapN (by omega) (by omega)
      have wh1 : IntKind.i64.wrap ((((t.i + t.j) / 2 : Nat) : Int) + 1) = (((t.i + t.j) / 2 + 1 : Nat) : Int) := wrapN (by simp) (by omega)
      rw [wh1, wc]
      simp only [Int.toNat_natCast]
      have l1 : (t.i + t.j) / 2 < n := by omega
      have l2 : mid + y - 1 - (t.i + t.j) / 2 < n := by omega
      obtain ⟨v, hq, hv⟩ := C.q m h.env _ _ (h.ok _ l2) (h.ok _ l1)
      refine ⟨trivial, b, o, ha (by omega), by omega, _, h.at l2, b, o, ha (by omega), by omega, _, h.at l1, v, hq, ifB_intro (fun hb4 => ⟨⟨(t.i + t.j) / 2 + 1, t.j, 0, g, m⟩, ⟨B.more (c := (t.i + t.j) / 2) hLR hl hr (by omega) (by omega) (hst.more (by omega) (by omega) (by omega) fun hh => ?_), trivial, by simp⟩, by simp only; omega⟩) (fun hb4 => ⟨⟨t.i, (t.i + t.j) / 2, 0, g, m⟩, ⟨B.less (c := (t.i + t.j) / 2) hLR hl hr (by omega) (by omega) (.inl (hv.1 (by simpa using hb4))), trivial, by simp⟩, by simp only; omega⟩)⟩
      have := hv.2 hh
      simp at hb4; omega
    · have hij : t.i = t.j := by have := B.le; simp at hb3; omega
      have B2 : SymB f y mid L R t.i t.i g := by rw [← hij] at B; exact B
      have D := B2.done hLR hst hl hr
      obtain ⟨g1, g2, g3, g4, g5⟩ := hLR.range B2.lo B2.hi
      have we : IntKind.i64.wrap (((mid + y : Nat) : Int) - t.i) = ((mid + y - t.i : Nat) : Int) := wrapN (by omega) (by omega)
      rw [we]
      have hM : Mem x z g (rotF t.i y (mid + y - t.i) g) := (rotF_mem g2 g4).wide g1 g5
      refine ifB_intro (fun hb4 => ifB_intro (fun hb5 => ?_) (fun hb5 => ?_)) (fun hb4 => ?_)
      · refine ⟨fun z => 0 < n ∧ z = b, hS m g h, fun N' hN' => (rotate_s av b o n c bl t.i y (mid + y - t.i) ha env ok f C g hn (by simpa using hb4) (by simp at hb5; omega) (by omega) _ (h.sz C hN')).mono fun v m' hag ⟨e, hd'⟩ => ⟨e, ⟨t.i, mid + y - t.i, 0, _, m'⟩, ⟨D, hd', hM, by have := hag.2.2; simp only at this ⊢; omega⟩, rfl, by simp⟩⟩
      · have e : mid + y - t.i = y := by simp at hb5; omega
        have er : rotF t.i y (mid + y - t.i) g = g := by rw [e, rotF_id1 g2]
        rw [er] at D hM
        exact ⟨⟨t.i, mid + y - t.i, 0, g, m⟩, ⟨D, h, hM, Nat.le_refl _⟩, rfl, by simp⟩
      · have e : t.i = y := by simp at hb4; omega
        have er : rotF t.i y (mid + y - t.i) g = g := by rw [e, rotF_id2 (by omega)]
        rw [er] at D hM
        exact ⟨⟨t.i, mid + y - t.i, 0, g, m⟩, ⟨D, h, hM, Nat.le_refl _⟩, rfl, by simp⟩
    · have u1 := U.xs
      have u2 := U.sm
      refine ifB_intro (fun hb4 => ifB_intro (fun hb5 => ?_) (fun hb5 => ?_)) (fun hb4 => ?_)
      · have c1 : x < u.i := by simpa using hb4
        have c2 : u.i < mid := by simpa using hb5
        refine ⟨fun z => 0 < n ∧ z = b, hS u.m u.g uD, fun N' hN' => (ih x u.i mid u.g (by omega) c1 c2 (by omega) U.st1 U.a U.b _ (uD.sz C hN')).mono fun v m' hag ⟨e, g', hd', hm', hs'⟩ => ⟨e, ⟨0, u.j, 0, g', m'⟩, ⟨U.me, U.ez, hs', U.c.mem hm' (.inr (Nat.le_refl _)), U.d.mem hm' (.inr U.me), U.st2.congr fun j h1 h2 => hm'.out j (by omega), fun p q h1 h2 h3 h4 => ?_, hd', uM.trans (hm'.wide (Nat.le_refl _) (by omega)), by have := hag.2.2; simp only at this ⊢; omega⟩, rfl, by simp⟩⟩
        obtain ⟨k, k1, k2, k3⟩ := hm'.into p h1 h2
        simp only
        rw [k3, hm'.out q (by omega)]
        exact U.cross k q k1 k2 h3 h4
      · have c2 : u.i = mid := by simp at hb5; omega
        exact ⟨⟨0, u.j, 0, u.g, u.m⟩, ⟨U.me, U.ez, by have := U.a; rw [c2] at this; exact this, U.c, U.d, U.st2, U.cross, uD, uM, uz⟩, rfl, by simp⟩
      · have c2 : u.i = x := by simp at hb4; omega
        exact ⟨⟨0, u.j, 0, u.g, u.m⟩, ⟨U.me, U.ez, by have := U.b; rw [c2] at this; exact this, U.c, U.d, U.st2, U.cross, uD, uM, uz⟩, rfl, by simp⟩
    · have fin : ∀ g' , Mem mid z w.g g' → Srt f mid z g' → Mem x z g g' ∧ Srt f x z g' := fun g' hm' hs' => ⟨wM.trans (hm'.wide hm1 (Nat.le_refl _)), Srt.halves hm1 hm2 w7 (.refl (g := w.g)) hm' w3 hs'⟩
      refine ifB_intro (fun hb4 => ifB_intro (fun hb5 => ?_) (fun hb5 => ⟨rfl, w.g, wD, fin w.g .refl ?_⟩)) (fun hb4 => ⟨rfl, w.g, wD, fin w.g .refl ?_⟩)
      · have c1 : mid < w.j := by simpa using hb4
        have c2 : w.j < z := by simpa using hb5
        exact ⟨fun z => 0 < n ∧ z = b, hS w.m w.g wD, fun N' hN' => (ih mid w.j z w.g (by omega) c1 c2 hz w6 w4 w5 _ (wD.sz C hN')).mono fun v m' hag ⟨e, g', hd', hm', hs'⟩ => ⟨e, rfl, g', hd', fin g' hm' hs'⟩⟩
      · have c2 : w.j = z := by simp at hb5; omega
        rw [c2] at w4; exact w4
      · have c2 : w.j = mid := by simp at hb4; omega
        rw [c2] at w5; exact w5

end Go.Proofs.Ytbhlhnkjmncloaa
