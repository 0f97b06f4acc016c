/-
  Contracts of functions of this seat: what each hands back, and what it leaves of memory (rng1). Nothing here is trusted: Lean checks it.
-/
import Derived.Test.YtpnpebefcmgjoaaRit
set_option linter.unusedVariables false
set_option linter.unusedSimpArgs false
namespace Go.Proofs.Ytpnpebefcmgjoaa
open Go.Vc Go.RowKit
set_option maxRecDepth 100000

def AllR (m : M) (l : List Pl) (v : Value) (m' : M) : Prop :=
  ∃ kb a c, v = .func (.func 37) #[] #[.pointer (some ⟨kb, 0, none⟩)] ∧ (m.sz ≤ kb ∧ kb < m'.sz) ∧ m'.π kb 0 = some (.slice a l.length c) ∧ Row m' a (pls l)

theorem rg_all (l : List Pl) (a : Option Addr) (c : Nat) (hn : l.length ≤ 1048576) (h0 : a = none → l = []) (m : M) (h : Row m a (pls l)) :
    Vc.Spec Try.prog 31 [.slice a l.length c] m (AllR m l) := by
  refine Vc.Spec.of_vc Try.func31 (ann := noAnn) ?_
  refine vc_by (X :=
      true = true ∧
      ∃ (S' : Nat → Prop),
      (∀ (b : Nat), S' b → m.uf b ∧ (m.sz ≤ b ∨ False)) ∧
      ∀ (n : Nat),
      m.sz ≤ n →
      SpecW Try.prog (35 : Nat) [Value.slice a l.length c] { π := m.π, sz := n, uf := m.uf : M } S' fun (v : Value) (m' : M) =>
      ∃ (a : Option Addr),
      ∃ (n : Nat),
      ∃ (c : Nat),
      v = Value.slice a n c ∧
      ∀ (b : Nat),
      Fresh m.sz m' b →
      Done (AllR m l (Value.func (Fn.func (37 : Nat)) #[] #[Value.pointer (some { block := b, off := (0 : Nat) : Addr })]) (m'.newBlock b [Value.slice a n c]))) (by kernel_rfl) ?_
  refine ⟨rfl, _, noS, fun n hn2 => (pl_clone l a c hn h0 _ (h.sz hn2)).monoW fun v m' hag ⟨a', c', hv, hr⟩ => ⟨a', l.length, c', hv, fun b hb => ⟨⟨b, a', c', rfl, ⟨hb.lo, by simp only [M.newBlock]; omega⟩, ?_, ?_⟩⟩⟩⟩
  · have := (cellsAt_new (m := m') (b := b) (cs := [.slice a' l.length c'])).out 0 (by simp)
    simpa using this
  · exact (hr.newFresh hb).row

/-- the greatest epoch -/
def epochL (l : List Pl) : Int := l.foldl (fun e p => max e p.ep) 0

structure EpX where
  m : M
  e : Int

theorem ends_snd (l : List Pl) : (endsL l).map Prod.snd = l := by
  apply List.ext_getElem
  · simp [endsL]
  · intro i h1 h2
    simp [endsL]

theorem rg_epoch (l : List Pl) (a : Option Addr) (c : Nat) (hl : l.length ≤ 1048576) (h0 : a = none → l = []) (m : M) (h : Row m a (pls l)) :
    QSpec Try.prog 23 [.slice a l.length c] m (I (epochL l)) := by
  refine QSpec.of_vc Try.func23 (ann := fun n _ => { A := EpX, inv := fun _ => True, st := fun _ => [], own := fun _ => [], m := fun x => x.m, μ := fun _ => 0, esc := [1], sh := [.str, .agg [.int .i64, .str, .int .i64]] }) fun n hn => ?_
  refine vc_by (X :=
      true = true ∧
      ∃ (S' : Nat → Prop),
      (∀ (b : Nat), S' b → m.uf b ∧ (n ≤ b ∨ False)) ∧
      ∀ (n_1 : Nat),
      n ≤ n_1 →
      SpecW Try.prog (31 : Nat) [Value.slice a l.length c] { π := m.π, sz := n_1, uf := m.uf : M } S' fun (v : Value) (m' : M) =>
      ∃ (f : FuncId),
      ∃ (caps : List Value),
      v = Value.func (Fn.func f) #[] caps.toArray ∧
      ∀ (b : Nat),
      Fresh n m' b →
      ∃ (gf : FuncId),
      ∃ (caps_1 : List Value),
      Value.func (Fn.func f) #[] caps.toArray = Value.func (Fn.func gf) #[] caps_1.toArray ∧
      ∃ (E : Type),
      ∃ (enc : E → List Value),
      ∃ (xs : List E),
      ∃ (mi : M),
      ∃ (J : List E → EpX → Prop),
      IterC Try.prog gf caps_1 mi enc xs ∧
      (∀ (e : E),
      (enc e).length = (2 : Nat) ∧
      ∃ (s : ByteArray),
      ∃ (n : Int),
      ∃ (s_1 : ByteArray),
      ∃ (n_2 : Int), enc e = [Value.string s, Value.agg #[Value.int IntKind.i64 n, Value.string s_1, Value.int IntKind.i64 n_2]]) ∧
      (∃ (x : EpX), (J [] x ∧ True) ∧ m'.newBlock b [Value.int IntKind.i64 (0 : Int)] = x.m) ∧
      (∀ (pre : List E) (x : EpX), J pre x → True → Kn mi x.m) ∧
      (∀ (pre : List E) (e : E) (x : EpX),
      pre ++ [e] <+: xs →
      J pre x →
      True →
      ∀ (s : ByteArray) (n_2 : Int) (s_1 : ByteArray) (n_3 : Int),
      enc e = [Value.string s, Value.agg #[Value.int IntKind.i64 n_2, Value.string s_1, Value.int IntKind.i64 n_3]] →
      ∃ (n_4 : Int),
      CellsAt x.m b (0 : Nat) [Value.int IntKind.i64 n_4] ∧
      Wr n (fun (x : Nat) => False) x.m b (0 : Nat) #[Value.int IntKind.i64 (if n_3 > n_4 then n_3 else n_4)].size ∧
      ∃ (x' : EpX),
      (J (pre ++ [e]) x' ∧ True) ∧
      x.m.setCells b (0 : Nat) [Value.int IntKind.i64 (if n_3 > n_4 then n_3 else n_4)] = x'.m) ∧
      ∀ (x : EpX),
      J xs x →
      True →
      ∃ (n : Int),
      CellsAt x.m b (0 : Nat) [Value.int IntKind.i64 n] ∧ Done (Value.int IntKind.i64 n = Value.int IntKind.i64 (epochL l))) (by kernel_rfl) ?_
  refine ⟨rfl, _, noS, fun n1 hn1 => (rg_all l a c hl h0 _ ((h.sz hn).sz hn1)).monoW fun v m' hag ⟨kb, a', c', hv, hkb, hk0, hr⟩ => ⟨37, [.pointer (some ⟨kb, 0, none⟩)], hv, fun b hb => ⟨37, [.pointer (some ⟨kb, 0, none⟩)], rfl, ByteArray × Pl, fun e => [.string e.1, plv e.2], endsL l, m',
    fun pre x => x.m.π b 0 = some (I x.e) ∧ x.m.uf b ∧ (∀ b' o, b' ≠ b → x.m.π b' o = m'.π b' o) ∧ x.e = pre.foldl (fun e (p : ByteArray × Pl) => max e p.2.ep) 0, all_it l (by omega) hk0 hr, fun e => ⟨rfl, _, _, _, _, rfl⟩, ⟨⟨m'.newBlock b [I 0], 0⟩, ⟨⟨?_, ?_, ?_, rfl⟩, trivial⟩, rfl⟩, ?_, ?_, ?_⟩⟩⟩
  · simp [M.newBlock]
  · simp [M.newBlock]
  · intro b' o hne
    rw [newBlock_other hne]
  · rintro pre x ⟨h1, h2, h3, h4⟩ - b' o u hu
    rw [h3 b' o (fun e => by subst e; rw [hb.cells] at hu; cases hu)]
    exact hu
  · rintro pre e x - ⟨h1, h2, h3, h4⟩ - s n2 s1 n3 he
    simp only [List.cons.injEq, Value.string.injEq, Value.agg.injEq, Array.mk.injEq, Value.int.injEq, true_and, and_true] at he
    obtain ⟨he1, he2, he3, he4⟩ := he
    have hmx : (if n3 > x.e then n3 else x.e) = max x.e e.2.ep := by rw [he4]; split <;> omega
    refine ⟨x.e, ⟨fun j hj => ?_⟩, ⟨.inl hb.lo, h2, fun j hj => ?_⟩, ⟨x.m.setCells b 0 [I (if n3 > x.e then n3 else x.e)], max x.e e.2.ep⟩, ⟨⟨?_, h2, fun b' o hne => ?_, ?_⟩, trivial⟩, rfl⟩
    · have hj : j = 0 := by simpa using hj
      subst hj
      exact h1
    · have hj : j = 0 := by simpa using hj
      subst hj
      exact ⟨_, h1⟩
    · rw [hmx]
      simp [M.setCells]
    · rw [← h3 b' o hne]
      simp [M.setCells, hne]
    · rw [List.foldl_append, ← h4]
      rfl
  · rintro x ⟨h1, h2, h3, h4⟩ -
    refine ⟨x.e, ⟨fun j hj => ?_⟩, ⟨?_⟩⟩
    · have hj : j = 0 := by simpa using hj
      subst hj
      exact h1
    · rw [h4, epochL]
      conv => rhs; rw [← ends_snd l, List.foldl_map]

end Go.Proofs.Ytpnpebefcmgjoaa
