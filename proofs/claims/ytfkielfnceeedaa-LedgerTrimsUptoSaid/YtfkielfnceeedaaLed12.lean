/-
  Contracts of functions of this seat: what each hands back, and what it leaves of memory (led12). Nothing here is trusted: Lean checks it.
-/
import Derived.Test.YtfkielfnceeedaaLed11
set_option linter.unusedVariables false
set_option linter.unusedSimpArgs false
namespace Go.Proofs.Ytfkielfnceeedaa
open Go.Vc Go.RowKit
set_option maxRecDepth 100000

theorem delfR0_s (a : Option Addr) (c : Nat) (b1 b2 b3 : Nat) (g nd : Int) (aa : Option Addr) (ca : Nat) (z : List Ax) (hn : z.length ≤ 9223372036854775807) (hz : ∀ y ∈ z, y.x.wf) (m : M) (E : EnvT b1 b2 b3 g nd aa ca z m) :
    SpecW Try.prog 51 [.slice a 0 c, gonF b1 b2 b3] m (fun _ => False) fun v _ => v = .slice a 0 c := by
  refine SpecW.of_vc Try.func51 (ann := fun _ => { A := Empty, inv := fun _ => True, st := fun y => [], own := fun _ => [], m := fun y => y.elim, μ := fun y => 0 }) ?_
  refine vc_by (X :=
      true = true ∧
      ∃ (n : Int),
      QSpec Try.prog (82 : Nat)
      [Value.slice a (0 : Nat) c,
      Value.func (Fn.func (48 : FuncId)) #[]
      #[Value.pointer (some { block := b1, off := (0 : Nat) : Addr }), Value.pointer (some { block := b2, off := (0 : Nat) : Addr }),
      Value.pointer (some { block := b3, off := (0 : Nat) : Addr })]]
      m (Value.int IntKind.i64 n) ∧
      ifB (n == (-1 : Int)) (Done (Value.slice a (0 : Nat) c = Value.slice a (0 : Nat) c)) ((∃ (a : Empty), True ∧ m = a.elim ∧ True ∧ True) ∧ ∀ (a : Empty), True → False)) (by kernel_rfl) ?_
  have := idxR_q a c [] b1 b2 b3 g nd aa ca z (by simp) hn hz m (.nil _) E
  exact ⟨rfl, _, this, ifB_true ⟨rfl⟩⟩

/-- are all of them right? -/
def axsB (z : List Ax) : Bool := z.all fun y => rightB y.x

def trimE (l : List Rt) (g : Int) (z : List Ax) (nd : Int) : List Rt × Int := if ledB none l = false then ([], 21) else if axsB z = false then ([], 21) else (l.filter fun r => !goneB g nd z r, 0)

theorem ltrim_s (a : Option Addr) (cp : Nat) (l : List Rt) (g nd : Int) (aa : Option Addr) (ca : Nat) (z : List Ax) (hl : l.length ≤ 4194304) (hn : z.length ≤ 9223372036854775807) (hz : ∀ y ∈ z, y.x.wf) (m : M) (h : Row m a (rts l)) (hz2 : AxR m aa z) :
    Vc.Spec Try.prog 20 [.slice a l.length cp, I g, .slice aa z.length ca, I nd] m (LpR (trimE l g z nd)) := by
  refine Vc.Spec.of_vc Try.func20 (ann := fun _ => { A := Nat, inv := fun k => k ≤ z.length ∧ axsB (z.take k) = true, st := fun k => [(18, .val (I k)), (17, .val (I z.length)), (16, .val (.slice aa z.length ca)), (5, .own 0 0), (6, .own 1 0), (7, .own 2 0), (0, .val (.slice a l.length cp))], own := fun _ => [(0, ⟨3, [I g]⟩), (1, ⟨35, [.slice aa z.length ca]⟩), (2, ⟨3, [I nd]⟩)], m := fun _ => m, μ := fun k => z.length - k }) ?_
  refine vc_by (X :=
      true = true ∧
      ∃ (n : Int),
      QSpec Try.prog (14 : Nat) [Value.slice a l.length cp] m (Value.int IntKind.i64 n) ∧
      ifB (n != (0 : Int)) (Done (LpR (trimE l g z nd) (Value.tuple #[Value.slice none (0 : Nat) (0 : Nat), Value.int IntKind.i64 (21 : Int)]) m))
      ((∃ (a_1 : Nat),
      (a_1 ≤ z.length ∧ axsB (List.take a_1 z) = true) ∧
      m = m ∧
      ((SV.val (Value.int IntKind.i64 (0 : Int)) = SV.val (Value.int IntKind.i64 (↑a_1 : Int)) ∧ true = true) ∧
      (SV.val (Value.int IntKind.i64 (↑z.length : Int)) = SV.val (Value.int IntKind.i64 (↑z.length : Int)) ∧ true = true) ∧
      (SV.val (Value.slice aa z.length ca) = SV.val (Value.slice aa z.length ca) ∧ true = true) ∧
      (SV.own ((0 : Nat) + (0 : Nat)) (0 : Nat) = SV.own (0 : Nat) (0 : Nat) ∧ true = true) ∧
      (SV.own ((0 : Nat) + (1 : Nat)) (0 : Nat) = SV.own (1 : Nat) (0 : Nat) ∧ true = true) ∧
      (SV.own ((0 : Nat) + (2 : Nat)) (0 : Nat) = SV.own (2 : Nat) (0 : Nat) ∧ true = true) ∧
      (SV.val (Value.slice a l.length cp) = SV.val (Value.slice a l.length cp) ∧ true = true) ∧ True) ∧
      (some { ty := (3 : Nat), cs := [Value.int IntKind.i64 g] : Bx } = some { ty := (3 : TypeId), cs := [Value.int IntKind.i64 g] : Bx } ∧ true = true) ∧
      (some { ty := (35 : Nat), cs := [Value.slice aa z.length ca] : Bx } = some { ty := (35 : TypeId), cs := [Value.slice aa z.length ca] : Bx } ∧ true = true) ∧
      (some { ty := (3 : Nat), cs := [Value.int IntKind.i64 nd] : Bx } = some { ty := (3 : TypeId), cs := [Value.int IntKind.i64 nd] : Bx } ∧ true = true) ∧ True) ∧
      ∀ (a_1 : Nat),
      a_1 ≤ z.length ∧ axsB (List.take a_1 z) = true →
      ifB (decide ((↑a_1 : Int) < (↑z.length : Int)))
      (∃ (b : Nat),
      ∃ (off : Nat),
      aa = some { block := b, off := off : Addr } ∧
      ((0 : Int) ≤ (↑a_1 : Int) ∧ (↑a_1 : Int) < (↑z.length : Int)) ∧
      ∃ (s : ByteArray),
      ∃ (n : Int),
      ∃ (n_1 : Int),
      ∃ (n_2 : Int),
      ∃ (n_3 : Int),
      ∃ (a_3 : Option Addr),
      ∃ (n_4 : Nat),
      ∃ (c : Nat),
      ∃ (n_5 : Int),
      ∃ (n_6 : Int),
      ∃ (n_7 : Int),
      ∃ (n_8 : Int),
      CellsAt m b (off + (↑a_1 : Int).toNat * (10 : Nat))
      [Value.string s, Value.int IntKind.i64 n, Value.int IntKind.i64 n_1, Value.int IntKind.i64 n_2, Value.int IntKind.i64 n_3,
      Value.slice a_3 n_4 c, Value.int IntKind.i64 n_5, Value.int IntKind.i64 n_6, Value.int IntKind.i64 n_7,
      Value.int IntKind.i64 n_8] ∧
      ∃ (n_9 : Int),
      QSpec Try.prog (47 : Nat)
      [Value.agg
      #[Value.string s, Value.int IntKind.i64 n, Value.int IntKind.i64 n_1, Value.int IntKind.i64 n_2,
      Value.int IntKind.i64 n_3, Value.slice a_3 n_4 c, Value.int IntKind.i64 n_5, Value.int IntKind.i64 n_6,
      Value.int IntKind.i64 n_7, Value.int IntKind.i64 n_8]]
      m (Value.int IntKind.i64 n_9) ∧
      ifB (n_9 != (0 : Int))
      (Done (LpR (trimE l g z nd) (Value.tuple #[Value.slice none (0 : Nat) (0 : Nat), Value.int IntKind.i64 (21 : Int)]) m))
      (∃ (a' : Nat),
      ((a' ≤ z.length ∧ axsB (List.take a' z) = true) ∧
      m = m ∧
      ((SV.val (Value.int IntKind.i64 (IntKind.i64.wrap ((↑a_1 : Int) + (1 : Int)))) =
      SV.val (Value.int IntKind.i64 (↑a' : Int)) ∧
      true = true) ∧
      (SV.val (Value.int IntKind.i64 (↑z.length : Int)) = SV.val (Value.int IntKind.i64 (↑z.length : Int)) ∧
      true = true) ∧
      (SV.val (Value.slice aa z.length ca) = SV.val (Value.slice aa z.length ca) ∧ true = true) ∧
      (SV.own (0 : Nat) (0 : Nat) = SV.own (0 : Nat) (0 : Nat) ∧ true = true) ∧
      (SV.own (1 : Nat) (0 : Nat) = SV.own (1 : Nat) (0 : Nat) ∧ true = true) ∧
      (SV.own (2 : Nat) (0 : Nat) = SV.own (2 : Nat) (0 : Nat) ∧ true = true) ∧
      (SV.val (Value.slice a l.length cp) = SV.val (Value.slice a l.length cp) ∧ true = true) ∧ True) ∧
      (some { ty := (3 : TypeId), cs := [Value.int IntKind.i64 g] : Bx } =
      some { ty := (3 : TypeId), cs := [Value.int IntKind.i64 g] : Bx } ∧
      true = true) ∧
      (some { ty := (35 : TypeId), cs := [Value.slice aa z.length ca] : Bx } =
      some { ty := (35 : TypeId), cs := [Value.slice aa z.length ca] : Bx } ∧
      true = true) ∧
      (some { ty := (3 : TypeId), cs := [Value.int IntKind.i64 nd] : Bx } =
      some { ty := (3 : TypeId), cs := [Value.int IntKind.i64 nd] : Bx } ∧
      true = true) ∧
      True) ∧
      z.length - a' < z.length - a_1))
      (∀ (b : Nat),
      Fresh m.sz m b →
      ∀ (b_1 : Nat),
      Fresh m.sz (m.newBlock b [Value.int IntKind.i64 g]) b_1 →
      ∀ (b_2 : Nat),
      Fresh m.sz ((m.newBlock b [Value.int IntKind.i64 g]).newBlock b_1 [Value.slice aa z.length ca]) b_2 →
      ∃ (S' : Nat → Prop),
      (∀ (b_3 : Nat),
      S' b_3 →
      (((m.newBlock b [Value.int IntKind.i64 g]).newBlock b_1 [Value.slice aa z.length ca]).newBlock b_2 [Value.int IntKind.i64 nd]).uf b_3 ∧
      (m.sz ≤ b_3 ∨ False)) ∧
      ∀ (n : Nat),
      max (max (max m.sz (b + (1 : Nat))) (b_1 + (1 : Nat))) (b_2 + (1 : Nat)) ≤ n →
      SpecW Try.prog (42 : Nat) [Value.slice a l.length cp]
      { π := (((m.newBlock b [Value.int IntKind.i64 g]).newBlock b_1 [Value.slice aa z.length ca]).newBlock b_2 [Value.int IntKind.i64 nd]).π, sz := n, uf := (((m.newBlock b [Value.int IntKind.i64 g]).newBlock b_1 [Value.slice aa z.length ca]).newBlock b_2 [Value.int IntKind.i64 nd]).uf : M }
      S' fun (v : Value) (m' : M) =>
      ∃ (a : Option Addr),
      ∃ (n : Nat),
      ∃ (c : Nat),
      v = Value.slice a n c ∧
      ∃ (S' : Nat → Prop),
      (∀ (b : Nat), S' b → m'.uf b ∧ (m.sz ≤ b ∨ False)) ∧
      ∀ (n_1 : Nat),
      m'.sz ≤ n_1 →
      SpecW Try.prog (51 : Nat)
      [Value.slice a n c,
      Value.func (Fn.func (48 : Nat)) #[]
      #[Value.pointer (some { block := b, off := (0 : Nat) : Addr }),
      Value.pointer (some { block := b_1, off := (0 : Nat) : Addr }),
      Value.pointer (some { block := b_2, off := (0 : Nat) : Addr })]]
      { π := m'.π, sz := n_1, uf := m'.uf : M } S' fun (v : Value) (m' : M) =>
      ∃ (a : Option Addr),
      ∃ (n : Nat),
      ∃ (c : Nat),
      v = Value.slice a n c ∧
      Done (LpR (trimE l g z nd) (Value.tuple #[Value.slice a n c, Value.int IntKind.i64 (0 : Int)]) m')))) (by kernel_rfl) ?_
  refine ⟨rfl, _, lcheck_q a cp l (by omega) _ h, ?_⟩
  cases ht : ledB none l
  · exact ifB_true (lp_fail (by simp [trimE, ht]))
  refine ifB_false ⟨⟨0, ⟨Nat.zero_le _, rfl⟩, rfl, by simp, ⟨rfl, rfl⟩, ⟨rfl, rfl⟩, ⟨rfl, rfl⟩, trivial⟩, fun k ⟨hk, hq⟩ => ifB_intro (fun hb => ?_) (fun hb b1 hb1 b2 hb2 b3 hb3 => ?_)⟩
  · have hk2 : k < z.length := by simpa using hb
    obtain ⟨b9, o9, rfl, hc⟩ := hz2.row.cells (by rw [axs_len]; omega)
    have w1 : IntKind.i64.wrap ((k : Int) + 1) = ((k + 1 : Nat) : Int) := by simp [IntKind.wrap_i64]; omega
    have m1 := List.getElem_mem hk2
    refine ⟨b9, o9, rfl, by omega, _, _, _, _, _, _, _, _, _, _, _, _, by simpa using ax_at hc hk2, _, check_q z[k].x z[k].a z[k].c (hz _ m1) _ (hz2.hs _ m1), ?_⟩
    cases hr : rightB z[k].x
    · refine ifB_true (lp_fail ?_)
      have : axsB z = false := by
        cases h2 : axsB z with
        | false => rfl
        | true => have := List.all_eq_true.1 h2 _ m1; rw [hr] at this; cases this
      simp [trimE, ht, this]
    · refine ifB_false ⟨k + 1, ⟨⟨hk2, ?_⟩, rfl, by simp [w1], ⟨rfl, rfl⟩, ⟨rfl, rfl⟩, ⟨rfl, rfl⟩, trivial⟩, by omega⟩
      unfold axsB at hq ⊢
      rw [List.take_succ_eq_append_getElem hk2, List.all_append, hq]
      simp [hr]
  · have hkl : k = z.length := by simp at hb; omega
    rw [hkl, List.take_length] at hq
    have hE : trimE l g z nd = (l.filter fun r => !goneB g nd z r, 0) := by simp [trimE, ht, hq]
    have fr : ∀ {a : Option Addr} {cs : List Value}, Row m a cs → Row (((m.newBlock b1 [I g]).newBlock b2 [.slice aa z.length ca]).newBlock b3 [I nd]) a cs := fun {a cs} r => ((r.fresh hb1 fun hc b o e => r.lt hc e).fresh hb2 fun hc b o e => r.lt hc e).fresh hb3 fun hc b o e => r.lt hc e
    have n12 : b1 ≠ b2 := fresh_other hb2 (.inl rfl)
    have n13 : b1 ≠ b3 := fresh_other hb3 (.inr (.inl rfl))
    have n23 : b2 ≠ b3 := fresh_other hb3 (.inl rfl)
    generalize hM : ((m.newBlock b1 [I g]).newBlock b2 [.slice aa z.length ca]).newBlock b3 [I nd] = M4 at *
    have E : EnvT b1 b2 b3 g nd aa ca z M4 := by
      rw [← hM]
      refine ⟨((cellsAt_new (m := m) (b := b1)).of (newBlock_other n12)).of (newBlock_other n13), (cellsAt_new (b := b2)).of (newBlock_other n23), cellsAt_new, ⟨by rw [hM]; exact fr hz2.row, fun y hy => by rw [hM]; exact fr (hz2.hs y hy)⟩⟩
    have sz4 : M4.sz = max (max (max m.sz (b1 + 1)) (b2 + 1)) (b3 + 1) := by rw [← hM]; rfl
    have hM4 : m.sz ≤ M4.sz := by omega
    rw [← sz4]
    refine ⟨_, noS, fun N hN => (rt_clone l a cp (by omega) (rt_none h) _ ((fr h).sz hN)).monoW fun v m' hag ⟨a', c', hv, hr'⟩ => ⟨a', _, c', hv, ?_⟩⟩
    have E' : EnvT b1 b2 b3 g nd aa ca z m' := by
      have hp : ∀ b, b < M4.sz → m'.π b = M4.π b := fun b hb => hag.1 b (by simp only; omega)
      exact ⟨E.c1.of (hp _ (by omega)), E.c2.of (hp _ (by omega)), E.c3.of (hp _ (by omega)), E.ax.of fun _ _ r => (r.sz hN).agree hag⟩
    have hszm : N ≤ m'.sz := hag.2.2
    by_cases hl0 : l.length = 0
    · have : l = [] := List.eq_nil_of_length_eq_zero hl0
      subst this
      exact ⟨_, noS, fun n hn' => (delfR0_s a' c' b1 b2 b3 g nd aa ca z hn hz { m' with sz := n } (E'.sz hn')).mono fun v2 m2 _ hv2 => ⟨_, _, _, hv2, lp_ok (z := []) hE rfl (.nil _)⟩⟩
    have hown := hr'.toOwn hl0
    have hSf : ∀ b o, a' = some ⟨b, o, none⟩ → m'.uf b ∧ N ≤ b := fun b o e => ⟨hown.uf e, (hown.lo e).resolve_right id⟩
    have away : ∀ b o, a' = some ⟨b, o, none⟩ → AwayT b b1 b2 b3 aa z := fun b o e => by
      have h1 := (hSf b o e).2
      refine ⟨by omega, by omega, by omega, fun o' hne e2 => ?_, fun y hy o' hne e2 => ?_⟩
      · have := hz2.row.lt (fun e3 => hne (by have := congrArg List.length e3; rw [axs_len] at this; exact List.eq_nil_of_length_eq_zero (by simp at this; omega))) e2
        omega
      · have := (hz2.hs y hy).lt (fun e3 => hne (by have := congrArg List.length e3; rw [hds_len] at this; exact List.eq_nil_of_length_eq_zero (by simp at this; omega))) e2
        omega
    refine ⟨fun b => ∃ o, a' = some ⟨b, o, none⟩, fun b ⟨o, e⟩ => ⟨(hSf b o e).1, .inl (by have := (hSf b o e).2; omega)⟩, fun n hn' => ?_⟩
    refine (delfR_s a' c' l b1 b2 b3 g nd aa ca z (fun b => ∃ o, a' = some ⟨b, o, none⟩) hl hn hz { m' with sz := n } (fun b o e => ⟨⟨o, e⟩, away b o e⟩) ((hown.sz hn').re fun b o e => .inr ⟨o, e⟩) (E'.sz hn')).mono fun v2 m2 hag2 ⟨hv2, hr2⟩ => ⟨_, _, _, hv2, lp_ok (z := l.filter fun r => !goneB g nd z r) hE rfl hr2.row⟩

structure RtX where
  k : Nat
  j : Nat
  a : Option Addr
  c : Nat
  m : M

def rAt (l : List Rt) (k : Nat) : Rt := (l[k]?).getD ⟨0, .empty, 0, 0⟩

/-- is a right kept, by the first accounts? -/
def kpB (g nd : Int) (z : List Ax) (r : Rt) (j : Nat) : Bool := (r.g != g) || (z.take j).any fun y => leaB nd r y.x

theorem kp_all (g nd : Int) (z : List Ax) (r : Rt) : kpB g nd z r z.length = !goneB g nd z r := by
  unfold kpB goneB
  rw [List.take_length, Bool.not_and, Bool.not_not]
  congr 1

theorem kp_succ (g nd : Int) (z : List Ax) (r : Rt) (j : Nat) (hj : j < z.length) : kpB g nd z r (j + 1) = (kpB g nd z r j || leaB nd r z[j].x) := by
  unfold kpB
  rw [List.take_succ_eq_append_getElem hj, List.any_append, Bool.or_assoc]
  simp

abbrev kpL (l : List Rt) (g nd : Int) (z : List Ax) (k : Nat) : List Rt := (l.take k).filter fun r => !goneB g nd z r

structure RtI (l : List Rt) (g nd : Int) (z : List Ax) (m : M) (y : RtX) : Prop where
  k : y.k ≤ l.length
  own : NewR m.sz (fun _ => False) y.m 4 y.a (kpL l g nd z y.k).length y.c (rts (kpL l g nd z y.k))
  ag : Agree m.sz m y.m

def rtAnn (l : List Rt) (a : Option Addr) (cp : Nat) (g nd : Int) (aa : Option Addr) (ca : Nat) (z : List Ax) (m : M) : Nat → Ann
  | 4 => { A := Nat, inv := fun k => k ≤ z.length ∧ axsB (z.take k) = true, st := fun k => [(10, .val (I k)), (2, .val (.slice aa z.length ca)), (0, .val (.slice a l.length cp)), (1, .val (I g)), (3, .val (I nd))], own := fun _ => [], m := fun _ => m, μ := fun k => z.length - k }
  | 10 => { A := RtX, inv := RtI l g nd z m, st := fun y => [(12, .val (I y.k)), (2, .val (.slice aa z.length ca)), (0, .val (.slice a l.length cp)), (1, .val (I g)), (3, .val (I nd)), (11, .val (.slice y.a (kpL l g nd z y.k).length y.c))], own := fun _ => [], m := fun y => y.m, μ := fun y => l.length - y.k }
  | 14 => { A := RtX, inv := fun y => RtI l g nd z m y ∧ y.k < l.length ∧ y.j ≤ z.length, st := fun y => [(12, .val (I y.k)), (2, .val (.slice aa z.length ca)), (0, .val (.slice a l.length cp)), (1, .val (I g)), (3, .val (I nd)), (11, .val (.slice y.a (kpL l g nd z y.k).length y.c)), (14, .val (I y.j)), (13, .val (.bool (kpB g nd z (rAt l y.k) y.j)))], own := fun _ => [], m := fun y => y.m, μ := fun y => z.length - y.j, link := some fun y ctx => ctx = [l.length - y.k] }
  | _ => noAnn 0

theorem rtrim_s (a : Option Addr) (cp : Nat) (l : List Rt) (g nd : Int) (aa : Option Addr) (ca : Nat) (z : List Ax) (hl : l.length ≤ 4194304) (hn : z.length ≤ 9223372036854775807) (hz : ∀ y ∈ z, y.x.wf) (m : M) (h : Row m a (rts l)) (hz2 : AxR m aa z) :
    Vc.Spec Try.prog 21 [.slice a l.length cp, I g, .slice aa z.length ca, I nd] m (LpR (trimE l g z nd)) := by
  refine Vc.Spec.of_vc Try.func21 (ann := rtAnn l a cp g nd aa ca z m) ?_
  refine vc_by (X :=
      true = true ∧
      ∃ (b : Bool),
      QSpec Try.prog (10 : Nat) [Value.slice a l.length cp] m (Value.bool b) ∧
      ifB (!b) (Done (LpR (trimE l g z nd) (Value.tuple #[Value.slice none (0 : Nat) (0 : Nat), Value.int IntKind.i64 (21 : Int)]) m))
      ((∃ (a_1 : Nat),
      (a_1 ≤ z.length ∧ axsB (List.take a_1 z) = true) ∧
      m = m ∧
      ((SV.val (Value.int IntKind.i64 (0 : Int)) = SV.val (Value.int IntKind.i64 (↑a_1 : Int)) ∧ true = true) ∧
      (SV.val (Value.slice aa z.length ca) = SV.val (Value.slice aa z.length ca) ∧ true = true) ∧
      (SV.val (Value.slice a l.length cp) = SV.val (Value.slice a l.length cp) ∧ true = true) ∧
      (SV.val (Value.int IntKind.i64 g) = SV.val (Value.int IntKind.i64 g) ∧ true = true) ∧
      (SV.val (Value.int IntKind.i64 nd) = SV.val (Value.int IntKind.i64 nd) ∧ true = true) ∧ True) ∧
      True) ∧
      ∀ (a_1 : Nat),
      a_1 ≤ z.length ∧ axsB (List.take a_1 z) = true →
      ifB (decide ((↑a_1 : Int) < (↑z.length : Int)))
      (∃ (b : Nat),
      ∃ (off : Nat),
      aa = some { block := b, off := off : Addr } ∧
      ((0 : Int) ≤ (↑a_1 : Int) ∧ (↑a_1 : Int) < (↑z.length : Int)) ∧
      ∃ (s : ByteArray),
      ∃ (n : Int),
      ∃ (n_1 : Int),
      ∃ (n_2 : Int),
      ∃ (n_3 : Int),
      ∃ (a_3 : Option Addr),
      ∃ (n_4 : Nat),
      ∃ (c : Nat),
      ∃ (n_5 : Int),
      ∃ (n_6 : Int),
      ∃ (n_7 : Int),
      ∃ (n_8 : Int),
      CellsAt m b (off + (↑a_1 : Int).toNat * (10 : Nat))
      [Value.string s, Value.int IntKind.i64 n, Value.int IntKind.i64 n_1, Value.int IntKind.i64 n_2, Value.int IntKind.i64 n_3,
      Value.slice a_3 n_4 c, Value.int IntKind.i64 n_5, Value.int IntKind.i64 n_6, Value.int IntKind.i64 n_7,
      Value.int IntKind.i64 n_8] ∧
      ∃ (b : Bool),
      QSpec Try.prog (32 : Nat)
      [Value.agg
      #[Value.string s, Value.int IntKind.i64 n, Value.int IntKind.i64 n_1, Value.int IntKind.i64 n_2,
      Value.int IntKind.i64 n_3, Value.slice a_3 n_4 c, Value.int IntKind.i64 n_5, Value.int IntKind.i64 n_6,
      Value.int IntKind.i64 n_7, Value.int IntKind.i64 n_8]]
      m (Value.bool b) ∧
      ifB (!b)
      (Done (LpR (trimE l g z nd) (Value.tuple #[Value.slice none (0 : Nat) (0 : Nat), Value.int IntKind.i64 (21 : Int)]) m))
      (∃ (a' : Nat),
      ((a' ≤ z.length ∧ axsB (List.take a' z) = true) ∧
      m = m ∧
      ((SV.val (Value.int IntKind.i64 (IntKind.i64.wrap ((↑a_1 : Int) + (1 : Int)))) =
      SV.val (Value.int IntKind.i64 (↑a' : Int)) ∧
      true = true) ∧
      (SV.val (Value.slice aa z.length ca) = SV.val (Value.slice aa z.length ca) ∧ true = true) ∧
      (SV.val (Value.slice a l.length cp) = SV.val (Value.slice a l.length cp) ∧ true = true) ∧
      (SV.val (Value.int IntKind.i64 g) = SV.val (Value.int IntKind.i64 g) ∧ true = true) ∧
      (SV.val (Value.int IntKind.i64 nd) = SV.val (Value.int IntKind.i64 nd) ∧ true = true) ∧ True) ∧
      True) ∧
      z.length - a' < z.length - a_1))
      ((∃ (a_3 : RtX),
      RtI l g nd z m a_3 ∧
      m = a_3.m ∧
      ((SV.val (Value.int IntKind.i64 (0 : Int)) = SV.val (Value.int IntKind.i64 (↑a_3.k : Int)) ∧ true = true) ∧
      (SV.val (Value.slice aa z.length ca) = SV.val (Value.slice aa z.length ca) ∧ true = true) ∧
      (SV.val (Value.slice a l.length cp) = SV.val (Value.slice a l.length cp) ∧ true = true) ∧
      (SV.val (Value.int IntKind.i64 g) = SV.val (Value.int IntKind.i64 g) ∧ true = true) ∧
      (SV.val (Value.int IntKind.i64 nd) = SV.val (Value.int IntKind.i64 nd) ∧ true = true) ∧
      (SV.val (Value.slice none (0 : Nat) (0 : Nat)) = SV.val (Value.slice a_3.a (kpL l g nd z a_3.k).length a_3.c) ∧ true = true) ∧ True) ∧
      True) ∧
      ∀ (a_3 : RtX),
      RtI l g nd z m a_3 →
      ifB (decide ((↑a_3.k : Int) < (↑l.length : Int)))
      (∃ (b : Nat),
      ∃ (off : Nat),
      a = some { block := b, off := off : Addr } ∧
      ((0 : Int) ≤ (↑a_3.k : Int) ∧ (↑a_3.k : Int) < (↑l.length : Int)) ∧
      ∃ (n : Int),
      CellsAt a_3.m b (off + (↑a_3.k : Int).toNat * (4 : Nat) + (0 : Nat)) [Value.int IntKind.i64 n] ∧
      (∃ (a_5 : RtX),
      ((RtI l g nd z m a_5 ∧ a_5.k < l.length ∧ a_5.j ≤ z.length) ∧
      a_3.m = a_5.m ∧
      ((SV.val (Value.int IntKind.i64 (↑a_3.k : Int)) = SV.val (Value.int IntKind.i64 (↑a_5.k : Int)) ∧ true = true) ∧
      (SV.val (Value.slice aa z.length ca) = SV.val (Value.slice aa z.length ca) ∧ true = true) ∧
      (SV.val (Value.slice a l.length cp) = SV.val (Value.slice a l.length cp) ∧ true = true) ∧
      (SV.val (Value.int IntKind.i64 g) = SV.val (Value.int IntKind.i64 g) ∧ true = true) ∧
      (SV.val (Value.int IntKind.i64 nd) = SV.val (Value.int IntKind.i64 nd) ∧ true = true) ∧
      (SV.val (Value.slice a_3.a (kpL l g nd z a_3.k).length a_3.c) =
      SV.val (Value.slice a_5.a (kpL l g nd z a_5.k).length a_5.c) ∧
      true = true) ∧
      (SV.val (Value.int IntKind.i64 (0 : Int)) = SV.val (Value.int IntKind.i64 (↑a_5.j : Int)) ∧ true = true) ∧
      (SV.val (Value.bool (n != g)) = SV.val (Value.bool (kpB g nd z (rAt l a_5.k) a_5.j)) ∧ true = true) ∧ True) ∧
      True) ∧
      [l.length - a_3.k] = [l.length - a_5.k]) ∧
      ∀ (a_5 : RtX),
      (RtI l g nd z m a_5 ∧ a_5.k < l.length ∧ a_5.j ≤ z.length) ∧ [l.length - a_3.k] = [l.length - a_5.k] →
      ifB (decide ((↑a_5.j : Int) < (↑z.length : Int)))
      (∃ (b : Nat),
      ∃ (off : Nat),
      aa = some { block := b, off := off : Addr } ∧
      ((0 : Int) ≤ (↑a_5.j : Int) ∧ (↑a_5.j : Int) < (↑z.length : Int)) ∧
      ∃ (s : ByteArray),
      ∃ (n : Int),
      ∃ (n_1 : Int),
      ∃ (n_2 : Int),
      ∃ (n_3 : Int),
      ∃ (a_7 : Option Addr),
      ∃ (n_4 : Nat),
      ∃ (c : Nat),
      ∃ (n_5 : Int),
      ∃ (n_6 : Int),
      ∃ (n_7 : Int),
      ∃ (n_8 : Int),
      CellsAt a_5.m b (off + (↑a_5.j : Int).toNat * (10 : Nat))
      [Value.string s, Value.int IntKind.i64 n, Value.int IntKind.i64 n_1, Value.int IntKind.i64 n_2,
      Value.int IntKind.i64 n_3, Value.slice a_7 n_4 c, Value.int IntKind.i64 n_5,
      Value.int IntKind.i64 n_6, Value.int IntKind.i64 n_7, Value.int IntKind.i64 n_8] ∧
      ∃ (n_9 : Int),
      ∃ (n_10 : Int),
      ∃ (n_11 : Int),
      ∃ (n_12 : Int),
      ∃ (b : Bool),
      QSpec Try.prog (52 : Nat)
      [Value.agg
      #[Value.string s, Value.int IntKind.i64 n, Value.int IntKind.i64 n_1,
      Value.int IntKind.i64 n_2, Value.int IntKind.i64 n_3, Value.slice a_7 n_4 c,
      Value.int IntKind.i64 n_5, Value.int IntKind.i64 n_6, Value.int IntKind.i64 n_7,
      Value.int IntKind.i64 n_8],
      Value.int IntKind.i64 nd]
      a_5.m
      (Value.tuple
      #[Value.agg
      #[Value.int IntKind.i64 n_9, Value.int IntKind.i64 n_10,
      Value.int IntKind.i64 n_11, Value.int IntKind.i64 n_12],
      Value.bool b]) ∧
      true = true ∧
      ifB (kpB g nd z (rAt l a_5.k) a_5.j)
      (∃ (a' : RtX),
      (((RtI l g nd z m a' ∧ a'.k < l.length ∧ a'.j ≤ z.length) ∧
      a_5.m = a'.m ∧
      ((SV.val (Value.int IntKind.i64 (↑a_5.k : Int)) =
      SV.val (Value.int IntKind.i64 (↑a'.k : Int)) ∧
      true = true) ∧
      (SV.val (Value.slice aa z.length ca) =
      SV.val (Value.slice aa z.length ca) ∧
      true = true) ∧
      (SV.val (Value.slice a l.length cp) =
      SV.val (Value.slice a l.length cp) ∧
      true = true) ∧
      (SV.val (Value.int IntKind.i64 g) =
      SV.val (Value.int IntKind.i64 g) ∧
      true = true) ∧
      (SV.val (Value.int IntKind.i64 nd) =
      SV.val (Value.int IntKind.i64 nd) ∧
      true = true) ∧
      (SV.val (Value.slice a_5.a (kpL l g nd z a_5.k).length a_5.c) =
      SV.val
      (Value.slice a'.a (kpL l g nd z a'.k).length a'.c) ∧
      true = true) ∧
      (SV.val
      (Value.int IntKind.i64
      (IntKind.i64.wrap ((↑a_5.j : Int) + (1 : Int)))) =
      SV.val (Value.int IntKind.i64 (↑a'.j : Int)) ∧
      true = true) ∧
      (SV.val (Value.bool true) =
      SV.val (Value.bool (kpB g nd z (rAt l a'.k) a'.j)) ∧
      true = true) ∧
      True) ∧
      True) ∧
      [l.length - a_3.k] = [l.length - a'.k]) ∧
      z.length - a'.j < z.length - a_5.j)
      (ifB b
      (∃ (b : Nat),
      ∃ (off : Nat),
      aa = some { block := b, off := off : Addr } ∧
      ((0 : Int) ≤ (↑a_5.j : Int) ∧ (↑a_5.j : Int) < (↑z.length : Int)) ∧
      ∃ (s : ByteArray),
      CellsAt a_5.m b (off + (↑a_5.j : Int).toNat * (10 : Nat) + (0 : Nat))
      [Value.string s] ∧
      ∃ (b : Nat),
      ∃ (off : Nat),
      a = some { block := b, off := off : Addr } ∧
      ((0 : Int) ≤ (↑a_5.k : Int) ∧
      (↑a_5.k : Int) < (↑l.length : Int)) ∧
      ∃ (s_1 : ByteArray),
      CellsAt a_5.m b
      (off + (↑a_5.k : Int).toNat * (4 : Nat) + (1 : Nat))
      [Value.string s_1] ∧
      ifB (s.toList == s_1.toList)
      (∃ (b : Nat),
      ∃ (off : Nat),
      a = some { block := b, off := off : Addr } ∧
      ((0 : Int) ≤ (↑a_5.k : Int) ∧
      (↑a_5.k : Int) < (↑l.length : Int)) ∧
      ∃ (n : Int),
      CellsAt a_5.m b
      (off + (↑a_5.k : Int).toNat * (4 : Nat) +
      (2 : Nat))
      [Value.int IntKind.i64 n] ∧
      ∃ (a' : RtX),
      (((RtI l g nd z m a' ∧
      a'.k < l.length ∧ a'.j ≤ z.length) ∧
      a_5.m = a'.m ∧
      ((SV.val
      (Value.int IntKind.i64
      (↑a_5.k : Int)) =
      SV.val
      (Value.int IntKind.i64
      (↑a'.k : Int)) ∧
      true = true) ∧
      (SV.val
      (Value.slice aa z.length
      ca) =
      SV.val
      (Value.slice aa z.length
      ca) ∧
      true = true) ∧
      (SV.val
      (Value.slice a
      l.length cp) =
      SV.val
      (Value.slice a
      l.length cp) ∧
      true = true) ∧
      (SV.val
      (Value.int
      IntKind.i64 g) =
      SV.val
      (Value.int
      IntKind.i64 g) ∧
      true = true) ∧
      (SV.val
      (Value.int
      IntKind.i64
      nd) =
      SV.val
      (Value.int
      IntKind.i64
      nd) ∧
      true = true) ∧
      (SV.val
      (Value.slice
      a_5.a
      (kpL l g nd z
      a_5.k).length
      a_5.c) =
      SV.val
      (Value.slice
      a'.a
      (kpL l g nd z
      a'.k).length
      a'.c) ∧
      true = true) ∧
      (SV.val
      (Value.int
      IntKind.i64
      (IntKind.i64.wrap
      ((↑a_5.j :
      Int) +
      (1 :
      Int)))) =
      SV.val
      (Value.int
      IntKind.i64
      (↑a'.j :
      Int)) ∧
      true = true) ∧
      (SV.val
      (Value.bool
      (n_10 ==
      n)) =
      SV.val
      (Value.bool
      (kpB g nd
      z
      (rAt l
      a'.k)
      a'.j)) ∧
      true = true) ∧
      True) ∧
      True) ∧
      [l.length - a_3.k] =
      [l.length - a'.k]) ∧
      z.length - a'.j < z.length - a_5.j)
      (∃ (a' : RtX),
      (((RtI l g nd z m a' ∧
      a'.k < l.length ∧ a'.j ≤ z.length) ∧
      a_5.m = a'.m ∧
      ((SV.val
      (Value.int IntKind.i64
      (↑a_5.k : Int)) =
      SV.val
      (Value.int IntKind.i64
      (↑a'.k : Int)) ∧
      true = true) ∧
      (SV.val (Value.slice aa z.length ca) =
      SV.val (Value.slice aa z.length ca) ∧
      true = true) ∧
      (SV.val (Value.slice a l.length cp) =
      SV.val (Value.slice a l.length cp) ∧
      true = true) ∧
      (SV.val (Value.int IntKind.i64 g) =
      SV.val (Value.int IntKind.i64 g) ∧
      true = true) ∧
      (SV.val (Value.int IntKind.i64 nd) =
      SV.val
      (Value.int IntKind.i64 nd) ∧
      true = true) ∧
      (SV.val
      (Value.slice a_5.a
      (kpL l g nd z
      a_5.k).length
      a_5.c) =
      SV.val
      (Value.slice a'.a
      (kpL l g nd z a'.k).length
      a'.c) ∧
      true = true) ∧
      (SV.val
      (Value.int IntKind.i64
      (IntKind.i64.wrap
      ((↑a_5.j : Int) +
      (1 : Int)))) =
      SV.val
      (Value.int IntKind.i64
      (↑a'.j : Int)) ∧
      true = true) ∧
      (SV.val (Value.bool false) =
      SV.val
      (Value.bool
      (kpB g nd z
      (rAt l a'.k)
      a'.j)) ∧
      true = true) ∧
      True) ∧
      True) ∧
      [l.length - a_3.k] = [l.length - a'.k]) ∧
      z.length - a'.j < z.length - a_5.j))
      (∃ (a' : RtX),
      (((RtI l g nd z m a' ∧ a'.k < l.length ∧ a'.j ≤ z.length) ∧
      a_5.m = a'.m ∧
      ((SV.val (Value.int IntKind.i64 (↑a_5.k : Int)) =
      SV.val (Value.int IntKind.i64 (↑a'.k : Int)) ∧
      true = true) ∧
      (SV.val (Value.slice aa z.length ca) =
      SV.val (Value.slice aa z.length ca) ∧
      true = true) ∧
      (SV.val (Value.slice a l.length cp) =
      SV.val (Value.slice a l.length cp) ∧
      true = true) ∧
      (SV.val (Value.int IntKind.i64 g) =
      SV.val (Value.int IntKind.i64 g) ∧
      true = true) ∧
      (SV.val (Value.int IntKind.i64 nd) =
      SV.val (Value.int IntKind.i64 nd) ∧
      true = true) ∧
      (SV.val
      (Value.slice a_5.a (kpL l g nd z a_5.k).length
      a_5.c) =
      SV.val
      (Value.slice a'.a (kpL l g nd z a'.k).length a'.c) ∧
      true = true) ∧
      (SV.val
      (Value.int IntKind.i64
      (IntKind.i64.wrap ((↑a_5.j : Int) + (1 : Int)))) =
      SV.val (Value.int IntKind.i64 (↑a'.j : Int)) ∧
      true = true) ∧
      (SV.val (Value.bool false) =
      SV.val (Value.bool (kpB g nd z (rAt l a'.k) a'.j)) ∧
      true = true) ∧
      True) ∧
      True) ∧
      [l.length - a_3.k] = [l.length - a'.k]) ∧
      z.length - a'.j < z.length - a_5.j)))
      (ifB (kpB g nd z (rAt l a_5.k) a_5.j)
      (∃ (b : Nat),
      ∃ (off : Nat),
      a = some { block := b, off := off : Addr } ∧
      ((0 : Int) ≤ (↑a_5.k : Int) ∧ (↑a_5.k : Int) < (↑l.length : Int)) ∧
      ∃ (n : Int),
      ∃ (s : ByteArray),
      ∃ (n_1 : Int),
      ∃ (n_2 : Int),
      CellsAt a_5.m b (off + (↑a_5.k : Int).toNat * (4 : Nat))
      [Value.int IntKind.i64 n, Value.string s, Value.int IntKind.i64 n_1, Value.int IntKind.i64 n_2] ∧
      true = true ∧
      ∀ (b : Nat),
      a_5.m.sz ≤ b →
      ∃ (old : List Value),
      ∃ (src : List Value),
      AppPre m.sz (fun (x : Nat) => False)
      (a_5.m.newBlock b
      [Value.int IntKind.i64 n, Value.string s, Value.int IntKind.i64 n_1, Value.int IntKind.i64 n_2])
      (4 : Nat) (40 : Nat) a_5.a (kpL l g nd z a_5.k).length a_5.c
      (some { block := b, off := (0 : Nat) : Addr }) (1 : Nat) old src ∧
      ∀ (a' : Option Addr) (c' : Nat) (m' : M),
      AppPost Try.prog (24 : Nat)
      (a_5.m.newBlock b
      [Value.int IntKind.i64 n, Value.string s, Value.int IntKind.i64 n_1, Value.int IntKind.i64 n_2])
      (4 : Nat) a_5.a (kpL l g nd z a_5.k).length a_5.c (1 : Nat) old src a' c' m' →
      ∃ (a'_1 : RtX),
      (RtI l g nd z m a'_1 ∧
      m' = a'_1.m ∧
      ((SV.val (Value.int IntKind.i64 (IntKind.i64.wrap ((↑a_5.k : Int) + (1 : Int)))) =
      SV.val (Value.int IntKind.i64 (↑a'_1.k : Int)) ∧
      true = true) ∧
      (SV.val (Value.slice aa z.length ca) = SV.val (Value.slice aa z.length ca) ∧
      true = true) ∧
      (SV.val (Value.slice a l.length cp) = SV.val (Value.slice a l.length cp) ∧
      true = true) ∧
      (SV.val (Value.int IntKind.i64 g) = SV.val (Value.int IntKind.i64 g) ∧
      true = true) ∧
      (SV.val (Value.int IntKind.i64 nd) = SV.val (Value.int IntKind.i64 nd) ∧
      true = true) ∧
      (SV.val (Value.slice a' ((kpL l g nd z a_5.k).length + (1 : Nat)) c') =
      SV.val (Value.slice a'_1.a (kpL l g nd z a'_1.k).length a'_1.c) ∧
      true = true) ∧
      True) ∧
      True) ∧
      l.length - a'_1.k < l.length - a_3.k)
      (∃ (a' : RtX),
      (RtI l g nd z m a' ∧
      a_5.m = a'.m ∧
      ((SV.val (Value.int IntKind.i64 (IntKind.i64.wrap ((↑a_5.k : Int) + (1 : Int)))) =
      SV.val (Value.int IntKind.i64 (↑a'.k : Int)) ∧
      true = true) ∧
      (SV.val (Value.slice aa z.length ca) = SV.val (Value.slice aa z.length ca) ∧ true = true) ∧
      (SV.val (Value.slice a l.length cp) = SV.val (Value.slice a l.length cp) ∧ true = true) ∧
      (SV.val (Value.int IntKind.i64 g) = SV.val (Value.int IntKind.i64 g) ∧ true = true) ∧
      (SV.val (Value.int IntKind.i64 nd) = SV.val (Value.int IntKind.i64 nd) ∧ true = true) ∧
      (SV.val (Value.slice a_5.a (kpL l g nd z a_5.k).length a_5.c) =
      SV.val (Value.slice a'.a (kpL l g nd z a'.k).length a'.c) ∧
      true = true) ∧
      True) ∧
      True) ∧
      l.length - a'.k < l.length - a_3.k)))
      (Done (LpR (trimE l g z nd) (Value.tuple #[Value.slice a_3.a (kpL l g nd z a_3.k).length a_3.c, Value.int IntKind.i64 (0 : Int)]) a_3.m))))) (by kernel_rfl) ?_
  refine ⟨rfl, _, rright_l a cp l (by omega) _ h, ?_⟩
  cases ht : ledB none l
  · exact ifB_true (lp_fail (by simp [trimE, ht]))
  refine ifB_false ⟨⟨0, ⟨Nat.zero_le _, rfl⟩, rfl, by simp⟩, fun k ⟨hk, hq⟩ => ifB_intro (fun hb => ?_) (fun hb => ?_)⟩
  · have hk2 : k < z.length := by simpa using hb
    obtain ⟨b9, o9, rfl, hc⟩ := hz2.row.cells (by rw [axs_len]; omega)
    have w1 : IntKind.i64.wrap ((k : Int) + 1) = ((k + 1 : Nat) : Int) := by simp [IntKind.wrap_i64]; omega
    have m1 := List.getElem_mem hk2
    refine ⟨b9, o9, rfl, by omega, _, _, _, _, _, _, _, _, _, _, _, _, by simpa using ax_at hc hk2, _, rright_q z[k].x z[k].a z[k].c (hz _ m1) _ (hz2.hs _ m1), ?_⟩
    cases hr : rightB z[k].x
    · refine ifB_true (lp_fail ?_)
      have : axsB z = false := by
        cases h2 : axsB z with
        | false => rfl
        | true => have := List.all_eq_true.1 h2 _ m1; rw [hr] at this; cases this
      simp [trimE, ht, this]
    · refine ifB_false ⟨k + 1, ⟨⟨hk2, ?_⟩, rfl, by simp [w1]⟩, by omega⟩
      unfold axsB at hq ⊢
      rw [List.take_succ_eq_append_getElem hk2, List.all_append, hq]
      simp [hr]
  have hkl : k = z.length := by simp at hb; omega
  rw [hkl, List.take_length] at hq
  have hE : trimE l g z nd = (l.filter fun r => !goneB g nd z r, 0) := by simp [trimE, ht, hq]
  have hwf : ∀ y ∈ z, rightB y.x = true := fun y hy => List.all_eq_true.1 hq y hy
  refine ⟨⟨⟨0, 0, none, 0, m⟩, ⟨Nat.zero_le _, .nil _, Agree.refl _ _⟩, rfl, by simp [kpL]⟩, fun y Y => ifB_intro (fun hb => ?_) (fun hb => ?_)⟩
  rotate_left
  · have hy : y.k = l.length := by have := Y.k; simp at hb; omega
    have ho := Y.own
    unfold kpL at ho ⊢
    rw [hy, List.take_length] at ho ⊢
    exact lp_ok hE rfl ho.row
  have hk2 : y.k < l.length := by simpa using hb
  obtain ⟨b, o, rfl, hc⟩ := (h.agree Y.ag).cells (by rw [rt_len]; omega)
  have c0 := CellsAt.field rt_k hc hk2 (p := []) (old := [I l[y.k].g]) (q := [.string l[y.k].ky, I l[y.k].le, I l[y.k].ne]) rfl
  have er : rAt l y.k = l[y.k] := by simp [rAt, List.getElem?_eq_getElem hk2]
  refine ⟨b, o, rfl, by omega, l[y.k].g, by simpa using c0, ⟨{ y with j := 0 }, ⟨⟨⟨Y.k, Y.own, Y.ag⟩, hk2, Nat.zero_le _⟩, rfl, by simp [kpB, er]⟩, rfl⟩, fun x ⟨⟨X, X1, X2⟩, X0⟩ => ifB_intro (fun hb2 => ?_) (fun hb2 => ?_)⟩
  · have xk : x.k = y.k := by simp at X0; omega
    have er : rAt l x.k = l[x.k] := by simp [rAt, List.getElem?_eq_getElem X1]
    have hj : x.j < z.length := by simpa using hb2
    have w2 : IntKind.i64.wrap ((x.j : Int) + 1) = ((x.j + 1 : Nat) : Int) := by simp [IntKind.wrap_i64]; omega
    have hzx := hz2.agree X.ag
    obtain ⟨b2, o2, rfl, hcz⟩ := hzx.row.cells (by rw [axs_len]; omega)
    obtain ⟨b3, o3, e3, hc3⟩ := (h.agree X.ag).cells (by rw [rt_len]; omega)
    cases e3
    have m1 := List.getElem_mem hj
    have nx : ∀ v, v = kpB g nd z l[x.k] (x.j + 1) → (RtI l g nd z m { x with j := x.j + 1 } ∧ x.k < l.length ∧ x.j + 1 ≤ z.length) ∧ v = kpB g nd z (rAt l x.k) (x.j + 1) := fun v e => ⟨⟨⟨X.k, X.own, X.ag⟩, X1, hj⟩, by rw [er]; exact e⟩
    have ks := kp_succ g nd z l[x.k] x.j hj
    rw [er]
    refine ⟨b2, o2, rfl, by omega, _, _, _, _, _, _, _, _, _, _, _, _, by simpa using ax_at hcz hj, _, _, _, _, _, rfind_q z[x.j].x z[x.j].a z[x.j].c nd (hz _ m1) _ (hzx.hs _ m1), rfl, ifB_intro (fun q1 => ?_) (fun q1 => ifB_intro (fun q2 => ?_) (fun q2 => ?_))⟩
    · obtain ⟨n1, n2⟩ := nx true (by rw [ks, q1]; rfl)
      exact ⟨{ x with j := x.j + 1 }, ⟨⟨n1, rfl, by simp [w2]; exact n2.symm⟩, X0⟩, by simp only; omega⟩
    · have k0 := CellsAt.field ax_k hcz hj (p := []) (old := [.string z[x.j].x.key]) (q := (encAx z[x.j]).drop 1) rfl
      have k1 := CellsAt.field rt_k hc3 X1 (p := [I l[x.k].g]) (old := [.string l[x.k].ky]) (q := [I l[x.k].le, I l[x.k].ne]) rfl
      have k2 := CellsAt.field rt_k hc3 X1 (p := [I l[x.k].g, .string l[x.k].ky]) (old := [I l[x.k].le]) (q := [I l[x.k].ne]) rfl
      refine ⟨b2, o2, rfl, by omega, _, by simpa using k0, b, o, rfl, by omega, _, by simpa using k1, ?_⟩
      rw [bytes_beq]
      refine ifB_intro (fun q3 => ⟨b, o, rfl, by omega, _, by simpa using k2, ?_⟩) (fun q3 => ?_)
      · obtain ⟨n1, n2⟩ := nx ((findH z[x.j].x nd).le == l[x.k].le) (by rw [ks, q1, leaB, q2, q3]; rfl)
        exact ⟨{ x with j := x.j + 1 }, ⟨⟨n1, rfl, by simp [w2]; exact n2⟩, X0⟩, by simp only; omega⟩
      · obtain ⟨n1, n2⟩ := nx false (by rw [ks, q1, leaB, q2, q3]; rfl)
        exact ⟨{ x with j := x.j + 1 }, ⟨⟨n1, rfl, by simp [w2]; exact n2.symm⟩, X0⟩, by simp only; omega⟩
    · obtain ⟨n1, n2⟩ := nx false (by rw [ks, q1, leaB, q2]; rfl)
      exact ⟨{ x with j := x.j + 1 }, ⟨⟨n1, rfl, by simp [w2]; exact n2.symm⟩, X0⟩, by simp only; omega⟩
  · have xk : x.k = y.k := by simp at X0; omega
    have er : rAt l x.k = l[x.k] := by simp [rAt, List.getElem?_eq_getElem X1]
    have hj : x.j = z.length := by simp at hb2; omega
    have w2 : IntKind.i64.wrap ((x.k : Int) + 1) = ((x.k + 1 : Nat) : Int) := by simp [IntKind.wrap_i64]; omega
    rw [er, hj, kp_all]
    obtain ⟨b3, o3, e3, hc3⟩ := (h.agree X.ag).cells (by rw [rt_len]; omega)
    cases e3
    have hle : (kpL l g nd z x.k).length ≤ l.length := Nat.le_trans (List.length_filter_le _ _) (by rw [List.length_take]; omega)
    have ts : kpL l g nd z (x.k + 1) = kpL l g nd z x.k ++ if goneB g nd z l[x.k] = true then [] else [l[x.k]] := by
      unfold kpL
      rw [List.take_succ_eq_append_getElem X1, List.filter_append]
      congr 1
      by_cases hh : goneB g nd z l[x.k] = true <;> simp [hh]
    refine ifB_intro (fun q1 => ?_) (fun q1 => ?_)
    · have q1 : goneB g nd z l[x.k] = false := by simpa using q1
      rw [q1] at ts
      refine ⟨b, o, rfl, by omega, _, _, _, _, by simpa using rt_at hc3 X1, rfl, fun b4 hb4 => ?_⟩
      obtain ⟨g1, g2⟩ := X.own.push (P := Try.prog) (e := 24) (bytes := 40) (src := encRt l[x.k]) hb4 X.ag.2.2 rfl rfl (by omega) rt_zr
      refine ⟨_, _, g1, fun a' c' m' hp => ?_⟩
      obtain ⟨g3, g4⟩ := g2 a' c' m' hp
      have eq1 : rts (kpL l g nd z (x.k + 1)) = rts (kpL l g nd z x.k) ++ encRt l[x.k] := by rw [ts]; simp
      have eq2 : (kpL l g nd z (x.k + 1)).length = (kpL l g nd z x.k).length + 1 := by rw [ts]; simp
      refine ⟨⟨x.k + 1, 0, a', c', m'⟩, ⟨⟨X1, ?_, X.ag.trans g4⟩, rfl, ?_⟩, by simp only; omega⟩
      · simp only [eq1, eq2]; exact g3
      · simp only [eq2, w2]; simp
    · have q1 : goneB g nd z l[x.k] = true := by simpa using q1
      rw [q1] at ts
      have ts : kpL l g nd z (x.k + 1) = kpL l g nd z x.k := by rw [ts]; simp
      refine ⟨⟨x.k + 1, 0, x.a, x.c, x.m⟩, ⟨⟨X1, ?_, X.ag⟩, rfl, ?_⟩, by simp only; omega⟩
      · simp only [ts]; exact X.own
      · simp only [ts, w2]; simp

theorem accounts_q (a a2 : Option Addr) (c c2 : Nat) (z z2 : List Ax) (hn : z.length ≤ 9223372036854775807) (hz : ∀ y ∈ z, y.x.wf) (hz2 : ∀ y ∈ z2, y.x.wf) (m : M) (h : AxR m a z) (h2 : AxR m a2 z2) :
    QSpec Try.prog 22 [.slice a z.length c, .slice a2 z2.length c2] m (.bool (decide (z.map (·.x) = z2.map (·.x)))) := by
  refine QSpec.of_vc Try.func22 (ann := fun _ => noAnn) fun n hn' => ?_
  refine vc_by (X :=
      true = true ∧
      ∃ (b : Bool),
      QSpec Try.prog (53 : Nat) [Value.slice a z.length c, Value.slice a2 z2.length c2, Value.func (Fn.func (31 : Nat)) #[] #[]] { π := m.π, sz := n, uf := m.uf : M }
      (Value.bool b) ∧
      Done (Value.bool b = Value.bool (decide (List.map (fun (x : Ax) => x.x) z = List.map (fun (x : Ax) => x.x) z2)))) (by kernel_rfl) ?_
  exact ⟨rfl, _, same_axs a a2 c c2 z z2 hn hz hz2 _ (h.sz hn') (h2.sz hn'), ⟨rfl⟩⟩

theorem axs_wf {z z' : List Ax} (h : z'.map (·.x) = z.map (·.x)) (hz : ∀ y ∈ z, y.x.wf) : ∀ y ∈ z', y.x.wf := fun y hy => by
  have : y.x ∈ z'.map (·.x) := List.mem_map.2 ⟨y, hy, rfl⟩
  rw [h] at this
  obtain ⟨w, hw, e⟩ := List.mem_map.1 this
  rw [← e]; exact hz w hw

theorem trim_map {l : List Rt} {g nd : Int} {z z' : List Ax} (h : z'.map (·.x) = z.map (·.x)) : trimE l g z' nd = trimE l g z nd := by
  have h1 : axsB z' = axsB z := by
    have : ∀ z : List Ax, axsB z = (z.map (·.x)).all rightB := fun z => by simp [axsB, Function.comp_def]
    rw [this, this, h]
  have h2 : goneB g nd z' = goneB g nd z := by
    have : ∀ z : List Ax, goneB g nd z = fun r => decide (r.g = g) && !(z.map (·.x)).any (leaB nd r) := fun z => by funext r; simp [goneB, Function.comp_def]
    rw [this, this, h]
  unfold trimE
  rw [h1, h2]

theorem trim_len (l : List Rt) (g nd : Int) (z : List Ax) : (trimE l g z nd).1.length ≤ l.length := by
  have := List.length_filter_le (fun r => !goneB g nd z r) l
  unfold trimE
  split
  · simp
  · split
    · simp
    · exact this

theorem ledgertrims (a : Option Addr) (cp : Nat) (l : List Rt) (g nd : Int) (aa : Option Addr) (ca : Nat) (z : List Ax) (hl : l.length ≤ 1048576) (hn : z.length ≤ 1048576) (hz : ∀ y ∈ z, y.x.wf ∧ y.x.hs.length ≤ 1048576) (m : M) (h : Row m a (rts l)) (hz2 : AxR m aa z) :
    QSpec Try.prog 5 [.slice a l.length cp, I g, .slice aa z.length ca, I nd] m (.bool true) := by
  refine QSpec.of_vc Try.func5 (ann := fun _ => noAnn) fun N hN => ?_
  refine vc_by (X :=
      true = true ∧
      ∃ (S' : Nat → Prop),
      (∀ (b : Nat), S' b → m.uf b ∧ (N ≤ b ∨ False)) ∧
      ∀ (n : Nat),
      N ≤ n →
      SpecW Try.prog (9 : Nat) [Value.slice a l.length cp] { π := m.π, sz := n, uf := m.uf : M } S' fun (v : Value) (m' : M) =>
      ∃ (a_2 : Option Addr),
      ∃ (n : Nat),
      ∃ (c : Nat),
      v = Value.slice a_2 n c ∧
      ∃ (S' : Nat → Prop),
      (∀ (b : Nat), S' b → m'.uf b ∧ (N ≤ b ∨ False)) ∧
      ∀ (n_1 : Nat),
      m'.sz ≤ n_1 →
      SpecW Try.prog (19 : Nat) [Value.slice aa z.length ca] { π := m'.π, sz := n_1, uf := m'.uf : M } S' fun (v : Value) (m' : M) =>
      ∃ (a_4 : Option Addr),
      ∃ (n_2 : Nat),
      ∃ (c_1 : Nat),
      v = Value.slice a_4 n_2 c_1 ∧
      ∃ (S' : Nat → Prop),
      (∀ (b : Nat), S' b → m'.uf b ∧ (N ≤ b ∨ False)) ∧
      ∀ (n_3 : Nat),
      m'.sz ≤ n_3 →
      SpecW Try.prog (20 : Nat) [Value.slice a_2 n c, Value.int IntKind.i64 g, Value.slice a_4 n_2 c_1, Value.int IntKind.i64 nd]
      { π := m'.π, sz := n_3, uf := m'.uf : M } S' fun (v : Value) (m' : M) =>
      ∃ (a_6 : Option Addr),
      ∃ (n_4 : Nat),
      ∃ (c_2 : Nat),
      ∃ (n_5 : Int),
      v = Value.tuple #[Value.slice a_6 n_4 c_2, Value.int IntKind.i64 n_5] ∧
      ∃ (S' : Nat → Prop),
      (∀ (b : Nat), S' b → m'.uf b ∧ (N ≤ b ∨ False)) ∧
      ∀ (n_6 : Nat),
      m'.sz ≤ n_6 →
      SpecW Try.prog (21 : Nat)
      [Value.slice a l.length cp, Value.int IntKind.i64 g, Value.slice aa z.length ca, Value.int IntKind.i64 nd]
      { π := m'.π, sz := n_6, uf := m'.uf : M } S' fun (v : Value) (m' : M) =>
      ∃ (a_8 : Option Addr),
      ∃ (n_7 : Nat),
      ∃ (c_3 : Nat),
      ∃ (n_8 : Int),
      v = Value.tuple #[Value.slice a_8 n_7 c_3, Value.int IntKind.i64 n_8] ∧
      ∃ (b : Bool),
      QSpec Try.prog (13 : Nat) [] m' (Value.bool b) ∧
      ifB b
      (∃ (b : Bool),
      QSpec Try.prog (15 : Nat) [Value.slice a_6 n_4 c_2, Value.slice a_8 n_7 c_3] m'
      (Value.bool b) ∧
      ifB b
      (ifB (n_5 == n_8)
      (∃ (b : Bool),
      QSpec Try.prog (18 : Nat) [Value.slice a_2 n c, Value.slice a l.length cp] m'
      (Value.bool b) ∧
      ifB b
      (∃ (b : Bool),
      QSpec Try.prog (22 : Nat) [Value.slice a_4 n_2 c_1, Value.slice aa z.length ca]
      m' (Value.bool b) ∧
      Done (Value.bool b = Value.bool true))
      (Done (Value.bool false = Value.bool true)))
      (Done (Value.bool false = Value.bool true)))
      (Done (Value.bool false = Value.bool true)))
      (Done (Value.bool false = Value.bool true))) (by kernel_rfl) ?_
  have hw : ∀ y ∈ z, y.x.wf := fun y hy => (hz y hy).1
  have R : Rs { m with sz := N } [(a, rts l)] := ⟨h.sz hN, trivial⟩
  have Z := hz2.sz hN
  have stp : ∀ {m m' : M} {N : Nat} {a : Option Addr} {z : List Ax}, AxR m a z → m.sz ≤ N → Agree N { m with sz := N } m' → AxR m' a z := fun h hN hag => (h.sz hN).agree hag
  refine ⟨rfl, _, noS, fun N1 hN1 => (own_s a cp l (by omega) _ ((R.sz hN1).1)).monoW fun v1 m1 ag1 q1 => ?_⟩
  obtain ⟨b1, e1, r1⟩ := q1
  refine ⟨_, _, _, e1, ?_⟩
  have R1 := Rs.cons r1 (Rs.step R hN1 ag1)
  have Z1 := stp Z hN1 ag1
  refine ⟨_, noS, fun N2 hN2 => (ccopies_s aa ca z hn (fun y hy => (hz y hy).2) _ (Z1.sz hN2)).monoW fun v2 m2 ag2 q2 => ?_⟩
  obtain ⟨a2, c2, z', e2, hm, r2⟩ := q2
  have hzl : z'.length = z.length := by have := congrArg List.length hm; simpa using this
  rw [← hzl] at e2
  refine ⟨_, _, _, e2, ?_⟩
  have R2 := Rs.step R1 hN2 ag2
  have Z2 := stp Z1 hN2 ag2
  have hw' := axs_wf hm hw
  refine ⟨_, noS, fun N3 hN3 => (ltrim_s _ _ l g nd a2 c2 z' (by omega) (by omega) hw' _ ((R2.sz hN3).1.take) (r2.sz hN3)).monoW fun v3 m3 ag3 q3 => ?_⟩
  obtain ⟨a3, c3, e3, r3⟩ := q3
  rw [trim_map hm] at e3 r3
  refine ⟨_, _, _, _, e3, ?_⟩
  have R3 := Rs.cons r3 (Rs.step R2 hN3 ag3)
  have Z3 := stp Z2 hN3 ag3
  have Y3 := stp r2 hN3 ag3
  refine ⟨_, noS, fun N4 hN4 => (rtrim_s _ _ l g nd aa ca z (by omega) (by omega) hw _ ((R3.sz hN4).2.2.1) (Z3.sz hN4)).monoW fun v4 m4 ag4 q4 => ?_⟩
  obtain ⟨a4, c4, e4, r4⟩ := q4
  refine ⟨_, _, _, _, e4, ?_⟩
  have R4 := Rs.cons r4 (Rs.step R3 hN4 ag4)
  have Z4 := stp Z3 hN4 ag4
  have Y4 := stp Y3 hN4 ag4
  have hl4 := trim_len l g nd z
  refine ⟨_, lawake_q _, ifB_true ⟨_, rt_plain _ _ _ _ _ _ (by omega) _ (R4.2.1) (R4.1), ?_⟩⟩
  rw [decide_eq_true (rfl : (trimE l g z nd).1 = (trimE l g z nd).1)]
  simp only [beq_self_eq_true]
  refine ifB_true (ifB_true ⟨_, kept_q b1 l a cp (by omega) _ (R4.2.2.1) (R4.2.2.2.1), ifB_true ⟨_, accounts_q a2 aa c2 ca z' z (by omega) hw' hw _ Y4 Z4, ⟨?_⟩⟩⟩)
  rw [decide_eq_true hm]

end Go.Proofs.Ytfkielfnceeedaa
