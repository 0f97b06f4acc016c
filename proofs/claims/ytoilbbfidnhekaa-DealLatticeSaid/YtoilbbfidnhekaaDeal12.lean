/-
  Contracts of functions of this seat: what each hands back, and what it leaves of memory (deal12). Nothing here is trusted: Lean checks it.
-/
import Derived.Test.YtoilbbfidnhekaaDeal11
set_option linter.unusedVariables false
set_option linter.unusedSimpArgs false
namespace Go.Proofs.Ytoilbbfidnhekaa
open Go.Vc Go.RowKit
set_option maxRecDepth 100000

/-- a list of ends of its own, and an Errno -/
structure LeR (m : M) (y : List En × Int) (v : Value) (m' : M) : Prop where
  out : ∃ a' c', v = .tuple #[.slice a' y.1.length c', I y.2] ∧ NewR m.sz (fun _ => False) m' 2 a' y.1.length c' (ens y.1)

/-- the list with the client's end raised -/
def raised (l : List En) (c s : Int) : List En :=
  if endIs l c = true then l.set (endP l c) ⟨c, if ((l[endP l c]?).map (·.sq)).getD 0 < s then s else ((l[endP l c]?).map (·.sq)).getD 0⟩ else l.take (endP l c) ++ ⟨c, s⟩ :: l.drop (endP l c)

def raiseE (l : List En) (c s : Int) : List En × Int :=
  if endsB 0 l = false then ([], 21) else if whoseB c s = false then ([], 1) else (raised l c s, 0)

theorem le_fail {m m' : M} {y : List En × Int} {e : Int} (h : y = ([], e)) : Done (LeR m y (.tuple #[.slice none 0 0, I e]) m') := ⟨by subst h; exact ⟨none, 0, rfl, .nil _⟩⟩

theorem le_ok {m m' : M} {y : List En × Int} {z : List En} {a' : Option Addr} {len c' n : Nat} (h : y = (z, 0)) (hl : len = z.length) (hr : NewR n (fun _ => False) m' 2 a' len c' (ens z)) (hn : m.sz ≤ n) : Done (LeR m y (.tuple #[.slice a' len c', I 0]) m') := ⟨by subst h; subst hl; exact ⟨a', c', rfl, hr.lower hn⟩⟩

theorem raise_s (a : Option Addr) (cp : Nat) (l : List En) (c s : Int) (hn : l.length ≤ 1048576) (h0 : a = none → l = []) (m : M) (h : Row m a (ens l)) : Vc.Spec Try.prog 27 [.slice a l.length cp, I c, I s] m (LeR m (raiseE l c s)) := by
  refine Vc.Spec.of_vc Try.func27 (ann := noAnn) ?_
  refine vc_by (X :=
      true = true ∧
      ∃ (n : Int),
      QSpec Try.prog (31 : Nat) [Value.slice a l.length cp] m (Value.int IntKind.i64 n) ∧
      ifB (n != (0 : Int)) (Done (LeR m (raiseE l c s) (Value.tuple #[Value.slice none (0 : Nat) (0 : Nat), Value.int IntKind.i64 (21 : Int)]) m))
      (∃ (b : Bool),
      QSpec Try.prog (53 : Nat) [Value.int IntKind.i64 c, Value.int IntKind.i64 s] m (Value.bool b) ∧
      ifB (!b) (Done (LeR m (raiseE l c s) (Value.tuple #[Value.slice none (0 : Nat) (0 : Nat), Value.int IntKind.i64 (1 : Int)]) m))
      (∃ (S' : Nat → Prop),
      (∀ (b : Nat), S' b → m.uf b ∧ (m.sz ≤ b ∨ False)) ∧
      ∀ (n : Nat),
      m.sz ≤ n →
      SpecW Try.prog (54 : Nat) [Value.slice a l.length cp] { π := m.π, sz := n, uf := m.uf : M } S' fun (v : Value) (m' : M) =>
      ∃ (a : Option Addr),
      ∃ (n : Nat),
      ∃ (c_1 : Nat),
      v = Value.slice a n c_1 ∧
      ∃ (n_1 : Int),
      ∃ (b : Bool),
      QSpec Try.prog (55 : Nat) [Value.slice a n c_1, Value.int IntKind.i64 c] m' (Value.tuple #[Value.int IntKind.i64 n_1, Value.bool b]) ∧
      ifB (!b)
      (true = true ∧
      ∀ (b : Nat),
      m'.sz ≤ b →
      ∃ (S' : Nat → Prop),
      (∀ (b_1 : Nat), S' b_1 → (m'.newBlock b [Value.int IntKind.i64 c, Value.int IntKind.i64 s]).uf b_1 ∧ (m.sz ≤ b_1 ∨ False)) ∧
      ∀ (n_2 : Nat),
      max m'.sz (b + (1 : Nat)) ≤ n_2 →
      SpecW Try.prog (56 : Nat)
      [Value.slice a n c_1, Value.int IntKind.i64 n_1,
      Value.slice (some { block := b, off := (0 : Nat) : Addr }) (1 : Nat) (1 : Nat)]
      { π := (m'.newBlock b [Value.int IntKind.i64 c, Value.int IntKind.i64 s]).π, sz := n_2, uf := (m'.newBlock b [Value.int IntKind.i64 c, Value.int IntKind.i64 s]).uf : M }
      S' fun (v : Value) (m' : M) =>
      ∃ (a : Option Addr),
      ∃ (n : Nat),
      ∃ (c_2 : Nat),
      v = Value.slice a n c_2 ∧
      Done (LeR m (raiseE l c s) (Value.tuple #[Value.slice a n c_2, Value.int IntKind.i64 (0 : Int)]) m'))
      (∃ (b : Nat),
      ∃ (off : Nat),
      a = some { block := b, off := off : Addr } ∧
      ((0 : Int) ≤ n_1 ∧ n_1 < (↑n : Int)) ∧
      ∃ (n_2 : Int),
      CellsAt m' b (off + n_1.toNat * (2 : Nat) + (1 : Nat)) [Value.int IntKind.i64 n_2] ∧
      ∃ (b : Nat),
      ∃ (off : Nat),
      a = some { block := b, off := off : Addr } ∧
      ((0 : Int) ≤ n_1 ∧ n_1 < (↑n : Int)) ∧
      Wr m.sz (fun (x : Nat) => False) m' b (off + n_1.toNat * (2 : Nat) + (1 : Nat))
      #[Value.int IntKind.i64 (if s > n_2 then s else n_2)].size ∧
      Done
      (LeR m (raiseE l c s) (Value.tuple #[Value.slice a n c_1, Value.int IntKind.i64 (0 : Int)])
      (m'.setCells b (off + n_1.toNat * (2 : Nat) + (1 : Nat)) [Value.int IntKind.i64 (if s > n_2 then s else n_2)])))))) (by kernel_rfl) ?_
  have hh : l.length ≤ 9223372036854775807 := by omega
  have hple := endP_le c l
  refine ⟨rfl, _, checkends_q a cp l hh _ h, ?_⟩
  cases he : endsB 0 l
  · exact ifB_true (le_fail (by simp [raiseE, he]))
  refine ifB_false ⟨_, whose_q c s _, ?_⟩
  cases hwh : whoseB c s
  · exact ifB_true (le_fail (by simp [raiseE, he, hwh]))
  have hres : raiseE l c s = (raised l c s, 0) := by simp [raiseE, he, hwh]
  refine ifB_false ⟨_, noS, fun N hN => (en_clone l a cp (by omega) h0 _ (h.sz hN)).monoW fun v m' hag ⟨a', c', hv, hr'⟩ => ⟨a', _, c', hv, _, _, end_q a' c' l c hh _ hr'.row, ?_⟩⟩
  cases hi : endIs l c
  · refine ifB_true ⟨rfl, fun b hb => ?_⟩
    have hrN := hr'.newBlock (ds := [I c, I s]) hb
    have hs := en_insert a' c' l (endP l c) b 0 1 ⟨c, s⟩ (fun b' => ∃ o, a' = some ⟨b', o, none⟩ ∧ (m'.newBlock b [I c, I s]).uf b' ∧ m.sz ≤ b') (by omega) hple
    refine ⟨fun b' => ∃ o, a' = some ⟨b', o, none⟩ ∧ (m'.newBlock b [I c, I s]).uf b' ∧ m.sz ≤ b', fun b' ⟨o, e, hu, hlo⟩ => ⟨hu, .inl hlo⟩, fun n hn => ?_⟩
    refine (hs { m'.newBlock b [I c, I s] with sz := n } ((hrN.sz hn).re fun b' o e hu hlo => .inr ⟨o, e, hu, by rcases hlo with h | h; simp only at h; omega; exact h.elim⟩)
      (fun hne b' o e => ?_) (by simp only; omega) (.inl rfl) ⟨(cellsAt_new (m := m') (b := b) (cs := [I c, I s])).out⟩).mono fun v3 m3 hag3 ⟨a3, c3, hv3, hr3⟩ => ⟨a3, _, c3, hv3, ?_⟩
    · have := (hr'.toOwn (fun e => hne (List.eq_nil_of_length_eq_zero e))).lt e
      omega
    · have ho3 : Own m.sz (fun _ => False) m3 2 a3 (l.length + 1) c3 (ens (l.take (endP l c) ++ (⟨c, s⟩ : En) :: l.drop (endP l c))) := by
        refine (hr3.toOwn (by omega)).re fun b' o e => .inl ?_
        rcases (hr3.toOwn (by omega)).lo e with g | ⟨_, _, _, g⟩
        · have := hag.2.2; simp only [M.newBlock] at g hn this; omega
        · exact g
      exact le_ok (n := m.sz) (z := raised l c s) hres (by simp [raised, hi]; omega) (.own (by simp [raised, hi]; simpa using ho3)) (Nat.le_refl _)
  · obtain ⟨x, hx, hxc⟩ : ∃ x, l[endP l c]? = some x ∧ x.cl = c := by
      unfold endIs at hi
      split at hi
      · rename_i x hx; exact ⟨x, hx, by simpa using hi⟩
      · simp at hi
    obtain ⟨hk, hx2⟩ := List.getElem?_eq_some_iff.1 hx
    subst hx2
    have ho := (hr'.toOwn (by omega)).lower hN
    obtain ⟨b, o, rfl, hc⟩ := ho.row.cells (by rw [en_len]; omega)
    have c1 := CellsAt.field en_k hc hk (p := [I l[endP l c].cl]) (old := [I l[endP l c].sq]) (q := []) rfl
    obtain ⟨g1, g2⟩ := Own.setField en_k ho hk ⟨c, if l[endP l c].sq < s then s else l[endP l c].sq⟩ (p := [I l[endP l c].cl]) (old := [I l[endP l c].sq]) (new := [I (if l[endP l c].sq < s then s else l[endP l c].sq)]) (q := []) rfl (by simp [hxc]) rfl
    refine ifB_false ⟨b, o, rfl, by omega, _, by simpa using c1, b, o, rfl, by omega, ?_, le_ok (n := m.sz) (z := raised l c s) hres (by simp [raised, hi]) (.own ?_) (Nat.le_refl _)⟩
    · exact g1
    · simp only [raised, hi, if_true, hx, Option.map_some, Option.getD_some]
      exact g2

end Go.Proofs.Ytoilbbfidnhekaa
