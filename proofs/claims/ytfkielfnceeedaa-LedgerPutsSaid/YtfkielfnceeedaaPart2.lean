/-
  Contracts of functions of this seat: what each hands back, and what it leaves of memory (led3, led4, led5). Nothing here is trusted: Lean checks it.
-/
import Derived.Test.YtfkielfnceeedaaPart1
set_option linter.unusedVariables false
set_option linter.unusedSimpArgs false
namespace Go.Proofs.Ytfkielfnceeedaa
open Go.Vc Go.RowKit
set_option maxRecDepth 100000

structure LpR (y : List Rt × Int) (v : Value) (m' : M) : Prop where
  out : ∃ a' c', v = .tuple #[.slice a' y.1.length c', I y.2] ∧ Row m' a' (rts y.1)

theorem lp_fail {m' : M} {y : List Rt × Int} {e : Int} (h : y = ([], e)) : Done (LpR y (.tuple #[.slice none 0 0, I e]) m') := ⟨by subst h; exact ⟨none, 0, rfl, .nil _⟩⟩

theorem lp_ok {m' : M} {y : List Rt × Int} {z : List Rt} {a' : Option Addr} {len c' : Nat} (h : y = (z, 0)) (hl : len = z.length) (hr : Row m' a' (rts z)) : Done (LpR y (.tuple #[.slice a' len c', I 0]) m') := ⟨by subst h; subst hl; exact ⟨a', c', rfl, hr⟩⟩

def putE (l : List Rt) (r : Rt) : List Rt × Int := if ledB none l = false then ([], 21) else if rmayB r = false then ([], 1) else (putL l r, 0)

def isN (g : Int) (k : ByteArray) (le : Int) (x : Rt) : Bool := decide (x.g = g) && decide (x.ky = k) && decide (x.le = le)

def netR (l : List Rt) (g : Int) (k : ByteArray) (le : Int) : Int := if ledB none l then ((l.find? (isN g k le)).map (·.ne)).getD 0 else 0

theorem find_at {p : Rt → Bool} : ∀ {l : List Rt} {k : Nat} (hk : k < l.length), (∀ x ∈ l.take k, p x = false) → p l[k] = true → l.find? p = some l[k]
  | [], _, hk, _, _ => by simp at hk
  | x :: xs, 0, _, _, h => by simp at h; simp [h]
  | x :: xs, k + 1, hk, hl, h => by
    have h1 := hl x (by simp)
    have hk2 : k < xs.length := by simpa using hk
    rw [List.find?_cons, h1]
    simpa using find_at (l := xs) hk2 (fun y hy => hl y (by simp [hy])) (by simpa using h)

theorem take_all {p : Rt → Bool} {l : List Rt} {k : Nat} (hk : k < l.length) (hq : ∀ x ∈ l.take k, p x = false) (h : p l[k] = false) : ∀ x ∈ l.take (k + 1), p x = false := fun x hx => by
  rw [List.take_succ_eq_append_getElem hk, List.mem_append] at hx
  rcases hx with hx | hx
  · exact hq x hx
  · have hx : x = l[k] := by simpa using hx
    subst hx; exact h

theorem lput_s (a : Option Addr) (cp : Nat) (l : List Rt) (r : Rt) (hn : l.length ≤ 3518437208870) (m : M) (h : Row m a (rts l)) : Vc.Spec Try.prog 11 [.slice a l.length cp, rtv r] m (LpR (putE l r)) := by
  refine Vc.Spec.of_vc Try.func11 (ann := noAnn) ?_
  refine vc_by (X :=
      true = true ∧
      ∃ (n : Int),
      QSpec Try.prog (14 : Nat) [Value.slice a l.length cp] m (Value.int IntKind.i64 n) ∧
      ifB (n != (0 : Int)) (Done (LpR (putE l r) (Value.tuple #[Value.slice none (0 : Nat) (0 : Nat), Value.int IntKind.i64 (21 : Int)]) m))
      (∃ (b : Bool),
      QSpec Try.prog (41 : Nat) [Value.agg #[Value.int IntKind.i64 r.g, Value.string r.ky, Value.int IntKind.i64 r.le, Value.int IntKind.i64 r.ne]] m (Value.bool b) ∧
      ifB (!b) (Done (LpR (putE l r) (Value.tuple #[Value.slice none (0 : Nat) (0 : Nat), Value.int IntKind.i64 (1 : Int)]) m))
      (∃ (S' : Nat → Prop),
      (∀ (b : Nat), S' b → m.uf b ∧ (m.sz ≤ b ∨ False)) ∧
      ∀ (n : Nat),
      m.sz ≤ n →
      SpecW Try.prog (42 : Nat) [Value.slice a l.length cp] { π := m.π, sz := n, uf := m.uf : M } S' fun (v : Value) (m' : M) =>
      ∃ (a : Option Addr),
      ∃ (n : Nat),
      ∃ (c : Nat),
      v = Value.slice a n c ∧
      ∃ (n_1 : Int),
      ∃ (b : Bool),
      QSpec Try.prog (43 : Nat)
      [Value.slice a n c, Value.agg #[Value.int IntKind.i64 r.g, Value.string r.ky, Value.int IntKind.i64 r.le, Value.int IntKind.i64 r.ne],
      Value.func (Fn.func (44 : Nat)) #[] #[]]
      m' (Value.tuple #[Value.int IntKind.i64 n_1, Value.bool b]) ∧
      ifB b
      (∃ (b : Nat),
      ∃ (off : Nat),
      a = some { block := b, off := off : Addr } ∧
      ((0 : Int) ≤ n_1 ∧ n_1 < (↑n : Int)) ∧
      Wr m.sz (fun (x : Nat) => False) m' b (off + n_1.toNat * (4 : Nat))
      #[Value.int IntKind.i64 r.g, Value.string r.ky, Value.int IntKind.i64 r.le, Value.int IntKind.i64 r.ne].size ∧
      Done
      (LpR (putE l r) (Value.tuple #[Value.slice a n c, Value.int IntKind.i64 (0 : Int)])
      (m'.setCells b (off + n_1.toNat * (4 : Nat))
      [Value.int IntKind.i64 r.g, Value.string r.ky, Value.int IntKind.i64 r.le, Value.int IntKind.i64 r.ne])))
      (true = true ∧
      ∀ (b : Nat),
      m'.sz ≤ b →
      ∃ (S' : Nat → Prop),
      (∀ (b_1 : Nat),
      S' b_1 →
      (m'.newBlock b [Value.int IntKind.i64 r.g, Value.string r.ky, Value.int IntKind.i64 r.le, Value.int IntKind.i64 r.ne]).uf
      b_1 ∧
      (m.sz ≤ b_1 ∨ False)) ∧
      ∀ (n_2 : Nat),
      max m'.sz (b + (1 : Nat)) ≤ n_2 →
      SpecW Try.prog (45 : Nat)
      [Value.slice a n c, Value.int IntKind.i64 n_1,
      Value.slice (some { block := b, off := (0 : Nat) : Addr }) (1 : Nat) (1 : Nat)]
      { π := (m'.newBlock b [Value.int IntKind.i64 r.g, Value.string r.ky, Value.int IntKind.i64 r.le, Value.int IntKind.i64 r.ne]).π, sz := n_2, uf := (m'.newBlock b [Value.int IntKind.i64 r.g, Value.string r.ky, Value.int IntKind.i64 r.le, Value.int IntKind.i64 r.ne]).uf : M }
      S' fun (v : Value) (m' : M) =>
      ∃ (a : Option Addr),
      ∃ (n : Nat),
      ∃ (c : Nat),
      v = Value.slice a n c ∧
      Done (LpR (putE l r) (Value.tuple #[Value.slice a n c, Value.int IntKind.i64 (0 : Int)]) m'))))) (by kernel_rfl) ?_
  refine ⟨rfl, _, lcheck_q a cp l (by omega) _ h, ?_⟩
  cases ht : ledB none l
  · exact ifB_true (lp_fail (by simp [putE, ht]))
  refine ifB_false ⟨_, rmay_q r _, ?_⟩
  cases hr : rmayB r
  · exact ifB_true (lp_fail (by simp [putE, ht, hr]))
  have hres : putE l r = (putL l r, 0) := by simp [putE, ht, hr]
  have hple := rtP_le l r
  refine ifB_false ⟨_, noS, fun N hN => (rt_clone l a cp (by omega) (rt_none h) _ (h.sz hN)).monoW fun v m' hag ⟨a', c', hv, hr'⟩ => ⟨a', _, c', hv, ?_⟩⟩
  have hbs := rt_bsearch a' c' l r (fun x => ordR x r) (rtP l r) (by omega) m' hr'.row (fun x _ m'' => order_q x r m'') hple (fun k hk hp => by
      have := rtP_lt ht k hk hp
      rw [ord_bel, this]; simp) (fun k hk hp => by
      have := rtP_ge ht k hk hp
      show (0 : Int) ≤ ordR l[k] r
      rw [ord_bel, this]
      by_cases h5 : sameK l[k] r = true <;> simp [h5])
  rw [rtP_of ht] at hbs
  refine ⟨_, _, hbs, ?_⟩
  cases ho : ofR l r with
  | none =>
    have e := rtP_no ht ho
    refine ifB_false ⟨rfl, fun b hb => ?_⟩
    have hrN := hr'.newBlock (ds := encRt r) hb
    have hs := rt_insert a' c' l (rtP l r) b 0 1 r (fun b' => ∃ o, a' = some ⟨b', o, none⟩ ∧ (m'.newBlock b (encRt r)).uf b' ∧ m.sz ≤ b') (by omega) hple
    refine ⟨fun b' => ∃ o, a' = some ⟨b', o, none⟩ ∧ (m'.newBlock b (encRt r)).uf b' ∧ m.sz ≤ b', fun b' ⟨o, e, hu, hlo⟩ => ⟨hu, .inl hlo⟩, fun n hn => ?_⟩
    refine (hs { m'.newBlock b (encRt r) with sz := n } ((hrN.sz hn).re fun b' o e hu hlo => .inr ⟨o, e, hu, by rcases hlo with h | h; simp only at h; omega; exact h.elim⟩)
      (fun hne b' o e => ?_) (by simp only; omega) (.inl rfl) ⟨(cellsAt_new (m := m') (b := b) (cs := encRt r)).out⟩).mono fun v3 m3 hag3 ⟨a3, c3, hv3, hr3⟩ => ⟨a3, _, c3, hv3, lp_ok (z := putL l r) hres ?_ ?_⟩
    · have := (hr'.toOwn (fun e => hne (List.eq_nil_of_length_eq_zero e))).lt e
      omega
    · rw [← e]; simp; omega
    · rw [← e]; exact hr3.row
  | some z =>
    obtain ⟨hk, hz, e⟩ := rtP_at ht ho
    have hown := (hr'.toOwn (by omega)).lower hN
    obtain ⟨b, o, rfl, hc⟩ := hown.row.cells (by rw [rt_len]; omega)
    obtain ⟨g1, g2⟩ := OwnB.setAt rt_k hown hk r
    refine ifB_true ⟨b, o, rfl, by omega, g1, lp_ok (z := putL l r) hres (by rw [← e]; simp) ?_⟩
    rw [← e]; exact g2.row

theorem lnet_q (a : Option Addr) (cp : Nat) (l : List Rt) (g : Int) (ky : ByteArray) (le : Int) (hn : l.length ≤ 9223372036854775807) (m : M) (h : Row m a (rts l)) : QSpec Try.prog 16 [.slice a l.length cp, I g, .string ky, I le] m (I (netR l g ky le)) := by
  refine QSpec.of_vc Try.func16 (ann := fun n _ => { A := Nat, inv := fun k => k ≤ l.length ∧ ∀ x ∈ l.take k, isN g ky le x = false, st := fun k => [(16, .val (I k)), (15, .val (I l.length)), (14, .val (.slice a l.length cp)), (1, .val (I g)), (2, .val (.string ky)), (3, .val (I le))], own := fun _ => [], m := fun _ => { m with sz := n }, μ := fun k => l.length - k }) fun n hn' => ?_
  refine vc_by (X :=
      true = true ∧
      ∃ (n_1 : Int),
      QSpec Try.prog (14 : Nat) [Value.slice a l.length cp] { π := m.π, sz := n, uf := m.uf : M } (Value.int IntKind.i64 n_1) ∧
      ifB (n_1 != (0 : Int)) (Done (Value.int IntKind.i64 (0 : Int) = Value.int IntKind.i64 (netR l g ky le)))
      ((∃ (a_1 : Nat),
      (a_1 ≤ l.length ∧ ∀ (x : Rt), x ∈ List.take a_1 l → isN g ky le x = false) ∧
      { π := m.π, sz := n, uf := m.uf : M } = { π := m.π, sz := n, uf := m.uf : M } ∧
      ((SV.val (Value.int IntKind.i64 (0 : Int)) = SV.val (Value.int IntKind.i64 (↑a_1 : Int)) ∧ true = true) ∧
      (SV.val (Value.int IntKind.i64 (↑l.length : Int)) = SV.val (Value.int IntKind.i64 (↑l.length : Int)) ∧ true = true) ∧
      (SV.val (Value.slice a l.length cp) = SV.val (Value.slice a l.length cp) ∧ true = true) ∧
      (SV.val (Value.int IntKind.i64 g) = SV.val (Value.int IntKind.i64 g) ∧ true = true) ∧
      (SV.val (Value.string ky) = SV.val (Value.string ky) ∧ true = true) ∧
      (SV.val (Value.int IntKind.i64 le) = SV.val (Value.int IntKind.i64 le) ∧ true = true) ∧ True) ∧
      True) ∧
      ∀ (a_1 : Nat),
      (a_1 ≤ l.length ∧ ∀ (x : Rt), x ∈ List.take a_1 l → isN g ky le x = false) →
      ifB (decide ((↑a_1 : Int) < (↑l.length : Int)))
      (∃ (b : Nat),
      ∃ (off : Nat),
      a = some { block := b, off := off : Addr } ∧
      ((0 : Int) ≤ (↑a_1 : Int) ∧ (↑a_1 : Int) < (↑l.length : Int)) ∧
      ∃ (n_2 : Int),
      ∃ (s : ByteArray),
      ∃ (n_3 : Int),
      ∃ (n_4 : Int),
      CellsAt { π := m.π, sz := n, uf := m.uf : M } b (off + (↑a_1 : Int).toNat * (4 : Nat))
      [Value.int IntKind.i64 n_2, Value.string s, Value.int IntKind.i64 n_3, Value.int IntKind.i64 n_4] ∧
      ifB (n_2 == g && (s.toList == ky.toList && (n_3 == le && (n_4 == n_4 && true))))
      (Done (Value.int IntKind.i64 n_4 = Value.int IntKind.i64 (netR l g ky le)))
      (∃ (a' : Nat),
      ((a' ≤ l.length ∧ ∀ (x : Rt), x ∈ List.take a' l → isN g ky le x = false) ∧
      { π := m.π, sz := n, uf := m.uf : M } = { π := m.π, sz := n, uf := m.uf : M } ∧
      ((SV.val (Value.int IntKind.i64 (IntKind.i64.wrap ((↑a_1 : Int) + (1 : Int)))) = SV.val (Value.int IntKind.i64 (↑a' : Int)) ∧
      true = true) ∧
      (SV.val (Value.int IntKind.i64 (↑l.length : Int)) = SV.val (Value.int IntKind.i64 (↑l.length : Int)) ∧ true = true) ∧
      (SV.val (Value.slice a l.length cp) = SV.val (Value.slice a l.length cp) ∧ true = true) ∧
      (SV.val (Value.int IntKind.i64 g) = SV.val (Value.int IntKind.i64 g) ∧ true = true) ∧
      (SV.val (Value.string ky) = SV.val (Value.string ky) ∧ true = true) ∧
      (SV.val (Value.int IntKind.i64 le) = SV.val (Value.int IntKind.i64 le) ∧ true = true) ∧ True) ∧
      True) ∧
      l.length - a' < l.length - a_1))
      (Done (Value.int IntKind.i64 (0 : Int) = Value.int IntKind.i64 (netR l g ky le))))) (by kernel_rfl) ?_
  have h' := h.sz hn'
  refine ⟨rfl, _, lcheck_q a cp l hn _ h', ?_⟩
  cases ht : ledB none l
  · exact ifB_true ⟨by simp [netR, ht]⟩
  refine ifB_false ⟨⟨0, by simp⟩, fun k ⟨hk, hq⟩ => ifB_intro (fun hb => ?_) (fun hb => ⟨?_⟩)⟩
  · have hk2 : k < l.length := by simpa using hb
    obtain ⟨b, o, rfl, hc⟩ := h'.cells (by rw [rt_len]; omega)
    have w1 : IntKind.i64.wrap ((k : Int) + 1) = ((k + 1 : Nat) : Int) := by simp [IntKind.wrap_i64]; omega
    refine ⟨b, o, rfl, by omega, _, _, _, _, by simpa using rt_at hc hk2, ifB_intro (fun h1 => ⟨?_⟩) (fun h1 => ⟨k + 1, ⟨⟨hk2, take_all hk2 hq ?_⟩, by simp [w1]⟩, by omega⟩)⟩
    · have e : isN g ky le l[k] = true := by
        rw [bytes_beq] at h1
        simp at h1
        simp [isN, h1]
      simp [netR, ht, find_at hk2 hq e]
    · rw [bytes_beq] at h1
      cases e : isN g ky le l[k] with
      | false => rfl
      | true => simp [isN] at e; simp [e] at h1
  · have hkl : k = l.length := by simp at hb; omega
    have : l.find? (isN g ky le) = none := List.find?_eq_none.2 fun x hx => by
      rw [hkl, List.take_length] at hq
      simp [hq x hx]
    simp [netR, ht, this]

theorem rnet_q (a : Option Addr) (cp : Nat) (l : List Rt) (g : Int) (ky : ByteArray) (le : Int) (hn : l.length ≤ 9223372036854775807) (m : M) (h : Row m a (rts l)) : QSpec Try.prog 17 [.slice a l.length cp, I g, .string ky, I le] m (I (netR l g ky le)) := by
  refine QSpec.of_vc Try.func17 (ann := fun n _ => { A := Nat, inv := fun k => k ≤ l.length ∧ ∀ x ∈ l.take k, isN g ky le x = false, st := fun k => [(9, .val (I k)), (0, .val (.slice a l.length cp)), (1, .val (I g)), (2, .val (.string ky)), (3, .val (I le))], own := fun _ => [], m := fun _ => { m with sz := n }, μ := fun k => l.length - k }) fun n hn' => ?_
  refine vc_by (X :=
      true = true ∧
      (∃ (a_1 : Nat),
      (a_1 ≤ l.length ∧ ∀ (x : Rt), x ∈ List.take a_1 l → isN g ky le x = false) ∧
      { π := m.π, sz := n, uf := m.uf : M } = { π := m.π, sz := n, uf := m.uf : M } ∧
      ((SV.val (Value.int IntKind.i64 (0 : Int)) = SV.val (Value.int IntKind.i64 (↑a_1 : Int)) ∧ true = true) ∧
      (SV.val (Value.slice a l.length cp) = SV.val (Value.slice a l.length cp) ∧ true = true) ∧
      (SV.val (Value.int IntKind.i64 g) = SV.val (Value.int IntKind.i64 g) ∧ true = true) ∧
      (SV.val (Value.string ky) = SV.val (Value.string ky) ∧ true = true) ∧
      (SV.val (Value.int IntKind.i64 le) = SV.val (Value.int IntKind.i64 le) ∧ true = true) ∧ True) ∧
      True) ∧
      ∀ (a_1 : Nat),
      (a_1 ≤ l.length ∧ ∀ (x : Rt), x ∈ List.take a_1 l → isN g ky le x = false) →
      ∃ (b : Bool),
      QSpec Try.prog (10 : Nat) [Value.slice a l.length cp] { π := m.π, sz := n, uf := m.uf : M } (Value.bool b) ∧
      ifB b
      (ifB (decide ((↑a_1 : Int) < (↑l.length : Int)))
      (∃ (b : Nat),
      ∃ (off : Nat),
      a = some { block := b, off := off : Addr } ∧
      ((0 : Int) ≤ (↑a_1 : Int) ∧ (↑a_1 : Int) < (↑l.length : Int)) ∧
      ∃ (n_1 : Int),
      CellsAt { π := m.π, sz := n, uf := m.uf : M } b (off + (↑a_1 : Int).toNat * (4 : Nat) + (0 : Nat)) [Value.int IntKind.i64 n_1] ∧
      ifB (n_1 == g)
      (∃ (b : Nat),
      ∃ (off : Nat),
      a = some { block := b, off := off : Addr } ∧
      ((0 : Int) ≤ (↑a_1 : Int) ∧ (↑a_1 : Int) < (↑l.length : Int)) ∧
      ∃ (s : ByteArray),
      CellsAt { π := m.π, sz := n, uf := m.uf : M } b (off + (↑a_1 : Int).toNat * (4 : Nat) + (1 : Nat)) [Value.string s] ∧
      ifB (s.toList == ky.toList)
      (∃ (b : Nat),
      ∃ (off : Nat),
      a = some { block := b, off := off : Addr } ∧
      ((0 : Int) ≤ (↑a_1 : Int) ∧ (↑a_1 : Int) < (↑l.length : Int)) ∧
      ∃ (n_2 : Int),
      CellsAt { π := m.π, sz := n, uf := m.uf : M } b (off + (↑a_1 : Int).toNat * (4 : Nat) + (2 : Nat))
      [Value.int IntKind.i64 n_2] ∧
      ifB (n_2 == le)
      (∃ (b : Nat),
      ∃ (off : Nat),
      a = some { block := b, off := off : Addr } ∧
      ((0 : Int) ≤ (↑a_1 : Int) ∧ (↑a_1 : Int) < (↑l.length : Int)) ∧
      ∃ (n_3 : Int),
      CellsAt { π := m.π, sz := n, uf := m.uf : M } b (off + (↑a_1 : Int).toNat * (4 : Nat) + (3 : Nat))
      [Value.int IntKind.i64 n_3] ∧
      Done (Value.int IntKind.i64 n_3 = Value.int IntKind.i64 (netR l g ky le)))
      (∃ (a' : Nat),
      ((a' ≤ l.length ∧ ∀ (x : Rt), x ∈ List.take a' l → isN g ky le x = false) ∧
      { π := m.π, sz := n, uf := m.uf : M } = { π := m.π, sz := n, uf := m.uf : M } ∧
      ((SV.val (Value.int IntKind.i64 (IntKind.i64.wrap ((↑a_1 : Int) + (1 : Int)))) =
      SV.val (Value.int IntKind.i64 (↑a' : Int)) ∧
      true = true) ∧
      (SV.val (Value.slice a l.length cp) = SV.val (Value.slice a l.length cp) ∧ true = true) ∧
      (SV.val (Value.int IntKind.i64 g) = SV.val (Value.int IntKind.i64 g) ∧ true = true) ∧
      (SV.val (Value.string ky) = SV.val (Value.string ky) ∧ true = true) ∧
      (SV.val (Value.int IntKind.i64 le) = SV.val (Value.int IntKind.i64 le) ∧ true = true) ∧ True) ∧
      True) ∧
      l.length - a' < l.length - a_1))
      (∃ (a' : Nat),
      ((a' ≤ l.length ∧ ∀ (x : Rt), x ∈ List.take a' l → isN g ky le x = false) ∧
      { π := m.π, sz := n, uf := m.uf : M } = { π := m.π, sz := n, uf := m.uf : M } ∧
      ((SV.val (Value.int IntKind.i64 (IntKind.i64.wrap ((↑a_1 : Int) + (1 : Int)))) = SV.val (Value.int IntKind.i64 (↑a' : Int)) ∧
      true = true) ∧
      (SV.val (Value.slice a l.length cp) = SV.val (Value.slice a l.length cp) ∧ true = true) ∧
      (SV.val (Value.int IntKind.i64 g) = SV.val (Value.int IntKind.i64 g) ∧ true = true) ∧
      (SV.val (Value.string ky) = SV.val (Value.string ky) ∧ true = true) ∧
      (SV.val (Value.int IntKind.i64 le) = SV.val (Value.int IntKind.i64 le) ∧ true = true) ∧ True) ∧
      True) ∧
      l.length - a' < l.length - a_1))
      (∃ (a' : Nat),
      ((a' ≤ l.length ∧ ∀ (x : Rt), x ∈ List.take a' l → isN g ky le x = false) ∧
      { π := m.π, sz := n, uf := m.uf : M } = { π := m.π, sz := n, uf := m.uf : M } ∧
      ((SV.val (Value.int IntKind.i64 (IntKind.i64.wrap ((↑a_1 : Int) + (1 : Int)))) = SV.val (Value.int IntKind.i64 (↑a' : Int)) ∧ true = true) ∧
      (SV.val (Value.slice a l.length cp) = SV.val (Value.slice a l.length cp) ∧ true = true) ∧
      (SV.val (Value.int IntKind.i64 g) = SV.val (Value.int IntKind.i64 g) ∧ true = true) ∧
      (SV.val (Value.string ky) = SV.val (Value.string ky) ∧ true = true) ∧
      (SV.val (Value.int IntKind.i64 le) = SV.val (Value.int IntKind.i64 le) ∧ true = true) ∧ True) ∧
      True) ∧
      l.length - a' < l.length - a_1))
      (Done (Value.int IntKind.i64 (0 : Int) = Value.int IntKind.i64 (netR l g ky le))))
      (Done (Value.int IntKind.i64 (0 : Int) = Value.int IntKind.i64 (netR l g ky le)))) (by kernel_rfl) ?_
  have h' := h.sz hn'
  refine ⟨rfl, ⟨0, by simp⟩, fun k ⟨hk, hq⟩ => ⟨_, rright_l a cp l hn _ h', ?_⟩⟩
  cases ht : ledB none l
  · exact ifB_false ⟨by simp [netR, ht]⟩
  refine ifB_true (ifB_intro (fun hb => ?_) (fun hb => ⟨?_⟩))
  · have hk2 : k < l.length := by simpa using hb
    obtain ⟨b, o, rfl, hc⟩ := h'.cells (by rw [rt_len]; omega)
    have w1 : IntKind.i64.wrap ((k : Int) + 1) = ((k + 1 : Nat) : Int) := by simp [IntKind.wrap_i64]; omega
    have c0 := CellsAt.field rt_k hc hk2 (p := []) (old := [I l[k].g]) (q := [.string l[k].ky, I l[k].le, I l[k].ne]) rfl
    have c1 := CellsAt.field rt_k hc hk2 (p := [I l[k].g]) (old := [.string l[k].ky]) (q := [I l[k].le, I l[k].ne]) rfl
    have c2 := CellsAt.field rt_k hc hk2 (p := [I l[k].g, .string l[k].ky]) (old := [I l[k].le]) (q := [I l[k].ne]) rfl
    have c3 := CellsAt.field rt_k hc hk2 (p := [I l[k].g, .string l[k].ky, I l[k].le]) (old := [I l[k].ne]) (q := []) rfl
    have nx : isN g ky le l[k] = false → (k + 1 ≤ l.length ∧ ∀ x ∈ l.take (k + 1), isN g ky le x = false) := fun e => ⟨hk2, take_all hk2 hq e⟩
    refine ⟨b, o, rfl, by omega, _, by simpa using c0, ifB_intro (fun h1 => ⟨b, o, rfl, by omega, _, by simpa using c1, ifB_intro (fun h2 => ⟨b, o, rfl, by omega, _, by simpa using c2, ifB_intro (fun h3 => ⟨b, o, rfl, by omega, _, by simpa using c3, ⟨?_⟩⟩) (fun h3 => ⟨k + 1, ⟨nx ?_, by simp [w1]⟩, by omega⟩)⟩) (fun h2 => ⟨k + 1, ⟨nx ?_, by simp [w1]⟩, by omega⟩)⟩) (fun h1 => ⟨k + 1, ⟨nx ?_, by simp [w1]⟩, by omega⟩)⟩
    · have e : isN g ky le l[k] = true := by
        rw [bytes_beq] at h2
        simp at h1 h2 h3
        simp [isN, h1, h2, h3]
      simp [netR, ht, find_at hk2 hq e]
    · simp at h3; simp [isN, h3]
    · rw [bytes_beq] at h2; simp at h2; simp [isN, h2]
    · simp at h1; simp [isN, h1]
  · have hkl : k = l.length := by simp at hb; omega
    have : l.find? (isN g ky le) = none := List.find?_eq_none.2 fun x hx => by
      rw [hkl, List.take_length] at hq
      simp [hq x hx]
    simp [netR, ht, this]

end Go.Proofs.Ytfkielfnceeedaa
set_option linter.unusedVariables false
set_option linter.unusedSimpArgs false
namespace Go.Proofs.Ytfkielfnceeedaa
open Go.Vc Go.RowKit
set_option maxRecDepth 100000

structure PuX where
  k : Nat
  a1 : Option Addr
  c1 : Nat
  a2 : Option Addr
  c2 : Nat
  m : M

def loR (l : List Rt) (r : Rt) (k : Nat) : List Rt := (l.take k).filter fun x => bel x r

def hiR (l : List Rt) (r : Rt) (k : Nat) : List Rt := (l.take k).filter fun x => bel r x

theorem fil_succ (f : Rt → Bool) (l : List Rt) (k : Nat) (hk : k < l.length) : (l.take (k + 1)).filter f = (l.take k).filter f ++ if f l[k] = true then [l[k]] else [] := by
  rw [List.take_succ_eq_append_getElem hk, List.filter_append]
  congr 1
  by_cases h : f l[k] = true <;> simp [h]

theorem fil_le (f : Rt → Bool) (l : List Rt) (k : Nat) : ((l.take k).filter f).length ≤ l.length :=
  Nat.le_trans (List.length_filter_le _ _) (by rw [List.length_take]; omega)

structure PuI (l : List Rt) (r : Rt) (m : M) (y : PuX) : Prop where
  k : y.k ≤ l.length
  two : Two m.sz y.m 4 y.a1 (loR l r y.k).length y.c1 (rts (loR l r y.k)) 4 y.a2 (hiR l r y.k).length y.c2 (rts (hiR l r y.k))
  ag : Agree m.sz m y.m

theorem fil_sum (r : Rt) : ∀ l : List Rt, (l.filter fun x => bel x r).length + (l.filter fun x => bel r x).length ≤ l.length
  | [] => by simp
  | y :: l => by
    have ih := fil_sum r l
    cases h1 : bel y r with
    | true => simp [List.filter_cons, h1, bel_asym h1]; omega
    | false => cases h2 : bel r y <;> simp [List.filter_cons, h1, h2] <;> omega

set_option maxHeartbeats 1000000 in
theorem rput_s (a : Option Addr) (cp : Nat) (l : List Rt) (r : Rt) (hn : l.length ≤ 3518437208870) (m : M) (h : Row m a (rts l)) : Vc.Spec Try.prog 12 [.slice a l.length cp, rtv r] m (LpR (putE l r)) := by
  refine Vc.Spec.of_vc Try.func12 (ann := fun _ => { A := PuX, inv := PuI l r m, st := fun y => [(8, .val (I y.k)), (0, .val (.slice a l.length cp)), (3, .own 0 0), (6, .val (.slice y.a1 (loR l r y.k).length y.c1)), (7, .val (.slice y.a2 (hiR l r y.k).length y.c2))], own := fun _ => [(0, ⟨24, encRt r⟩)], m := fun y => y.m, μ := fun y => l.length - y.k }) ?_
  refine vc_by (X :=
      true = true ∧
      ∃ (b : Bool),
      QSpec Try.prog (10 : Nat) [Value.slice a l.length cp] m (Value.bool b) ∧
      ifB (!b) (Done (LpR (putE l r) (Value.tuple #[Value.slice none (0 : Nat) (0 : Nat), Value.int IntKind.i64 (21 : Int)]) m))
      (∃ (b : Bool),
      QSpec Try.prog (39 : Nat) [Value.agg #[Value.int IntKind.i64 r.g, Value.string r.ky, Value.int IntKind.i64 r.le, Value.int IntKind.i64 r.ne]] m (Value.bool b) ∧
      ifB (!b) (Done (LpR (putE l r) (Value.tuple #[Value.slice none (0 : Nat) (0 : Nat), Value.int IntKind.i64 (1 : Int)]) m))
      ((∃ (a_1 : PuX),
      PuI l r m a_1 ∧
      m = a_1.m ∧
      ((SV.val (Value.int IntKind.i64 (0 : Int)) = SV.val (Value.int IntKind.i64 (↑a_1.k : Int)) ∧ true = true) ∧
      (SV.val (Value.slice a l.length cp) = SV.val (Value.slice a l.length cp) ∧ true = true) ∧
      (SV.own ((0 : Nat) + (0 : Nat)) (0 : Nat) = SV.own (0 : Nat) (0 : Nat) ∧ true = true) ∧
      (SV.val (Value.slice none (0 : Nat) (0 : Nat)) = SV.val (Value.slice a_1.a1 (loR l r a_1.k).length a_1.c1) ∧ true = true) ∧
      (SV.val (Value.slice none (0 : Nat) (0 : Nat)) = SV.val (Value.slice a_1.a2 (hiR l r a_1.k).length a_1.c2) ∧ true = true) ∧ True) ∧
      (some { ty := (24 : Nat), cs := [Value.int IntKind.i64 r.g, Value.string r.ky, Value.int IntKind.i64 r.le, Value.int IntKind.i64 r.ne] : Bx } =
      some { ty := (24 : TypeId), cs := [Value.int IntKind.i64 r.g, Value.string r.ky, Value.int IntKind.i64 r.le, Value.int IntKind.i64 r.ne] : Bx } ∧
      true = true) ∧
      True) ∧
      ∀ (a_1 : PuX),
      PuI l r m a_1 →
      ifB (decide ((↑a_1.k : Int) < (↑l.length : Int)))
      (true = true ∧
      ∃ (b : Nat),
      ∃ (off : Nat),
      a = some { block := b, off := off : Addr } ∧
      ((0 : Int) ≤ (↑a_1.k : Int) ∧ (↑a_1.k : Int) < (↑l.length : Int)) ∧
      ∃ (n : Int),
      ∃ (s : ByteArray),
      ∃ (n_1 : Int),
      ∃ (n_2 : Int),
      CellsAt a_1.m b (off + (↑a_1.k : Int).toNat * (4 : Nat))
      [Value.int IntKind.i64 n, Value.string s, Value.int IntKind.i64 n_1, Value.int IntKind.i64 n_2] ∧
      ∃ (b : Bool),
      QSpec Try.prog (40 : Nat)
      [Value.agg #[Value.int IntKind.i64 n, Value.string s, Value.int IntKind.i64 n_1, Value.int IntKind.i64 n_2],
      Value.agg #[Value.int IntKind.i64 r.g, Value.string r.ky, Value.int IntKind.i64 r.le, Value.int IntKind.i64 r.ne]]
      a_1.m (Value.bool b) ∧
      ifB b
      (∃ (b : Nat),
      ∃ (off : Nat),
      a = some { block := b, off := off : Addr } ∧
      ((0 : Int) ≤ (↑a_1.k : Int) ∧ (↑a_1.k : Int) < (↑l.length : Int)) ∧
      ∃ (n : Int),
      ∃ (s : ByteArray),
      ∃ (n_3 : Int),
      ∃ (n_4 : Int),
      CellsAt a_1.m b (off + (↑a_1.k : Int).toNat * (4 : Nat))
      [Value.int IntKind.i64 n, Value.string s, Value.int IntKind.i64 n_3, Value.int IntKind.i64 n_4] ∧
      true = true ∧
      ∀ (b : Nat),
      a_1.m.sz ≤ b →
      ∃ (old : List Value),
      ∃ (src : List Value),
      AppPre m.sz (fun (x : Nat) => False)
      (a_1.m.newBlock b
      [Value.int IntKind.i64 n, Value.string s, Value.int IntKind.i64 n_3, Value.int IntKind.i64 n_4])
      (4 : Nat) (40 : Nat) a_1.a1 (loR l r a_1.k).length a_1.c1
      (some { block := b, off := (0 : Nat) : Addr }) (1 : Nat) old src ∧
      ∀ (a' : Option Addr) (c' : Nat) (m' : M),
      AppPost Try.prog (24 : Nat)
      (a_1.m.newBlock b
      [Value.int IntKind.i64 n, Value.string s, Value.int IntKind.i64 n_3,
      Value.int IntKind.i64 n_4])
      (4 : Nat) a_1.a1 (loR l r a_1.k).length a_1.c1 (1 : Nat) old src a' c' m' →
      true = true ∧
      ∃ (b : Nat),
      ∃ (off : Nat),
      a = some { block := b, off := off : Addr } ∧
      ((0 : Int) ≤ (↑a_1.k : Int) ∧ (↑a_1.k : Int) < (↑l.length : Int)) ∧
      ∃ (n : Int),
      ∃ (s : ByteArray),
      ∃ (n_5 : Int),
      ∃ (n_6 : Int),
      CellsAt m' b (off + (↑a_1.k : Int).toNat * (4 : Nat))
      [Value.int IntKind.i64 n, Value.string s, Value.int IntKind.i64 n_5,
      Value.int IntKind.i64 n_6] ∧
      ∃ (b : Bool),
      QSpec Try.prog (40 : Nat)
      [Value.agg
      #[Value.int IntKind.i64 r.g, Value.string r.ky,
      Value.int IntKind.i64 r.le, Value.int IntKind.i64 r.ne],
      Value.agg
      #[Value.int IntKind.i64 n, Value.string s,
      Value.int IntKind.i64 n_5, Value.int IntKind.i64 n_6]]
      m' (Value.bool b) ∧
      ifB b
      (∃ (b : Nat),
      ∃ (off : Nat),
      a = some { block := b, off := off : Addr } ∧
      ((0 : Int) ≤ (↑a_1.k : Int) ∧
      (↑a_1.k : Int) < (↑l.length : Int)) ∧
      ∃ (n : Int),
      ∃ (s : ByteArray),
      ∃ (n_7 : Int),
      ∃ (n_8 : Int),
      CellsAt m' b (off + (↑a_1.k : Int).toNat * (4 : Nat))
      [Value.int IntKind.i64 n, Value.string s,
      Value.int IntKind.i64 n_7,
      Value.int IntKind.i64 n_8] ∧
      true = true ∧
      ∀ (b : Nat),
      m'.sz ≤ b →
      ∃ (old : List Value),
      ∃ (src : List Value),
      AppPre m.sz (fun (x : Nat) => False)
      (m'.newBlock b
      [Value.int IntKind.i64 n,
      Value.string s,
      Value.int IntKind.i64 n_7,
      Value.int IntKind.i64 n_8])
      (4 : Nat) (40 : Nat) a_1.a2
      (hiR l r a_1.k).length a_1.c2
      (some
      { block := b, off := (0 : Nat) : Addr })
      (1 : Nat) old src ∧
      ∀ (a'_1 : Option Addr) (c'_1 : Nat)
      (m'_1 : M),
      AppPost Try.prog (24 : Nat)
      (m'.newBlock b
      [Value.int IntKind.i64 n,
      Value.string s,
      Value.int IntKind.i64 n_7,
      Value.int IntKind.i64 n_8])
      (4 : Nat) a_1.a2
      (hiR l r a_1.k).length a_1.c2
      (1 : Nat) old src a'_1 c'_1 m'_1 →
      ∃ (a'_2 : PuX),
      (PuI l r m a'_2 ∧
      m'_1 = a'_2.m ∧
      ((SV.val
      (Value.int
      IntKind.i64
      (IntKind.i64.wrap
      ((↑a_1.k :
      Int) +
      (1 : Int)))) =
      SV.val
      (Value.int
      IntKind.i64
      (↑a'_2.k : Int)) ∧
      true = true) ∧
      (SV.val
      (Value.slice a
      l.length cp) =
      SV.val
      (Value.slice a
      l.length cp) ∧
      true = true) ∧
      (SV.own (0 : Nat)
      (0 : Nat) =
      SV.own (0 : Nat)
      (0 : Nat) ∧
      true = true) ∧
      (SV.val
      (Value.slice
      a'
      ((loR l r
      a_1.k).length +
      (1 : Nat))
      c') =
      SV.val
      (Value.slice
      a'_2.a1
      (loR l r
      a'_2.k).length
      a'_2.c1) ∧
      true = true) ∧
      (SV.val
      (Value.slice
      a'_1
      ((hiR l r
      a_1.k).length +
      (1 :
      Nat))
      c'_1) =
      SV.val
      (Value.slice
      a'_2.a2
      (hiR l r
      a'_2.k).length
      a'_2.c2) ∧
      true = true) ∧
      True) ∧
      (some
      { ty := (24 : TypeId), cs := [Value.int IntKind.i64 r.g, Value.string r.ky, Value.int IntKind.i64 r.le, Value.int IntKind.i64 r.ne] : Bx } =
      some
      { ty := (24 : TypeId), cs := [Value.int IntKind.i64 r.g, Value.string r.ky, Value.int IntKind.i64 r.le, Value.int IntKind.i64 r.ne] : Bx } ∧
      true = true) ∧
      True) ∧
      l.length - a'_2.k <
      l.length - a_1.k)
      (∃ (a'_1 : PuX),
      (PuI l r m a'_1 ∧
      m' = a'_1.m ∧
      ((SV.val
      (Value.int IntKind.i64
      (IntKind.i64.wrap ((↑a_1.k : Int) + (1 : Int)))) =
      SV.val (Value.int IntKind.i64 (↑a'_1.k : Int)) ∧
      true = true) ∧
      (SV.val (Value.slice a l.length cp) =
      SV.val (Value.slice a l.length cp) ∧
      true = true) ∧
      (SV.own (0 : Nat) (0 : Nat) = SV.own (0 : Nat) (0 : Nat) ∧
      true = true) ∧
      (SV.val
      (Value.slice a'
      ((loR l r a_1.k).length + (1 : Nat)) c') =
      SV.val
      (Value.slice a'_1.a1 (loR l r a'_1.k).length
      a'_1.c1) ∧
      true = true) ∧
      (SV.val
      (Value.slice a_1.a2 (hiR l r a_1.k).length
      a_1.c2) =
      SV.val
      (Value.slice a'_1.a2 (hiR l r a'_1.k).length
      a'_1.c2) ∧
      true = true) ∧
      True) ∧
      (some
      { ty := (24 : TypeId), cs := [Value.int IntKind.i64 r.g, Value.string r.ky, Value.int IntKind.i64 r.le, Value.int IntKind.i64 r.ne] : Bx } =
      some
      { ty := (24 : TypeId), cs := [Value.int IntKind.i64 r.g, Value.string r.ky, Value.int IntKind.i64 r.le, Value.int IntKind.i64 r.ne] : Bx } ∧
      true = true) ∧
      True) ∧
      l.length - a'_1.k < l.length - a_1.k))
      (true = true ∧
      ∃ (b : Nat),
      ∃ (off : Nat),
      a = some { block := b, off := off : Addr } ∧
      ((0 : Int) ≤ (↑a_1.k : Int) ∧ (↑a_1.k : Int) < (↑l.length : Int)) ∧
      ∃ (n : Int),
      ∃ (s : ByteArray),
      ∃ (n_3 : Int),
      ∃ (n_4 : Int),
      CellsAt a_1.m b (off + (↑a_1.k : Int).toNat * (4 : Nat))
      [Value.int IntKind.i64 n, Value.string s, Value.int IntKind.i64 n_3, Value.int IntKind.i64 n_4] ∧
      ∃ (b : Bool),
      QSpec Try.prog (40 : Nat)
      [Value.agg
      #[Value.int IntKind.i64 r.g, Value.string r.ky, Value.int IntKind.i64 r.le,
      Value.int IntKind.i64 r.ne],
      Value.agg
      #[Value.int IntKind.i64 n, Value.string s, Value.int IntKind.i64 n_3, Value.int IntKind.i64 n_4]]
      a_1.m (Value.bool b) ∧
      ifB b
      (∃ (b : Nat),
      ∃ (off : Nat),
      a = some { block := b, off := off : Addr } ∧
      ((0 : Int) ≤ (↑a_1.k : Int) ∧ (↑a_1.k : Int) < (↑l.length : Int)) ∧
      ∃ (n : Int),
      ∃ (s : ByteArray),
      ∃ (n_5 : Int),
      ∃ (n_6 : Int),
      CellsAt a_1.m b (off + (↑a_1.k : Int).toNat * (4 : Nat))
      [Value.int IntKind.i64 n, Value.string s, Value.int IntKind.i64 n_5,
      Value.int IntKind.i64 n_6] ∧
      true = true ∧
      ∀ (b : Nat),
      a_1.m.sz ≤ b →
      ∃ (old : List Value),
      ∃ (src : List Value),
      AppPre m.sz (fun (x : Nat) => False)
      (a_1.m.newBlock b
      [Value.int IntKind.i64 n, Value.string s, Value.int IntKind.i64 n_5,
      Value.int IntKind.i64 n_6])
      (4 : Nat) (40 : Nat) a_1.a2 (hiR l r a_1.k).length a_1.c2
      (some { block := b, off := (0 : Nat) : Addr }) (1 : Nat) old src ∧
      ∀ (a' : Option Addr) (c' : Nat) (m' : M),
      AppPost Try.prog (24 : Nat)
      (a_1.m.newBlock b
      [Value.int IntKind.i64 n, Value.string s, Value.int IntKind.i64 n_5,
      Value.int IntKind.i64 n_6])
      (4 : Nat) a_1.a2 (hiR l r a_1.k).length a_1.c2 (1 : Nat) old src a' c'
      m' →
      ∃ (a'_1 : PuX),
      (PuI l r m a'_1 ∧
      m' = a'_1.m ∧
      ((SV.val
      (Value.int IntKind.i64
      (IntKind.i64.wrap ((↑a_1.k : Int) + (1 : Int)))) =
      SV.val (Value.int IntKind.i64 (↑a'_1.k : Int)) ∧
      true = true) ∧
      (SV.val (Value.slice a l.length cp) =
      SV.val (Value.slice a l.length cp) ∧
      true = true) ∧
      (SV.own (0 : Nat) (0 : Nat) = SV.own (0 : Nat) (0 : Nat) ∧
      true = true) ∧
      (SV.val
      (Value.slice a_1.a1 (loR l r a_1.k).length
      a_1.c1) =
      SV.val
      (Value.slice a'_1.a1 (loR l r a'_1.k).length
      a'_1.c1) ∧
      true = true) ∧
      (SV.val
      (Value.slice a'
      ((hiR l r a_1.k).length + (1 : Nat)) c') =
      SV.val
      (Value.slice a'_1.a2 (hiR l r a'_1.k).length
      a'_1.c2) ∧
      true = true) ∧
      True) ∧
      (some
      { ty := (24 : TypeId), cs := [Value.int IntKind.i64 r.g, Value.string r.ky, Value.int IntKind.i64 r.le, Value.int IntKind.i64 r.ne] : Bx } =
      some
      { ty := (24 : TypeId), cs := [Value.int IntKind.i64 r.g, Value.string r.ky, Value.int IntKind.i64 r.le, Value.int IntKind.i64 r.ne] : Bx } ∧
      true = true) ∧
      True) ∧
      l.length - a'_1.k < l.length - a_1.k)
      (∃ (a' : PuX),
      (PuI l r m a' ∧
      a_1.m = a'.m ∧
      ((SV.val (Value.int IntKind.i64 (IntKind.i64.wrap ((↑a_1.k : Int) + (1 : Int)))) =
      SV.val (Value.int IntKind.i64 (↑a'.k : Int)) ∧
      true = true) ∧
      (SV.val (Value.slice a l.length cp) = SV.val (Value.slice a l.length cp) ∧ true = true) ∧
      (SV.own (0 : Nat) (0 : Nat) = SV.own (0 : Nat) (0 : Nat) ∧ true = true) ∧
      (SV.val (Value.slice a_1.a1 (loR l r a_1.k).length a_1.c1) =
      SV.val (Value.slice a'.a1 (loR l r a'.k).length a'.c1) ∧
      true = true) ∧
      (SV.val (Value.slice a_1.a2 (hiR l r a_1.k).length a_1.c2) =
      SV.val (Value.slice a'.a2 (hiR l r a'.k).length a'.c2) ∧
      true = true) ∧
      True) ∧
      (some
      { ty := (24 : TypeId), cs := [Value.int IntKind.i64 r.g, Value.string r.ky, Value.int IntKind.i64 r.le, Value.int IntKind.i64 r.ne] : Bx } =
      some
      { ty := (24 : TypeId), cs := [Value.int IntKind.i64 r.g, Value.string r.ky, Value.int IntKind.i64 r.le, Value.int IntKind.i64 r.ne] : Bx } ∧
      true = true) ∧
      True) ∧
      l.length - a'.k < l.length - a_1.k)))
      (true = true ∧
      ∀ (b : Nat),
      a_1.m.sz ≤ b →
      ∃ (old : List Value),
      ∃ (src : List Value),
      AppPre m.sz (fun (x : Nat) => False)
      (a_1.m.newBlock b [Value.int IntKind.i64 r.g, Value.string r.ky, Value.int IntKind.i64 r.le, Value.int IntKind.i64 r.ne]) (4 : Nat) (40 : Nat)
      a_1.a1 (loR l r a_1.k).length a_1.c1 (some { block := b, off := (0 : Nat) : Addr }) (1 : Nat) old src ∧
      ∀ (a' : Option Addr) (c' : Nat) (m' : M),
      AppPost Try.prog (24 : Nat)
      (a_1.m.newBlock b [Value.int IntKind.i64 r.g, Value.string r.ky, Value.int IntKind.i64 r.le, Value.int IntKind.i64 r.ne]) (4 : Nat) a_1.a1
      (loR l r a_1.k).length a_1.c1 (1 : Nat) old src a' c' m' →
      ∃ (old : List Value),
      ∃ (src : List Value),
      AppPre m.sz (fun (x : Nat) => False) m' (4 : Nat) (40 : Nat) a' ((loR l r a_1.k).length + (1 : Nat)) c' a_1.a2 (hiR l r a_1.k).length old
      src ∧
      ∀ (a'_1 : Option Addr) (c'_1 : Nat) (m'_1 : M),
      AppPost Try.prog (24 : Nat) m' (4 : Nat) a' ((loR l r a_1.k).length + (1 : Nat)) c' (hiR l r a_1.k).length old src a'_1 c'_1 m'_1 →
      Done
      (LpR (putE l r)
      (Value.tuple
      #[Value.slice a'_1 ((loR l r a_1.k).length + (1 : Nat) + (hiR l r a_1.k).length) c'_1, Value.int IntKind.i64 (0 : Int)])
      m'_1))))) (by kernel_rfl) ?_
  refine ⟨rfl, _, rright_l a cp l (by omega) _ h, ?_⟩
  cases ht : ledB none l
  · exact ifB_true (lp_fail (by simp [putE, ht]))
  refine ifB_false ⟨_, rrmay_q r _, ?_⟩
  cases hr : rmayB r
  · exact ifB_true (lp_fail (by simp [putE, ht, hr]))
  have hres : putE l r = (putL l r, 0) := by simp [putE, ht, hr]
  refine ifB_false ⟨⟨⟨0, none, 0, none, 0, m⟩, ⟨Nat.zero_le _, .nil, Agree.refl _ _⟩, rfl, by simp [loR, hiR]⟩, fun y Y => ifB_intro (fun h3 => ?_) (fun h3 => ?_)⟩
  · have hk2 : y.k < l.length := by simpa using h3
    obtain ⟨b, o, rfl, hc⟩ := (h.agree Y.ag).cells (by rw [rt_len]; omega)
    have w1 : IntKind.i64.wrap ((y.k : Int) + 1) = ((y.k + 1 : Nat) : Int) := by simp [IntKind.wrap_i64]; omega
    have hle1 := fil_le (fun x => bel x r) l y.k
    have hle2 := fil_le (fun x => bel r x) l y.k
    have e1 := fil_succ (fun x => bel x r) l y.k hk2
    have e2 := fil_succ (fun x => bel r x) l y.k hk2
    have ap : ∀ x y : List Rt, rts (x ++ y) = rts x ++ rts y := fun x y => List.flatMap_append
    refine ⟨rfl, b, o, rfl, by omega, _, _, _, _, by simpa using rt_at hc hk2, _, rbel_q l[y.k] r _, ifB_intro (fun q1 => ?_) (fun q1 => ?_)⟩
    · rw [if_pos q1] at e1
      refine ⟨b, o, rfl, by omega, _, _, _, _, by simpa using rt_at hc hk2, rfl, fun b4 hb4 => ?_⟩
      obtain ⟨p1, p2⟩ := Two.push (P := Try.prog) (e := 24) (bytes := 40) (src := encRt l[y.k]) Y.two hb4 Y.ag.2.2 rfl rfl (by have := fil_le (fun x => bel x r) l y.k; unfold loR; omega) rt_zr
      refine ⟨_, _, p1, fun a' c' m' hp => ?_⟩
      obtain ⟨T2, g2⟩ := p2 a' c' m' hp
      have A2 := Y.ag.trans g2
      obtain ⟨b', o', e', hc'⟩ := (h.agree A2).cells (by rw [rt_len]; omega)
      cases e'
      have ee : loR l r (y.k + 1) = loR l r y.k ++ [l[y.k]] := e1
      have T3 : Two m.sz m' 4 a' (loR l r (y.k + 1)).length c' (rts (loR l r (y.k + 1))) 4 y.a2 (hiR l r y.k).length y.c2 (rts (hiR l r y.k)) := by
        rw [ee, ap, List.length_append]; exact T2
      refine ⟨rfl, b, o, rfl, by omega, _, _, _, _, by simpa using rt_at hc' hk2, _, rbel_q r l[y.k] _, ifB_intro (fun q2 => ?_) (fun q2 => ?_)⟩
      · rw [if_pos q2] at e2
        refine ⟨b, o, rfl, by omega, _, _, _, _, by simpa using rt_at hc' hk2, rfl, fun b5 hb5 => ?_⟩
        obtain ⟨p3, p4⟩ := Two.push (P := Try.prog) (e := 24) (bytes := 40) (src := encRt l[y.k]) T3.symm hb5 A2.2.2 rfl rfl (by have := fil_le (fun x => bel r x) l y.k; unfold hiR; omega) rt_zr
        refine ⟨_, _, p3, fun a3 c3 m3 hp3 => ?_⟩
        obtain ⟨T4, g4⟩ := p4 a3 c3 m3 hp3
        have ee2 : hiR l r (y.k + 1) = hiR l r y.k ++ [l[y.k]] := e2
        refine ⟨⟨y.k + 1, a', c', a3, c3, m3⟩, ⟨⟨hk2, ?_, A2.trans g4⟩, rfl, by simp [w1, ee, ee2]⟩, by simp only; omega⟩
        rw [ee2, ap, List.length_append]; exact T4.symm
      · rw [if_neg (by simp [q2])] at e2
        have ee2 : hiR l r (y.k + 1) = hiR l r y.k := by rw [List.append_nil] at e2; exact e2
        refine ⟨⟨y.k + 1, a', c', y.a2, y.c2, m'⟩, ⟨⟨hk2, ?_, A2⟩, rfl, by simp [w1, ee, ee2]⟩, by simp only; omega⟩
        rw [ee2]; exact T3
    · rw [if_neg (by simp [q1])] at e1
      have ee : loR l r (y.k + 1) = loR l r y.k := by rw [List.append_nil] at e1; exact e1
      refine ⟨rfl, b, o, rfl, by omega, _, _, _, _, by simpa using rt_at hc hk2, _, rbel_q r l[y.k] _, ifB_intro (fun q2 => ?_) (fun q2 => ?_)⟩
      · rw [if_pos q2] at e2
        refine ⟨b, o, rfl, by omega, _, _, _, _, by simpa using rt_at hc hk2, rfl, fun b5 hb5 => ?_⟩
        obtain ⟨p3, p4⟩ := Two.push (P := Try.prog) (e := 24) (bytes := 40) (src := encRt l[y.k]) Y.two.symm hb5 Y.ag.2.2 rfl rfl (by have := fil_le (fun x => bel r x) l y.k; unfold hiR; omega) rt_zr
        refine ⟨_, _, p3, fun a3 c3 m3 hp3 => ?_⟩
        obtain ⟨T4, g4⟩ := p4 a3 c3 m3 hp3
        have ee2 : hiR l r (y.k + 1) = hiR l r y.k ++ [l[y.k]] := e2
        refine ⟨⟨y.k + 1, y.a1, y.c1, a3, c3, m3⟩, ⟨⟨hk2, ?_, Y.ag.trans g4⟩, rfl, by simp [w1, ee, ee2]⟩, by simp only; omega⟩
        rw [ee, ee2, ap, List.length_append]; exact T4.symm
      · rw [if_neg (by simp [q2])] at e2
        have ee2 : hiR l r (y.k + 1) = hiR l r y.k := by rw [List.append_nil] at e2; exact e2
        refine ⟨⟨y.k + 1, y.a1, y.c1, y.a2, y.c2, y.m⟩, ⟨⟨hk2, ?_, Y.ag⟩, rfl, by simp [w1, ee, ee2]⟩, by simp only; omega⟩
        rw [ee, ee2]; exact Y.two
  · have hkl : y.k = l.length := by have := Y.k; simp at h3; omega
    have T := Y.two
    have e1 : loR l r y.k = l.filter fun x => bel x r := by simp [loR, hkl]
    have e2 : hiR l r y.k = l.filter fun x => bel r x := by simp [hiR, hkl]
    have f1 := List.length_filter_le (fun x => bel x r) l
    have f3 := fil_sum r l
    have f2 := List.length_filter_le (fun x => bel r x) l
    rw [e1, e2] at T ⊢
    refine ⟨rfl, fun b3 hb3 => ?_⟩
    obtain ⟨p1, p2⟩ := Two.push (P := Try.prog) (e := 24) (bytes := 40) (src := encRt r) T hb3 Y.ag.2.2 rfl rfl (by omega) rt_zr
    refine ⟨_, _, p1, fun a' c' m' hp => ?_⟩
    obtain ⟨T2, g2⟩ := p2 a' c' m' hp
    refine ⟨_, _, T2.o1.appPre T2.o2.row (rt_len _) (rt_one _) (by omega), fun a3 c3 m3 hp3 => ?_⟩
    have T3 := T2.o1.append hp3 (rt_len _) rt_zr (Y.ag.trans g2).2.2
    refine lp_ok (z := putL l r) hres (by simp [putL]; omega) ?_
    have e3 : rts (putL l r) = rts (l.filter fun x => bel x r) ++ encRt r ++ rts (l.filter fun x => bel r x) := by simp [putL]
    rw [e3]; exact T3.row

end Go.Proofs.Ytfkielfnceeedaa
set_option linter.unusedVariables false
set_option linter.unusedSimpArgs false
namespace Go.Proofs.Ytfkielfnceeedaa
open Go.Vc Go.RowKit
set_option maxRecDepth 100000

def r0 : Rt := ⟨1, ⟨#[107]⟩, 2, 3⟩

theorem lawake_q (m : M) : QSpec Try.prog 13 [] m (.bool true) := by
  refine QSpec.of_vc Try.func13 (ann := fun _ => noAnn) fun n hn => ?_
  refine vc_by (X :=
      true = true ∧
      ∃ (S' : Nat → Prop),
      (∀ (b : Nat), S' b → m.uf b ∧ (n ≤ b ∨ False)) ∧
      ∀ (n_1 : Nat),
      n ≤ n_1 →
      SpecW Try.prog (11 : Nat)
      [Value.slice none (0 : Nat) (0 : Nat),
      Value.agg #[Value.int IntKind.i64 (1 : Int), Value.string { data := #[(107 : UInt8)] : ByteArray }, Value.int IntKind.i64 (2 : Int), Value.int IntKind.i64 (3 : Int)]]
      { π := m.π, sz := n_1, uf := m.uf : M } S' fun (v : Value) (m' : M) =>
      ∃ (a : Option Addr),
      ∃ (n : Nat),
      ∃ (c : Nat),
      ∃ (n_2 : Int),
      v = Value.tuple #[Value.slice a n c, Value.int IntKind.i64 n_2] ∧
      ifB (n_2 == (0 : Int))
      (ifB ((↑n : Int) == (1 : Int))
      (∃ (n_3 : Int),
      QSpec Try.prog (16 : Nat)
      [Value.slice a n c, Value.int IntKind.i64 (1 : Int), Value.string { data := #[(107 : UInt8)] : ByteArray }, Value.int IntKind.i64 (2 : Int)] m'
      (Value.int IntKind.i64 n_3) ∧
      Done (Value.bool (n_3 == (3 : Int)) = Value.bool true))
      (Done (Value.bool false = Value.bool true)))
      (Done (Value.bool false = Value.bool true))) (by kernel_rfl) ?_
  have e : putE [] r0 = ([r0], 0) := by rfl
  refine ⟨rfl, _, noS, fun N hN => (lput_s none 0 [] r0 (by simp) _ (.nil _)).monoW fun v m1 hag hq => ?_⟩
  rw [e] at hq
  obtain ⟨a1, c1, hv, hr⟩ := hq
  refine ⟨a1, _, c1, _, hv, ifB_true (ifB_true ⟨_, lnet_q a1 c1 [r0] 1 ⟨#[107]⟩ 2 (by simp) _ hr, ⟨?_⟩⟩)⟩
  rfl

def mk71 : Rt := ⟨71, .empty, 0, 0⟩

abbrev marks : List Value := encRt mk71 ++ encRt mk71

/-- a list of its own, with marks behind its end -/
structure OwnR (l : List Rt) (v : Value) (m' : M) : Prop where
  out : ∃ b, v = .slice (some ⟨b, 0, none⟩) l.length (l.length + 2) ∧ Row m' (some ⟨b, 0, none⟩) (rts l ++ marks)

theorem own_s (a : Option Addr) (c : Nat) (l : List Rt) (hn : l.length ≤ 3518437208870) (m : M) (h : Row m a (rts l)) :
    Vc.Spec Try.prog 9 [.slice a l.length c] m (OwnR l) := by
  refine Vc.Spec.of_vc Try.func9 (ann := noAnn) ?_
  refine vc_by (X :=
      true = true ∧
      ∃ (S' : Nat → Prop),
      (∀ (b : Nat), S' b → m.uf b ∧ (m.sz ≤ b ∨ False)) ∧
      ∀ (n : Nat),
      m.sz ≤ n →
      SpecW Try.prog (38 : Nat)
      [Value.slice a l.length c,
      Value.agg #[Value.int IntKind.i64 (71 : Int), Value.string { data := #[] : ByteArray }, Value.int IntKind.i64 (0 : Int), Value.int IntKind.i64 (0 : Int)]]
      { π := m.π, sz := n, uf := m.uf : M } S' fun (v : Value) (m' : M) =>
      ∃ (a : Option Addr), ∃ (n : Nat), ∃ (c : Nat), v = Value.slice a n c ∧ Done (OwnR l (Value.slice a n c) m')) (by kernel_rfl) ?_
  exact ⟨rfl, _, noS, fun N hN => (rt_own a c l mk71 hn _ (h.sz hN)).monoW fun v m1 hag hq => by
    obtain ⟨b, e, hr⟩ := hq.row
    exact ⟨_, _, _, e, ⟨⟨b, rfl, hr⟩⟩⟩⟩

theorem kept_q (b : Nat) (l : List Rt) (a2 : Option Addr) (c2 : Nat) (hn : l.length ≤ 3518437208870) (m : M) (h : Row m (some ⟨b, 0, none⟩) (rts l ++ marks)) (h2 : Row m a2 (rts l)) :
    QSpec Try.prog 18 [.slice (some ⟨b, 0, none⟩) l.length (l.length + 2), .slice a2 l.length c2] m (.bool true) := by
  refine QSpec.of_vc Try.func18 (ann := fun _ => noAnn) fun n hn' => ?_
  refine vc_by (X :=
      true = true ∧
      ∃ (b_1 : Bool),
      QSpec Try.prog (46 : Nat)
      [Value.slice (some { block := b, off := (0 : Nat) : Addr }) l.length (l.length + (2 : Nat)), Value.slice a2 l.length c2,
      Value.agg #[Value.int IntKind.i64 (71 : Int), Value.string { data := #[] : ByteArray }, Value.int IntKind.i64 (0 : Int), Value.int IntKind.i64 (0 : Int)]]
      { π := m.π, sz := n, uf := m.uf : M } (Value.bool b_1) ∧
      Done (Value.bool b_1 = Value.bool true)) (by kernel_rfl) ?_
  exact ⟨rfl, _, rt_keptr b l a2 c2 mk71 hn _ (h.sz hn') (h2.sz hn'), ⟨rfl⟩⟩

theorem put_len (l : List Rt) (r : Rt) : (putE l r).1.length ≤ l.length + 1 := by
  have f3 := fil_sum r l
  have f1 := List.length_filter_le (fun x => bel x r) l
  have f2 := List.length_filter_le (fun x => bel r x) l
  unfold putE
  split
  · simp
  · split
    · simp
    · simp [putL]; omega

/-- in a ledger there is one right of a group and a key -/
theorem net_of {l : List Rt} (h : ledB none l = true) (g : Int) (k : ByteArray) (le : Int) : netR l g k le = match ofR l ⟨g, k, 0, 0⟩ with | none => 0 | some x => if x.le = le then x.ne else 0 := by
  have hs : ∀ x : Rt, isN g k le x = (sameK x ⟨g, k, 0, 0⟩ && decide (x.le = le)) := fun x => rfl
  have key : ∀ {l : List Rt} {p : Option Rt}, ledB p l = true → l.find? (isN g k le) = match ofR l ⟨g, k, 0, 0⟩ with | none => none | some x => if x.le = le then some x else none := by
    intro l
    induction l with
    | nil => intro p _; rfl
    | cons x xs ih =>
      intro p hp
      obtain ⟨h1, h2, h3⟩ := led_cons.1 hp
      by_cases e1 : sameK x ⟨g, k, 0, 0⟩ = true
      · have e2 : ofR (x :: xs) ⟨g, k, 0, 0⟩ = some x := by simp [ofR, e1]
        rw [e2, List.find?_cons, hs, e1]
        by_cases e3 : x.le = le
        · simp [e3]
        · simp [e3]
          intro y hy
          have := (led_mem h3 y hy).1 x rfl
          rw [hs]
          have e4 := (bel_ne this).2
          rw [← (same_left e1).2.2.2, e4]; rfl
      · have e1 : sameK x ⟨g, k, 0, 0⟩ = false := by simpa using e1
        have e2 : ofR (x :: xs) ⟨g, k, 0, 0⟩ = ofR xs ⟨g, k, 0, 0⟩ := by simp [ofR, e1]
        rw [e2, List.find?_cons, hs, e1]
        exact ih h3
  simp only [netR, h, if_true, key h]
  cases ofR l ⟨g, k, 0, 0⟩ with
  | none => rfl
  | some x => simp only; split <;> rfl

set_option maxHeartbeats 1000000 in
theorem ledgerplays (a : Option Addr) (cp : Nat) (l : List Rt) (r : Rt) (g : Int) (k : ByteArray) (le : Int) (hn : l.length ≤ 3518437208780) (m : M) (h : Row m a (rts l)) :
    QSpec Try.prog 3 [.slice a l.length cp, rtv r, I g, .string k, I le] m (.bool true) := by
  refine QSpec.of_vc Try.func3 (ann := fun _ => noAnn) fun N hN => ?_
  refine vc_by (X :=
      true = true ∧
      ∃ (S' : Nat → Prop),
      (∀ (b : Nat), S' b → m.uf b ∧ (N ≤ b ∨ False)) ∧
      ∀ (n : Nat),
      N ≤ n →
      SpecW Try.prog (9 : Nat) [Value.slice a l.length cp] { π := m.π, sz := n, uf := m.uf : M } S' fun (v : Value) (m' : M) =>
      ∃ (a_2 : Option Addr),
      ∃ (n : Nat),
      ∃ (c : Nat),
      v = Value.slice a_2 n c ∧
      ∃ (b : Bool),
      QSpec Try.prog (10 : Nat) [Value.slice a l.length cp] m' (Value.bool b) ∧
      ifB (!b)
      (∃ (S' : Nat → Prop),
      (∀ (b : Nat), S' b → m'.uf b ∧ (N ≤ b ∨ False)) ∧
      ∀ (n_1 : Nat),
      m'.sz ≤ n_1 →
      SpecW Try.prog (11 : Nat)
      [Value.slice a_2 n c, Value.agg #[Value.int IntKind.i64 r.g, Value.string r.ky, Value.int IntKind.i64 r.le, Value.int IntKind.i64 r.ne]]
      { π := m'.π, sz := n_1, uf := m'.uf : M } S' fun (v : Value) (m' : M) =>
      ∃ (a_4 : Option Addr),
      ∃ (n_2 : Nat),
      ∃ (c_1 : Nat),
      ∃ (n_3 : Int),
      v = Value.tuple #[Value.slice a_4 n_2 c_1, Value.int IntKind.i64 n_3] ∧
      ∃ (S' : Nat → Prop),
      (∀ (b : Nat), S' b → m'.uf b ∧ (N ≤ b ∨ False)) ∧
      ∀ (n_4 : Nat),
      m'.sz ≤ n_4 →
      SpecW Try.prog (12 : Nat)
      [Value.slice a l.length cp,
      Value.agg #[Value.int IntKind.i64 r.g, Value.string r.ky, Value.int IntKind.i64 r.le, Value.int IntKind.i64 r.ne]]
      { π := m'.π, sz := n_4, uf := m'.uf : M } S' fun (v : Value) (m' : M) =>
      ∃ (a_6 : Option Addr),
      ∃ (n_5 : Nat),
      ∃ (c_2 : Nat),
      ∃ (n_6 : Int),
      v = Value.tuple #[Value.slice a_6 n_5 c_2, Value.int IntKind.i64 n_6] ∧
      true = true ∧
      ∃ (b : Bool),
      QSpec Try.prog (13 : Nat) [] m' (Value.bool b) ∧
      ifB b
      (∃ (n_7 : Int),
      QSpec Try.prog (14 : Nat) [Value.slice a_2 n c] m' (Value.int IntKind.i64 n_7) ∧
      ifB (n_7 == (21 : Int))
      (∃ (b : Bool),
      QSpec Try.prog (15 : Nat) [Value.slice a_4 n_2 c_1, Value.slice a_6 n_5 c_2] m' (Value.bool b) ∧
      ifB b
      (ifB (n_3 == n_6)
      (∃ (n_8 : Int),
      QSpec Try.prog (16 : Nat)
      [Value.slice a_2 n c, Value.int IntKind.i64 g, Value.string k,
      Value.int IntKind.i64 le]
      m' (Value.int IntKind.i64 n_8) ∧
      ∃ (n_9 : Int),
      QSpec Try.prog (17 : Nat)
      [Value.slice a l.length cp, Value.int IntKind.i64 g, Value.string k,
      Value.int IntKind.i64 le]
      m' (Value.int IntKind.i64 n_9) ∧
      ifB (n_8 == n_9)
      (∃ (n_10 : Int),
      QSpec Try.prog (16 : Nat)
      [Value.slice a_2 n c, Value.int IntKind.i64 r.g, Value.string r.ky,
      Value.int IntKind.i64 r.le]
      m' (Value.int IntKind.i64 n_10) ∧
      ∃ (n_11 : Int),
      QSpec Try.prog (17 : Nat)
      [Value.slice a l.length cp, Value.int IntKind.i64 r.g,
      Value.string r.ky, Value.int IntKind.i64 r.le]
      m' (Value.int IntKind.i64 n_11) ∧
      ifB (n_10 == n_11)
      (∃ (b : Bool),
      QSpec Try.prog (18 : Nat)
      [Value.slice a_2 n c, Value.slice a l.length cp] m'
      (Value.bool b) ∧
      Done (Value.bool b = Value.bool true))
      (Done (Value.bool false = Value.bool true)))
      (Done (Value.bool false = Value.bool true)))
      (Done (Value.bool false = Value.bool true)))
      (Done (Value.bool false = Value.bool true)))
      (Done (Value.bool false = Value.bool true)))
      (Done (Value.bool false = Value.bool true)))
      (∃ (S' : Nat → Prop),
      (∀ (b : Nat), S' b → m'.uf b ∧ (N ≤ b ∨ False)) ∧
      ∀ (n_1 : Nat),
      m'.sz ≤ n_1 →
      SpecW Try.prog (11 : Nat)
      [Value.slice a_2 n c, Value.agg #[Value.int IntKind.i64 r.g, Value.string r.ky, Value.int IntKind.i64 r.le, Value.int IntKind.i64 r.ne]]
      { π := m'.π, sz := n_1, uf := m'.uf : M } S' fun (v : Value) (m' : M) =>
      ∃ (a_4 : Option Addr),
      ∃ (n_2 : Nat),
      ∃ (c_1 : Nat),
      ∃ (n_3 : Int),
      v = Value.tuple #[Value.slice a_4 n_2 c_1, Value.int IntKind.i64 n_3] ∧
      ∃ (S' : Nat → Prop),
      (∀ (b : Nat), S' b → m'.uf b ∧ (N ≤ b ∨ False)) ∧
      ∀ (n_4 : Nat),
      m'.sz ≤ n_4 →
      SpecW Try.prog (12 : Nat)
      [Value.slice a l.length cp,
      Value.agg #[Value.int IntKind.i64 r.g, Value.string r.ky, Value.int IntKind.i64 r.le, Value.int IntKind.i64 r.ne]]
      { π := m'.π, sz := n_4, uf := m'.uf : M } S' fun (v : Value) (m' : M) =>
      ∃ (a_6 : Option Addr),
      ∃ (n_5 : Nat),
      ∃ (c_2 : Nat),
      ∃ (n_6 : Int),
      v = Value.tuple #[Value.slice a_6 n_5 c_2, Value.int IntKind.i64 n_6] ∧
      true = true ∧
      ∃ (b : Bool),
      QSpec Try.prog (13 : Nat) [] m' (Value.bool b) ∧
      ifB b
      (∃ (n_7 : Int),
      QSpec Try.prog (14 : Nat) [Value.slice a_2 n c] m' (Value.int IntKind.i64 n_7) ∧
      ifB (n_7 == (0 : Int))
      (∃ (b : Bool),
      QSpec Try.prog (15 : Nat) [Value.slice a_4 n_2 c_1, Value.slice a_6 n_5 c_2] m' (Value.bool b) ∧
      ifB b
      (ifB (n_3 == n_6)
      (∃ (n_8 : Int),
      QSpec Try.prog (16 : Nat)
      [Value.slice a_2 n c, Value.int IntKind.i64 g, Value.string k,
      Value.int IntKind.i64 le]
      m' (Value.int IntKind.i64 n_8) ∧
      ∃ (n_9 : Int),
      QSpec Try.prog (17 : Nat)
      [Value.slice a l.length cp, Value.int IntKind.i64 g, Value.string k,
      Value.int IntKind.i64 le]
      m' (Value.int IntKind.i64 n_9) ∧
      ifB (n_8 == n_9)
      (∃ (n_10 : Int),
      QSpec Try.prog (16 : Nat)
      [Value.slice a_2 n c, Value.int IntKind.i64 r.g, Value.string r.ky,
      Value.int IntKind.i64 r.le]
      m' (Value.int IntKind.i64 n_10) ∧
      ∃ (n_11 : Int),
      QSpec Try.prog (17 : Nat)
      [Value.slice a l.length cp, Value.int IntKind.i64 r.g,
      Value.string r.ky, Value.int IntKind.i64 r.le]
      m' (Value.int IntKind.i64 n_11) ∧
      ifB (n_10 == n_11)
      (∃ (b : Bool),
      QSpec Try.prog (18 : Nat)
      [Value.slice a_2 n c, Value.slice a l.length cp] m'
      (Value.bool b) ∧
      Done (Value.bool b = Value.bool true))
      (Done (Value.bool false = Value.bool true)))
      (Done (Value.bool false = Value.bool true)))
      (Done (Value.bool false = Value.bool true)))
      (Done (Value.bool false = Value.bool true)))
      (Done (Value.bool false = Value.bool true)))
      (Done (Value.bool false = Value.bool true)))) (by kernel_rfl) ?_
  have R : Rs { m with sz := N } [(a, rts l)] := ⟨h.sz hN, trivial⟩
  refine ⟨rfl, ?_⟩
  refine ⟨_, noS, fun N1 hN1 => (own_s a cp l (by omega) _ ((R.sz hN1).1)).monoW fun v1 m1 ag1 q1 => ?_⟩
  obtain ⟨b1, e1, r1⟩ := q1
  refine ⟨_, _, _, e1, ?_⟩
  have R1 := Rs.cons r1 (Rs.step R hN1 ag1)
  refine ⟨_, rright_l _ _ l (by omega) _ (R1.2.1), ?_⟩
  cases ht : ledB none l
  · refine ifB_true ?_
    refine ⟨_, noS, fun N2 hN2 => (lput_s _ _ l r (by omega) _ ((R1.sz hN2).1.take)).monoW fun v2 m2 ag2 q2 => ?_⟩
    obtain ⟨x2, y2, e2, r2⟩ := q2
    refine ⟨_, _, _, _, e2, ?_⟩
    have R2 := Rs.cons r2 (Rs.step R1 hN2 ag2)
    refine ⟨_, noS, fun N3 hN3 => (rput_s _ _ l r (by omega) _ ((R2.sz hN3).2.2.1)).monoW fun v3 m3 ag3 q3 => ?_⟩
    obtain ⟨x3, y3, e3, r3⟩ := q3
    refine ⟨_, _, _, _, e3, ?_⟩
    have R3 := Rs.cons r3 (Rs.step R2 hN3 ag3)
    have hl := put_len l r
    refine ⟨rfl, _, lawake_q _, ifB_true ⟨_, lcheck_q _ _ l (by omega) _ (R3.2.2.1.take), ?_⟩⟩
    rw [ht]
    simp only [bne_self_eq_false, beq_self_eq_true, Bool.not_true, Bool.not_false, Bool.and_self, Bool.and_true, decide_true]
    refine ifB_true ⟨_, rt_plain _ _ _ _ _ _ (by omega) _ (R3.2.1) (R3.1), ?_⟩
    simp only [bne_self_eq_false, beq_self_eq_true, Bool.not_true, Bool.not_false, Bool.and_self, Bool.and_true, decide_true]
    refine ifB_true (ifB_true ⟨_, lnet_q _ _ l g k le (by omega) _ (R3.2.2.1.take), _, rnet_q _ _ l g k le (by omega) _ (R3.2.2.2.1), ?_⟩)
    simp only [bne_self_eq_false, beq_self_eq_true, Bool.not_true, Bool.not_false, Bool.and_self, Bool.and_true, decide_true]
    refine ifB_true ⟨_, lnet_q _ _ l r.g r.ky r.le (by omega) _ (R3.2.2.1.take), _, rnet_q _ _ l r.g r.ky r.le (by omega) _ (R3.2.2.2.1), ?_⟩
    simp only [bne_self_eq_false, beq_self_eq_true, Bool.not_true, Bool.not_false, Bool.and_self, Bool.and_true, decide_true]
    exact ifB_true ⟨_, kept_q b1 l a cp (by omega) _ (R3.2.2.1) (R3.2.2.2.1), ⟨rfl⟩⟩
  · refine ifB_false ?_
    refine ⟨_, noS, fun N2 hN2 => (lput_s _ _ l r (by omega) _ ((R1.sz hN2).1.take)).monoW fun v2 m2 ag2 q2 => ?_⟩
    obtain ⟨x2, y2, e2, r2⟩ := q2
    refine ⟨_, _, _, _, e2, ?_⟩
    have R2 := Rs.cons r2 (Rs.step R1 hN2 ag2)
    refine ⟨_, noS, fun N3 hN3 => (rput_s _ _ l r (by omega) _ ((R2.sz hN3).2.2.1)).monoW fun v3 m3 ag3 q3 => ?_⟩
    obtain ⟨x3, y3, e3, r3⟩ := q3
    refine ⟨_, _, _, _, e3, ?_⟩
    have R3 := Rs.cons r3 (Rs.step R2 hN3 ag3)
    have hl := put_len l r
    refine ⟨rfl, _, lawake_q _, ifB_true ⟨_, lcheck_q _ _ l (by omega) _ (R3.2.2.1.take), ?_⟩⟩
    rw [ht]
    simp only [bne_self_eq_false, beq_self_eq_true, Bool.not_true, Bool.not_false, Bool.and_self, Bool.and_true, decide_true]
    refine ifB_true ⟨_, rt_plain _ _ _ _ _ _ (by omega) _ (R3.2.1) (R3.1), ?_⟩
    simp only [bne_self_eq_false, beq_self_eq_true, Bool.not_true, Bool.not_false, Bool.and_self, Bool.and_true, decide_true]
    refine ifB_true (ifB_true ⟨_, lnet_q _ _ l g k le (by omega) _ (R3.2.2.1.take), _, rnet_q _ _ l g k le (by omega) _ (R3.2.2.2.1), ?_⟩)
    simp only [bne_self_eq_false, beq_self_eq_true, Bool.not_true, Bool.not_false, Bool.and_self, Bool.and_true, decide_true]
    refine ifB_true ⟨_, lnet_q _ _ l r.g r.ky r.le (by omega) _ (R3.2.2.1.take), _, rnet_q _ _ l r.g r.ky r.le (by omega) _ (R3.2.2.2.1), ?_⟩
    simp only [bne_self_eq_false, beq_self_eq_true, Bool.not_true, Bool.not_false, Bool.and_self, Bool.and_true, decide_true]
    exact ifB_true ⟨_, kept_q b1 l a cp (by omega) _ (R3.2.2.1) (R3.2.2.2.1), ⟨rfl⟩⟩

set_option maxHeartbeats 1000000 in
theorem ledgerputs (a : Option Addr) (cp : Nat) (l : List Rt) (r : Rt) (g : Int) (k : ByteArray) (le : Int) (hn : l.length ≤ 3518437208780) (m : M) (h : Row m a (rts l)) :
    QSpec Try.prog 4 [.slice a l.length cp, rtv r, I g, .string k, I le] m (.bool true) := by
  refine QSpec.of_vc Try.func4 (ann := fun _ => noAnn) fun N hN => ?_
  refine vc_by (X :=
      true = true ∧
      ∃ (b : Bool),
      QSpec Try.prog (13 : Nat) [] { π := m.π, sz := N, uf := m.uf : M } (Value.bool b) ∧
      ifB (!b) (Done (Value.bool false = Value.bool true))
      (true = true ∧
      (∃ (S' : Nat → Prop),
      (∀ (b : Nat), S' b → m.uf b ∧ (N ≤ b ∨ False)) ∧
      ∀ (n : Nat),
      N ≤ n →
      SpecW Try.prog (9 : Nat) [Value.slice a l.length cp] { π := m.π, sz := n, uf := m.uf : M } S' fun (v : Value) (m' : M) =>
      ∃ (a_2 : Option Addr),
      ∃ (n : Nat),
      ∃ (c : Nat),
      v = Value.slice a_2 n c ∧
      MLe { π := m.π, sz := N, uf := m.uf : M } m' ∧
      (∃ (S' : Nat → Prop),
      (∀ (b : Nat), S' b → m'.uf b ∧ (N ≤ b ∨ False)) ∧
      ∀ (n_1 : Nat),
      m'.sz ≤ n_1 →
      SpecW Try.prog (11 : Nat)
      [Value.slice a_2 n c, Value.agg #[Value.int IntKind.i64 r.g, Value.string r.ky, Value.int IntKind.i64 r.le, Value.int IntKind.i64 r.ne]]
      { π := m'.π, sz := n_1, uf := m'.uf : M } S' fun (v : Value) (m' : M) =>
      ∃ (a_4 : Option Addr),
      ∃ (n : Nat),
      ∃ (c : Nat),
      ∃ (n_2 : Int),
      v = Value.tuple #[Value.slice a_4 n c, Value.int IntKind.i64 n_2] ∧
      ifB (n_2 != (0 : Int))
      (ifB ((↑n : Int) == (0 : Int))
      (ifB (n_2 == (21 : Int))
      (∃ (n : Int),
      QSpec Try.prog (14 : Nat) [Value.slice a l.length cp] m' (Value.int IntKind.i64 n) ∧
      ifB (n == (21 : Int)) (Done (Value.bool true = Value.bool true))
      (Done (Value.bool (n_2 == (1 : Int)) = Value.bool true)))
      (Done (Value.bool (n_2 == (1 : Int)) = Value.bool true)))
      (Done (Value.bool false = Value.bool true)))
      (∃ (S' : Nat → Prop),
      (∀ (b : Nat), S' b → m'.uf b ∧ (N ≤ b ∨ False)) ∧
      ∀ (n_3 : Nat),
      m'.sz ≤ n_3 →
      SpecW Try.prog (11 : Nat)
      [Value.slice a_4 n c,
      Value.agg
      #[Value.int IntKind.i64 r.g, Value.string r.ky, Value.int IntKind.i64 r.le, Value.int IntKind.i64 r.ne]]
      { π := m'.π, sz := n_3, uf := m'.uf : M } S' fun (v : Value) (m' : M) =>
      ∃ (a_6 : Option Addr),
      ∃ (n_4 : Nat),
      ∃ (c_1 : Nat),
      ∃ (n_5 : Int),
      v = Value.tuple #[Value.slice a_6 n_4 c_1, Value.int IntKind.i64 n_5] ∧
      true = true ∧
      ifB (n_5 != (0 : Int)) (Done (Value.bool false = Value.bool true))
      (∃ (b : Bool),
      QSpec Try.prog (15 : Nat) [Value.slice a_4 n c, Value.slice a_6 n_4 c_1] m' (Value.bool b) ∧
      ifB (!b) (Done (Value.bool false = Value.bool true))
      (∃ (n_6 : Int),
      QSpec Try.prog (14 : Nat) [Value.slice a_4 n c] m' (Value.int IntKind.i64 n_6) ∧
      ifB (n_6 != (0 : Int)) (Done (Value.bool false = Value.bool true))
      (∃ (n_7 : Int),
      QSpec Try.prog (16 : Nat)
      [Value.slice a_4 n c, Value.int IntKind.i64 r.g, Value.string r.ky,
      Value.int IntKind.i64 r.le]
      m' (Value.int IntKind.i64 n_7) ∧
      ifB (n_7 != r.ne) (Done (Value.bool false = Value.bool true))
      (ifB (g == r.g)
      (ifB (k.toList == r.ky.toList)
      (ifB (le == r.le) (Done (Value.bool true = Value.bool true))
      (∃ (n_8 : Int),
      QSpec Try.prog (16 : Nat)
      [Value.slice a_4 n c, Value.int IntKind.i64 g, Value.string k,
      Value.int IntKind.i64 le]
      m' (Value.int IntKind.i64 n_8) ∧
      Done (Value.bool (n_8 == (0 : Int)) = Value.bool true)))
      (∃ (n_8 : Int),
      QSpec Try.prog (16 : Nat)
      [Value.slice a_4 n c, Value.int IntKind.i64 g, Value.string k,
      Value.int IntKind.i64 le]
      m' (Value.int IntKind.i64 n_8) ∧
      ∃ (n : Int),
      QSpec Try.prog (16 : Nat)
      [Value.slice a l.length cp, Value.int IntKind.i64 g, Value.string k,
      Value.int IntKind.i64 le]
      m' (Value.int IntKind.i64 n) ∧
      Done (Value.bool (n_8 == n) = Value.bool true)))
      (∃ (n_8 : Int),
      QSpec Try.prog (16 : Nat)
      [Value.slice a_4 n c, Value.int IntKind.i64 g, Value.string k,
      Value.int IntKind.i64 le]
      m' (Value.int IntKind.i64 n_8) ∧
      ∃ (n : Int),
      QSpec Try.prog (16 : Nat)
      [Value.slice a l.length cp, Value.int IntKind.i64 g, Value.string k,
      Value.int IntKind.i64 le]
      m' (Value.int IntKind.i64 n) ∧
      Done (Value.bool (n_8 == n) = Value.bool true)))))))) ∧
      True) ∧
      True)) (by kernel_rfl) ?_
  have R : Rs { m with sz := N } [(a, rts l)] := ⟨h.sz hN, trivial⟩
  refine ⟨rfl, _, lawake_q _, ifB_false ⟨rfl, ?_, trivial⟩⟩
  refine ⟨_, noS, fun N1 hN1 => (own_s a cp l (by omega) _ ((R.sz hN1).1)).monoW fun v1 m1 ag1 q1 => ?_⟩
  obtain ⟨b1, e1, r1⟩ := q1
  refine ⟨_, _, _, e1, MLe.ofAgree hN1 ag1, ?_, trivial⟩
  have R1 := Rs.cons r1 (Rs.step R hN1 ag1)
  refine ⟨_, noS, fun N2 hN2 => (lput_s _ _ l r (by omega) _ ((R1.sz hN2).1.take)).monoW fun v2 m2 ag2 q2 => ?_⟩
  obtain ⟨x2, y2, e2, r2⟩ := q2
  refine ⟨_, _, _, _, e2, ?_⟩
  have R2 := Rs.cons r2 (Rs.step R1 hN2 ag2)
  have hl := put_len l r
  cases ht : ledB none l
  · have hE : putE l r = ([], 21) := by simp [putE, ht]
    rw [hE]
    exact ifB_true (ifB_true (ifB_true ⟨_, lcheck_q _ _ l (by omega) _ (R2.2.2.1), by rw [ht]; exact ifB_true ⟨rfl⟩⟩))
  cases hr : rmayB r
  · have hE : putE l r = ([], 1) := by simp [putE, ht, hr]
    rw [hE]
    exact ifB_true (ifB_true (ifB_false ⟨rfl⟩))
  have hE : putE l r = (putL l r, 0) := by simp [putE, ht, hr]
  have hL : (putL l r).length ≤ l.length + 1 := by rw [hE] at hl; exact hl
  have hp := put_led ht hr
  have hE2 : putE (putL l r) r = (putL l r, 0) := by simp [putE, hp, hr, put_put ht hr]
  rw [hE] at R2 ⊢
  simp only [bne_self_eq_false, beq_self_eq_true, Bool.not_true, Bool.not_false, Bool.and_self, Bool.and_true, decide_true]
  refine ifB_false ?_
  refine ⟨_, noS, fun N3 hN3 => (lput_s _ _ (putL l r) r (by omega) _ ((R2.sz hN3).1)).monoW fun v3 m3 ag3 q3 => ?_⟩
  obtain ⟨x3, y3, e3, r3⟩ := q3
  refine ⟨_, _, _, _, e3, ?_⟩
  have R3 := Rs.cons r3 (Rs.step R2 hN3 ag3)
  rw [hE2] at R3 ⊢
  simp only [bne_self_eq_false, beq_self_eq_true, Bool.not_true, Bool.not_false, Bool.and_self, Bool.and_true, decide_true]
  have hn1 : netR (putL l r) r.g r.ky r.le = r.ne := by
    rw [net_of hp, put_of ht, if_pos (by simp [sameK])]; simp
  refine ⟨by trivial, ifB_false ⟨_, rt_plain _ _ _ _ _ _ (by omega) _ (R3.2.1) (R3.1), ?_⟩⟩
  simp only [bne_self_eq_false, beq_self_eq_true, Bool.not_true, Bool.not_false, Bool.and_self, Bool.and_true, decide_true]
  refine ifB_false ⟨_, lcheck_q _ _ (putL l r) (by omega) _ (R3.2.1), ?_⟩
  rw [hp]
  simp only [if_true, bne_self_eq_false]
  refine ifB_false ⟨_, lnet_q _ _ (putL l r) r.g r.ky r.le (by omega) _ (R3.2.1), ?_⟩
  rw [hn1]
  simp only [bne_self_eq_false, beq_self_eq_true, Bool.not_true, Bool.not_false, Bool.and_self, Bool.and_true, decide_true]
  refine ifB_false (ifB_intro (fun q1 => ifB_intro (fun q2 => ifB_intro (fun q3 => ⟨by trivial⟩) (fun q3 => ⟨_, lnet_q _ _ (putL l r) g k le (by omega) _ (R3.2.1), ⟨?_⟩⟩)) (fun q2 => ⟨_, lnet_q _ _ (putL l r) g k le (by omega) _ (R3.2.1), _, lnet_q _ _ l g k le (by omega) _ (R3.2.2.2.1), ⟨?_⟩⟩)) (fun q1 => ⟨_, lnet_q _ _ (putL l r) g k le (by omega) _ (R3.2.1), _, lnet_q _ _ l g k le (by omega) _ (R3.2.2.2.1), ⟨?_⟩⟩))
  · rw [bytes_beq] at q2
    simp at q1 q2 q3
    rw [net_of hp, put_of ht, if_pos (by simp [sameK, q1, q2])]
    simp [show ¬ r.le = le from fun e => q3 e.symm]
  · rw [bytes_beq] at q2; simp at q2
    rw [net_of hp, put_of ht, if_neg (by simp [sameK]; intro _ e; exact q2 e.symm), ← net_of ht]; simp
  · simp at q1
    rw [net_of hp, put_of ht, if_neg (by simp [sameK]; intro e; exact absurd e.symm q1), ← net_of ht]; simp

end Go.Proofs.Ytfkielfnceeedaa
