/-
  Contracts of functions of this seat: what each hands back, and what it leaves of memory (led3). Nothing here is trusted: Lean checks it.
-/
import Derived.Test.YtfkielfnceeedaaLed2
set_option linter.unusedVariables false
set_option linter.unusedSimpArgs false
namespace Go.Proofs.Ytfkielfnceeedaa
open Go.Vc Go.RowKit
set_option maxRecDepth 100000

structure LpR (y : List Rt × Int) (v : Value) (m' : M) : Prop where
  out : ∃ a' c', v = .tuple #[.slice a' y.1.length c', I y.2] ∧ Row m' a' (rts y.1)

theorem lp_fail {m' : M} {y : List Rt × Int} {e : Int} (h : y = ([], e)) : Done (LpR y (.tuple #[.slice none 0 0, I e]) m') := ⟨by subst h; exact ⟨none, 0, rfl, .nil _⟩⟩

theorem lp_ok {m' : M} {y : List Rt × Int} {z : List Rt} {a' : Option Addr} {len c' : Nat} (h : y = (z, 0)) (hl : len = z.length) (hr : Row m' a' (rts z)) : Done (LpR y (.tuple #[.slice a' len c', I 0]) m') := ⟨by subst h; subst hl; exact ⟨a', c', rfl, hr⟩⟩

def putE (l : List Rt) (r : Rt) : List Rt × Int := if ledB none l = false then ([], 21) else if rmayB r = false then ([], 1) else (putL l r, 0)

def isN (g : Int) (k : ByteArray) (le : Int) (x : Rt) : Bool := decide (x.g = g) && decide (x.ky = k) && decide (x.le = le)

def netR (l : List Rt) (g : Int) (k : ByteArray) (le : Int) : Int := if ledB none l then ((l.find? (isN g k le)).map (·.ne)).getD 0 else 0

theorem find_at {p : Rt → Bool} : ∀ {l : List Rt} {k : Nat} (hk : k < l.length), (∀ x ∈ l.take k, p x = false) → p l[k] = true → l.find? p = some l[k]
  | [], _, hk, _, _ => by simp at hk
  | x :: xs, 0, _, _, h => by simp at h; simp [h]
  | x :: xs, k + 1, hk, hl, h => by
    have h1 := hl x (by simp)
    have hk2 : k < xs.length := by simpa using hk
    rw [List.find?_cons, h1]
    simpa using find_at (l := xs) hk2 (fun y hy => hl y (by simp [hy])) (by simpa using h)

theorem take_all {p : Rt → Bool} {l : List Rt} {k : Nat} (hk : k < l.length) (hq : ∀ x ∈ l.take k, p x = false) (h : p l[k] = false) : ∀ x ∈ l.take (k + 1), p x = false := fun x hx => by
  rw [List.take_succ_eq_append_getElem hk, List.mem_append] at hx
  rcases hx with hx | hx
  · exact hq x hx
  · have hx : x = l[k] := by simpa using hx
    subst hx; exact h

theorem lput_s (a : Option Addr) (cp : Nat) (l : List Rt) (r : Rt) (hn : l.length ≤ 4194304) (m : M) (h : Row m a (rts l)) : Vc.Spec Try.prog 11 [.slice a l.length cp, rtv r] m (LpR (putE l r)) := by
  refine Vc.Spec.of_vc Try.func11 (ann := noAnn) ?_
  refine vc_by (X :=
      true = true ∧
      ∃ (n : Int),
      QSpec Try.prog (14 : Nat) [Value.slice a l.length cp] m (Value.int IntKind.i64 n) ∧
      ifB (n != (0 : Int)) (Done (LpR (putE l r) (Value.tuple #[Value.slice none (0 : Nat) (0 : Nat), Value.int IntKind.i64 (21 : Int)]) m))
      (∃ (b : Bool),
      QSpec Try.prog (41 : Nat) [Value.agg #[Value.int IntKind.i64 r.g, Value.string r.ky, Value.int IntKind.i64 r.le, Value.int IntKind.i64 r.ne]] m (Value.bool b) ∧
      ifB (!b) (Done (LpR (putE l r) (Value.tuple #[Value.slice none (0 : Nat) (0 : Nat), Value.int IntKind.i64 (1 : Int)]) m))
      (∃ (S' : Nat → Prop),
      (∀ (b : Nat), S' b → m.uf b ∧ (m.sz ≤ b ∨ False)) ∧
      ∀ (n : Nat),
      m.sz ≤ n →
      SpecW Try.prog (42 : Nat) [Value.slice a l.length cp] { π := m.π, sz := n, uf := m.uf : M } S' fun (v : Value) (m' : M) =>
      ∃ (a : Option Addr),
      ∃ (n : Nat),
      ∃ (c : Nat),
      v = Value.slice a n c ∧
      ∃ (n_1 : Int),
      ∃ (b : Bool),
      QSpec Try.prog (43 : Nat)
      [Value.slice a n c, Value.agg #[Value.int IntKind.i64 r.g, Value.string r.ky, Value.int IntKind.i64 r.le, Value.int IntKind.i64 r.ne],
      Value.func (Fn.func (44 : Nat)) #[] #[]]
      m' (Value.tuple #[Value.int IntKind.i64 n_1, Value.bool b]) ∧
      ifB b
      (∃ (b : Nat),
      ∃ (off : Nat),
      a = some { block := b, off := off : Addr } ∧
      ((0 : Int) ≤ n_1 ∧ n_1 < (↑n : Int)) ∧
      Wr m.sz (fun (x : Nat) => False) m' b (off + n_1.toNat * (4 : Nat))
      #[Value.int IntKind.i64 r.g, Value.string r.ky, Value.int IntKind.i64 r.le, Value.int IntKind.i64 r.ne].size ∧
      Done
      (LpR (putE l r) (Value.tuple #[Value.slice a n c, Value.int IntKind.i64 (0 : Int)])
      (m'.setCells b (off + n_1.toNat * (4 : Nat))
      [Value.int IntKind.i64 r.g, Value.string r.ky, Value.int IntKind.i64 r.le, Value.int IntKind.i64 r.ne])))
      (true = true ∧
      ∀ (b : Nat),
      m'.sz ≤ b →
      ∃ (S' : Nat → Prop),
      (∀ (b_1 : Nat),
      S' b_1 →
      (m'.newBlock b [Value.int IntKind.i64 r.g, Value.string r.ky, Value.int IntKind.i64 r.le, Value.int IntKind.i64 r.ne]).uf
      b_1 ∧
      (m.sz ≤ b_1 ∨ False)) ∧
      ∀ (n_2 : Nat),
      max m'.sz (b + (1 : Nat)) ≤ n_2 →
      SpecW Try.prog (45 : Nat)
      [Value.slice a n c, Value.int IntKind.i64 n_1,
      Value.slice (some { block := b, off := (0 : Nat) : Addr }) (1 : Nat) (1 : Nat)]
      { π := (m'.newBlock b [Value.int IntKind.i64 r.g, Value.string r.ky, Value.int IntKind.i64 r.le, Value.int IntKind.i64 r.ne]).π, sz := n_2, uf := (m'.newBlock b [Value.int IntKind.i64 r.g, Value.string r.ky, Value.int IntKind.i64 r.le, Value.int IntKind.i64 r.ne]).uf : M }
      S' fun (v : Value) (m' : M) =>
      ∃ (a : Option Addr),
      ∃ (n : Nat),
      ∃ (c : Nat),
      v = Value.slice a n c ∧
      Done (LpR (putE l r) (Value.tuple #[Value.slice a n c, Value.int IntKind.i64 (0 : Int)]) m'))))) (by kernel_rfl) ?_
  refine ⟨rfl, _, lcheck_q a cp l (by omega) _ h, ?_⟩
  cases ht : ledB none l
  · exact ifB_true (lp_fail (by simp [putE, ht]))
  refine ifB_false ⟨_, rmay_q r _, ?_⟩
  cases hr : rmayB r
  · exact ifB_true (lp_fail (by simp [putE, ht, hr]))
  have hres : putE l r = (putL l r, 0) := by simp [putE, ht, hr]
  have hple := rtP_le l r
  refine ifB_false ⟨_, noS, fun N hN => (rt_clone l a cp (by omega) (rt_none h) _ (h.sz hN)).monoW fun v m' hag ⟨a', c', hv, hr'⟩ => ⟨a', _, c', hv, ?_⟩⟩
  have hbs := rt_bsearch a' c' l r (fun x => ordR x r) (rtP l r) (by omega) m' hr'.row (fun x _ m'' => order_q x r m'') hple (fun k hk hp => by
      have := rtP_lt ht k hk hp
      rw [ord_bel, this]; simp) (fun k hk hp => by
      have := rtP_ge ht k hk hp
      show (0 : Int) ≤ ordR l[k] r
      rw [ord_bel, this]
      by_cases h5 : sameK l[k] r = true <;> simp [h5])
  rw [rtP_of ht] at hbs
  refine ⟨_, _, hbs, ?_⟩
  cases ho : ofR l r with
  | none =>
    have e := rtP_no ht ho
    refine ifB_false ⟨rfl, fun b hb => ?_⟩
    have hrN := hr'.newBlock (ds := encRt r) hb
    have hs := rt_insert a' c' l (rtP l r) b 0 1 r (fun b' => ∃ o, a' = some ⟨b', o, none⟩ ∧ (m'.newBlock b (encRt r)).uf b' ∧ m.sz ≤ b') (by omega) hple
    refine ⟨fun b' => ∃ o, a' = some ⟨b', o, none⟩ ∧ (m'.newBlock b (encRt r)).uf b' ∧ m.sz ≤ b', fun b' ⟨o, e, hu, hlo⟩ => ⟨hu, .inl hlo⟩, fun n hn => ?_⟩
    refine (hs { m'.newBlock b (encRt r) with sz := n } ((hrN.sz hn).re fun b' o e hu hlo => .inr ⟨o, e, hu, by rcases hlo with h | h; simp only at h; omega; exact h.elim⟩)
      (fun hne b' o e => ?_) (by simp only; omega) (.inl rfl) ⟨(cellsAt_new (m := m') (b := b) (cs := encRt r)).out⟩).mono fun v3 m3 hag3 ⟨a3, c3, hv3, hr3⟩ => ⟨a3, _, c3, hv3, lp_ok (z := putL l r) hres ?_ ?_⟩
    · have := (hr'.toOwn (fun e => hne (List.eq_nil_of_length_eq_zero e))).lt e
      omega
    · rw [← e]; simp; omega
    · rw [← e]; exact hr3.row
  | some z =>
    obtain ⟨hk, hz, e⟩ := rtP_at ht ho
    have hown := (hr'.toOwn (by omega)).lower hN
    obtain ⟨b, o, rfl, hc⟩ := hown.row.cells (by rw [rt_len]; omega)
    obtain ⟨g1, g2⟩ := OwnB.setAt rt_k hown hk r
    refine ifB_true ⟨b, o, rfl, by omega, g1, lp_ok (z := putL l r) hres (by rw [← e]; simp) ?_⟩
    rw [← e]; exact g2.row

theorem lnet_q (a : Option Addr) (cp : Nat) (l : List Rt) (g : Int) (ky : ByteArray) (le : Int) (hn : l.length ≤ 9223372036854775807) (m : M) (h : Row m a (rts l)) : QSpec Try.prog 16 [.slice a l.length cp, I g, .string ky, I le] m (I (netR l g ky le)) := by
  refine QSpec.of_vc Try.func16 (ann := fun n _ => { A := Nat, inv := fun k => k ≤ l.length ∧ ∀ x ∈ l.take k, isN g ky le x = false, st := fun k => [(16, .val (I k)), (15, .val (I l.length)), (14, .val (.slice a l.length cp)), (1, .val (I g)), (2, .val (.string ky)), (3, .val (I le))], own := fun _ => [], m := fun _ => { m with sz := n }, μ := fun k => l.length - k }) fun n hn' => ?_
  refine vc_by (X :=
      true = true ∧
      ∃ (n_1 : Int),
      QSpec Try.prog (14 : Nat) [Value.slice a l.length cp] { π := m.π, sz := n, uf := m.uf : M } (Value.int IntKind.i64 n_1) ∧
      ifB (n_1 != (0 : Int)) (Done (Value.int IntKind.i64 (0 : Int) = Value.int IntKind.i64 (netR l g ky le)))
      ((∃ (a_1 : Nat),
      (a_1 ≤ l.length ∧ ∀ (x : Rt), x ∈ List.take a_1 l → isN g ky le x = false) ∧
      { π := m.π, sz := n, uf := m.uf : M } = { π := m.π, sz := n, uf := m.uf : M } ∧
      ((SV.val (Value.int IntKind.i64 (0 : Int)) = SV.val (Value.int IntKind.i64 (↑a_1 : Int)) ∧ true = true) ∧
      (SV.val (Value.int IntKind.i64 (↑l.length : Int)) = SV.val (Value.int IntKind.i64 (↑l.length : Int)) ∧ true = true) ∧
      (SV.val (Value.slice a l.length cp) = SV.val (Value.slice a l.length cp) ∧ true = true) ∧
      (SV.val (Value.int IntKind.i64 g) = SV.val (Value.int IntKind.i64 g) ∧ true = true) ∧
      (SV.val (Value.string ky) = SV.val (Value.string ky) ∧ true = true) ∧
      (SV.val (Value.int IntKind.i64 le) = SV.val (Value.int IntKind.i64 le) ∧ true = true) ∧ True) ∧
      True) ∧
      ∀ (a_1 : Nat),
      (a_1 ≤ l.length ∧ ∀ (x : Rt), x ∈ List.take a_1 l → isN g ky le x = false) →
      ifB (decide ((↑a_1 : Int) < (↑l.length : Int)))
      (∃ (b : Nat),
      ∃ (off : Nat),
      a = some { block := b, off := off : Addr } ∧
      ((0 : Int) ≤ (↑a_1 : Int) ∧ (↑a_1 : Int) < (↑l.length : Int)) ∧
      ∃ (n_2 : Int),
      ∃ (s : ByteArray),
      ∃ (n_3 : Int),
      ∃ (n_4 : Int),
      CellsAt { π := m.π, sz := n, uf := m.uf : M } b (off + (↑a_1 : Int).toNat * (4 : Nat))
      [Value.int IntKind.i64 n_2, Value.string s, Value.int IntKind.i64 n_3, Value.int IntKind.i64 n_4] ∧
      ifB (n_2 == g && (s.toList == ky.toList && (n_3 == le && (n_4 == n_4 && true))))
      (Done (Value.int IntKind.i64 n_4 = Value.int IntKind.i64 (netR l g ky le)))
      (∃ (a' : Nat),
      ((a' ≤ l.length ∧ ∀ (x : Rt), x ∈ List.take a' l → isN g ky le x = false) ∧
      { π := m.π, sz := n, uf := m.uf : M } = { π := m.π, sz := n, uf := m.uf : M } ∧
      ((SV.val (Value.int IntKind.i64 (IntKind.i64.wrap ((↑a_1 : Int) + (1 : Int)))) = SV.val (Value.int IntKind.i64 (↑a' : Int)) ∧
      true = true) ∧
      (SV.val (Value.int IntKind.i64 (↑l.length : Int)) = SV.val (Value.int IntKind.i64 (↑l.length : Int)) ∧ true = true) ∧
      (SV.val (Value.slice a l.length cp) = SV.val (Value.slice a l.length cp) ∧ true = true) ∧
      (SV.val (Value.int IntKind.i64 g) = SV.val (Value.int IntKind.i64 g) ∧ true = true) ∧
      (SV.val (Value.string ky) = SV.val (Value.string ky) ∧ true = true) ∧
      (SV.val (Value.int IntKind.i64 le) = SV.val (Value.int IntKind.i64 le) ∧ true = true) ∧ True) ∧
      True) ∧
      l.length - a' < l.length - a_1))
      (Done (Value.int IntKind.i64 (0 : Int) = Value.int IntKind.i64 (netR l g ky le))))) (by kernel_rfl) ?_
  have h' := h.sz hn'
  refine ⟨rfl, _, lcheck_q a cp l hn _ h', ?_⟩
  cases ht : ledB none l
  · exact ifB_true ⟨by simp [netR, ht]⟩
  refine ifB_false ⟨⟨0, by simp⟩, fun k ⟨hk, hq⟩ => ifB_intro (fun hb => ?_) (fun hb => ⟨?_⟩)⟩
  · have hk2 : k < l.length := by simpa using hb
    obtain ⟨b, o, rfl, hc⟩ := h'.cells (by rw [rt_len]; omega)
    have w1 : IntKind.i64.wrap ((k : Int) + 1) = ((k + 1 : Nat) : Int) := by simp [IntKind.wrap_i64]; omega
    refine ⟨b, o, rfl, by omega, _, _, _, _, by simpa using rt_at hc hk2, ifB_intro (fun h1 => ⟨?_⟩) (fun h1 => ⟨k + 1, ⟨⟨hk2, take_all hk2 hq ?_⟩, by simp [w1]⟩, by omega⟩)⟩
    · have e : isN g ky le l[k] = true := by
        rw [bytes_beq] at h1
        simp at h1
        simp [isN, h1]
      simp [netR, ht, find_at hk2 hq e]
    · rw [bytes_beq] at h1
      cases e : isN g ky le l[k] with
      | false => rfl
      | true => simp [isN] at e; simp [e] at h1
  · have hkl : k = l.length := by simp at hb; omega
    have : l.find? (isN g ky le) = none := List.find?_eq_none.2 fun x hx => by
      rw [hkl, List.take_length] at hq
      simp [hq x hx]
    simp [netR, ht, this]

theorem rnet_q (a : Option Addr) (cp : Nat) (l : List Rt) (g : Int) (ky : ByteArray) (le : Int) (hn : l.length ≤ 9223372036854775807) (m : M) (h : Row m a (rts l)) : QSpec Try.prog 17 [.slice a l.length cp, I g, .string ky, I le] m (I (netR l g ky le)) := by
  refine QSpec.of_vc Try.func17 (ann := fun n _ => { A := Nat, inv := fun k => k ≤ l.length ∧ ∀ x ∈ l.take k, isN g ky le x = false, st := fun k => [(9, .val (I k)), (0, .val (.slice a l.length cp)), (1, .val (I g)), (2, .val (.string ky)), (3, .val (I le))], own := fun _ => [], m := fun _ => { m with sz := n }, μ := fun k => l.length - k }) fun n hn' => ?_
  refine vc_by (X :=
      true = true ∧
      (∃ (a_1 : Nat),
      (a_1 ≤ l.length ∧ ∀ (x : Rt), x ∈ List.take a_1 l → isN g ky le x = false) ∧
      { π := m.π, sz := n, uf := m.uf : M } = { π := m.π, sz := n, uf := m.uf : M } ∧
      ((SV.val (Value.int IntKind.i64 (0 : Int)) = SV.val (Value.int IntKind.i64 (↑a_1 : Int)) ∧ true = true) ∧
      (SV.val (Value.slice a l.length cp) = SV.val (Value.slice a l.length cp) ∧ true = true) ∧
      (SV.val (Value.int IntKind.i64 g) = SV.val (Value.int IntKind.i64 g) ∧ true = true) ∧
      (SV.val (Value.string ky) = SV.val (Value.string ky) ∧ true = true) ∧
      (SV.val (Value.int IntKind.i64 le) = SV.val (Value.int IntKind.i64 le) ∧ true = true) ∧ True) ∧
      True) ∧
      ∀ (a_1 : Nat),
      (a_1 ≤ l.length ∧ ∀ (x : Rt), x ∈ List.take a_1 l → isN g ky le x = false) →
      ∃ (b : Bool),
      QSpec Try.prog (10 : Nat) [Value.slice a l.length cp] { π := m.π, sz := n, uf := m.uf : M } (Value.bool b) ∧
      ifB b
      (ifB (decide ((↑a_1 : Int) < (↑l.length : Int)))
      (∃ (b : Nat),
      ∃ (off : Nat),
      a = some { block := b, off := off : Addr } ∧
      ((0 : Int) ≤ (↑a_1 : Int) ∧ (↑a_1 : Int) < (↑l.length : Int)) ∧
      ∃ (n_1 : Int),
      CellsAt { π := m.π, sz := n, uf := m.uf : M } b (off + (↑a_1 : Int).toNat * (4 : Nat) + (0 : Nat)) [Value.int IntKind.i64 n_1] ∧
      ifB (n_1 == g)
      (∃ (b : Nat),
      ∃ (off : Nat),
      a = some { block := b, off := off : Addr } ∧
      ((0 : Int) ≤ (↑a_1 : Int) ∧ (↑a_1 : Int) < (↑l.length : Int)) ∧
      ∃ (s : ByteArray),
      CellsAt { π := m.π, sz := n, uf := m.uf : M } b (off + (↑a_1 : Int).toNat * (4 : Nat) + (1 : Nat)) [Value.string s] ∧
      ifB (s.toList == ky.toList)
      (∃ (b : Nat),
      ∃ (off : Nat),
      a = some { block := b, off := off : Addr } ∧
      ((0 : Int) ≤ (↑a_1 : Int) ∧ (↑a_1 : Int) < (↑l.length : Int)) ∧
      ∃ (n_2 : Int),
      CellsAt { π := m.π, sz := n, uf := m.uf : M } b (off + (↑a_1 : Int).toNat * (4 : Nat) + (2 : Nat))
      [Value.int IntKind.i64 n_2] ∧
      ifB (n_2 == le)
      (∃ (b : Nat),
      ∃ (off : Nat),
      a = some { block := b, off := off : Addr } ∧
      ((0 : Int) ≤ (↑a_1 : Int) ∧ (↑a_1 : Int) < (↑l.length : Int)) ∧
      ∃ (n_3 : Int),
      CellsAt { π := m.π, sz := n, uf := m.uf : M } b (off + (↑a_1 : Int).toNat * (4 : Nat) + (3 : Nat))
      [Value.int IntKind.i64 n_3] ∧
      Done (Value.int IntKind.i64 n_3 = Value.int IntKind.i64 (netR l g ky le)))
      (∃ (a' : Nat),
      ((a' ≤ l.length ∧ ∀ (x : Rt), x ∈ List.take a' l → isN g ky le x = false) ∧
      { π := m.π, sz := n, uf := m.uf : M } = { π := m.π, sz := n, uf := m.uf : M } ∧
      ((SV.val (Value.int IntKind.i64 (IntKind.i64.wrap ((↑a_1 : Int) + (1 : Int)))) =
      SV.val (Value.int IntKind.i64 (↑a' : Int)) ∧
      true = true) ∧
      (SV.val (Value.slice a l.length cp) = SV.val (Value.slice a l.length cp) ∧ true = true) ∧
      (SV.val (Value.int IntKind.i64 g) = SV.val (Value.int IntKind.i64 g) ∧ true = true) ∧
      (SV.val (Value.string ky) = SV.val (Value.string ky) ∧ true = true) ∧
      (SV.val (Value.int IntKind.i64 le) = SV.val (Value.int IntKind.i64 le) ∧ true = true) ∧ True) ∧
      True) ∧
      l.length - a' < l.length - a_1))
      (∃ (a' : Nat),
      ((a' ≤ l.length ∧ ∀ (x : Rt), x ∈ List.take a' l → isN g ky le x = false) ∧
      { π := m.π, sz := n, uf := m.uf : M } = { π := m.π, sz := n, uf := m.uf : M } ∧
      ((SV.val (Value.int IntKind.i64 (IntKind.i64.wrap ((↑a_1 : Int) + (1 : Int)))) = SV.val (Value.int IntKind.i64 (↑a' : Int)) ∧
      true = true) ∧
      (SV.val (Value.slice a l.length cp) = SV.val (Value.slice a l.length cp) ∧ true = true) ∧
      (SV.val (Value.int IntKind.i64 g) = SV.val (Value.int IntKind.i64 g) ∧ true = true) ∧
      (SV.val (Value.string ky) = SV.val (Value.string ky) ∧ true = true) ∧
      (SV.val (Value.int IntKind.i64 le) = SV.val (Value.int IntKind.i64 le) ∧ true = true) ∧ True) ∧
      True) ∧
      l.length - a' < l.length - a_1))
      (∃ (a' : Nat),
      ((a' ≤ l.length ∧ ∀ (x : Rt), x ∈ List.take a' l → isN g ky le x = false) ∧
      { π := m.π, sz := n, uf := m.uf : M } = { π := m.π, sz := n, uf := m.uf : M } ∧
      ((SV.val (Value.int IntKind.i64 (IntKind.i64.wrap ((↑a_1 : Int) + (1 : Int)))) = SV.val (Value.int IntKind.i64 (↑a' : Int)) ∧ true = true) ∧
      (SV.val (Value.slice a l.length cp) = SV.val (Value.slice a l.length cp) ∧ true = true) ∧
      (SV.val (Value.int IntKind.i64 g) = SV.val (Value.int IntKind.i64 g) ∧ true = true) ∧
      (SV.val (Value.string ky) = SV.val (Value.string ky) ∧ true = true) ∧
      (SV.val (Value.int IntKind.i64 le) = SV.val (Value.int IntKind.i64 le) ∧ true = true) ∧ True) ∧
      True) ∧
      l.length - a' < l.length - a_1))
      (Done (Value.int IntKind.i64 (0 : Int) = Value.int IntKind.i64 (netR l g ky le))))
      (Done (Value.int IntKind.i64 (0 : Int) = Value.int IntKind.i64 (netR l g ky le)))) (by kernel_rfl) ?_
  have h' := h.sz hn'
  refine ⟨rfl, ⟨0, by simp⟩, fun k ⟨hk, hq⟩ => ⟨_, rright_l a cp l hn _ h', ?_⟩⟩
  cases ht : ledB none l
  · exact ifB_false ⟨by simp [netR, ht]⟩
  refine ifB_true (ifB_intro (fun hb => ?_) (fun hb => ⟨?_⟩))
  · have hk2 : k < l.length := by simpa using hb
    obtain ⟨b, o, rfl, hc⟩ := h'.cells (by rw [rt_len]; omega)
    have w1 : IntKind.i64.wrap ((k : Int) + 1) = ((k + 1 : Nat) : Int) := by simp [IntKind.wrap_i64]; omega
    have c0 := CellsAt.field rt_k hc hk2 (p := []) (old := [I l[k].g]) (q := [.string l[k].ky, I l[k].le, I l[k].ne]) rfl
    have c1 := CellsAt.field rt_k hc hk2 (p := [I l[k].g]) (old := [.string l[k].ky]) (q := [I l[k].le, I l[k].ne]) rfl
    have c2 := CellsAt.field rt_k hc hk2 (p := [I l[k].g, .string l[k].ky]) (old := [I l[k].le]) (q := [I l[k].ne]) rfl
    have c3 := CellsAt.field rt_k hc hk2 (p := [I l[k].g, .string l[k].ky, I l[k].le]) (old := [I l[k].ne]) (q := []) rfl
    have nx : isN g ky le l[k] = false → (k + 1 ≤ l.length ∧ ∀ x ∈ l.take (k + 1), isN g ky le x = false) := fun e => ⟨hk2, take_all hk2 hq e⟩
    refine ⟨b, o, rfl, by omega, _, by simpa using c0, ifB_intro (fun h1 => ⟨b, o, rfl, by omega, _, by simpa using c1, ifB_intro (fun h2 => ⟨b, o, rfl, by omega, _, by simpa using c2, ifB_intro (fun h3 => ⟨b, o, rfl, by omega, _, by simpa using c3, ⟨?_⟩⟩) (fun h3 => ⟨k + 1, ⟨nx ?_, by simp [w1]⟩, by omega⟩)⟩) (fun h2 => ⟨k + 1, ⟨nx ?_, by simp [w1]⟩, by omega⟩)⟩) (fun h1 => ⟨k + 1, ⟨nx ?_, by simp [w1]⟩, by omega⟩)⟩
    · have e : isN g ky le l[k] = true := by
        rw [bytes_beq] at h2
        simp at h1 h2 h3
        simp [isN, h1, h2, h3]
      simp [netR, ht, find_at hk2 hq e]
    · simp at h3; simp [isN, h3]
    · rw [bytes_beq] at h2; simp at h2; simp [isN, h2]
    · simp at h1; simp [isN, h1]
  · have hkl : k = l.length := by simp at hb; omega
    have : l.find? (isN g ky le) = none := List.find?_eq_none.2 fun x hx => by
      rw [hkl, List.take_length] at hq
      simp [hq x hx]
    simp [netR, ht, this]

end Go.Proofs.Ytfkielfnceeedaa
