/-
  Contracts of functions of this seat: what each hands back, and what it leaves of memory (led3, led4, led5, acc9, acc10, acc11, acc12, acc13, led6, led7). Nothing here is trusted: Lean checks it.
-/
import Derived.Test.YtfkielfnceeedaaPart1
import Derived.Test.YtfkielfnceeedaaVcList
set_option linter.unusedVariables false
set_option linter.unusedSimpArgs false
namespace Go.Proofs.Ytfkielfnceeedaa
open Go.Vc Go.RowKit
set_option maxRecDepth 100000

structure LpR (y : List Rt × Int) (v : Value) (m' : M) : Prop where
  out : ∃ a' c', v = .tuple #[.slice a' y.1.length c', I y.2] ∧ Row m' a' (rts y.1)

theorem lp_fail {m' : M} {y : List Rt × Int} {e : Int} (h : y = ([], e)) : Done (LpR y (.tuple #[.slice none 0 0, I e]) m') := ⟨by subst h; exact ⟨none, 0, rfl, .nil _⟩⟩

theorem lp_ok {m' : M} {y : List Rt × Int} {z : List Rt} {a' : Option Addr} {len c' : Nat} (h : y = (z, 0)) (hl : len = z.length) (hr : Row m' a' (rts z)) : Done (LpR y (.tuple #[.slice a' len c', I 0]) m') := ⟨by subst h; subst hl; exact ⟨a', c', rfl, hr⟩⟩

def putE (l : List Rt) (r : Rt) : List Rt × Int := if ledB none l = false then ([], 21) else if rmayB r = false then ([], 1) else (putL l r, 0)

def isN (g : Int) (k : ByteArray) (le : Int) (x : Rt) : Bool := decide (x.g = g) && decide (x.ky = k) && decide (x.le = le)

def netR (l : List Rt) (g : Int) (k : ByteArray) (le : Int) : Int := if ledB none l then ((l.find? (isN g k le)).map (·.ne)).getD 0 else 0

theorem find_at {p : Rt → Bool} : ∀ {l : List Rt} {k : Nat} (hk : k < l.length), (∀ x ∈ l.take k, p x = false) → p l[k] = true → l.find? p = some l[k]
  | [], _, hk, _, _ => by simp at hk
  | x :: xs, 0, _, _, h => by simp at h; simp [h]
  | x :: xs, k + 1, hk, hl, h => by
    have h1 := hl x (by simp)
    have hk2 : k < xs.length := by simpa using hk
    rw [List.find?_cons, h1]
    simpa using find_at (l := xs) hk2 (fun y hy => hl y (by simp [hy])) (by simpa using h)

theorem take_all {p : Rt → Bool} {l : List Rt} {k : Nat} (hk : k < l.length) (hq : ∀ x ∈ l.take k, p x = false) (h : p l[k] = false) : ∀ x ∈ l.take (k + 1), p x = false := fun x hx => by
  rw [List.take_succ_eq_append_getElem hk, List.mem_append] at hx
  rcases hx with hx | hx
  · exact hq x hx
  · have hx : x = l[k] := by simpa using hx
    subst hx; exact h

theorem lput_s (a : Option Addr) (cp : Nat) (l : List Rt) (r : Rt) (hn : l.length ≤ 3518437208870) (m : M) (h : Row m a (rts l)) : Vc.Spec Try.prog 11 [.slice a l.length cp, rtv r] m (LpR (putE l r)) := by
  refine Vc.Spec.of_vc Try.func11 (ann := noAnn) ?_
  refine vc_by (X :=
      true = true ∧
      ∃ (n : Int),
      QSpec Try.prog (14 : Nat) [Value.slice a l.length cp] m (Value.int IntKind.i64 n) ∧
      ifB (n != (0 : Int)) (Done (LpR (putE l r) (Value.tuple #[Value.slice none (0 : Nat) (0 : Nat), Value.int IntKind.i64 (21 : Int)]) m))
      (∃ (b : Bool),
      QSpec Try.prog (41 : Nat) [Value.agg #[Value.int IntKind.i64 r.g, Value.string r.ky, Value.int IntKind.i64 r.le, Value.int IntKind.i64 r.ne]] m (Value.bool b) ∧
      ifB (!b) (Done (LpR (putE l r) (Value.tuple #[Value.slice none (0 : Nat) (0 : Nat), Value.int IntKind.i64 (1 : Int)]) m))
      (∃ (S' : Nat → Prop),
      (∀ (b : Nat), S' b → m.uf b ∧ (m.sz ≤ b ∨ False)) ∧
      ∀ (n : Nat),
      m.sz ≤ n →
      SpecW Try.prog (42 : Nat) [Value.slice a l.length cp] { π := m.π, sz := n, uf := m.uf : M } S' fun (v : Value) (m' : M) =>
      ∃ (a : Option Addr),
      ∃ (n : Nat),
      ∃ (c : Nat),
      v = Value.slice a n c ∧
      ∃ (n_1 : Int),
      ∃ (b : Bool),
      QSpec Try.prog (43 : Nat)
      [Value.slice a n c, Value.agg #[Value.int IntKind.i64 r.g, Value.string r.ky, Value.int IntKind.i64 r.le, Value.int IntKind.i64 r.ne],
      Value.func (Fn.func (44 : Nat)) #[] #[]]
      m' (Value.tuple #[Value.int IntKind.i64 n_1, Value.bool b]) ∧
      ifB b
      (∃ (b : Nat),
      ∃ (off : Nat),
      a = some { block := b, off := off : Addr } ∧
      ((0 : Int) ≤ n_1 ∧ n_1 < (↑n : Int)) ∧
      Wr m.sz (fun (x : Nat) => False) m' b (off + n_1.toNat * (4 : Nat))
      #[Value.int IntKind.i64 r.g, Value.string r.ky, Value.int IntKind.i64 r.le, Value.int IntKind.i64 r.ne].size ∧
      Done
      (LpR (putE l r) (Value.tuple #[Value.slice a n c, Value.int IntKind.i64 (0 : Int)])
      (m'.setCells b (off + n_1.toNat * (4 : Nat))
      [Value.int IntKind.i64 r.g, Value.string r.ky, Value.int IntKind.i64 r.le, Value.int IntKind.i64 r.ne])))
      (true = true ∧
      ∀ (b : Nat),
      m'.sz ≤ b →
      ∃ (S' : Nat → Prop),
      (∀ (b_1 : Nat),
      S' b_1 →
      (m'.newBlock b [Value.int IntKind.i64 r.g, Value.string r.ky, Value.int IntKind.i64 r.le, Value.int IntKind.i64 r.ne]).uf
      b_1 ∧
      (m.sz ≤ b_1 ∨ False)) ∧
      ∀ (n_2 : Nat),
      max m'.sz (b + (1 : Nat)) ≤ n_2 →
      SpecW Try.prog (45 : Nat)
      [Value.slice a n c, Value.int IntKind.i64 n_1,
      Value.slice (some { block := b, off := (0 : Nat) : Addr }) (1 : Nat) (1 : Nat)]
      { π := (m'.newBlock b [Value.int IntKind.i64 r.g, Value.string r.ky, Value.int IntKind.i64 r.le, Value.int IntKind.i64 r.ne]).π, sz := n_2, uf := (m'.newBlock b [Value.int IntKind.i64 r.g, Value.string r.ky, Value.int IntKind.i64 r.le, Value.int IntKind.i64 r.ne]).uf : M }
      S' fun (v : Value) (m' : M) =>
      ∃ (a : Option Addr),
      ∃ (n : Nat),
      ∃ (c : Nat),
      v = Value.slice a n c ∧
      Done (LpR (putE l r) (Value.tuple #[Value.slice a n c, Value.int IntKind.i64 (0 : Int)]) m'))))) (by kernel_rfl) ?_
  refine ⟨rfl, _, lcheck_q a cp l (by omega) _ h, ?_⟩
  cases ht : ledB none l
  · exact ifB_true (lp_fail (by simp [putE, ht]))
  refine ifB_false ⟨_, rmay_q r _, ?_⟩
  cases hr : rmayB r
  · exact ifB_true (lp_fail (by simp [putE, ht, hr]))
  have hres : putE l r = (putL l r, 0) := by simp [putE, ht, hr]
  have hple := rtP_le l r
  refine ifB_false ⟨_, noS, fun N hN => (rt_clone l a cp (by omega) (rt_none h) _ (h.sz hN)).monoW fun v m' hag ⟨a', c', hv, hr'⟩ => ⟨a', _, c', hv, ?_⟩⟩
  have hbs := rt_bsearch a' c' l r (fun x => ordR x r) (rtP l r) (by omega) m' hr'.row (fun x _ m'' => order_q x r m'') hple (fun k hk hp => by
      have := rtP_lt ht k hk hp
      rw [ord_bel, this]; simp) (fun k hk hp => by
      have := rtP_ge ht k hk hp
      show (0 : Int) ≤ ordR l[k] r
      rw [ord_bel, this]
      by_cases h5 : sameK l[k] r = true <;> simp [h5])
  rw [rtP_of ht] at hbs
  refine ⟨_, _, hbs, ?_⟩
  cases ho : ofR l r with
  | none =>
    have e := rtP_no ht ho
    refine ifB_false ⟨rfl, fun b hb => ?_⟩
    have hrN := hr'.newBlock (ds := encRt r) hb
    have hs := rt_insert a' c' l (rtP l r) b 0 1 r (fun b' => ∃ o, a' = some ⟨b', o, none⟩ ∧ (m'.newBlock b (encRt r)).uf b' ∧ m.sz ≤ b') (by omega) hple
    refine ⟨fun b' => ∃ o, a' = some ⟨b', o, none⟩ ∧ (m'.newBlock b (encRt r)).uf b' ∧ m.sz ≤ b', fun b' ⟨o, e, hu, hlo⟩ => ⟨hu, .inl hlo⟩, fun n hn => ?_⟩
    refine (hs { m'.newBlock b (encRt r) with sz := n } ((hrN.sz hn).re fun b' o e hu hlo => .inr ⟨o, e, hu, by rcases hlo with h | h; simp only at h; omega; exact h.elim⟩)
      (fun hne b' o e => ?_) (by simp only; omega) (.inl rfl) ⟨(cellsAt_new (m := m') (b := b) (cs := encRt r)).out⟩).mono fun v3 m3 hag3 ⟨a3, c3, hv3, hr3⟩ => ⟨a3, _, c3, hv3, lp_ok (z := putL l r) hres ?_ ?_⟩
    · have := (hr'.toOwn (fun e => hne (List.eq_nil_of_length_eq_zero e))).lt e
      omega
    · rw [← e]; simp; omega
    · rw [← e]; exact hr3.row
  | some z =>
    obtain ⟨hk, hz, e⟩ := rtP_at ht ho
    have hown := (hr'.toOwn (by omega)).lower hN
    obtain ⟨b, o, rfl, hc⟩ := hown.row.cells (by rw [rt_len]; omega)
    obtain ⟨g1, g2⟩ := OwnB.setAt rt_k hown hk r
    refine ifB_true ⟨b, o, rfl, by omega, g1, lp_ok (z := putL l r) hres (by rw [← e]; simp) ?_⟩
    rw [← e]; exact g2.row

theorem lnet_q (a : Option Addr) (cp : Nat) (l : List Rt) (g : Int) (ky : ByteArray) (le : Int) (hn : l.length ≤ 9223372036854775807) (m : M) (h : Row m a (rts l)) : QSpec Try.prog 16 [.slice a l.length cp, I g, .string ky, I le] m (I (netR l g ky le)) := by
  refine QSpec.of_vc Try.func16 (ann := fun n _ => { A := Nat, inv := fun k => k ≤ l.length ∧ ∀ x ∈ l.take k, isN g ky le x = false, st := fun k => [(16, .val (I k)), (15, .val (I l.length)), (14, .val (.slice a l.length cp)), (1, .val (I g)), (2, .val (.string ky)), (3, .val (I le))], own := fun _ => [], m := fun _ => { m with sz := n }, μ := fun k => l.length - k }) fun n hn' => ?_
  refine vc_by (X :=
      true = true ∧
      ∃ (n_1 : Int),
      QSpec Try.prog (14 : Nat) [Value.slice a l.length cp] { π := m.π, sz := n, uf := m.uf : M } (Value.int IntKind.i64 n_1) ∧
      ifB (n_1 != (0 : Int)) (Done (Value.int IntKind.i64 (0 : Int) = Value.int IntKind.i64 (netR l g ky le)))
      ((∃ (a_1 : Nat),
      (a_1 ≤ l.length ∧ ∀ (x : Rt), x ∈ List.take a_1 l → isN g ky le x = false) ∧
      { π := m.π, sz := n, uf := m.uf : M } = { π := m.π, sz := n, uf := m.uf : M } ∧
      ((SV.val (Value.int IntKind.i64 (0 : Int)) = SV.val (Value.int IntKind.i64 (↑a_1 : Int)) ∧ true = true) ∧
      (SV.val (Value.int IntKind.i64 (↑l.length : Int)) = SV.val (Value.int IntKind.i64 (↑l.length : Int)) ∧ true = true) ∧
      (SV.val (Value.slice a l.length cp) = SV.val (Value.slice a l.length cp) ∧ true = true) ∧
      (SV.val (Value.int IntKind.i64 g) = SV.val (Value.int IntKind.i64 g) ∧ true = true) ∧
      (SV.val (Value.string ky) = SV.val (Value.string ky) ∧ true = true) ∧
      (SV.val (Value.int IntKind.i64 le) = SV.val (Value.int IntKind.i64 le) ∧ true = true) ∧ True) ∧
      True) ∧
      ∀ (a_1 : Nat),
      (a_1 ≤ l.length ∧ ∀ (x : Rt), x ∈ List.take a_1 l → isN g ky le x = false) →
      ifB (decide ((↑a_1 : Int) < (↑l.length : Int)))
      (∃ (b : Nat),
      ∃ (off : Nat),
      a = some { block := b, off := off : Addr } ∧
      ((0 : Int) ≤ (↑a_1 : Int) ∧ (↑a_1 : Int) < (↑l.length : Int)) ∧
      ∃ (n_2 : Int),
      ∃ (s : ByteArray),
      ∃ (n_3 : Int),
      ∃ (n_4 : Int),
      CellsAt { π := m.π, sz := n, uf := m.uf : M } b (off + (↑a_1 : Int).toNat * (4 : Nat))
      [Value.int IntKind.i64 n_2, Value.string s, Value.int IntKind.i64 n_3, Value.int IntKind.i64 n_4] ∧
      ifB (n_2 == g && (s.toList == ky.toList && (n_3 == le && (n_4 == n_4 && true))))
      (Done (Value.int IntKind.i64 n_4 = Value.int IntKind.i64 (netR l g ky le)))
      (∃ (a' : Nat),
      ((a' ≤ l.length ∧ ∀ (x : Rt), x ∈ List.take a' l → isN g ky le x = false) ∧
      { π := m.π, sz := n, uf := m.uf : M } = { π := m.π, sz := n, uf := m.uf : M } ∧
      ((SV.val (Value.int IntKind.i64 (IntKind.i64.wrap ((↑a_1 : Int) + (1 : Int)))) = SV.val (Value.int IntKind.i64 (↑a' : Int)) ∧
      true = true) ∧
      (SV.val (Value.int IntKind.i64 (↑l.length : Int)) = SV.val (Value.int IntKind.i64 (↑l.length : Int)) ∧ true = true) ∧
      (SV.val (Value.slice a l.length cp) = SV.val (Value.slice a l.length cp) ∧ true = true) ∧
      (SV.val (Value.int IntKind.i64 g) = SV.val (Value.int IntKind.i64 g) ∧ true = true) ∧
      (SV.val (Value.string ky) = SV.val (Value.string ky) ∧ true = true) ∧
      (SV.val (Value.int IntKind.i64 le) = SV.val (Value.int IntKind.i64 le) ∧ true = true) ∧ True) ∧
      True) ∧
      l.length - a' < l.length - a_1))
      (Done (Value.int IntKind.i64 (0 : Int) = Value.int IntKind.i64 (netR l g ky le))))) (by kernel_rfl) ?_
  have h' := h.sz hn'
  refine ⟨rfl, _, lcheck_q a cp l hn _ h', ?_⟩
  cases ht : ledB none l
  · exact ifB_true ⟨by simp [netR, ht]⟩
  refine ifB_false ⟨⟨0, by simp⟩, fun k ⟨hk, hq⟩ => ifB_intro (fun hb => ?_) (fun hb => ⟨?_⟩)⟩
  · have hk2 : k < l.length := by simpa using hb
    obtain ⟨b, o, rfl, hc⟩ := h'.cells (by rw [rt_len]; omega)
    have w1 : IntKind.i64.wrap ((k : Int) + 1) = ((k + 1 : Nat) : Int) := by simp [IntKind.wrap_i64]; omega
    refine ⟨b, o, rfl, by omega, _, _, _, _, by simpa using rt_at hc hk2, ifB_intro (fun h1 => ⟨?_⟩) (fun h1 => ⟨k + 1, ⟨⟨hk2, take_all hk2 hq ?_⟩, by simp [w1]⟩, by omega⟩)⟩
    · have e : isN g ky le l[k] = true := by
        rw [bytes_beq] at h1
        simp at h1
        simp [isN, h1]
      simp [netR, ht, find_at hk2 hq e]
    · rw [bytes_beq] at h1
      cases e : isN g ky le l[k] with
      | false => rfl
      | true => simp [isN] at e; simp [e] at h1
  · have hkl : k = l.length := by simp at hb; omega
    have : l.find? (isN g ky le) = none := List.find?_eq_none.2 fun x hx => by
      rw [hkl, List.take_length] at hq
      simp [hq x hx]
    simp [netR, ht, this]

theorem rnet_q (a : Option Addr) (cp : Nat) (l : List Rt) (g : Int) (ky : ByteArray) (le : Int) (hn : l.length ≤ 9223372036854775807) (m : M) (h : Row m a (rts l)) : QSpec Try.prog 17 [.slice a l.length cp, I g, .string ky, I le] m (I (netR l g ky le)) := by
  refine QSpec.of_vc Try.func17 (ann := fun n _ => { A := Nat, inv := fun k => k ≤ l.length ∧ ∀ x ∈ l.take k, isN g ky le x = false, st := fun k => [(9, .val (I k)), (0, .val (.slice a l.length cp)), (1, .val (I g)), (2, .val (.string ky)), (3, .val (I le))], own := fun _ => [], m := fun _ => { m with sz := n }, μ := fun k => l.length - k }) fun n hn' => ?_
  refine vc_by (X :=
      true = true ∧
      (∃ (a_1 : Nat),
      (a_1 ≤ l.length ∧ ∀ (x : Rt), x ∈ List.take a_1 l → isN g ky le x = false) ∧
      { π := m.π, sz := n, uf := m.uf : M } = { π := m.π, sz := n, uf := m.uf : M } ∧
      ((SV.val (Value.int IntKind.i64 (0 : Int)) = SV.val (Value.int IntKind.i64 (↑a_1 : Int)) ∧ true = true) ∧
      (SV.val (Value.slice a l.length cp) = SV.val (Value.slice a l.length cp) ∧ true = true) ∧
      (SV.val (Value.int IntKind.i64 g) = SV.val (Value.int IntKind.i64 g) ∧ true = true) ∧
      (SV.val (Value.string ky) = SV.val (Value.string ky) ∧ true = true) ∧
      (SV.val (Value.int IntKind.i64 le) = SV.val (Value.int IntKind.i64 le) ∧ true = true) ∧ True) ∧
      True) ∧
      ∀ (a_1 : Nat),
      (a_1 ≤ l.length ∧ ∀ (x : Rt), x ∈ List.take a_1 l → isN g ky le x = false) →
      ∃ (b : Bool),
      QSpec Try.prog (10 : Nat) [Value.slice a l.length cp] { π := m.π, sz := n, uf := m.uf : M } (Value.bool b) ∧
      ifB b
      (ifB (decide ((↑a_1 : Int) < (↑l.length : Int)))
      (∃ (b : Nat),
      ∃ (off : Nat),
      a = some { block := b, off := off : Addr } ∧
      ((0 : Int) ≤ (↑a_1 : Int) ∧ (↑a_1 : Int) < (↑l.length : Int)) ∧
      ∃ (n_1 : Int),
      CellsAt { π := m.π, sz := n, uf := m.uf : M } b (off + (↑a_1 : Int).toNat * (4 : Nat) + (0 : Nat)) [Value.int IntKind.i64 n_1] ∧
      ifB (n_1 == g)
      (∃ (b : Nat),
      ∃ (off : Nat),
      a = some { block := b, off := off : Addr } ∧
      ((0 : Int) ≤ (↑a_1 : Int) ∧ (↑a_1 : Int) < (↑l.length : Int)) ∧
      ∃ (s : ByteArray),
      CellsAt { π := m.π, sz := n, uf := m.uf : M } b (off + (↑a_1 : Int).toNat * (4 : Nat) + (1 : Nat)) [Value.string s] ∧
      ifB (s.toList == ky.toList)
      (∃ (b : Nat),
      ∃ (off : Nat),
      a = some { block := b, off := off : Addr } ∧
      ((0 : Int) ≤ (↑a_1 : Int) ∧ (↑a_1 : Int) < (↑l.length : Int)) ∧
      ∃ (n_2 : Int),
      CellsAt { π := m.π, sz := n, uf := m.uf : M } b (off + (↑a_1 : Int).toNat * (4 : Nat) + (2 : Nat))
      [Value.int IntKind.i64 n_2] ∧
      ifB (n_2 == le)
      (∃ (b : Nat),
      ∃ (off : Nat),
      a = some { block := b, off := off : Addr } ∧
      ((0 : Int) ≤ (↑a_1 : Int) ∧ (↑a_1 : Int) < (↑l.length : Int)) ∧
      ∃ (n_3 : Int),
      CellsAt { π := m.π, sz := n, uf := m.uf : M } b (off + (↑a_1 : Int).toNat * (4 : Nat) + (3 : Nat))
      [Value.int IntKind.i64 n_3] ∧
      Done (Value.int IntKind.i64 n_3 = Value.int IntKind.i64 (netR l g ky le)))
      (∃ (a' : Nat),
      ((a' ≤ l.length ∧ ∀ (x : Rt), x ∈ List.take a' l → isN g ky le x = false) ∧
      { π := m.π, sz := n, uf := m.uf : M } = { π := m.π, sz := n, uf := m.uf : M } ∧
      ((SV.val (Value.int IntKind.i64 (IntKind.i64.wrap ((↑a_1 : Int) + (1 : Int)))) =
      SV.val (Value.int IntKind.i64 (↑a' : Int)) ∧
      true = true) ∧
      (SV.val (Value.slice a l.length cp) = SV.val (Value.slice a l.length cp) ∧ true = true) ∧
      (SV.val (Value.int IntKind.i64 g) = SV.val (Value.int IntKind.i64 g) ∧ true = true) ∧
      (SV.val (Value.string ky) = SV.val (Value.string ky) ∧ true = true) ∧
      (SV.val (Value.int IntKind.i64 le) = SV.val (Value.int IntKind.i64 le) ∧ true = true) ∧ True) ∧
      True) ∧
      l.length - a' < l.length - a_1))
      (∃ (a' : Nat),
      ((a' ≤ l.length ∧ ∀ (x : Rt), x ∈ List.take a' l → isN g ky le x = false) ∧
      { π := m.π, sz := n, uf := m.uf : M } = { π := m.π, sz := n, uf := m.uf : M } ∧
      ((SV.val (Value.int IntKind.i64 (IntKind.i64.wrap ((↑a_1 : Int) + (1 : Int)))) = SV.val (Value.int IntKind.i64 (↑a' : Int)) ∧
      true = true) ∧
      (SV.val (Value.slice a l.length cp) = SV.val (Value.slice a l.length cp) ∧ true = true) ∧
      (SV.val (Value.int IntKind.i64 g) = SV.val (Value.int IntKind.i64 g) ∧ true = true) ∧
      (SV.val (Value.string ky) = SV.val (Value.string ky) ∧ true = true) ∧
      (SV.val (Value.int IntKind.i64 le) = SV.val (Value.int IntKind.i64 le) ∧ true = true) ∧ True) ∧
      True) ∧
      l.length - a' < l.length - a_1))
      (∃ (a' : Nat),
      ((a' ≤ l.length ∧ ∀ (x : Rt), x ∈ List.take a' l → isN g ky le x = false) ∧
      { π := m.π, sz := n, uf := m.uf : M } = { π := m.π, sz := n, uf := m.uf : M } ∧
      ((SV.val (Value.int IntKind.i64 (IntKind.i64.wrap ((↑a_1 : Int) + (1 : Int)))) = SV.val (Value.int IntKind.i64 (↑a' : Int)) ∧ true = true) ∧
      (SV.val (Value.slice a l.length cp) = SV.val (Value.slice a l.length cp) ∧ true = true) ∧
      (SV.val (Value.int IntKind.i64 g) = SV.val (Value.int IntKind.i64 g) ∧ true = true) ∧
      (SV.val (Value.string ky) = SV.val (Value.string ky) ∧ true = true) ∧
      (SV.val (Value.int IntKind.i64 le) = SV.val (Value.int IntKind.i64 le) ∧ true = true) ∧ True) ∧
      True) ∧
      l.length - a' < l.length - a_1))
      (Done (Value.int IntKind.i64 (0 : Int) = Value.int IntKind.i64 (netR l g ky le))))
      (Done (Value.int IntKind.i64 (0 : Int) = Value.int IntKind.i64 (netR l g ky le)))) (by kernel_rfl) ?_
  have h' := h.sz hn'
  refine ⟨rfl, ⟨0, by simp⟩, fun k ⟨hk, hq⟩ => ⟨_, rright_l a cp l hn _ h', ?_⟩⟩
  cases ht : ledB none l
  · exact ifB_false ⟨by simp [netR, ht]⟩
  refine ifB_true (ifB_intro (fun hb => ?_) (fun hb => ⟨?_⟩))
  · have hk2 : k < l.length := by simpa using hb
    obtain ⟨b, o, rfl, hc⟩ := h'.cells (by rw [rt_len]; omega)
    have w1 : IntKind.i64.wrap ((k : Int) + 1) = ((k + 1 : Nat) : Int) := by simp [IntKind.wrap_i64]; omega
    have c0 := CellsAt.field rt_k hc hk2 (p := []) (old := [I l[k].g]) (q := [.string l[k].ky, I l[k].le, I l[k].ne]) rfl
    have c1 := CellsAt.field rt_k hc hk2 (p := [I l[k].g]) (old := [.string l[k].ky]) (q := [I l[k].le, I l[k].ne]) rfl
    have c2 := CellsAt.field rt_k hc hk2 (p := [I l[k].g, .string l[k].ky]) (old := [I l[k].le]) (q := [I l[k].ne]) rfl
    have c3 := CellsAt.field rt_k hc hk2 (p := [I l[k].g, .string l[k].ky, I l[k].le]) (old := [I l[k].ne]) (q := []) rfl
    have nx : isN g ky le l[k] = false → (k + 1 ≤ l.length ∧ ∀ x ∈ l.take (k + 1), isN g ky le x = false) := fun e => ⟨hk2, take_all hk2 hq e⟩
    refine ⟨b, o, rfl, by omega, _, by simpa using c0, ifB_intro (fun h1 => ⟨b, o, rfl, by omega, _, by simpa using c1, ifB_intro (fun h2 => ⟨b, o, rfl, by omega, _, by simpa using c2, ifB_intro (fun h3 => ⟨b, o, rfl, by omega, _, by simpa using c3, ⟨?_⟩⟩) (fun h3 => ⟨k + 1, ⟨nx ?_, by simp [w1]⟩, by omega⟩)⟩) (fun h2 => ⟨k + 1, ⟨nx ?_, by simp [w1]⟩, by omega⟩)⟩) (fun h1 => ⟨k + 1, ⟨nx ?_, by simp [w1]⟩, by omega⟩)⟩
    · have e : isN g ky le l[k] = true := by
        rw [bytes_beq] at h2
        simp at h1 h2 h3
        simp [isN, h1, h2, h3]
      simp [netR, ht, find_at hk2 hq e]
    · simp at h3; simp [isN, h3]
    · rw [bytes_beq] at h2; simp at h2; simp [isN, h2]
    · simp at h1; simp [isN, h1]
  · have hkl : k = l.length := by simp at hb; omega
    have : l.find? (isN g ky le) = none := List.find?_eq_none.2 fun x hx => by
      rw [hkl, List.take_length] at hq
      simp [hq x hx]
    simp [netR, ht, this]

end Go.Proofs.Ytfkielfnceeedaa
set_option linter.unusedVariables false
set_option linter.unusedSimpArgs false
namespace Go.Proofs.Ytfkielfnceeedaa
open Go.Vc Go.RowKit
set_option maxRecDepth 100000

structure PuX where
  k : Nat
  a1 : Option Addr
  c1 : Nat
  a2 : Option Addr
  c2 : Nat
  m : M

def loR (l : List Rt) (r : Rt) (k : Nat) : List Rt := (l.take k).filter fun x => bel x r

def hiR (l : List Rt) (r : Rt) (k : Nat) : List Rt := (l.take k).filter fun x => bel r x

theorem fil_succ (f : Rt → Bool) (l : List Rt) (k : Nat) (hk : k < l.length) : (l.take (k + 1)).filter f = (l.take k).filter f ++ if f l[k] = true then [l[k]] else [] := by
  rw [List.take_succ_eq_append_getElem hk, List.filter_append]
  congr 1
  by_cases h : f l[k] = true <;> simp [h]

theorem fil_le (f : Rt → Bool) (l : List Rt) (k : Nat) : ((l.take k).filter f).length ≤ l.length :=
  Nat.le_trans (List.length_filter_le _ _) (by rw [List.length_take]; omega)

structure PuI (l : List Rt) (r : Rt) (m : M) (y : PuX) : Prop where
  k : y.k ≤ l.length
  two : Two m.sz y.m 4 y.a1 (loR l r y.k).length y.c1 (rts (loR l r y.k)) 4 y.a2 (hiR l r y.k).length y.c2 (rts (hiR l r y.k))
  ag : Agree m.sz m y.m

theorem fil_sum (r : Rt) : ∀ l : List Rt, (l.filter fun x => bel x r).length + (l.filter fun x => bel r x).length ≤ l.length
  | [] => by simp
  | y :: l => by
    have ih := fil_sum r l
    cases h1 : bel y r with
    | true => simp [List.filter_cons, h1, bel_asym h1]; omega
    | false => cases h2 : bel r y <;> simp [List.filter_cons, h1, h2] <;> omega

set_option maxHeartbeats 1000000 in
theorem rput_s (a : Option Addr) (cp : Nat) (l : List Rt) (r : Rt) (hn : l.length ≤ 3518437208870) (m : M) (h : Row m a (rts l)) : Vc.Spec Try.prog 12 [.slice a l.length cp, rtv r] m (LpR (putE l r)) := by
  refine Vc.Spec.of_vc Try.func12 (ann := fun _ => { A := PuX, inv := PuI l r m, st := fun y => [(8, .val (I y.k)), (0, .val (.slice a l.length cp)), (3, .own 0 0), (6, .val (.slice y.a1 (loR l r y.k).length y.c1)), (7, .val (.slice y.a2 (hiR l r y.k).length y.c2))], own := fun _ => [(0, ⟨24, encRt r⟩)], m := fun y => y.m, μ := fun y => l.length - y.k }) ?_
  refine vc_by (X :=
      true = true ∧
      ∃ (b : Bool),
      QSpec Try.prog (10 : Nat) [Value.slice a l.length cp] m (Value.bool b) ∧
      ifB (!b) (Done (LpR (putE l r) (Value.tuple #[Value.slice none (0 : Nat) (0 : Nat), Value.int IntKind.i64 (21 : Int)]) m))
      (∃ (b : Bool),
      QSpec Try.prog (39 : Nat) [Value.agg #[Value.int IntKind.i64 r.g, Value.string r.ky, Value.int IntKind.i64 r.le, Value.int IntKind.i64 r.ne]] m (Value.bool b) ∧
      ifB (!b) (Done (LpR (putE l r) (Value.tuple #[Value.slice none (0 : Nat) (0 : Nat), Value.int IntKind.i64 (1 : Int)]) m))
      ((∃ (a_1 : PuX),
      PuI l r m a_1 ∧
      m = a_1.m ∧
      ((SV.val (Value.int IntKind.i64 (0 : Int)) = SV.val (Value.int IntKind.i64 (↑a_1.k : Int)) ∧ true = true) ∧
      (SV.val (Value.slice a l.length cp) = SV.val (Value.slice a l.length cp) ∧ true = true) ∧
      (SV.own ((0 : Nat) + (0 : Nat)) (0 : Nat) = SV.own (0 : Nat) (0 : Nat) ∧ true = true) ∧
      (SV.val (Value.slice none (0 : Nat) (0 : Nat)) = SV.val (Value.slice a_1.a1 (loR l r a_1.k).length a_1.c1) ∧ true = true) ∧
      (SV.val (Value.slice none (0 : Nat) (0 : Nat)) = SV.val (Value.slice a_1.a2 (hiR l r a_1.k).length a_1.c2) ∧ true = true) ∧ True) ∧
      (some { ty := (24 : Nat), cs := [Value.int IntKind.i64 r.g, Value.string r.ky, Value.int IntKind.i64 r.le, Value.int IntKind.i64 r.ne] : Bx } =
      some { ty := (24 : TypeId), cs := [Value.int IntKind.i64 r.g, Value.string r.ky, Value.int IntKind.i64 r.le, Value.int IntKind.i64 r.ne] : Bx } ∧
      true = true) ∧
      True) ∧
      ∀ (a_1 : PuX),
      PuI l r m a_1 →
      ifB (decide ((↑a_1.k : Int) < (↑l.length : Int)))
      (true = true ∧
      ∃ (b : Nat),
      ∃ (off : Nat),
      a = some { block := b, off := off : Addr } ∧
      ((0 : Int) ≤ (↑a_1.k : Int) ∧ (↑a_1.k : Int) < (↑l.length : Int)) ∧
      ∃ (n : Int),
      ∃ (s : ByteArray),
      ∃ (n_1 : Int),
      ∃ (n_2 : Int),
      CellsAt a_1.m b (off + (↑a_1.k : Int).toNat * (4 : Nat))
      [Value.int IntKind.i64 n, Value.string s, Value.int IntKind.i64 n_1, Value.int IntKind.i64 n_2] ∧
      ∃ (b : Bool),
      QSpec Try.prog (40 : Nat)
      [Value.agg #[Value.int IntKind.i64 n, Value.string s, Value.int IntKind.i64 n_1, Value.int IntKind.i64 n_2],
      Value.agg #[Value.int IntKind.i64 r.g, Value.string r.ky, Value.int IntKind.i64 r.le, Value.int IntKind.i64 r.ne]]
      a_1.m (Value.bool b) ∧
      ifB b
      (∃ (b : Nat),
      ∃ (off : Nat),
      a = some { block := b, off := off : Addr } ∧
      ((0 : Int) ≤ (↑a_1.k : Int) ∧ (↑a_1.k : Int) < (↑l.length : Int)) ∧
      ∃ (n : Int),
      ∃ (s : ByteArray),
      ∃ (n_3 : Int),
      ∃ (n_4 : Int),
      CellsAt a_1.m b (off + (↑a_1.k : Int).toNat * (4 : Nat))
      [Value.int IntKind.i64 n, Value.string s, Value.int IntKind.i64 n_3, Value.int IntKind.i64 n_4] ∧
      true = true ∧
      ∀ (b : Nat),
      a_1.m.sz ≤ b →
      ∃ (old : List Value),
      ∃ (src : List Value),
      AppPre m.sz (fun (x : Nat) => False)
      (a_1.m.newBlock b
      [Value.int IntKind.i64 n, Value.string s, Value.int IntKind.i64 n_3, Value.int IntKind.i64 n_4])
      (4 : Nat) (40 : Nat) a_1.a1 (loR l r a_1.k).length a_1.c1
      (some { block := b, off := (0 : Nat) : Addr }) (1 : Nat) old src ∧
      ∀ (a' : Option Addr) (c' : Nat) (m' : M),
      AppPost Try.prog (24 : Nat)
      (a_1.m.newBlock b
      [Value.int IntKind.i64 n, Value.string s, Value.int IntKind.i64 n_3,
      Value.int IntKind.i64 n_4])
      (4 : Nat) a_1.a1 (loR l r a_1.k).length a_1.c1 (1 : Nat) old src a' c' m' →
      true = true ∧
      ∃ (b : Nat),
      ∃ (off : Nat),
      a = some { block := b, off := off : Addr } ∧
      ((0 : Int) ≤ (↑a_1.k : Int) ∧ (↑a_1.k : Int) < (↑l.length : Int)) ∧
      ∃ (n : Int),
      ∃ (s : ByteArray),
      ∃ (n_5 : Int),
      ∃ (n_6 : Int),
      CellsAt m' b (off + (↑a_1.k : Int).toNat * (4 : Nat))
      [Value.int IntKind.i64 n, Value.string s, Value.int IntKind.i64 n_5,
      Value.int IntKind.i64 n_6] ∧
      ∃ (b : Bool),
      QSpec Try.prog (40 : Nat)
      [Value.agg
      #[Value.int IntKind.i64 r.g, Value.string r.ky,
      Value.int IntKind.i64 r.le, Value.int IntKind.i64 r.ne],
      Value.agg
      #[Value.int IntKind.i64 n, Value.string s,
      Value.int IntKind.i64 n_5, Value.int IntKind.i64 n_6]]
      m' (Value.bool b) ∧
      ifB b
      (∃ (b : Nat),
      ∃ (off : Nat),
      a = some { block := b, off := off : Addr } ∧
      ((0 : Int) ≤ (↑a_1.k : Int) ∧
      (↑a_1.k : Int) < (↑l.length : Int)) ∧
      ∃ (n : Int),
      ∃ (s : ByteArray),
      ∃ (n_7 : Int),
      ∃ (n_8 : Int),
      CellsAt m' b (off + (↑a_1.k : Int).toNat * (4 : Nat))
      [Value.int IntKind.i64 n, Value.string s,
      Value.int IntKind.i64 n_7,
      Value.int IntKind.i64 n_8] ∧
      true = true ∧
      ∀ (b : Nat),
      m'.sz ≤ b →
      ∃ (old : List Value),
      ∃ (src : List Value),
      AppPre m.sz (fun (x : Nat) => False)
      (m'.newBlock b
      [Value.int IntKind.i64 n,
      Value.string s,
      Value.int IntKind.i64 n_7,
      Value.int IntKind.i64 n_8])
      (4 : Nat) (40 : Nat) a_1.a2
      (hiR l r a_1.k).length a_1.c2
      (some
      { block := b, off := (0 : Nat) : Addr })
      (1 : Nat) old src ∧
      ∀ (a'_1 : Option Addr) (c'_1 : Nat)
      (m'_1 : M),
      AppPost Try.prog (24 : Nat)
      (m'.newBlock b
      [Value.int IntKind.i64 n,
      Value.string s,
      Value.int IntKind.i64 n_7,
      Value.int IntKind.i64 n_8])
      (4 : Nat) a_1.a2
      (hiR l r a_1.k).length a_1.c2
      (1 : Nat) old src a'_1 c'_1 m'_1 →
      ∃ (a'_2 : PuX),
      (PuI l r m a'_2 ∧
      m'_1 = a'_2.m ∧
      ((SV.val
      (Value.int
      IntKind.i64
      (IntKind.i64.wrap
      ((↑a_1.k :
      Int) +
      (1 : Int)))) =
      SV.val
      (Value.int
      IntKind.i64
      (↑a'_2.k : Int)) ∧
      true = true) ∧
      (SV.val
      (Value.slice a
      l.length cp) =
      SV.val
      (Value.slice a
      l.length cp) ∧
      true = true) ∧
      (SV.own (0 : Nat)
      (0 : Nat) =
      SV.own (0 : Nat)
      (0 : Nat) ∧
      true = true) ∧
      (SV.val
      (Value.slice
      a'
      ((loR l r
      a_1.k).length +
      (1 : Nat))
      c') =
      SV.val
      (Value.slice
      a'_2.a1
      (loR l r
      a'_2.k).length
      a'_2.c1) ∧
      true = true) ∧
      (SV.val
      (Value.slice
      a'_1
      ((hiR l r
      a_1.k).length +
      (1 :
      Nat))
      c'_1) =
      SV.val
      (Value.slice
      a'_2.a2
      (hiR l r
      a'_2.k).length
      a'_2.c2) ∧
      true = true) ∧
      True) ∧
      (some
      { ty := (24 : TypeId), cs := [Value.int IntKind.i64 r.g, Value.string r.ky, Value.int IntKind.i64 r.le, Value.int IntKind.i64 r.ne] : Bx } =
      some
      { ty := (24 : TypeId), cs := [Value.int IntKind.i64 r.g, Value.string r.ky, Value.int IntKind.i64 r.le, Value.int IntKind.i64 r.ne] : Bx } ∧
      true = true) ∧
      True) ∧
      l.length - a'_2.k <
      l.length - a_1.k)
      (∃ (a'_1 : PuX),
      (PuI l r m a'_1 ∧
      m' = a'_1.m ∧
      ((SV.val
      (Value.int IntKind.i64
      (IntKind.i64.wrap ((↑a_1.k : Int) + (1 : Int)))) =
      SV.val (Value.int IntKind.i64 (↑a'_1.k : Int)) ∧
      true = true) ∧
      (SV.val (Value.slice a l.length cp) =
      SV.val (Value.slice a l.length cp) ∧
      true = true) ∧
      (SV.own (0 : Nat) (0 : Nat) = SV.own (0 : Nat) (0 : Nat) ∧
      true = true) ∧
      (SV.val
      (Value.slice a'
      ((loR l r a_1.k).length + (1 : Nat)) c') =
      SV.val
      (Value.slice a'_1.a1 (loR l r a'_1.k).length
      a'_1.c1) ∧
      true = true) ∧
      (SV.val
      (Value.slice a_1.a2 (hiR l r a_1.k).length
      a_1.c2) =
      SV.val
      (Value.slice a'_1.a2 (hiR l r a'_1.k).length
      a'_1.c2) ∧
      true = true) ∧
      True) ∧
      (some
      { ty := (24 : TypeId), cs := [Value.int IntKind.i64 r.g, Value.string r.ky, Value.int IntKind.i64 r.le, Value.int IntKind.i64 r.ne] : Bx } =
      some
      { ty := (24 : TypeId), cs := [Value.int IntKind.i64 r.g, Value.string r.ky, Value.int IntKind.i64 r.le, Value.int IntKind.i64 r.ne] : Bx } ∧
      true = true) ∧
      True) ∧
      l.length - a'_1.k < l.length - a_1.k))
      (true = true ∧
      ∃ (b : Nat),
      ∃ (off : Nat),
      a = some { block := b, off := off : Addr } ∧
      ((0 : Int) ≤ (↑a_1.k : Int) ∧ (↑a_1.k : Int) < (↑l.length : Int)) ∧
      ∃ (n : Int),
      ∃ (s : ByteArray),
      ∃ (n_3 : Int),
      ∃ (n_4 : Int),
      CellsAt a_1.m b (off + (↑a_1.k : Int).toNat * (4 : Nat))
      [Value.int IntKind.i64 n, Value.string s, Value.int IntKind.i64 n_3, Value.int IntKind.i64 n_4] ∧
      ∃ (b : Bool),
      QSpec Try.prog (40 : Nat)
      [Value.agg
      #[Value.int IntKind.i64 r.g, Value.string r.ky, Value.int IntKind.i64 r.le,
      Value.int IntKind.i64 r.ne],
      Value.agg
      #[Value.int IntKind.i64 n, Value.string s, Value.int IntKind.i64 n_3, Value.int IntKind.i64 n_4]]
      a_1.m (Value.bool b) ∧
      ifB b
      (∃ (b : Nat),
      ∃ (off : Nat),
      a = some { block := b, off := off : Addr } ∧
      ((0 : Int) ≤ (↑a_1.k : Int) ∧ (↑a_1.k : Int) < (↑l.length : Int)) ∧
      ∃ (n : Int),
      ∃ (s : ByteArray),
      ∃ (n_5 : Int),
      ∃ (n_6 : Int),
      CellsAt a_1.m b (off + (↑a_1.k : Int).toNat * (4 : Nat))
      [Value.int IntKind.i64 n, Value.string s, Value.int IntKind.i64 n_5,
      Value.int IntKind.i64 n_6] ∧
      true = true ∧
      ∀ (b : Nat),
      a_1.m.sz ≤ b →
      ∃ (old : List Value),
      ∃ (src : List Value),
      AppPre m.sz (fun (x : Nat) => False)
      (a_1.m.newBlock b
      [Value.int IntKind.i64 n, Value.string s, Value.int IntKind.i64 n_5,
      Value.int IntKind.i64 n_6])
      (4 : Nat) (40 : Nat) a_1.a2 (hiR l r a_1.k).length a_1.c2
      (some { block := b, off := (0 : Nat) : Addr }) (1 : Nat) old src ∧
      ∀ (a' : Option Addr) (c' : Nat) (m' : M),
      AppPost Try.prog (24 : Nat)
      (a_1.m.newBlock b
      [Value.int IntKind.i64 n, Value.string s, Value.int IntKind.i64 n_5,
      Value.int IntKind.i64 n_6])
      (4 : Nat) a_1.a2 (hiR l r a_1.k).length a_1.c2 (1 : Nat) old src a' c'
      m' →
      ∃ (a'_1 : PuX),
      (PuI l r m a'_1 ∧
      m' = a'_1.m ∧
      ((SV.val
      (Value.int IntKind.i64
      (IntKind.i64.wrap ((↑a_1.k : Int) + (1 : Int)))) =
      SV.val (Value.int IntKind.i64 (↑a'_1.k : Int)) ∧
      true = true) ∧
      (SV.val (Value.slice a l.length cp) =
      SV.val (Value.slice a l.length cp) ∧
      true = true) ∧
      (SV.own (0 : Nat) (0 : Nat) = SV.own (0 : Nat) (0 : Nat) ∧
      true = true) ∧
      (SV.val
      (Value.slice a_1.a1 (loR l r a_1.k).length
      a_1.c1) =
      SV.val
      (Value.slice a'_1.a1 (loR l r a'_1.k).length
      a'_1.c1) ∧
      true = true) ∧
      (SV.val
      (Value.slice a'
      ((hiR l r a_1.k).length + (1 : Nat)) c') =
      SV.val
      (Value.slice a'_1.a2 (hiR l r a'_1.k).length
      a'_1.c2) ∧
      true = true) ∧
      True) ∧
      (some
      { ty := (24 : TypeId), cs := [Value.int IntKind.i64 r.g, Value.string r.ky, Value.int IntKind.i64 r.le, Value.int IntKind.i64 r.ne] : Bx } =
      some
      { ty := (24 : TypeId), cs := [Value.int IntKind.i64 r.g, Value.string r.ky, Value.int IntKind.i64 r.le, Value.int IntKind.i64 r.ne] : Bx } ∧
      true = true) ∧
      True) ∧
      l.length - a'_1.k < l.length - a_1.k)
      (∃ (a' : PuX),
      (PuI l r m a' ∧
      a_1.m = a'.m ∧
      ((SV.val (Value.int IntKind.i64 (IntKind.i64.wrap ((↑a_1.k : Int) + (1 : Int)))) =
      SV.val (Value.int IntKind.i64 (↑a'.k : Int)) ∧
      true = true) ∧
      (SV.val (Value.slice a l.length cp) = SV.val (Value.slice a l.length cp) ∧ true = true) ∧
      (SV.own (0 : Nat) (0 : Nat) = SV.own (0 : Nat) (0 : Nat) ∧ true = true) ∧
      (SV.val (Value.slice a_1.a1 (loR l r a_1.k).length a_1.c1) =
      SV.val (Value.slice a'.a1 (loR l r a'.k).length a'.c1) ∧
      true = true) ∧
      (SV.val (Value.slice a_1.a2 (hiR l r a_1.k).length a_1.c2) =
      SV.val (Value.slice a'.a2 (hiR l r a'.k).length a'.c2) ∧
      true = true) ∧
      True) ∧
      (some
      { ty := (24 : TypeId), cs := [Value.int IntKind.i64 r.g, Value.string r.ky, Value.int IntKind.i64 r.le, Value.int IntKind.i64 r.ne] : Bx } =
      some
      { ty := (24 : TypeId), cs := [Value.int IntKind.i64 r.g, Value.string r.ky, Value.int IntKind.i64 r.le, Value.int IntKind.i64 r.ne] : Bx } ∧
      true = true) ∧
      True) ∧
      l.length - a'.k < l.length - a_1.k)))
      (true = true ∧
      ∀ (b : Nat),
      a_1.m.sz ≤ b →
      ∃ (old : List Value),
      ∃ (src : List Value),
      AppPre m.sz (fun (x : Nat) => False)
      (a_1.m.newBlock b [Value.int IntKind.i64 r.g, Value.string r.ky, Value.int IntKind.i64 r.le, Value.int IntKind.i64 r.ne]) (4 : Nat) (40 : Nat)
      a_1.a1 (loR l r a_1.k).length a_1.c1 (some { block := b, off := (0 : Nat) : Addr }) (1 : Nat) old src ∧
      ∀ (a' : Option Addr) (c' : Nat) (m' : M),
      AppPost Try.prog (24 : Nat)
      (a_1.m.newBlock b [Value.int IntKind.i64 r.g, Value.string r.ky, Value.int IntKind.i64 r.le, Value.int IntKind.i64 r.ne]) (4 : Nat) a_1.a1
      (loR l r a_1.k).length a_1.c1 (1 : Nat) old src a' c' m' →
      ∃ (old : List Value),
      ∃ (src : List Value),
      AppPre m.sz (fun (x : Nat) => False) m' (4 : Nat) (40 : Nat) a' ((loR l r a_1.k).length + (1 : Nat)) c' a_1.a2 (hiR l r a_1.k).length old
      src ∧
      ∀ (a'_1 : Option Addr) (c'_1 : Nat) (m'_1 : M),
      AppPost Try.prog (24 : Nat) m' (4 : Nat) a' ((loR l r a_1.k).length + (1 : Nat)) c' (hiR l r a_1.k).length old src a'_1 c'_1 m'_1 →
      Done
      (LpR (putE l r)
      (Value.tuple
      #[Value.slice a'_1 ((loR l r a_1.k).length + (1 : Nat) + (hiR l r a_1.k).length) c'_1, Value.int IntKind.i64 (0 : Int)])
      m'_1))))) (by kernel_rfl) ?_
  refine ⟨rfl, _, rright_l a cp l (by omega) _ h, ?_⟩
  cases ht : ledB none l
  · exact ifB_true (lp_fail (by simp [putE, ht]))
  refine ifB_false ⟨_, rrmay_q r _, ?_⟩
  cases hr : rmayB r
  · exact ifB_true (lp_fail (by simp [putE, ht, hr]))
  have hres : putE l r = (putL l r, 0) := by simp [putE, ht, hr]
  refine ifB_false ⟨⟨⟨0, none, 0, none, 0, m⟩, ⟨Nat.zero_le _, .nil, Agree.refl _ _⟩, rfl, by simp [loR, hiR]⟩, fun y Y => ifB_intro (fun h3 => ?_) (fun h3 => ?_)⟩
  · have hk2 : y.k < l.length := by simpa using h3
    obtain ⟨b, o, rfl, hc⟩ := (h.agree Y.ag).cells (by rw [rt_len]; omega)
    have w1 : IntKind.i64.wrap ((y.k : Int) + 1) = ((y.k + 1 : Nat) : Int) := by simp [IntKind.wrap_i64]; omega
    have hle1 := fil_le (fun x => bel x r) l y.k
    have hle2 := fil_le (fun x => bel r x) l y.k
    have e1 := fil_succ (fun x => bel x r) l y.k hk2
    have e2 := fil_succ (fun x => bel r x) l y.k hk2
    have ap : ∀ x y : List Rt, rts (x ++ y) = rts x ++ rts y := fun x y => List.flatMap_append
    refine ⟨rfl, b, o, rfl, by omega, _, _, _, _, by simpa using rt_at hc hk2, _, rbel_q l[y.k] r _, ifB_intro (fun q1 => ?_) (fun q1 => ?_)⟩
    · rw [if_pos q1] at e1
      refine ⟨b, o, rfl, by omega, _, _, _, _, by simpa using rt_at hc hk2, rfl, fun b4 hb4 => ?_⟩
      obtain ⟨p1, p2⟩ := Two.push (P := Try.prog) (e := 24) (bytes := 40) (src := encRt l[y.k]) Y.two hb4 Y.ag.2.2 rfl rfl (by have := fil_le (fun x => bel x r) l y.k; unfold loR; omega) rt_zr
      refine ⟨_, _, p1, fun a' c' m' hp => ?_⟩
      obtain ⟨T2, g2⟩ := p2 a' c' m' hp
      have A2 := Y.ag.trans g2
      obtain ⟨b', o', e', hc'⟩ := (h.agree A2).cells (by rw [rt_len]; omega)
      cases e'
      have ee : loR l r (y.k + 1) = loR l r y.k ++ [l[y.k]] := e1
      have T3 : Two m.sz m' 4 a' (loR l r (y.k + 1)).length c' (rts (loR l r (y.k + 1))) 4 y.a2 (hiR l r y.k).length y.c2 (rts (hiR l r y.k)) := by
        rw [ee, ap, List.length_append]; exact T2
      refine ⟨rfl, b, o, rfl, by omega, _, _, _, _, by simpa using rt_at hc' hk2, _, rbel_q r l[y.k] _, ifB_intro (fun q2 => ?_) (fun q2 => ?_)⟩
      · rw [if_pos q2] at e2
        refine ⟨b, o, rfl, by omega, _, _, _, _, by simpa using rt_at hc' hk2, rfl, fun b5 hb5 => ?_⟩
        obtain ⟨p3, p4⟩ := Two.push (P := Try.prog) (e := 24) (bytes := 40) (src := encRt l[y.k]) T3.symm hb5 A2.2.2 rfl rfl (by have := fil_le (fun x => bel r x) l y.k; unfold hiR; omega) rt_zr
        refine ⟨_, _, p3, fun a3 c3 m3 hp3 => ?_⟩
        obtain ⟨T4, g4⟩ := p4 a3 c3 m3 hp3
        have ee2 : hiR l r (y.k + 1) = hiR l r y.k ++ [l[y.k]] := e2
        refine ⟨⟨y.k + 1, a', c', a3, c3, m3⟩, ⟨⟨hk2, ?_, A2.trans g4⟩, rfl, by simp [w1, ee, ee2]⟩, by simp only; omega⟩
        rw [ee2, ap, List.length_append]; exact T4.symm
      · rw [if_neg (by simp [q2])] at e2
        have ee2 : hiR l r (y.k + 1) = hiR l r y.k := by rw [List.append_nil] at e2; exact e2
        refine ⟨⟨y.k + 1, a', c', y.a2, y.c2, m'⟩, ⟨⟨hk2, ?_, A2⟩, rfl, by simp [w1, ee, ee2]⟩, by simp only; omega⟩
        rw [ee2]; exact T3
    · rw [if_neg (by simp [q1])] at e1
      have ee : loR l r (y.k + 1) = loR l r y.k := by rw [List.append_nil] at e1; exact e1
      refine ⟨rfl, b, o, rfl, by omega, _, _, _, _, by simpa using rt_at hc hk2, _, rbel_q r l[y.k] _, ifB_intro (fun q2 => ?_) (fun q2 => ?_)⟩
      · rw [if_pos q2] at e2
        refine ⟨b, o, rfl, by omega, _, _, _, _, by simpa using rt_at hc hk2, rfl, fun b5 hb5 => ?_⟩
        obtain ⟨p3, p4⟩ := Two.push (P := Try.prog) (e := 24) (bytes := 40) (src := encRt l[y.k]) Y.two.symm hb5 Y.ag.2.2 rfl rfl (by have := fil_le (fun x => bel r x) l y.k; unfold hiR; omega) rt_zr
        refine ⟨_, _, p3, fun a3 c3 m3 hp3 => ?_⟩
        obtain ⟨T4, g4⟩ := p4 a3 c3 m3 hp3
        have ee2 : hiR l r (y.k + 1) = hiR l r y.k ++ [l[y.k]] := e2
        refine ⟨⟨y.k + 1, y.a1, y.c1, a3, c3, m3⟩, ⟨⟨hk2, ?_, Y.ag.trans g4⟩, rfl, by simp [w1, ee, ee2]⟩, by simp only; omega⟩
        rw [ee, ee2, ap, List.length_append]; exact T4.symm
      · rw [if_neg (by simp [q2])] at e2
        have ee2 : hiR l r (y.k + 1) = hiR l r y.k := by rw [List.append_nil] at e2; exact e2
        refine ⟨⟨y.k + 1, y.a1, y.c1, y.a2, y.c2, y.m⟩, ⟨⟨hk2, ?_, Y.ag⟩, rfl, by simp [w1, ee, ee2]⟩, by simp only; omega⟩
        rw [ee, ee2]; exact Y.two
  · have hkl : y.k = l.length := by have := Y.k; simp at h3; omega
    have T := Y.two
    have e1 : loR l r y.k = l.filter fun x => bel x r := by simp [loR, hkl]
    have e2 : hiR l r y.k = l.filter fun x => bel r x := by simp [hiR, hkl]
    have f1 := List.length_filter_le (fun x => bel x r) l
    have f3 := fil_sum r l
    have f2 := List.length_filter_le (fun x => bel r x) l
    rw [e1, e2] at T ⊢
    refine ⟨rfl, fun b3 hb3 => ?_⟩
    obtain ⟨p1, p2⟩ := Two.push (P := Try.prog) (e := 24) (bytes := 40) (src := encRt r) T hb3 Y.ag.2.2 rfl rfl (by omega) rt_zr
    refine ⟨_, _, p1, fun a' c' m' hp => ?_⟩
    obtain ⟨T2, g2⟩ := p2 a' c' m' hp
    refine ⟨_, _, T2.o1.appPre T2.o2.row (rt_len _) (rt_one _) (by omega), fun a3 c3 m3 hp3 => ?_⟩
    have T3 := T2.o1.append hp3 (rt_len _) rt_zr (Y.ag.trans g2).2.2
    refine lp_ok (z := putL l r) hres (by simp [putL]; omega) ?_
    have e3 : rts (putL l r) = rts (l.filter fun x => bel x r) ++ encRt r ++ rts (l.filter fun x => bel r x) := by simp [putL]
    rw [e3]; exact T3.row

end Go.Proofs.Ytfkielfnceeedaa
set_option linter.unusedVariables false
set_option linter.unusedSimpArgs false
namespace Go.Proofs.Ytfkielfnceeedaa
open Go.Vc Go.RowKit
set_option maxRecDepth 100000

def r0 : Rt := ⟨1, ⟨#[107]⟩, 2, 3⟩

theorem lawake_q (m : M) : QSpec Try.prog 13 [] m (.bool true) := by
  refine QSpec.of_vc Try.func13 (ann := fun _ => noAnn) fun n hn => ?_
  refine vc_by (X :=
      true = true ∧
      ∃ (S' : Nat → Prop),
      (∀ (b : Nat), S' b → m.uf b ∧ (n ≤ b ∨ False)) ∧
      ∀ (n_1 : Nat),
      n ≤ n_1 →
      SpecW Try.prog (11 : Nat)
      [Value.slice none (0 : Nat) (0 : Nat),
      Value.agg #[Value.int IntKind.i64 (1 : Int), Value.string { data := #[(107 : UInt8)] : ByteArray }, Value.int IntKind.i64 (2 : Int), Value.int IntKind.i64 (3 : Int)]]
      { π := m.π, sz := n_1, uf := m.uf : M } S' fun (v : Value) (m' : M) =>
      ∃ (a : Option Addr),
      ∃ (n : Nat),
      ∃ (c : Nat),
      ∃ (n_2 : Int),
      v = Value.tuple #[Value.slice a n c, Value.int IntKind.i64 n_2] ∧
      ifB (n_2 == (0 : Int))
      (ifB ((↑n : Int) == (1 : Int))
      (∃ (n_3 : Int),
      QSpec Try.prog (16 : Nat)
      [Value.slice a n c, Value.int IntKind.i64 (1 : Int), Value.string { data := #[(107 : UInt8)] : ByteArray }, Value.int IntKind.i64 (2 : Int)] m'
      (Value.int IntKind.i64 n_3) ∧
      Done (Value.bool (n_3 == (3 : Int)) = Value.bool true))
      (Done (Value.bool false = Value.bool true)))
      (Done (Value.bool false = Value.bool true))) (by kernel_rfl) ?_
  have e : putE [] r0 = ([r0], 0) := by rfl
  refine ⟨rfl, _, noS, fun N hN => (lput_s none 0 [] r0 (by simp) _ (.nil _)).monoW fun v m1 hag hq => ?_⟩
  rw [e] at hq
  obtain ⟨a1, c1, hv, hr⟩ := hq
  refine ⟨a1, _, c1, _, hv, ifB_true (ifB_true ⟨_, lnet_q a1 c1 [r0] 1 ⟨#[107]⟩ 2 (by simp) _ hr, ⟨?_⟩⟩)⟩
  rfl

def mk71 : Rt := ⟨71, .empty, 0, 0⟩

abbrev marks : List Value := encRt mk71 ++ encRt mk71

/-- a list of its own, with marks behind its end -/
structure OwnR (l : List Rt) (v : Value) (m' : M) : Prop where
  out : ∃ b, v = .slice (some ⟨b, 0, none⟩) l.length (l.length + 2) ∧ Row m' (some ⟨b, 0, none⟩) (rts l ++ marks)

theorem own_s (a : Option Addr) (c : Nat) (l : List Rt) (hn : l.length ≤ 3518437208870) (m : M) (h : Row m a (rts l)) :
    Vc.Spec Try.prog 9 [.slice a l.length c] m (OwnR l) := by
  refine Vc.Spec.of_vc Try.func9 (ann := noAnn) ?_
  refine vc_by (X :=
      true = true ∧
      ∃ (S' : Nat → Prop),
      (∀ (b : Nat), S' b → m.uf b ∧ (m.sz ≤ b ∨ False)) ∧
      ∀ (n : Nat),
      m.sz ≤ n →
      SpecW Try.prog (38 : Nat)
      [Value.slice a l.length c,
      Value.agg #[Value.int IntKind.i64 (71 : Int), Value.string { data := #[] : ByteArray }, Value.int IntKind.i64 (0 : Int), Value.int IntKind.i64 (0 : Int)]]
      { π := m.π, sz := n, uf := m.uf : M } S' fun (v : Value) (m' : M) =>
      ∃ (a : Option Addr), ∃ (n : Nat), ∃ (c : Nat), v = Value.slice a n c ∧ Done (OwnR l (Value.slice a n c) m')) (by kernel_rfl) ?_
  exact ⟨rfl, _, noS, fun N hN => (rt_own a c l mk71 hn _ (h.sz hN)).monoW fun v m1 hag hq => by
    obtain ⟨b, e, hr⟩ := hq.row
    exact ⟨_, _, _, e, ⟨⟨b, rfl, hr⟩⟩⟩⟩

theorem kept_q (b : Nat) (l : List Rt) (a2 : Option Addr) (c2 : Nat) (hn : l.length ≤ 3518437208870) (m : M) (h : Row m (some ⟨b, 0, none⟩) (rts l ++ marks)) (h2 : Row m a2 (rts l)) :
    QSpec Try.prog 18 [.slice (some ⟨b, 0, none⟩) l.length (l.length + 2), .slice a2 l.length c2] m (.bool true) := by
  refine QSpec.of_vc Try.func18 (ann := fun _ => noAnn) fun n hn' => ?_
  refine vc_by (X :=
      true = true ∧
      ∃ (b_1 : Bool),
      QSpec Try.prog (46 : Nat)
      [Value.slice (some { block := b, off := (0 : Nat) : Addr }) l.length (l.length + (2 : Nat)), Value.slice a2 l.length c2,
      Value.agg #[Value.int IntKind.i64 (71 : Int), Value.string { data := #[] : ByteArray }, Value.int IntKind.i64 (0 : Int), Value.int IntKind.i64 (0 : Int)]]
      { π := m.π, sz := n, uf := m.uf : M } (Value.bool b_1) ∧
      Done (Value.bool b_1 = Value.bool true)) (by kernel_rfl) ?_
  exact ⟨rfl, _, rt_keptr b l a2 c2 mk71 hn _ (h.sz hn') (h2.sz hn'), ⟨rfl⟩⟩

theorem put_len (l : List Rt) (r : Rt) : (putE l r).1.length ≤ l.length + 1 := by
  have f3 := fil_sum r l
  have f1 := List.length_filter_le (fun x => bel x r) l
  have f2 := List.length_filter_le (fun x => bel r x) l
  unfold putE
  split
  · simp
  · split
    · simp
    · simp [putL]; omega

/-- in a ledger there is one right of a group and a key -/
theorem net_of {l : List Rt} (h : ledB none l = true) (g : Int) (k : ByteArray) (le : Int) : netR l g k le = match ofR l ⟨g, k, 0, 0⟩ with | none => 0 | some x => if x.le = le then x.ne else 0 := by
  have hs : ∀ x : Rt, isN g k le x = (sameK x ⟨g, k, 0, 0⟩ && decide (x.le = le)) := fun x => rfl
  have key : ∀ {l : List Rt} {p : Option Rt}, ledB p l = true → l.find? (isN g k le) = match ofR l ⟨g, k, 0, 0⟩ with | none => none | some x => if x.le = le then some x else none := by
    intro l
    induction l with
    | nil => intro p _; rfl
    | cons x xs ih =>
      intro p hp
      obtain ⟨h1, h2, h3⟩ := led_cons.1 hp
      by_cases e1 : sameK x ⟨g, k, 0, 0⟩ = true
      · have e2 : ofR (x :: xs) ⟨g, k, 0, 0⟩ = some x := by simp [ofR, e1]
        rw [e2, List.find?_cons, hs, e1]
        by_cases e3 : x.le = le
        · simp [e3]
        · simp [e3]
          intro y hy
          have := (led_mem h3 y hy).1 x rfl
          rw [hs]
          have e4 := (bel_ne this).2
          rw [← (same_left e1).2.2.2, e4]; rfl
      · have e1 : sameK x ⟨g, k, 0, 0⟩ = false := by simpa using e1
        have e2 : ofR (x :: xs) ⟨g, k, 0, 0⟩ = ofR xs ⟨g, k, 0, 0⟩ := by simp [ofR, e1]
        rw [e2, List.find?_cons, hs, e1]
        exact ih h3
  simp only [netR, h, if_true, key h]
  cases ofR l ⟨g, k, 0, 0⟩ with
  | none => rfl
  | some x => simp only; split <;> rfl

set_option maxHeartbeats 1000000 in
theorem ledgerplays (a : Option Addr) (cp : Nat) (l : List Rt) (r : Rt) (g : Int) (k : ByteArray) (le : Int) (hn : l.length ≤ 3518437208780) (m : M) (h : Row m a (rts l)) :
    QSpec Try.prog 3 [.slice a l.length cp, rtv r, I g, .string k, I le] m (.bool true) := by
  refine QSpec.of_vc Try.func3 (ann := fun _ => noAnn) fun N hN => ?_
  refine vc_by (X :=
      true = true ∧
      ∃ (S' : Nat → Prop),
      (∀ (b : Nat), S' b → m.uf b ∧ (N ≤ b ∨ False)) ∧
      ∀ (n : Nat),
      N ≤ n →
      SpecW Try.prog (9 : Nat) [Value.slice a l.length cp] { π := m.π, sz := n, uf := m.uf : M } S' fun (v : Value) (m' : M) =>
      ∃ (a_2 : Option Addr),
      ∃ (n : Nat),
      ∃ (c : Nat),
      v = Value.slice a_2 n c ∧
      ∃ (b : Bool),
      QSpec Try.prog (10 : Nat) [Value.slice a l.length cp] m' (Value.bool b) ∧
      ifB (!b)
      (∃ (S' : Nat → Prop),
      (∀ (b : Nat), S' b → m'.uf b ∧ (N ≤ b ∨ False)) ∧
      ∀ (n_1 : Nat),
      m'.sz ≤ n_1 →
      SpecW Try.prog (11 : Nat)
      [Value.slice a_2 n c, Value.agg #[Value.int IntKind.i64 r.g, Value.string r.ky, Value.int IntKind.i64 r.le, Value.int IntKind.i64 r.ne]]
      { π := m'.π, sz := n_1, uf := m'.uf : M } S' fun (v : Value) (m' : M) =>
      ∃ (a_4 : Option Addr),
      ∃ (n_2 : Nat),
      ∃ (c_1 : Nat),
      ∃ (n_3 : Int),
      v = Value.tuple #[Value.slice a_4 n_2 c_1, Value.int IntKind.i64 n_3] ∧
      ∃ (S' : Nat → Prop),
      (∀ (b : Nat), S' b → m'.uf b ∧ (N ≤ b ∨ False)) ∧
      ∀ (n_4 : Nat),
      m'.sz ≤ n_4 →
      SpecW Try.prog (12 : Nat)
      [Value.slice a l.length cp,
      Value.agg #[Value.int IntKind.i64 r.g, Value.string r.ky, Value.int IntKind.i64 r.le, Value.int IntKind.i64 r.ne]]
      { π := m'.π, sz := n_4, uf := m'.uf : M } S' fun (v : Value) (m' : M) =>
      ∃ (a_6 : Option Addr),
      ∃ (n_5 : Nat),
      ∃ (c_2 : Nat),
      ∃ (n_6 : Int),
      v = Value.tuple #[Value.slice a_6 n_5 c_2, Value.int IntKind.i64 n_6] ∧
      true = true ∧
      ∃ (b : Bool),
      QSpec Try.prog (13 : Nat) [] m' (Value.bool b) ∧
      ifB b
      (∃ (n_7 : Int),
      QSpec Try.prog (14 : Nat) [Value.slice a_2 n c] m' (Value.int IntKind.i64 n_7) ∧
      ifB (n_7 == (21 : Int))
      (∃ (b : Bool),
      QSpec Try.prog (15 : Nat) [Value.slice a_4 n_2 c_1, Value.slice a_6 n_5 c_2] m' (Value.bool b) ∧
      ifB b
      (ifB (n_3 == n_6)
      (∃ (n_8 : Int),
      QSpec Try.prog (16 : Nat)
      [Value.slice a_2 n c, Value.int IntKind.i64 g, Value.string k,
      Value.int IntKind.i64 le]
      m' (Value.int IntKind.i64 n_8) ∧
      ∃ (n_9 : Int),
      QSpec Try.prog (17 : Nat)
      [Value.slice a l.length cp, Value.int IntKind.i64 g, Value.string k,
      Value.int IntKind.i64 le]
      m' (Value.int IntKind.i64 n_9) ∧
      ifB (n_8 == n_9)
      (∃ (n_10 : Int),
      QSpec Try.prog (16 : Nat)
      [Value.slice a_2 n c, Value.int IntKind.i64 r.g, Value.string r.ky,
      Value.int IntKind.i64 r.le]
      m' (Value.int IntKind.i64 n_10) ∧
      ∃ (n_11 : Int),
      QSpec Try.prog (17 : Nat)
      [Value.slice a l.length cp, Value.int IntKind.i64 r.g,
      Value.string r.ky, Value.int IntKind.i64 r.le]
      m' (Value.int IntKind.i64 n_11) ∧
      ifB (n_10 == n_11)
      (∃ (b : Bool),
      QSpec Try.prog (18 : Nat)
      [Value.slice a_2 n c, Value.slice a l.length cp] m'
      (Value.bool b) ∧
      Done (Value.bool b = Value.bool true))
      (Done (Value.bool false = Value.bool true)))
      (Done (Value.bool false = Value.bool true)))
      (Done (Value.bool false = Value.bool true)))
      (Done (Value.bool false = Value.bool true)))
      (Done (Value.bool false = Value.bool true)))
      (Done (Value.bool false = Value.bool true)))
      (∃ (S' : Nat → Prop),
      (∀ (b : Nat), S' b → m'.uf b ∧ (N ≤ b ∨ False)) ∧
      ∀ (n_1 : Nat),
      m'.sz ≤ n_1 →
      SpecW Try.prog (11 : Nat)
      [Value.slice a_2 n c, Value.agg #[Value.int IntKind.i64 r.g, Value.string r.ky, Value.int IntKind.i64 r.le, Value.int IntKind.i64 r.ne]]
      { π := m'.π, sz := n_1, uf := m'.uf : M } S' fun (v : Value) (m' : M) =>
      ∃ (a_4 : Option Addr),
      ∃ (n_2 : Nat),
      ∃ (c_1 : Nat),
      ∃ (n_3 : Int),
      v = Value.tuple #[Value.slice a_4 n_2 c_1, Value.int IntKind.i64 n_3] ∧
      ∃ (S' : Nat → Prop),
      (∀ (b : Nat), S' b → m'.uf b ∧ (N ≤ b ∨ False)) ∧
      ∀ (n_4 : Nat),
      m'.sz ≤ n_4 →
      SpecW Try.prog (12 : Nat)
      [Value.slice a l.length cp,
      Value.agg #[Value.int IntKind.i64 r.g, Value.string r.ky, Value.int IntKind.i64 r.le, Value.int IntKind.i64 r.ne]]
      { π := m'.π, sz := n_4, uf := m'.uf : M } S' fun (v : Value) (m' : M) =>
      ∃ (a_6 : Option Addr),
      ∃ (n_5 : Nat),
      ∃ (c_2 : Nat),
      ∃ (n_6 : Int),
      v = Value.tuple #[Value.slice a_6 n_5 c_2, Value.int IntKind.i64 n_6] ∧
      true = true ∧
      ∃ (b : Bool),
      QSpec Try.prog (13 : Nat) [] m' (Value.bool b) ∧
      ifB b
      (∃ (n_7 : Int),
      QSpec Try.prog (14 : Nat) [Value.slice a_2 n c] m' (Value.int IntKind.i64 n_7) ∧
      ifB (n_7 == (0 : Int))
      (∃ (b : Bool),
      QSpec Try.prog (15 : Nat) [Value.slice a_4 n_2 c_1, Value.slice a_6 n_5 c_2] m' (Value.bool b) ∧
      ifB b
      (ifB (n_3 == n_6)
      (∃ (n_8 : Int),
      QSpec Try.prog (16 : Nat)
      [Value.slice a_2 n c, Value.int IntKind.i64 g, Value.string k,
      Value.int IntKind.i64 le]
      m' (Value.int IntKind.i64 n_8) ∧
      ∃ (n_9 : Int),
      QSpec Try.prog (17 : Nat)
      [Value.slice a l.length cp, Value.int IntKind.i64 g, Value.string k,
      Value.int IntKind.i64 le]
      m' (Value.int IntKind.i64 n_9) ∧
      ifB (n_8 == n_9)
      (∃ (n_10 : Int),
      QSpec Try.prog (16 : Nat)
      [Value.slice a_2 n c, Value.int IntKind.i64 r.g, Value.string r.ky,
      Value.int IntKind.i64 r.le]
      m' (Value.int IntKind.i64 n_10) ∧
      ∃ (n_11 : Int),
      QSpec Try.prog (17 : Nat)
      [Value.slice a l.length cp, Value.int IntKind.i64 r.g,
      Value.string r.ky, Value.int IntKind.i64 r.le]
      m' (Value.int IntKind.i64 n_11) ∧
      ifB (n_10 == n_11)
      (∃ (b : Bool),
      QSpec Try.prog (18 : Nat)
      [Value.slice a_2 n c, Value.slice a l.length cp] m'
      (Value.bool b) ∧
      Done (Value.bool b = Value.bool true))
      (Done (Value.bool false = Value.bool true)))
      (Done (Value.bool false = Value.bool true)))
      (Done (Value.bool false = Value.bool true)))
      (Done (Value.bool false = Value.bool true)))
      (Done (Value.bool false = Value.bool true)))
      (Done (Value.bool false = Value.bool true)))) (by kernel_rfl) ?_
  have R : Rs { m with sz := N } [(a, rts l)] := ⟨h.sz hN, trivial⟩
  refine ⟨rfl, ?_⟩
  refine ⟨_, noS, fun N1 hN1 => (own_s a cp l (by omega) _ ((R.sz hN1).1)).monoW fun v1 m1 ag1 q1 => ?_⟩
  obtain ⟨b1, e1, r1⟩ := q1
  refine ⟨_, _, _, e1, ?_⟩
  have R1 := Rs.cons r1 (Rs.step R hN1 ag1)
  refine ⟨_, rright_l _ _ l (by omega) _ (R1.2.1), ?_⟩
  cases ht : ledB none l
  · refine ifB_true ?_
    refine ⟨_, noS, fun N2 hN2 => (lput_s _ _ l r (by omega) _ ((R1.sz hN2).1.take)).monoW fun v2 m2 ag2 q2 => ?_⟩
    obtain ⟨x2, y2, e2, r2⟩ := q2
    refine ⟨_, _, _, _, e2, ?_⟩
    have R2 := Rs.cons r2 (Rs.step R1 hN2 ag2)
    refine ⟨_, noS, fun N3 hN3 => (rput_s _ _ l r (by omega) _ ((R2.sz hN3).2.2.1)).monoW fun v3 m3 ag3 q3 => ?_⟩
    obtain ⟨x3, y3, e3, r3⟩ := q3
    refine ⟨_, _, _, _, e3, ?_⟩
    have R3 := Rs.cons r3 (Rs.step R2 hN3 ag3)
    have hl := put_len l r
    refine ⟨rfl, _, lawake_q _, ifB_true ⟨_, lcheck_q _ _ l (by omega) _ (R3.2.2.1.take), ?_⟩⟩
    rw [ht]
    simp only [bne_self_eq_false, beq_self_eq_true, Bool.not_true, Bool.not_false, Bool.and_self, Bool.and_true, decide_true]
    refine ifB_true ⟨_, rt_plain _ _ _ _ _ _ (by omega) _ (R3.2.1) (R3.1), ?_⟩
    simp only [bne_self_eq_false, beq_self_eq_true, Bool.not_true, Bool.not_false, Bool.and_self, Bool.and_true, decide_true]
    refine ifB_true (ifB_true ⟨_, lnet_q _ _ l g k le (by omega) _ (R3.2.2.1.take), _, rnet_q _ _ l g k le (by omega) _ (R3.2.2.2.1), ?_⟩)
    simp only [bne_self_eq_false, beq_self_eq_true, Bool.not_true, Bool.not_false, Bool.and_self, Bool.and_true, decide_true]
    refine ifB_true ⟨_, lnet_q _ _ l r.g r.ky r.le (by omega) _ (R3.2.2.1.take), _, rnet_q _ _ l r.g r.ky r.le (by omega) _ (R3.2.2.2.1), ?_⟩
    simp only [bne_self_eq_false, beq_self_eq_true, Bool.not_true, Bool.not_false, Bool.and_self, Bool.and_true, decide_true]
    exact ifB_true ⟨_, kept_q b1 l a cp (by omega) _ (R3.2.2.1) (R3.2.2.2.1), ⟨rfl⟩⟩
  · refine ifB_false ?_
    refine ⟨_, noS, fun N2 hN2 => (lput_s _ _ l r (by omega) _ ((R1.sz hN2).1.take)).monoW fun v2 m2 ag2 q2 => ?_⟩
    obtain ⟨x2, y2, e2, r2⟩ := q2
    refine ⟨_, _, _, _, e2, ?_⟩
    have R2 := Rs.cons r2 (Rs.step R1 hN2 ag2)
    refine ⟨_, noS, fun N3 hN3 => (rput_s _ _ l r (by omega) _ ((R2.sz hN3).2.2.1)).monoW fun v3 m3 ag3 q3 => ?_⟩
    obtain ⟨x3, y3, e3, r3⟩ := q3
    refine ⟨_, _, _, _, e3, ?_⟩
    have R3 := Rs.cons r3 (Rs.step R2 hN3 ag3)
    have hl := put_len l r
    refine ⟨rfl, _, lawake_q _, ifB_true ⟨_, lcheck_q _ _ l (by omega) _ (R3.2.2.1.take), ?_⟩⟩
    rw [ht]
    simp only [bne_self_eq_false, beq_self_eq_true, Bool.not_true, Bool.not_false, Bool.and_self, Bool.and_true, decide_true]
    refine ifB_true ⟨_, rt_plain _ _ _ _ _ _ (by omega) _ (R3.2.1) (R3.1), ?_⟩
    simp only [bne_self_eq_false, beq_self_eq_true, Bool.not_true, Bool.not_false, Bool.and_self, Bool.and_true, decide_true]
    refine ifB_true (ifB_true ⟨_, lnet_q _ _ l g k le (by omega) _ (R3.2.2.1.take), _, rnet_q _ _ l g k le (by omega) _ (R3.2.2.2.1), ?_⟩)
    simp only [bne_self_eq_false, beq_self_eq_true, Bool.not_true, Bool.not_false, Bool.and_self, Bool.and_true, decide_true]
    refine ifB_true ⟨_, lnet_q _ _ l r.g r.ky r.le (by omega) _ (R3.2.2.1.take), _, rnet_q _ _ l r.g r.ky r.le (by omega) _ (R3.2.2.2.1), ?_⟩
    simp only [bne_self_eq_false, beq_self_eq_true, Bool.not_true, Bool.not_false, Bool.and_self, Bool.and_true, decide_true]
    exact ifB_true ⟨_, kept_q b1 l a cp (by omega) _ (R3.2.2.1) (R3.2.2.2.1), ⟨rfl⟩⟩

set_option maxHeartbeats 1000000 in
theorem ledgerputs (a : Option Addr) (cp : Nat) (l : List Rt) (r : Rt) (g : Int) (k : ByteArray) (le : Int) (hn : l.length ≤ 3518437208780) (m : M) (h : Row m a (rts l)) :
    QSpec Try.prog 4 [.slice a l.length cp, rtv r, I g, .string k, I le] m (.bool true) := by
  refine QSpec.of_vc Try.func4 (ann := fun _ => noAnn) fun N hN => ?_
  refine vc_by (X :=
      true = true ∧
      ∃ (b : Bool),
      QSpec Try.prog (13 : Nat) [] { π := m.π, sz := N, uf := m.uf : M } (Value.bool b) ∧
      ifB (!b) (Done (Value.bool false = Value.bool true))
      (true = true ∧
      (∃ (S' : Nat → Prop),
      (∀ (b : Nat), S' b → m.uf b ∧ (N ≤ b ∨ False)) ∧
      ∀ (n : Nat),
      N ≤ n →
      SpecW Try.prog (9 : Nat) [Value.slice a l.length cp] { π := m.π, sz := n, uf := m.uf : M } S' fun (v : Value) (m' : M) =>
      ∃ (a_2 : Option Addr),
      ∃ (n : Nat),
      ∃ (c : Nat),
      v = Value.slice a_2 n c ∧
      MLe { π := m.π, sz := N, uf := m.uf : M } m' ∧
      (∃ (S' : Nat → Prop),
      (∀ (b : Nat), S' b → m'.uf b ∧ (N ≤ b ∨ False)) ∧
      ∀ (n_1 : Nat),
      m'.sz ≤ n_1 →
      SpecW Try.prog (11 : Nat)
      [Value.slice a_2 n c, Value.agg #[Value.int IntKind.i64 r.g, Value.string r.ky, Value.int IntKind.i64 r.le, Value.int IntKind.i64 r.ne]]
      { π := m'.π, sz := n_1, uf := m'.uf : M } S' fun (v : Value) (m' : M) =>
      ∃ (a_4 : Option Addr),
      ∃ (n : Nat),
      ∃ (c : Nat),
      ∃ (n_2 : Int),
      v = Value.tuple #[Value.slice a_4 n c, Value.int IntKind.i64 n_2] ∧
      ifB (n_2 != (0 : Int))
      (ifB ((↑n : Int) == (0 : Int))
      (ifB (n_2 == (21 : Int))
      (∃ (n : Int),
      QSpec Try.prog (14 : Nat) [Value.slice a l.length cp] m' (Value.int IntKind.i64 n) ∧
      ifB (n == (21 : Int)) (Done (Value.bool true = Value.bool true))
      (Done (Value.bool (n_2 == (1 : Int)) = Value.bool true)))
      (Done (Value.bool (n_2 == (1 : Int)) = Value.bool true)))
      (Done (Value.bool false = Value.bool true)))
      (∃ (S' : Nat → Prop),
      (∀ (b : Nat), S' b → m'.uf b ∧ (N ≤ b ∨ False)) ∧
      ∀ (n_3 : Nat),
      m'.sz ≤ n_3 →
      SpecW Try.prog (11 : Nat)
      [Value.slice a_4 n c,
      Value.agg
      #[Value.int IntKind.i64 r.g, Value.string r.ky, Value.int IntKind.i64 r.le, Value.int IntKind.i64 r.ne]]
      { π := m'.π, sz := n_3, uf := m'.uf : M } S' fun (v : Value) (m' : M) =>
      ∃ (a_6 : Option Addr),
      ∃ (n_4 : Nat),
      ∃ (c_1 : Nat),
      ∃ (n_5 : Int),
      v = Value.tuple #[Value.slice a_6 n_4 c_1, Value.int IntKind.i64 n_5] ∧
      true = true ∧
      ifB (n_5 != (0 : Int)) (Done (Value.bool false = Value.bool true))
      (∃ (b : Bool),
      QSpec Try.prog (15 : Nat) [Value.slice a_4 n c, Value.slice a_6 n_4 c_1] m' (Value.bool b) ∧
      ifB (!b) (Done (Value.bool false = Value.bool true))
      (∃ (n_6 : Int),
      QSpec Try.prog (14 : Nat) [Value.slice a_4 n c] m' (Value.int IntKind.i64 n_6) ∧
      ifB (n_6 != (0 : Int)) (Done (Value.bool false = Value.bool true))
      (∃ (n_7 : Int),
      QSpec Try.prog (16 : Nat)
      [Value.slice a_4 n c, Value.int IntKind.i64 r.g, Value.string r.ky,
      Value.int IntKind.i64 r.le]
      m' (Value.int IntKind.i64 n_7) ∧
      ifB (n_7 != r.ne) (Done (Value.bool false = Value.bool true))
      (ifB (g == r.g)
      (ifB (k.toList == r.ky.toList)
      (ifB (le == r.le) (Done (Value.bool true = Value.bool true))
      (∃ (n_8 : Int),
      QSpec Try.prog (16 : Nat)
      [Value.slice a_4 n c, Value.int IntKind.i64 g, Value.string k,
      Value.int IntKind.i64 le]
      m' (Value.int IntKind.i64 n_8) ∧
      Done (Value.bool (n_8 == (0 : Int)) = Value.bool true)))
      (∃ (n_8 : Int),
      QSpec Try.prog (16 : Nat)
      [Value.slice a_4 n c, Value.int IntKind.i64 g, Value.string k,
      Value.int IntKind.i64 le]
      m' (Value.int IntKind.i64 n_8) ∧
      ∃ (n : Int),
      QSpec Try.prog (16 : Nat)
      [Value.slice a l.length cp, Value.int IntKind.i64 g, Value.string k,
      Value.int IntKind.i64 le]
      m' (Value.int IntKind.i64 n) ∧
      Done (Value.bool (n_8 == n) = Value.bool true)))
      (∃ (n_8 : Int),
      QSpec Try.prog (16 : Nat)
      [Value.slice a_4 n c, Value.int IntKind.i64 g, Value.string k,
      Value.int IntKind.i64 le]
      m' (Value.int IntKind.i64 n_8) ∧
      ∃ (n : Int),
      QSpec Try.prog (16 : Nat)
      [Value.slice a l.length cp, Value.int IntKind.i64 g, Value.string k,
      Value.int IntKind.i64 le]
      m' (Value.int IntKind.i64 n) ∧
      Done (Value.bool (n_8 == n) = Value.bool true)))))))) ∧
      True) ∧
      True)) (by kernel_rfl) ?_
  have R : Rs { m with sz := N } [(a, rts l)] := ⟨h.sz hN, trivial⟩
  refine ⟨rfl, _, lawake_q _, ifB_false ⟨rfl, ?_, trivial⟩⟩
  refine ⟨_, noS, fun N1 hN1 => (own_s a cp l (by omega) _ ((R.sz hN1).1)).monoW fun v1 m1 ag1 q1 => ?_⟩
  obtain ⟨b1, e1, r1⟩ := q1
  refine ⟨_, _, _, e1, MLe.ofAgree hN1 ag1, ?_, trivial⟩
  have R1 := Rs.cons r1 (Rs.step R hN1 ag1)
  refine ⟨_, noS, fun N2 hN2 => (lput_s _ _ l r (by omega) _ ((R1.sz hN2).1.take)).monoW fun v2 m2 ag2 q2 => ?_⟩
  obtain ⟨x2, y2, e2, r2⟩ := q2
  refine ⟨_, _, _, _, e2, ?_⟩
  have R2 := Rs.cons r2 (Rs.step R1 hN2 ag2)
  have hl := put_len l r
  cases ht : ledB none l
  · have hE : putE l r = ([], 21) := by simp [putE, ht]
    rw [hE]
    exact ifB_true (ifB_true (ifB_true ⟨_, lcheck_q _ _ l (by omega) _ (R2.2.2.1), by rw [ht]; exact ifB_true ⟨rfl⟩⟩))
  cases hr : rmayB r
  · have hE : putE l r = ([], 1) := by simp [putE, ht, hr]
    rw [hE]
    exact ifB_true (ifB_true (ifB_false ⟨rfl⟩))
  have hE : putE l r = (putL l r, 0) := by simp [putE, ht, hr]
  have hL : (putL l r).length ≤ l.length + 1 := by rw [hE] at hl; exact hl
  have hp := put_led ht hr
  have hE2 : putE (putL l r) r = (putL l r, 0) := by simp [putE, hp, hr, put_put ht hr]
  rw [hE] at R2 ⊢
  simp only [bne_self_eq_false, beq_self_eq_true, Bool.not_true, Bool.not_false, Bool.and_self, Bool.and_true, decide_true]
  refine ifB_false ?_
  refine ⟨_, noS, fun N3 hN3 => (lput_s _ _ (putL l r) r (by omega) _ ((R2.sz hN3).1)).monoW fun v3 m3 ag3 q3 => ?_⟩
  obtain ⟨x3, y3, e3, r3⟩ := q3
  refine ⟨_, _, _, _, e3, ?_⟩
  have R3 := Rs.cons r3 (Rs.step R2 hN3 ag3)
  rw [hE2] at R3 ⊢
  simp only [bne_self_eq_false, beq_self_eq_true, Bool.not_true, Bool.not_false, Bool.and_self, Bool.and_true, decide_true]
  have hn1 : netR (putL l r) r.g r.ky r.le = r.ne := by
    rw [net_of hp, put_of ht, if_pos (by simp [sameK])]; simp
  refine ⟨by trivial, ifB_false ⟨_, rt_plain _ _ _ _ _ _ (by omega) _ (R3.2.1) (R3.1), ?_⟩⟩
  simp only [bne_self_eq_false, beq_self_eq_true, Bool.not_true, Bool.not_false, Bool.and_self, Bool.and_true, decide_true]
  refine ifB_false ⟨_, lcheck_q _ _ (putL l r) (by omega) _ (R3.2.1), ?_⟩
  rw [hp]
  simp only [if_true, bne_self_eq_false]
  refine ifB_false ⟨_, lnet_q _ _ (putL l r) r.g r.ky r.le (by omega) _ (R3.2.1), ?_⟩
  rw [hn1]
  simp only [bne_self_eq_false, beq_self_eq_true, Bool.not_true, Bool.not_false, Bool.and_self, Bool.and_true, decide_true]
  refine ifB_false (ifB_intro (fun q1 => ifB_intro (fun q2 => ifB_intro (fun q3 => ⟨by trivial⟩) (fun q3 => ⟨_, lnet_q _ _ (putL l r) g k le (by omega) _ (R3.2.1), ⟨?_⟩⟩)) (fun q2 => ⟨_, lnet_q _ _ (putL l r) g k le (by omega) _ (R3.2.1), _, lnet_q _ _ l g k le (by omega) _ (R3.2.2.2.1), ⟨?_⟩⟩)) (fun q1 => ⟨_, lnet_q _ _ (putL l r) g k le (by omega) _ (R3.2.1), _, lnet_q _ _ l g k le (by omega) _ (R3.2.2.2.1), ⟨?_⟩⟩))
  · rw [bytes_beq] at q2
    simp at q1 q2 q3
    rw [net_of hp, put_of ht, if_pos (by simp [sameK, q1, q2])]
    simp [show ¬ r.le = le from fun e => q3 e.symm]
  · rw [bytes_beq] at q2; simp at q2
    rw [net_of hp, put_of ht, if_neg (by simp [sameK]; intro _ e; exact q2 e.symm), ← net_of ht]; simp
  · simp at q1
    rw [net_of hp, put_of ht, if_neg (by simp [sameK]; intro e; exact absurd e.symm q1), ← net_of ht]; simp

end Go.Proofs.Ytfkielfnceeedaa
set_option linter.unusedVariables false
set_option linter.unusedSimpArgs false
namespace Go.Proofs.Ytfkielfnceeedaa
open Go.Vc Go.RowKit

/-- an account and an Errno, handed back: the holders in a block of their own, or none -/
structure AcR (m : M) (y : Ac × Int) (v : Value) (m' : M) : Prop where
  out : ∃ a' c', v = .tuple #[acv y.1 a' c', I y.2] ∧ NewR m.sz (fun _ => False) m' 4 a' y.1.hs.length c' (hds y.1.hs)

def aAdd (x : Ac) (n : Int) : Ac × Int :=
  if rightB x = false then (ac0, 21) else if n = 0 then (ac0, 1) else if x.lk.cl ≠ 0 then (ac0, 152) else
  if (0 < n ∧ roomUp x < n) ∨ (n < 0 ∧ roomDn x < -n) then (ac0, 150) else ({ x with base := x.base + n }, 0)

def aFreeze (x : Ac) (r : Int) : Ac × Int :=
  if rightB x = false then (ac0, 21) else if r < 1 ∨ 4611686018427387904 < r then (ac0, 1) else ({ x with round := if x.round = 0 then r else x.round }, 0)

def aThaw (x : Ac) : Ac × Int := if rightB x = false then (ac0, 21) else ({ x with round := 0 }, 0)

def knownE (x : Ac) : Int := if rightB x = false then 21 else if totB x then 0 else 152

def aBounds (x : Ac) (lo hi : Int) : Ac × Int :=
  if knownE x ≠ 0 then (ac0, knownE x) else if hasB lo hi x.base = false then (ac0, 150) else ({ x with lo := lo, hi := hi }, 0)

def aTake (x : Ac) (k : Lk) : Ac × Int :=
  if rightB x = false then (ac0, 21) else if keeperB k = false then (ac0, 1) else if knownE x ≠ 0 then (ac0, knownE x) else
  if fitsB x k = false then (ac0, 150) else ({ x with lk := k }, 0)

def lk0 : Lk := ⟨0, 0, 0, 0⟩

def aFree (x : Ac) (b : Bool) : Ac × Int :=
  if rightB x = false then (ac0, 21) else if x.lk.cl = 0 then (ac0, 60) else ({ x with base := if b then x.base + x.lk.n else x.base, lk := lk0 }, 0)

theorem fail_d {m m' : M} {y : Ac × Int} {e : Int} (h : y = (ac0, e)) : Done (AcR m y (.tuple #[acv ac0 none 0, I e]) m') := ⟨by subst h; exact ⟨none, 0, rfl, .nil _⟩⟩

theorem ok_d {m m' : M} {y : Ac × Int} {z : Ac} {a' : Option Addr} {c' n : Nat} (h : y = (z, 0)) (hr : NewR n (fun _ => False) m' 4 a' z.hs.length c' (hds z.hs)) (hn : m.sz ≤ n) : Done (AcR m y (.tuple #[acv z a' c', I 0]) m') := ⟨by subst h; exact ⟨a', c', rfl, hr.lower hn⟩⟩

theorem room_bounds {x : Ac} (hx : x.wf) (hr : rightB x = true) (hl : x.lk.cl = 0) : 0 ≤ roomUp x ∧ roomUp x ≤ x.hi - x.base ∧ 0 ≤ roomDn x ∧ roomDn x ≤ x.base - x.lo ∧ roomUp x = x.hi - sumI (upsL x) ∧ roomDn x = sumI (dnsL x) - x.lo := by
  have hp := (right_iff x).1 hr
  have hb := hp.bounds hx
  have h1 := hp.up
  have h2 := hp.dn
  simp [roomUp, roomDn, hr, hl] at *
  omega

theorem right_len {x : Ac} (h : rightB x = true) : x.hs.length ≤ 5 := hold_len ((right_iff x).1 h).hold

theorem aadd_s (x : Ac) (a : Option Addr) (c : Nat) (n : Int) (hx : x.wf) (hn : In64 n) (h0 : a = none → x.hs = []) (m : M) (h : Row m a (hds x.hs)) : Vc.Spec Try.prog 97 [acv x a c, I n] m (AcR m (aAdd x n)) := by
  refine Vc.Spec.of_vc Try.func97 (ann := noAnn) ?_
  refine vc_by (X :=
      true = true ∧
      ∃ (b : Bool),
      QSpec Try.prog (72 : Nat)
      [Value.agg
      #[Value.string x.key, Value.int IntKind.i64 x.lo, Value.int IntKind.i64 x.hi, Value.int IntKind.i64 x.base, Value.int IntKind.i64 x.round, Value.slice a x.hs.length c,
      Value.int IntKind.i64 x.lk.cl, Value.int IntKind.i64 x.lk.sq, Value.int IntKind.i64 x.lk.hm, Value.int IntKind.i64 x.lk.n]]
      m (Value.bool b) ∧
      ifB (!b)
      (Done
      (AcR m (aAdd x n)
      (Value.tuple
      #[Value.agg
      #[Value.string { data := #[] : ByteArray }, Value.int IntKind.i64 (0 : Int), Value.int IntKind.i64 (0 : Int), Value.int IntKind.i64 (0 : Int),
      Value.int IntKind.i64 (0 : Int), Value.slice none (0 : Nat) (0 : Nat), Value.int IntKind.i64 (0 : Int), Value.int IntKind.i64 (0 : Int),
      Value.int IntKind.i64 (0 : Int), Value.int IntKind.i64 (0 : Int)],
      Value.int IntKind.i64 (21 : Int)])
      m))
      (ifB (n == (0 : Int))
      (Done
      (AcR m (aAdd x n)
      (Value.tuple
      #[Value.agg
      #[Value.string { data := #[] : ByteArray }, Value.int IntKind.i64 (0 : Int), Value.int IntKind.i64 (0 : Int), Value.int IntKind.i64 (0 : Int),
      Value.int IntKind.i64 (0 : Int), Value.slice none (0 : Nat) (0 : Nat), Value.int IntKind.i64 (0 : Int), Value.int IntKind.i64 (0 : Int),
      Value.int IntKind.i64 (0 : Int), Value.int IntKind.i64 (0 : Int)],
      Value.int IntKind.i64 (1 : Int)])
      m))
      (∃ (b : Bool),
      QSpec Try.prog (100 : Nat)
      [Value.agg
      #[Value.string x.key, Value.int IntKind.i64 x.lo, Value.int IntKind.i64 x.hi, Value.int IntKind.i64 x.base, Value.int IntKind.i64 x.round,
      Value.slice a x.hs.length c, Value.int IntKind.i64 x.lk.cl, Value.int IntKind.i64 x.lk.sq, Value.int IntKind.i64 x.lk.hm, Value.int IntKind.i64 x.lk.n]]
      m (Value.bool b) ∧
      ifB b
      (Done
      (AcR m (aAdd x n)
      (Value.tuple
      #[Value.agg
      #[Value.string { data := #[] : ByteArray }, Value.int IntKind.i64 (0 : Int), Value.int IntKind.i64 (0 : Int), Value.int IntKind.i64 (0 : Int),
      Value.int IntKind.i64 (0 : Int), Value.slice none (0 : Nat) (0 : Nat), Value.int IntKind.i64 (0 : Int), Value.int IntKind.i64 (0 : Int),
      Value.int IntKind.i64 (0 : Int), Value.int IntKind.i64 (0 : Int)],
      Value.int IntKind.i64 (152 : Int)])
      m))
      (∃ (n_1 : Int),
      ∃ (n_2 : Int),
      QSpec Try.prog (101 : Nat)
      [Value.agg
      #[Value.string x.key, Value.int IntKind.i64 x.lo, Value.int IntKind.i64 x.hi, Value.int IntKind.i64 x.base, Value.int IntKind.i64 x.round,
      Value.slice a x.hs.length c, Value.int IntKind.i64 x.lk.cl, Value.int IntKind.i64 x.lk.sq, Value.int IntKind.i64 x.lk.hm,
      Value.int IntKind.i64 x.lk.n]]
      m (Value.tuple #[Value.int IntKind.u64 n_1, Value.int IntKind.u64 n_2]) ∧
      ifB (decide (n > (0 : Int)))
      (ifB (decide (IntKind.u64.wrap n > n_2))
      (Done
      (AcR m (aAdd x n)
      (Value.tuple
      #[Value.agg
      #[Value.string { data := #[] : ByteArray }, Value.int IntKind.i64 (0 : Int), Value.int IntKind.i64 (0 : Int), Value.int IntKind.i64 (0 : Int),
      Value.int IntKind.i64 (0 : Int), Value.slice none (0 : Nat) (0 : Nat), Value.int IntKind.i64 (0 : Int), Value.int IntKind.i64 (0 : Int),
      Value.int IntKind.i64 (0 : Int), Value.int IntKind.i64 (0 : Int)],
      Value.int IntKind.i64 (150 : Int)])
      m))
      (ifB (decide (n < (0 : Int)))
      (ifB (decide (IntKind.u64.wrap ((0 : Int) - IntKind.u64.wrap n) > n_1))
      (Done
      (AcR m (aAdd x n)
      (Value.tuple
      #[Value.agg
      #[Value.string { data := #[] : ByteArray }, Value.int IntKind.i64 (0 : Int), Value.int IntKind.i64 (0 : Int),
      Value.int IntKind.i64 (0 : Int), Value.int IntKind.i64 (0 : Int), Value.slice none (0 : Nat) (0 : Nat), Value.int IntKind.i64 (0 : Int),
      Value.int IntKind.i64 (0 : Int), Value.int IntKind.i64 (0 : Int), Value.int IntKind.i64 (0 : Int)],
      Value.int IntKind.i64 (150 : Int)])
      m))
      (∀ (n_3 : Nat),
      m.sz ≤ n_3 →
      Vc.Spec Try.prog (73 : Nat)
      [Value.agg
      #[Value.string x.key, Value.int IntKind.i64 x.lo, Value.int IntKind.i64 x.hi, Value.int IntKind.i64 x.base, Value.int IntKind.i64 x.round,
      Value.slice a x.hs.length c, Value.int IntKind.i64 x.lk.cl, Value.int IntKind.i64 x.lk.sq, Value.int IntKind.i64 x.lk.hm,
      Value.int IntKind.i64 x.lk.n]]
      { π := m.π, sz := n_3, uf := m.uf : M } fun (v : Value) (m' : M) =>
      ∃ (s : ByteArray),
      ∃ (n_4 : Int),
      ∃ (n_5 : Int),
      ∃ (n_6 : Int),
      ∃ (n_7 : Int),
      ∃ (a : Option Addr),
      ∃ (n_8 : Nat),
      ∃ (c : Nat),
      ∃ (n_9 : Int),
      ∃ (n_10 : Int),
      ∃ (n_11 : Int),
      ∃ (n_12 : Int),
      v =
      Value.agg
      #[Value.string s, Value.int IntKind.i64 n_4, Value.int IntKind.i64 n_5, Value.int IntKind.i64 n_6,
      Value.int IntKind.i64 n_7, Value.slice a n_8 c, Value.int IntKind.i64 n_9, Value.int IntKind.i64 n_10,
      Value.int IntKind.i64 n_11, Value.int IntKind.i64 n_12] ∧
      Done
      (AcR m (aAdd x n)
      (Value.tuple
      #[Value.agg
      #[Value.string s, Value.int IntKind.i64 n_4, Value.int IntKind.i64 n_5,
      Value.int IntKind.i64 (IntKind.i64.wrap (n_6 + n)), Value.int IntKind.i64 n_7, Value.slice a n_8 c,
      Value.int IntKind.i64 n_9, Value.int IntKind.i64 n_10, Value.int IntKind.i64 n_11,
      Value.int IntKind.i64 n_12],
      Value.int IntKind.i64 (0 : Int)])
      m')))
      (∀ (n_3 : Nat),
      m.sz ≤ n_3 →
      Vc.Spec Try.prog (73 : Nat)
      [Value.agg
      #[Value.string x.key, Value.int IntKind.i64 x.lo, Value.int IntKind.i64 x.hi, Value.int IntKind.i64 x.base, Value.int IntKind.i64 x.round,
      Value.slice a x.hs.length c, Value.int IntKind.i64 x.lk.cl, Value.int IntKind.i64 x.lk.sq, Value.int IntKind.i64 x.lk.hm,
      Value.int IntKind.i64 x.lk.n]]
      { π := m.π, sz := n_3, uf := m.uf : M } fun (v : Value) (m' : M) =>
      ∃ (s : ByteArray),
      ∃ (n_4 : Int),
      ∃ (n_5 : Int),
      ∃ (n_6 : Int),
      ∃ (n_7 : Int),
      ∃ (a : Option Addr),
      ∃ (n_8 : Nat),
      ∃ (c : Nat),
      ∃ (n_9 : Int),
      ∃ (n_10 : Int),
      ∃ (n_11 : Int),
      ∃ (n_12 : Int),
      v =
      Value.agg
      #[Value.string s, Value.int IntKind.i64 n_4, Value.int IntKind.i64 n_5, Value.int IntKind.i64 n_6,
      Value.int IntKind.i64 n_7, Value.slice a n_8 c, Value.int IntKind.i64 n_9, Value.int IntKind.i64 n_10,
      Value.int IntKind.i64 n_11, Value.int IntKind.i64 n_12] ∧
      Done
      (AcR m (aAdd x n)
      (Value.tuple
      #[Value.agg
      #[Value.string s, Value.int IntKind.i64 n_4, Value.int IntKind.i64 n_5,
      Value.int IntKind.i64 (IntKind.i64.wrap (n_6 + n)), Value.int IntKind.i64 n_7, Value.slice a n_8 c,
      Value.int IntKind.i64 n_9, Value.int IntKind.i64 n_10, Value.int IntKind.i64 n_11,
      Value.int IntKind.i64 n_12],
      Value.int IntKind.i64 (0 : Int)])
      m'))))
      (ifB (decide (n < (0 : Int)))
      (ifB (decide (IntKind.u64.wrap ((0 : Int) - IntKind.u64.wrap n) > n_1))
      (Done
      (AcR m (aAdd x n)
      (Value.tuple
      #[Value.agg
      #[Value.string { data := #[] : ByteArray }, Value.int IntKind.i64 (0 : Int), Value.int IntKind.i64 (0 : Int), Value.int IntKind.i64 (0 : Int),
      Value.int IntKind.i64 (0 : Int), Value.slice none (0 : Nat) (0 : Nat), Value.int IntKind.i64 (0 : Int), Value.int IntKind.i64 (0 : Int),
      Value.int IntKind.i64 (0 : Int), Value.int IntKind.i64 (0 : Int)],
      Value.int IntKind.i64 (150 : Int)])
      m))
      (∀ (n_3 : Nat),
      m.sz ≤ n_3 →
      Vc.Spec Try.prog (73 : Nat)
      [Value.agg
      #[Value.string x.key, Value.int IntKind.i64 x.lo, Value.int IntKind.i64 x.hi, Value.int IntKind.i64 x.base, Value.int IntKind.i64 x.round,
      Value.slice a x.hs.length c, Value.int IntKind.i64 x.lk.cl, Value.int IntKind.i64 x.lk.sq, Value.int IntKind.i64 x.lk.hm,
      Value.int IntKind.i64 x.lk.n]]
      { π := m.π, sz := n_3, uf := m.uf : M } fun (v : Value) (m' : M) =>
      ∃ (s : ByteArray),
      ∃ (n_4 : Int),
      ∃ (n_5 : Int),
      ∃ (n_6 : Int),
      ∃ (n_7 : Int),
      ∃ (a : Option Addr),
      ∃ (n_8 : Nat),
      ∃ (c : Nat),
      ∃ (n_9 : Int),
      ∃ (n_10 : Int),
      ∃ (n_11 : Int),
      ∃ (n_12 : Int),
      v =
      Value.agg
      #[Value.string s, Value.int IntKind.i64 n_4, Value.int IntKind.i64 n_5, Value.int IntKind.i64 n_6,
      Value.int IntKind.i64 n_7, Value.slice a n_8 c, Value.int IntKind.i64 n_9, Value.int IntKind.i64 n_10,
      Value.int IntKind.i64 n_11, Value.int IntKind.i64 n_12] ∧
      Done
      (AcR m (aAdd x n)
      (Value.tuple
      #[Value.agg
      #[Value.string s, Value.int IntKind.i64 n_4, Value.int IntKind.i64 n_5,
      Value.int IntKind.i64 (IntKind.i64.wrap (n_6 + n)), Value.int IntKind.i64 n_7, Value.slice a n_8 c,
      Value.int IntKind.i64 n_9, Value.int IntKind.i64 n_10, Value.int IntKind.i64 n_11,
      Value.int IntKind.i64 n_12],
      Value.int IntKind.i64 (0 : Int)])
      m')))
      (∀ (n_3 : Nat),
      m.sz ≤ n_3 →
      Vc.Spec Try.prog (73 : Nat)
      [Value.agg
      #[Value.string x.key, Value.int IntKind.i64 x.lo, Value.int IntKind.i64 x.hi, Value.int IntKind.i64 x.base, Value.int IntKind.i64 x.round,
      Value.slice a x.hs.length c, Value.int IntKind.i64 x.lk.cl, Value.int IntKind.i64 x.lk.sq, Value.int IntKind.i64 x.lk.hm,
      Value.int IntKind.i64 x.lk.n]]
      { π := m.π, sz := n_3, uf := m.uf : M } fun (v : Value) (m' : M) =>
      ∃ (s : ByteArray),
      ∃ (n_4 : Int),
      ∃ (n_5 : Int),
      ∃ (n_6 : Int),
      ∃ (n_7 : Int),
      ∃ (a : Option Addr),
      ∃ (n_8 : Nat),
      ∃ (c : Nat),
      ∃ (n_9 : Int),
      ∃ (n_10 : Int),
      ∃ (n_11 : Int),
      ∃ (n_12 : Int),
      v =
      Value.agg
      #[Value.string s, Value.int IntKind.i64 n_4, Value.int IntKind.i64 n_5, Value.int IntKind.i64 n_6,
      Value.int IntKind.i64 n_7, Value.slice a n_8 c, Value.int IntKind.i64 n_9, Value.int IntKind.i64 n_10,
      Value.int IntKind.i64 n_11, Value.int IntKind.i64 n_12] ∧
      Done
      (AcR m (aAdd x n)
      (Value.tuple
      #[Value.agg
      #[Value.string s, Value.int IntKind.i64 n_4, Value.int IntKind.i64 n_5,
      Value.int IntKind.i64 (IntKind.i64.wrap (n_6 + n)), Value.int IntKind.i64 n_7, Value.slice a n_8 c,
      Value.int IntKind.i64 n_9, Value.int IntKind.i64 n_10, Value.int IntKind.i64 n_11,
      Value.int IntKind.i64 n_12],
      Value.int IntKind.i64 (0 : Int)])
      m'))))))) (by kernel_rfl) ?_
  refine ⟨rfl, _, right_q x a c hx _ h, ?_⟩
  cases hr : rightB x
  · exact ifB_true (fail_d (by simp [aAdd, hr]))
  refine ifB_false (ifB_intro (fun h1 => fail_d ?_) (fun h1 => ⟨_, locked_q x a c _, ifB_intro (fun h2 => fail_d ?_) (fun h2 => ⟨_, _, room_q x a c hx _ h, ?_⟩)⟩))
  · simp at h1; simp [aAdd, hr, h1]
  · simp at h1 h2; simp [aAdd, hr, h1, h2]
  have h1 : n ≠ 0 := by simpa using h1
  have h2 : x.lk.cl = 0 := by simpa using h2
  have hb := room_bounds hx hr h2
  have hlo := hx.lo
  have hhi := hx.hi
  have hw1 : 0 < n → IntKind.u64.wrap n = n := fun h => by unfold In64 at hn; simp [IntKind.wrap_u64]; omega
  have hw2 : n < 0 → IntKind.u64.wrap (0 - IntKind.u64.wrap n) = -n := fun h => by unfold In64 at hn; simp [IntKind.wrap_u64]; omega
  refine ifB_intro (fun h3 => ifB_intro (fun h4 => fail_d ?_) (fun h4 => ifB_intro (fun h5 => ?_) (fun h5 N hN => ?_))) (fun h3 => ifB_intro (fun h4 => ifB_intro (fun h5 => fail_d ?_) (fun h5 N hN => ?_)) (fun h4 N hN => ?_))
  · simp at h3; rw [hw1 h3] at h4; simp at h4; simp [aAdd, hr, h1, h2]; omega
  · simp at h3 h5; omega
  rotate_left
  · simp at h4; rw [hw2 h4] at h5; simp at h5; simp [aAdd, hr, h1, h2]; omega
  all_goals
    refine (copied_q x a c (by have := right_len hr; omega) h0 _ (h.sz hN)).mono fun v m' hag ⟨a', c', hv, hr'⟩ => ⟨_, _, _, _, _, _, _, _, _, _, _, _, hv, ?_⟩
    have hnb : ¬ ((0 < n ∧ roomUp x < n) ∨ (n < 0 ∧ roomDn x < -n)) := by
      first
      | (simp at h3; rw [hw1 h3] at h4; simp at h4; omega)
      | (simp at h3 h4; rw [hw2 h4] at h5; simp at h5; omega)
      | (simp at h3 h4; omega)
    have e : IntKind.i64.wrap (x.base + n) = x.base + n := by unfold In64 at *; simp [IntKind.wrap_i64]; omega
    rw [e]
    exact ok_d (z := { x with base := x.base + n }) (by simp [aAdd, hr, h1, h2, hnb]) hr' hN

theorem afreeze_s (x : Ac) (a : Option Addr) (c : Nat) (n : Int) (hx : x.wf) (h0 : a = none → x.hs = []) (m : M) (h : Row m a (hds x.hs)) : Vc.Spec Try.prog 34 [acv x a c, I n] m (AcR m (aFreeze x n)) := by
  refine Vc.Spec.of_vc Try.func34 (ann := noAnn) ?_
  refine vc_by (X :=
      true = true ∧
      ∃ (b : Bool),
      QSpec Try.prog (72 : Nat)
      [Value.agg
      #[Value.string x.key, Value.int IntKind.i64 x.lo, Value.int IntKind.i64 x.hi, Value.int IntKind.i64 x.base, Value.int IntKind.i64 x.round, Value.slice a x.hs.length c,
      Value.int IntKind.i64 x.lk.cl, Value.int IntKind.i64 x.lk.sq, Value.int IntKind.i64 x.lk.hm, Value.int IntKind.i64 x.lk.n]]
      m (Value.bool b) ∧
      ifB (!b)
      (Done
      (AcR m (aFreeze x n)
      (Value.tuple
      #[Value.agg
      #[Value.string { data := #[] : ByteArray }, Value.int IntKind.i64 (0 : Int), Value.int IntKind.i64 (0 : Int), Value.int IntKind.i64 (0 : Int),
      Value.int IntKind.i64 (0 : Int), Value.slice none (0 : Nat) (0 : Nat), Value.int IntKind.i64 (0 : Int), Value.int IntKind.i64 (0 : Int),
      Value.int IntKind.i64 (0 : Int), Value.int IntKind.i64 (0 : Int)],
      Value.int IntKind.i64 (21 : Int)])
      m))
      (ifB (decide (n < (1 : Int)))
      (Done
      (AcR m (aFreeze x n)
      (Value.tuple
      #[Value.agg
      #[Value.string { data := #[] : ByteArray }, Value.int IntKind.i64 (0 : Int), Value.int IntKind.i64 (0 : Int), Value.int IntKind.i64 (0 : Int),
      Value.int IntKind.i64 (0 : Int), Value.slice none (0 : Nat) (0 : Nat), Value.int IntKind.i64 (0 : Int), Value.int IntKind.i64 (0 : Int),
      Value.int IntKind.i64 (0 : Int), Value.int IntKind.i64 (0 : Int)],
      Value.int IntKind.i64 (1 : Int)])
      m))
      (ifB (decide (n > (4611686018427387904 : Int)))
      (Done
      (AcR m (aFreeze x n)
      (Value.tuple
      #[Value.agg
      #[Value.string { data := #[] : ByteArray }, Value.int IntKind.i64 (0 : Int), Value.int IntKind.i64 (0 : Int), Value.int IntKind.i64 (0 : Int),
      Value.int IntKind.i64 (0 : Int), Value.slice none (0 : Nat) (0 : Nat), Value.int IntKind.i64 (0 : Int), Value.int IntKind.i64 (0 : Int),
      Value.int IntKind.i64 (0 : Int), Value.int IntKind.i64 (0 : Int)],
      Value.int IntKind.i64 (1 : Int)])
      m))
      (∀ (n_1 : Nat),
      m.sz ≤ n_1 →
      Vc.Spec Try.prog (73 : Nat)
      [Value.agg
      #[Value.string x.key, Value.int IntKind.i64 x.lo, Value.int IntKind.i64 x.hi, Value.int IntKind.i64 x.base, Value.int IntKind.i64 x.round,
      Value.slice a x.hs.length c, Value.int IntKind.i64 x.lk.cl, Value.int IntKind.i64 x.lk.sq, Value.int IntKind.i64 x.lk.hm, Value.int IntKind.i64 x.lk.n]]
      { π := m.π, sz := n_1, uf := m.uf : M } fun (v : Value) (m' : M) =>
      ∃ (s : ByteArray),
      ∃ (n_2 : Int),
      ∃ (n_3 : Int),
      ∃ (n_4 : Int),
      ∃ (n_5 : Int),
      ∃ (a : Option Addr),
      ∃ (n_6 : Nat),
      ∃ (c : Nat),
      ∃ (n_7 : Int),
      ∃ (n_8 : Int),
      ∃ (n_9 : Int),
      ∃ (n_10 : Int),
      v =
      Value.agg
      #[Value.string s, Value.int IntKind.i64 n_2, Value.int IntKind.i64 n_3, Value.int IntKind.i64 n_4, Value.int IntKind.i64 n_5,
      Value.slice a n_6 c, Value.int IntKind.i64 n_7, Value.int IntKind.i64 n_8, Value.int IntKind.i64 n_9,
      Value.int IntKind.i64 n_10] ∧
      ifB (n_5 == (0 : Int))
      (Done
      (AcR m (aFreeze x n)
      (Value.tuple
      #[Value.agg
      #[Value.string s, Value.int IntKind.i64 n_2, Value.int IntKind.i64 n_3, Value.int IntKind.i64 n_4, Value.int IntKind.i64 n,
      Value.slice a n_6 c, Value.int IntKind.i64 n_7, Value.int IntKind.i64 n_8, Value.int IntKind.i64 n_9,
      Value.int IntKind.i64 n_10],
      Value.int IntKind.i64 (0 : Int)])
      m'))
      (Done
      (AcR m (aFreeze x n)
      (Value.tuple
      #[Value.agg
      #[Value.string s, Value.int IntKind.i64 n_2, Value.int IntKind.i64 n_3, Value.int IntKind.i64 n_4,
      Value.int IntKind.i64 n_5, Value.slice a n_6 c, Value.int IntKind.i64 n_7, Value.int IntKind.i64 n_8,
      Value.int IntKind.i64 n_9, Value.int IntKind.i64 n_10],
      Value.int IntKind.i64 (0 : Int)])
      m')))))) (by kernel_rfl) ?_
  refine ⟨rfl, _, right_q x a c hx _ h, ?_⟩
  cases hr : rightB x
  · exact ifB_true (fail_d (by simp [aFreeze, hr]))
  refine ifB_false (ifB_intro (fun h1 => fail_d ?_) (fun h1 => ifB_intro (fun h2 => fail_d ?_) (fun h2 N hN => ?_)))
  · simp at h1; simp [aFreeze, hr]; omega
  · simp at h2; simp [aFreeze, hr]; omega
  · refine (copied_q x a c (by have := right_len hr; omega) h0 _ (h.sz hN)).mono fun v m' hag ⟨a', c', hv, hr'⟩ => ⟨_, _, _, _, _, _, _, _, _, _, _, _, hv, ?_⟩
    have hnb : ¬ (n < 1 ∨ 4611686018427387904 < n) := by simp at h1 h2; omega
    refine ifB_intro (fun h3 => ok_d (z := { x with round := n }) ?_ hr' hN) (fun h3 => ok_d (z := x) ?_ hr' hN)
    · simp at h3; simp [aFreeze, hr, hnb, h3]
    · simp at h3; simp [aFreeze, hr, hnb, h3]

theorem athaw_s (x : Ac) (a : Option Addr) (c : Nat) (hx : x.wf) (h0 : a = none → x.hs = []) (m : M) (h : Row m a (hds x.hs)) : Vc.Spec Try.prog 36 [acv x a c] m (AcR m (aThaw x)) := by
  refine Vc.Spec.of_vc Try.func36 (ann := noAnn) ?_
  refine vc_by (X :=
      true = true ∧
      ∃ (b : Bool),
      QSpec Try.prog (72 : Nat)
      [Value.agg
      #[Value.string x.key, Value.int IntKind.i64 x.lo, Value.int IntKind.i64 x.hi, Value.int IntKind.i64 x.base, Value.int IntKind.i64 x.round, Value.slice a x.hs.length c,
      Value.int IntKind.i64 x.lk.cl, Value.int IntKind.i64 x.lk.sq, Value.int IntKind.i64 x.lk.hm, Value.int IntKind.i64 x.lk.n]]
      m (Value.bool b) ∧
      ifB (!b)
      (Done
      (AcR m (aThaw x)
      (Value.tuple
      #[Value.agg
      #[Value.string { data := #[] : ByteArray }, Value.int IntKind.i64 (0 : Int), Value.int IntKind.i64 (0 : Int), Value.int IntKind.i64 (0 : Int),
      Value.int IntKind.i64 (0 : Int), Value.slice none (0 : Nat) (0 : Nat), Value.int IntKind.i64 (0 : Int), Value.int IntKind.i64 (0 : Int),
      Value.int IntKind.i64 (0 : Int), Value.int IntKind.i64 (0 : Int)],
      Value.int IntKind.i64 (21 : Int)])
      m))
      (∀ (n : Nat),
      m.sz ≤ n →
      Vc.Spec Try.prog (73 : Nat)
      [Value.agg
      #[Value.string x.key, Value.int IntKind.i64 x.lo, Value.int IntKind.i64 x.hi, Value.int IntKind.i64 x.base, Value.int IntKind.i64 x.round,
      Value.slice a x.hs.length c, Value.int IntKind.i64 x.lk.cl, Value.int IntKind.i64 x.lk.sq, Value.int IntKind.i64 x.lk.hm, Value.int IntKind.i64 x.lk.n]]
      { π := m.π, sz := n, uf := m.uf : M } fun (v : Value) (m' : M) =>
      ∃ (s : ByteArray),
      ∃ (n : Int),
      ∃ (n_1 : Int),
      ∃ (n_2 : Int),
      ∃ (n_3 : Int),
      ∃ (a : Option Addr),
      ∃ (n_4 : Nat),
      ∃ (c : Nat),
      ∃ (n_5 : Int),
      ∃ (n_6 : Int),
      ∃ (n_7 : Int),
      ∃ (n_8 : Int),
      v =
      Value.agg
      #[Value.string s, Value.int IntKind.i64 n, Value.int IntKind.i64 n_1, Value.int IntKind.i64 n_2, Value.int IntKind.i64 n_3,
      Value.slice a n_4 c, Value.int IntKind.i64 n_5, Value.int IntKind.i64 n_6, Value.int IntKind.i64 n_7, Value.int IntKind.i64 n_8] ∧
      Done
      (AcR m (aThaw x)
      (Value.tuple
      #[Value.agg
      #[Value.string s, Value.int IntKind.i64 n, Value.int IntKind.i64 n_1, Value.int IntKind.i64 n_2, Value.int IntKind.i64 (0 : Int),
      Value.slice a n_4 c, Value.int IntKind.i64 n_5, Value.int IntKind.i64 n_6, Value.int IntKind.i64 n_7,
      Value.int IntKind.i64 n_8],
      Value.int IntKind.i64 (0 : Int)])
      m'))) (by kernel_rfl) ?_
  refine ⟨rfl, _, right_q x a c hx _ h, ?_⟩
  cases hr : rightB x
  · exact ifB_true (fail_d (by simp [aThaw, hr]))
  refine ifB_false (fun N hN => ?_)
  refine (copied_q x a c (by have := right_len hr; omega) h0 _ (h.sz hN)).mono fun v m' hag ⟨a', c', hv, hr'⟩ => ⟨_, _, _, _, _, _, _, _, _, _, _, _, hv, ?_⟩
  exact ok_d (z := { x with round := 0 }) (by simp [aThaw, hr]) hr' hN

theorem known_right {x : Ac} (h : knownE x = 0) : rightB x = true := by
  cases hr : rightB x
  · simp [knownE, hr] at h
  · rfl

theorem lock_in {x : Ac} (hx : x.wf) (hr : rightB x = true) (h : x.lk.cl ≠ 0) : In64 (x.base + x.lk.n) := by
  have hl := ((right_iff x).1 hr).lock
  simp [lockB, h, fitsB, hasB] at hl
  have h1 := hx.lo
  have h2 := hx.hi
  unfold In64 at *
  omega

theorem known_q (x : Ac) (a : Option Addr) (c : Nat) (hx : x.wf) (m : M) (h : Row m a (hds x.hs)) : QSpec Try.prog 108 [acv x a c] m (I (knownE x)) := by
  refine QSpec.of_vc Try.func108 (ann := fun _ => noAnn) fun n hn => ?_
  refine vc_by (X :=
      true = true ∧
      ∃ (b : Bool),
      QSpec Try.prog (72 : Nat)
      [Value.agg
      #[Value.string x.key, Value.int IntKind.i64 x.lo, Value.int IntKind.i64 x.hi, Value.int IntKind.i64 x.base, Value.int IntKind.i64 x.round, Value.slice a x.hs.length c,
      Value.int IntKind.i64 x.lk.cl, Value.int IntKind.i64 x.lk.sq, Value.int IntKind.i64 x.lk.hm, Value.int IntKind.i64 x.lk.n]]
      { π := m.π, sz := n, uf := m.uf : M } (Value.bool b) ∧
      ifB (!b) (Done (Value.int IntKind.i64 (21 : Int) = Value.int IntKind.i64 (knownE x)))
      (∃ (n_1 : Int),
      ∃ (b : Bool),
      QSpec Try.prog (113 : Nat)
      [Value.agg
      #[Value.string x.key, Value.int IntKind.i64 x.lo, Value.int IntKind.i64 x.hi, Value.int IntKind.i64 x.base, Value.int IntKind.i64 x.round,
      Value.slice a x.hs.length c, Value.int IntKind.i64 x.lk.cl, Value.int IntKind.i64 x.lk.sq, Value.int IntKind.i64 x.lk.hm, Value.int IntKind.i64 x.lk.n]]
      { π := m.π, sz := n, uf := m.uf : M } (Value.tuple #[Value.int IntKind.i64 n_1, Value.bool b]) ∧
      ifB (!b) (Done (Value.int IntKind.i64 (152 : Int) = Value.int IntKind.i64 (knownE x))) (Done (Value.int IntKind.i64 (0 : Int) = Value.int IntKind.i64 (knownE x))))) (by kernel_rfl) ?_
  refine ⟨rfl, _, right_q x a c hx _ (h.sz hn), ?_⟩
  cases hr : rightB x
  · exact ifB_true ⟨by simp [knownE, hr]⟩
  refine ifB_false ⟨_, _, total_q x a c hx _ (h.sz hn), ifB_intro (fun h1 => ⟨?_⟩) (fun h1 => ⟨?_⟩)⟩
  · simp at h1; simp [knownE, hr, h1]
  · simp at h1; simp [knownE, hr, h1]

theorem abounds_s (x : Ac) (a : Option Addr) (c : Nat) (lo hi : Int) (hx : x.wf) (h0 : a = none → x.hs = []) (m : M) (h : Row m a (hds x.hs)) : Vc.Spec Try.prog 94 [acv x a c, sp lo hi] m (AcR m (aBounds x lo hi)) := by
  refine Vc.Spec.of_vc Try.func94 (ann := noAnn) ?_
  refine vc_by (X :=
      true = true ∧
      ∃ (n : Int),
      QSpec Try.prog (108 : Nat)
      [Value.agg
      #[Value.string x.key, Value.int IntKind.i64 x.lo, Value.int IntKind.i64 x.hi, Value.int IntKind.i64 x.base, Value.int IntKind.i64 x.round, Value.slice a x.hs.length c,
      Value.int IntKind.i64 x.lk.cl, Value.int IntKind.i64 x.lk.sq, Value.int IntKind.i64 x.lk.hm, Value.int IntKind.i64 x.lk.n]]
      m (Value.int IntKind.i64 n) ∧
      ifB (n != (0 : Int))
      (Done
      (AcR m (aBounds x lo hi)
      (Value.tuple
      #[Value.agg
      #[Value.string { data := #[] : ByteArray }, Value.int IntKind.i64 (0 : Int), Value.int IntKind.i64 (0 : Int), Value.int IntKind.i64 (0 : Int),
      Value.int IntKind.i64 (0 : Int), Value.slice none (0 : Nat) (0 : Nat), Value.int IntKind.i64 (0 : Int), Value.int IntKind.i64 (0 : Int),
      Value.int IntKind.i64 (0 : Int), Value.int IntKind.i64 (0 : Int)],
      Value.int IntKind.i64 n])
      m))
      (∃ (b : Bool),
      QSpec Try.prog (86 : Nat) [Value.agg #[Value.int IntKind.i64 lo, Value.int IntKind.i64 hi], Value.int IntKind.i64 x.base] m (Value.bool b) ∧
      ifB (!b)
      (Done
      (AcR m (aBounds x lo hi)
      (Value.tuple
      #[Value.agg
      #[Value.string { data := #[] : ByteArray }, Value.int IntKind.i64 (0 : Int), Value.int IntKind.i64 (0 : Int), Value.int IntKind.i64 (0 : Int),
      Value.int IntKind.i64 (0 : Int), Value.slice none (0 : Nat) (0 : Nat), Value.int IntKind.i64 (0 : Int), Value.int IntKind.i64 (0 : Int),
      Value.int IntKind.i64 (0 : Int), Value.int IntKind.i64 (0 : Int)],
      Value.int IntKind.i64 (150 : Int)])
      m))
      (∀ (n : Nat),
      m.sz ≤ n →
      Vc.Spec Try.prog (73 : Nat)
      [Value.agg
      #[Value.string x.key, Value.int IntKind.i64 x.lo, Value.int IntKind.i64 x.hi, Value.int IntKind.i64 x.base, Value.int IntKind.i64 x.round,
      Value.slice a x.hs.length c, Value.int IntKind.i64 x.lk.cl, Value.int IntKind.i64 x.lk.sq, Value.int IntKind.i64 x.lk.hm, Value.int IntKind.i64 x.lk.n]]
      { π := m.π, sz := n, uf := m.uf : M } fun (v : Value) (m' : M) =>
      ∃ (s : ByteArray),
      ∃ (n : Int),
      ∃ (n_1 : Int),
      ∃ (n_2 : Int),
      ∃ (n_3 : Int),
      ∃ (a : Option Addr),
      ∃ (n_4 : Nat),
      ∃ (c : Nat),
      ∃ (n_5 : Int),
      ∃ (n_6 : Int),
      ∃ (n_7 : Int),
      ∃ (n_8 : Int),
      v =
      Value.agg
      #[Value.string s, Value.int IntKind.i64 n, Value.int IntKind.i64 n_1, Value.int IntKind.i64 n_2, Value.int IntKind.i64 n_3,
      Value.slice a n_4 c, Value.int IntKind.i64 n_5, Value.int IntKind.i64 n_6, Value.int IntKind.i64 n_7,
      Value.int IntKind.i64 n_8] ∧
      Done
      (AcR m (aBounds x lo hi)
      (Value.tuple
      #[Value.agg
      #[Value.string s, Value.int IntKind.i64 lo, Value.int IntKind.i64 hi, Value.int IntKind.i64 n_2, Value.int IntKind.i64 n_3,
      Value.slice a n_4 c, Value.int IntKind.i64 n_5, Value.int IntKind.i64 n_6, Value.int IntKind.i64 n_7,
      Value.int IntKind.i64 n_8],
      Value.int IntKind.i64 (0 : Int)])
      m')))) (by kernel_rfl) ?_
  refine ⟨rfl, _, known_q x a c hx _ h, ifB_intro (fun h1 => fail_d ?_) (fun h1 => ⟨_, has_q _ _ _ _, ifB_intro (fun h2 => fail_d ?_) (fun h2 N hN => ?_)⟩)⟩
  · simp at h1; simp [aBounds, h1]
  · simp at h1 h2; simp [aBounds, h1, h2]
  · have h1 : knownE x = 0 := by simpa using h1
    have h2 : hasB lo hi x.base = true := by simpa using h2
    have hr := known_right h1
    refine (copied_q x a c (by have := right_len hr; omega) h0 _ (h.sz hN)).mono fun v m' hag ⟨a', c', hv, hr'⟩ => ⟨_, _, _, _, _, _, _, _, _, _, _, _, hv, ?_⟩
    exact ok_d (z := { x with lo := lo, hi := hi }) (by simp [aBounds, h1, h2]) hr' hN

theorem atake_s (x : Ac) (a : Option Addr) (c : Nat) (k : Lk) (hx : x.wf) (hk : k.wf) (h0 : a = none → x.hs = []) (m : M) (h : Row m a (hds x.hs)) : Vc.Spec Try.prog 95 [acv x a c, .agg #[I k.cl, I k.sq, I k.hm, I k.n]] m (AcR m (aTake x k)) := by
  refine Vc.Spec.of_vc Try.func95 (ann := noAnn) ?_
  refine vc_by (X :=
      true = true ∧
      ∃ (b : Bool),
      QSpec Try.prog (72 : Nat)
      [Value.agg
      #[Value.string x.key, Value.int IntKind.i64 x.lo, Value.int IntKind.i64 x.hi, Value.int IntKind.i64 x.base, Value.int IntKind.i64 x.round, Value.slice a x.hs.length c,
      Value.int IntKind.i64 x.lk.cl, Value.int IntKind.i64 x.lk.sq, Value.int IntKind.i64 x.lk.hm, Value.int IntKind.i64 x.lk.n]]
      m (Value.bool b) ∧
      ifB (!b)
      (Done
      (AcR m (aTake x k)
      (Value.tuple
      #[Value.agg
      #[Value.string { data := #[] : ByteArray }, Value.int IntKind.i64 (0 : Int), Value.int IntKind.i64 (0 : Int), Value.int IntKind.i64 (0 : Int),
      Value.int IntKind.i64 (0 : Int), Value.slice none (0 : Nat) (0 : Nat), Value.int IntKind.i64 (0 : Int), Value.int IntKind.i64 (0 : Int),
      Value.int IntKind.i64 (0 : Int), Value.int IntKind.i64 (0 : Int)],
      Value.int IntKind.i64 (21 : Int)])
      m))
      (∃ (b : Bool),
      QSpec Try.prog (89 : Nat) [Value.agg #[Value.int IntKind.i64 k.cl, Value.int IntKind.i64 k.sq, Value.int IntKind.i64 k.hm, Value.int IntKind.i64 k.n]] m (Value.bool b) ∧
      ifB (!b)
      (Done
      (AcR m (aTake x k)
      (Value.tuple
      #[Value.agg
      #[Value.string { data := #[] : ByteArray }, Value.int IntKind.i64 (0 : Int), Value.int IntKind.i64 (0 : Int), Value.int IntKind.i64 (0 : Int),
      Value.int IntKind.i64 (0 : Int), Value.slice none (0 : Nat) (0 : Nat), Value.int IntKind.i64 (0 : Int), Value.int IntKind.i64 (0 : Int),
      Value.int IntKind.i64 (0 : Int), Value.int IntKind.i64 (0 : Int)],
      Value.int IntKind.i64 (1 : Int)])
      m))
      (∃ (n : Int),
      QSpec Try.prog (108 : Nat)
      [Value.agg
      #[Value.string x.key, Value.int IntKind.i64 x.lo, Value.int IntKind.i64 x.hi, Value.int IntKind.i64 x.base, Value.int IntKind.i64 x.round,
      Value.slice a x.hs.length c, Value.int IntKind.i64 x.lk.cl, Value.int IntKind.i64 x.lk.sq, Value.int IntKind.i64 x.lk.hm, Value.int IntKind.i64 x.lk.n]]
      m (Value.int IntKind.i64 n) ∧
      ifB (n != (0 : Int))
      (Done
      (AcR m (aTake x k)
      (Value.tuple
      #[Value.agg
      #[Value.string { data := #[] : ByteArray }, Value.int IntKind.i64 (0 : Int), Value.int IntKind.i64 (0 : Int), Value.int IntKind.i64 (0 : Int),
      Value.int IntKind.i64 (0 : Int), Value.slice none (0 : Nat) (0 : Nat), Value.int IntKind.i64 (0 : Int), Value.int IntKind.i64 (0 : Int),
      Value.int IntKind.i64 (0 : Int), Value.int IntKind.i64 (0 : Int)],
      Value.int IntKind.i64 n])
      m))
      (∃ (b : Bool),
      QSpec Try.prog (90 : Nat)
      [Value.agg
      #[Value.string x.key, Value.int IntKind.i64 x.lo, Value.int IntKind.i64 x.hi, Value.int IntKind.i64 x.base, Value.int IntKind.i64 x.round,
      Value.slice a x.hs.length c, Value.int IntKind.i64 x.lk.cl, Value.int IntKind.i64 x.lk.sq, Value.int IntKind.i64 x.lk.hm,
      Value.int IntKind.i64 x.lk.n],
      Value.agg #[Value.int IntKind.i64 k.cl, Value.int IntKind.i64 k.sq, Value.int IntKind.i64 k.hm, Value.int IntKind.i64 k.n]]
      m (Value.bool b) ∧
      ifB (!b)
      (Done
      (AcR m (aTake x k)
      (Value.tuple
      #[Value.agg
      #[Value.string { data := #[] : ByteArray }, Value.int IntKind.i64 (0 : Int), Value.int IntKind.i64 (0 : Int), Value.int IntKind.i64 (0 : Int),
      Value.int IntKind.i64 (0 : Int), Value.slice none (0 : Nat) (0 : Nat), Value.int IntKind.i64 (0 : Int), Value.int IntKind.i64 (0 : Int),
      Value.int IntKind.i64 (0 : Int), Value.int IntKind.i64 (0 : Int)],
      Value.int IntKind.i64 (150 : Int)])
      m))
      (∀ (n : Nat),
      m.sz ≤ n →
      Vc.Spec Try.prog (73 : Nat)
      [Value.agg
      #[Value.string x.key, Value.int IntKind.i64 x.lo, Value.int IntKind.i64 x.hi, Value.int IntKind.i64 x.base, Value.int IntKind.i64 x.round,
      Value.slice a x.hs.length c, Value.int IntKind.i64 x.lk.cl, Value.int IntKind.i64 x.lk.sq, Value.int IntKind.i64 x.lk.hm,
      Value.int IntKind.i64 x.lk.n]]
      { π := m.π, sz := n, uf := m.uf : M } fun (v : Value) (m' : M) =>
      ∃ (s : ByteArray),
      ∃ (n : Int),
      ∃ (n_1 : Int),
      ∃ (n_2 : Int),
      ∃ (n_3 : Int),
      ∃ (a : Option Addr),
      ∃ (n_4 : Nat),
      ∃ (c : Nat),
      ∃ (n_5 : Int),
      ∃ (n_6 : Int),
      ∃ (n_7 : Int),
      ∃ (n_8 : Int),
      v =
      Value.agg
      #[Value.string s, Value.int IntKind.i64 n, Value.int IntKind.i64 n_1, Value.int IntKind.i64 n_2,
      Value.int IntKind.i64 n_3, Value.slice a n_4 c, Value.int IntKind.i64 n_5, Value.int IntKind.i64 n_6,
      Value.int IntKind.i64 n_7, Value.int IntKind.i64 n_8] ∧
      Done
      (AcR m (aTake x k)
      (Value.tuple
      #[Value.agg
      #[Value.string s, Value.int IntKind.i64 n, Value.int IntKind.i64 n_1, Value.int IntKind.i64 n_2,
      Value.int IntKind.i64 n_3, Value.slice a n_4 c, Value.int IntKind.i64 k.cl, Value.int IntKind.i64 k.sq,
      Value.int IntKind.i64 k.hm, Value.int IntKind.i64 k.n],
      Value.int IntKind.i64 (0 : Int)])
      m')))))) (by kernel_rfl) ?_
  refine ⟨rfl, _, right_q x a c hx _ h, ?_⟩
  cases hr : rightB x
  · exact ifB_true (fail_d (by simp [aTake, hr]))
  refine ifB_false ⟨_, keeper_q k _, ifB_intro (fun h1 => fail_d ?_) (fun h1 => ⟨_, known_q x a c hx _ h, ifB_intro (fun h2 => fail_d ?_) (fun h2 => ⟨_, fits_q x a c k hx hk _, ifB_intro (fun h3 => fail_d ?_) (fun h3 N hN => ?_)⟩)⟩)⟩
  · simp at h1; simp [aTake, hr, h1]
  · simp at h1 h2; simp [aTake, hr, h1, h2]
  · simp at h1 h2 h3; simp [aTake, hr, h1, h2, h3]
  · simp at h1 h2 h3
    refine (copied_q x a c (by have := right_len hr; omega) h0 _ (h.sz hN)).mono fun v m' hag ⟨a', c', hv, hr'⟩ => ⟨_, _, _, _, _, _, _, _, _, _, _, _, hv, ?_⟩
    exact ok_d (z := { x with lk := k }) (by simp [aTake, hr, h1, h2, h3]) hr' hN

theorem afree_s (x : Ac) (a : Option Addr) (c : Nat) (b : Bool) (hx : x.wf) (h0 : a = none → x.hs = []) (m : M) (h : Row m a (hds x.hs)) : Vc.Spec Try.prog 96 [acv x a c, .bool b] m (AcR m (aFree x b)) := by
  refine Vc.Spec.of_vc Try.func96 (ann := noAnn) ?_
  refine vc_by (X :=
      true = true ∧
      ∃ (b_1 : Bool),
      QSpec Try.prog (72 : Nat)
      [Value.agg
      #[Value.string x.key, Value.int IntKind.i64 x.lo, Value.int IntKind.i64 x.hi, Value.int IntKind.i64 x.base, Value.int IntKind.i64 x.round, Value.slice a x.hs.length c,
      Value.int IntKind.i64 x.lk.cl, Value.int IntKind.i64 x.lk.sq, Value.int IntKind.i64 x.lk.hm, Value.int IntKind.i64 x.lk.n]]
      m (Value.bool b_1) ∧
      ifB (!b_1)
      (Done
      (AcR m (aFree x b)
      (Value.tuple
      #[Value.agg
      #[Value.string { data := #[] : ByteArray }, Value.int IntKind.i64 (0 : Int), Value.int IntKind.i64 (0 : Int), Value.int IntKind.i64 (0 : Int),
      Value.int IntKind.i64 (0 : Int), Value.slice none (0 : Nat) (0 : Nat), Value.int IntKind.i64 (0 : Int), Value.int IntKind.i64 (0 : Int),
      Value.int IntKind.i64 (0 : Int), Value.int IntKind.i64 (0 : Int)],
      Value.int IntKind.i64 (21 : Int)])
      m))
      (∃ (b_2 : Bool),
      QSpec Try.prog (100 : Nat)
      [Value.agg
      #[Value.string x.key, Value.int IntKind.i64 x.lo, Value.int IntKind.i64 x.hi, Value.int IntKind.i64 x.base, Value.int IntKind.i64 x.round,
      Value.slice a x.hs.length c, Value.int IntKind.i64 x.lk.cl, Value.int IntKind.i64 x.lk.sq, Value.int IntKind.i64 x.lk.hm, Value.int IntKind.i64 x.lk.n]]
      m (Value.bool b_2) ∧
      ifB (!b_2)
      (Done
      (AcR m (aFree x b)
      (Value.tuple
      #[Value.agg
      #[Value.string { data := #[] : ByteArray }, Value.int IntKind.i64 (0 : Int), Value.int IntKind.i64 (0 : Int), Value.int IntKind.i64 (0 : Int),
      Value.int IntKind.i64 (0 : Int), Value.slice none (0 : Nat) (0 : Nat), Value.int IntKind.i64 (0 : Int), Value.int IntKind.i64 (0 : Int),
      Value.int IntKind.i64 (0 : Int), Value.int IntKind.i64 (0 : Int)],
      Value.int IntKind.i64 (60 : Int)])
      m))
      (∀ (n : Nat),
      m.sz ≤ n →
      Vc.Spec Try.prog (73 : Nat)
      [Value.agg
      #[Value.string x.key, Value.int IntKind.i64 x.lo, Value.int IntKind.i64 x.hi, Value.int IntKind.i64 x.base, Value.int IntKind.i64 x.round,
      Value.slice a x.hs.length c, Value.int IntKind.i64 x.lk.cl, Value.int IntKind.i64 x.lk.sq, Value.int IntKind.i64 x.lk.hm, Value.int IntKind.i64 x.lk.n]]
      { π := m.π, sz := n, uf := m.uf : M } fun (v : Value) (m' : M) =>
      ∃ (s : ByteArray),
      ∃ (n : Int),
      ∃ (n_1 : Int),
      ∃ (n_2 : Int),
      ∃ (n_3 : Int),
      ∃ (a : Option Addr),
      ∃ (n_4 : Nat),
      ∃ (c : Nat),
      ∃ (n_5 : Int),
      ∃ (n_6 : Int),
      ∃ (n_7 : Int),
      ∃ (n_8 : Int),
      v =
      Value.agg
      #[Value.string s, Value.int IntKind.i64 n, Value.int IntKind.i64 n_1, Value.int IntKind.i64 n_2, Value.int IntKind.i64 n_3,
      Value.slice a n_4 c, Value.int IntKind.i64 n_5, Value.int IntKind.i64 n_6, Value.int IntKind.i64 n_7,
      Value.int IntKind.i64 n_8] ∧
      ifB b
      (Done
      (AcR m (aFree x b)
      (Value.tuple
      #[Value.agg
      #[Value.string s, Value.int IntKind.i64 n, Value.int IntKind.i64 n_1,
      Value.int IntKind.i64 (IntKind.i64.wrap (n_2 + n_8)), Value.int IntKind.i64 n_3, Value.slice a n_4 c,
      Value.int IntKind.i64 (0 : Int), Value.int IntKind.i64 (0 : Int), Value.int IntKind.i64 (0 : Int),
      Value.int IntKind.i64 (0 : Int)],
      Value.int IntKind.i64 (0 : Int)])
      m'))
      (Done
      (AcR m (aFree x b)
      (Value.tuple
      #[Value.agg
      #[Value.string s, Value.int IntKind.i64 n, Value.int IntKind.i64 n_1, Value.int IntKind.i64 n_2,
      Value.int IntKind.i64 n_3, Value.slice a n_4 c, Value.int IntKind.i64 (0 : Int), Value.int IntKind.i64 (0 : Int),
      Value.int IntKind.i64 (0 : Int), Value.int IntKind.i64 (0 : Int)],
      Value.int IntKind.i64 (0 : Int)])
      m'))))) (by kernel_rfl) ?_
  refine ⟨rfl, _, right_q x a c hx _ h, ?_⟩
  cases hr : rightB x
  · exact ifB_true (fail_d (by simp [aFree, hr]))
  refine ifB_false ⟨_, locked_q x a c _, ifB_intro (fun h1 => fail_d ?_) (fun h1 N hN => ?_)⟩
  · simp at h1; simp [aFree, hr, h1]
  · have h1 : x.lk.cl ≠ 0 := by simpa using h1
    refine (copied_q x a c (by have := right_len hr; omega) h0 _ (h.sz hN)).mono fun v m' hag ⟨a', c', hv, hr'⟩ => ⟨_, _, _, _, _, _, _, _, _, _, _, _, hv, ?_⟩
    refine ifB_intro (fun h2 => ?_) (fun h2 => ok_d (z := { x with lk := lk0 }) ?_ hr' hN)
    · subst h2
      have e : IntKind.i64.wrap (x.base + x.lk.n) = x.base + x.lk.n := by have := lock_in hx hr h1; unfold In64 at this; simp [IntKind.wrap_i64]; omega
      rw [e]
      exact ok_d (z := { x with base := x.base + x.lk.n, lk := lk0 }) (by simp [aFree, hr, h1]) hr' hN
    · subst h2; simp [aFree, hr, h1]

theorem ccopy_q (x : Ac) (a : Option Addr) (c : Nat) (hn : x.hs.length ≤ 4398046511000) (m : M) (h : Row m a (hds x.hs)) : Vc.Spec Try.prog 23 [acv x a c] m (fun v m' => ∃ a' c', v = acv x a' c' ∧ NewR m.sz (fun _ => False) m' 4 a' x.hs.length c' (hds x.hs)) := by
  refine Vc.Spec.of_vc Try.func23 (ann := noAnn) ?_
  refine vc_by (X :=
      true = true ∧
      ∃ (old : List Value),
      ∃ (src : List Value),
      AppPre m.sz (fun (x : Nat) => False) m (4 : Nat) (32 : Nat) none (0 : Nat) (0 : Nat) a x.hs.length old src ∧
      ∀ (a' : Option Addr) (c' : Nat) (m' : M),
      AppPost Try.prog (67 : Nat) m (4 : Nat) none (0 : Nat) (0 : Nat) x.hs.length old src a' c' m' →
      Done
      (∃ (a'_1 : Option Addr),
      ∃ (c'_1 : Nat),
      Value.agg
      #[Value.string x.key, Value.int IntKind.i64 x.lo, Value.int IntKind.i64 x.hi, Value.int IntKind.i64 x.base, Value.int IntKind.i64 x.round,
      Value.slice a' ((0 : Nat) + x.hs.length) c', Value.int IntKind.i64 x.lk.cl, Value.int IntKind.i64 x.lk.sq, Value.int IntKind.i64 x.lk.hm,
      Value.int IntKind.i64 x.lk.n] =
      Value.agg
      #[Value.string x.key, Value.int IntKind.i64 x.lo, Value.int IntKind.i64 x.hi, Value.int IntKind.i64 x.base, Value.int IntKind.i64 x.round,
      Value.slice a'_1 x.hs.length c'_1, Value.int IntKind.i64 x.lk.cl, Value.int IntKind.i64 x.lk.sq, Value.int IntKind.i64 x.lk.hm,
      Value.int IntKind.i64 x.lk.n] ∧
      NewR m.sz (fun (x : Nat) => False) m' (4 : Nat) a'_1 x.hs.length c'_1 (hds x.hs))) (by kernel_rfl) ?_
  have ho : NewR m.sz (fun _ => False) m 4 none 0 0 [] := .nil _
  refine ⟨rfl, _, _, ho.appPre h (hds_len _) (one_hds _) (by omega), fun a' c' m' hp => ⟨a', c', by simp, ?_⟩⟩
  have := ho.append hp (hds_len _) zr_hd (Nat.le_refl _)
  simpa using this

end Go.Proofs.Ytfkielfnceeedaa
set_option linter.unusedVariables false
set_option linter.unusedSimpArgs false
namespace Go.Proofs.Ytfkielfnceeedaa
open Go.Vc Go.RowKit

theorem sum_shift (l : List Int) (b n : Int) : sumI ((b + n) :: l) = sumI (b :: l) + n := by
  rw [sumI_cons, sumI_cons]; omega

/-- the total changed by n -/
def Ac.by (x : Ac) (n : Int) : Ac := { x with base := x.base + n }

theorem aAdd_ok {x : Ac} {n : Int} (h : (aAdd x n).2 = 0) : rightB x = true ∧ n ≠ 0 ∧ x.lk.cl = 0 ∧ ¬ ((0 < n ∧ roomUp x < n) ∨ (n < 0 ∧ roomDn x < -n)) ∧ aAdd x n = (x.by n, 0) := by
  unfold aAdd at h ⊢
  split at h
  · simp at h
  split at h
  · simp at h
  split at h
  · simp at h
  split at h
  · simp at h
  rename_i h1 h2 h3 h4
  simp at h1 h3
  exact ⟨h1, h2, h3, h4, by simp only [h1, h2, h3, h4, if_false, Ac.by]; simp⟩

theorem aAdd_err {x : Ac} {n : Int} (h : (aAdd x n).2 ≠ 0) : aAdd x n = (ac0, (aAdd x n).2) := by
  unfold aAdd at h ⊢
  repeat' split
  all_goals simp_all

theorem by_right {x : Ac} {n : Int} (hx : x.wf) (hr : rightB x = true) (hl : x.lk.cl = 0) (h : ¬ ((0 < n ∧ roomUp x < n) ∨ (n < 0 ∧ roomDn x < -n))) : rightB (x.by n) = true ∧ (x.by n).wf ∧ roomUp (x.by n) = roomUp x - n ∧ roomDn (x.by n) = roomDn x + n := by
  have hb := room_bounds hx hr hl
  have hp := (right_iff x).1 hr
  have hbd := hp.bounds hx
  have hlo := hx.lo
  have hhi := hx.hi
  have e1 : sumI (upsL (x.by n)) = sumI (upsL x) + n := sum_shift _ _ _
  have e2 : sumI (dnsL (x.by n)) = sumI (dnsL x) + n := sum_shift _ _ _
  have hR : RightP (x.by n) := by
    refine ⟨hp.key, ?_, hp.round, hp.hold, ?_, ?_, ?_⟩
    · show x.lo ≤ x.base + n ∧ x.base + n ≤ x.hi; omega
    · rw [e1]; show _ ≤ x.hi; omega
    · rw [e2]; show x.lo ≤ _; omega
    · have := hp.lock
      simp only [lockB, hl, if_true, Ac.by] at this ⊢
      exact this
  have hR' := (right_iff _).2 hR
  have hl' : (x.by n).lk.cl = 0 := hl
  have hw : (x.by n).wf := ⟨hx.key, hx.lo, hx.hi, by show In64 (x.base + n); unfold In64 at *; omega, hx.round, hx.hs, hx.len, hx.lk⟩
  have hb' := room_bounds hw hR' hl'
  rw [e1, e2] at hb'
  exact ⟨hR', hw, by have h1 : (x.by n).hi = x.hi := rfl; omega, by have h1 : (x.by n).lo = x.lo := rfl; omega⟩

theorem by_back (x : Ac) (n : Int) : (x.by n).by (-n) = x := by
  obtain ⟨_, _, _, b, _, _, _⟩ := x
  simp only [Ac.by, Ac.mk.injEq, true_and, and_true]; omega

theorem newr_none {B c n : Nat} {S : Nat → Prop} {m : M} {l : List Hd} (h : NewR B S m 4 none n c (hds l)) : l = [] := by
  have : hds l = [] := by
    generalize hds l = cs at h
    generalize ha : (none : Option Addr) = a at h
    cases h with
    | nil => rfl
    | own h => cases h with
      | nil => rfl
      | «at» => cases ha
  have := congrArg List.length this
  rw [hds_len] at this
  exact List.eq_nil_of_length_eq_zero (by simp at this; omega)

theorem wrap_in (n : Int) : In64 (IntKind.i64.wrap n) := by
  unfold In64; simp [IntKind.wrap_i64]; omega

end Go.Proofs.Ytfkielfnceeedaa
set_option linter.unusedVariables false
set_option linter.unusedSimpArgs false
namespace Go.Proofs.Ytfkielfnceeedaa
open Go.Vc Go.RowKit
set_option maxRecDepth 100000

def idxF (p : Hd → Bool) (l : List Hd) : Int := match l.findIdx? p with | some i => i | none => -1

theorem idxF_found {p : Hd → Bool} {l : List Hd} {k : Nat} (hk : k < l.length) (h1 : ∀ h ∈ l.take k, p h = false) (h2 : p l[k] = true) : idxF p l = k := by
  have : l.findIdx? p = some k := by
    rw [List.findIdx?_eq_some_iff_getElem]
    refine ⟨hk, h2, fun j hj => ?_⟩
    have := h1 l[j] (by rw [List.mem_take_iff_getElem]; exact ⟨j, by omega, rfl⟩)
    simp [this]
  simp [idxF, this]

theorem idxF_none {p : Hd → Bool} {l : List Hd} (h1 : ∀ h ∈ l, p h = false) : idxF p l = -1 := by
  have : l.findIdx? p = none := by rw [List.findIdx?_eq_none_iff]; exact h1
  simp [idxF, this]

theorem idxF_cases (p : Hd → Bool) (l : List Hd) : (idxF p l = -1 ∧ ∀ h ∈ l, p h = false) ∨ ∃ k, ∃ hk : k < l.length, idxF p l = k ∧ p l[k] = true ∧ ∀ h ∈ l.take k, p h = false := by
  cases hf : l.findIdx? p with
  | none => left; refine ⟨by simp [idxF, hf], ?_⟩; rw [List.findIdx?_eq_none_iff] at hf; exact hf
  | some k =>
    right
    rw [List.findIdx?_eq_some_iff_getElem] at hf
    obtain ⟨hk, h2, h3⟩ := hf
    refine ⟨k, hk, by simp [idxF, List.findIdx?_eq_some_iff_getElem.2 ⟨hk, h2, h3⟩], h2, fun h hm => ?_⟩
    rw [List.mem_take_iff_getElem] at hm
    obtain ⟨j, hj, rfl⟩ := hm
    have := h3 j (by omega)
    simpa using this

theorem del_q (h : Hd) (b o : Nat) (nd : Int) (m : M) (hc : CellsAt m b o [I nd]) : QSpec Try.prog 75 [hdv h, .pointer (some ⟨b, o, none⟩)] m (.bool (decide (h.nd = nd))) := by
  refine QSpec.of_vc Try.func75 (ann := fun _ => noAnn) fun n hn => ?_
  refine vc_by (X :=
      true = true ∧ ∃ (n_1 : Int), CellsAt { π := m.π, sz := n, uf := m.uf : M } b o [Value.int IntKind.i64 n_1] ∧ Done (Value.bool (h.nd == n_1) = Value.bool (decide (h.nd = nd)))) (by kernel_rfl) ?_
  exact ⟨rfl, nd, ⟨hc.out⟩, ⟨rfl⟩⟩

abbrev delF (b o : Nat) : Value := .func (.func 75) #[] #[.pointer (some ⟨b, o, none⟩)]

theorem idx_q (a : Option Addr) (c : Nat) (l : List Hd) (b o : Nat) (nd : Int) (hn : l.length ≤ 9223372036854775807) (m : M) (h : Row m a (hds l)) (hc : CellsAt m b o [I nd]) :
    QSpec Try.prog 92 [.slice a l.length c, delF b o] m (I (idxF (fun h => decide (h.nd = nd)) l)) := by
  refine QSpec.of_vc Try.func92 (ann := fun n _ => { A := Nat, inv := fun k => k ≤ l.length ∧ ∀ h ∈ l.take k, h.nd ≠ nd, st := fun k => [(8, .val (I k)), (7, .val (I l.length)), (0, .val (.slice a l.length c)), (1, .val (delF b o))], own := fun _ => [], m := fun _ => { m with sz := n }, μ := fun k => l.length - k }) fun n hn => ?_
  refine vc_by (X :=
      true = true ∧
      (∃ (a_1 : Nat),
      (a_1 ≤ l.length ∧ ∀ (h : Hd), h ∈ List.take a_1 l → h.nd ≠ nd) ∧
      { π := m.π, sz := n, uf := m.uf : M } = { π := m.π, sz := n, uf := m.uf : M } ∧
      ((SV.val (Value.int IntKind.i64 (0 : Int)) = SV.val (Value.int IntKind.i64 (↑a_1 : Int)) ∧ true = true) ∧
      (SV.val (Value.int IntKind.i64 (↑l.length : Int)) = SV.val (Value.int IntKind.i64 (↑l.length : Int)) ∧ true = true) ∧
      (SV.val (Value.slice a l.length c) = SV.val (Value.slice a l.length c) ∧ true = true) ∧
      (SV.val (Value.func (Fn.func (75 : FuncId)) #[] #[Value.pointer (some { block := b, off := o : Addr })]) =
      SV.val (Value.func (Fn.func (75 : FuncId)) #[] #[Value.pointer (some { block := b, off := o : Addr })]) ∧
      true = true) ∧
      True) ∧
      True) ∧
      ∀ (a_1 : Nat),
      (a_1 ≤ l.length ∧ ∀ (h : Hd), h ∈ List.take a_1 l → h.nd ≠ nd) →
      ifB (decide ((↑a_1 : Int) < (↑l.length : Int)))
      (∃ (b_1 : Nat),
      ∃ (off : Nat),
      a = some { block := b_1, off := off : Addr } ∧
      ((0 : Int) ≤ (↑a_1 : Int) ∧ (↑a_1 : Int) < (↑l.length : Int)) ∧
      ∃ (n_1 : Int),
      ∃ (n_2 : Int),
      ∃ (n_3 : Int),
      ∃ (n_4 : Int),
      CellsAt { π := m.π, sz := n, uf := m.uf : M } b_1 (off + (↑a_1 : Int).toNat * (4 : Nat))
      [Value.int IntKind.i64 n_1, Value.int IntKind.i64 n_2, Value.int IntKind.i64 n_3, Value.int IntKind.i64 n_4] ∧
      ∃ (b_2 : Bool),
      QSpec Try.prog (75 : FuncId)
      [Value.agg #[Value.int IntKind.i64 n_1, Value.int IntKind.i64 n_2, Value.int IntKind.i64 n_3, Value.int IntKind.i64 n_4],
      Value.pointer (some { block := b, off := o : Addr })]
      { π := m.π, sz := n, uf := m.uf : M } (Value.bool b_2) ∧
      ifB b_2 (Done (Value.int IntKind.i64 (↑a_1 : Int) = Value.int IntKind.i64 (idxF (fun (h : Hd) => decide (h.nd = nd)) l)))
      (∃ (a' : Nat),
      ((a' ≤ l.length ∧ ∀ (h : Hd), h ∈ List.take a' l → h.nd ≠ nd) ∧
      { π := m.π, sz := n, uf := m.uf : M } = { π := m.π, sz := n, uf := m.uf : M } ∧
      ((SV.val (Value.int IntKind.i64 (IntKind.i64.wrap ((↑a_1 : Int) + (1 : Int)))) = SV.val (Value.int IntKind.i64 (↑a' : Int)) ∧
      true = true) ∧
      (SV.val (Value.int IntKind.i64 (↑l.length : Int)) = SV.val (Value.int IntKind.i64 (↑l.length : Int)) ∧ true = true) ∧
      (SV.val (Value.slice a l.length c) = SV.val (Value.slice a l.length c) ∧ true = true) ∧
      (SV.val (Value.func (Fn.func (75 : FuncId)) #[] #[Value.pointer (some { block := b, off := o : Addr })]) =
      SV.val (Value.func (Fn.func (75 : FuncId)) #[] #[Value.pointer (some { block := b, off := o : Addr })]) ∧
      true = true) ∧
      True) ∧
      True) ∧
      l.length - a' < l.length - a_1))
      (Done (Value.int IntKind.i64 (-1 : Int) = Value.int IntKind.i64 (idxF (fun (h : Hd) => decide (h.nd = nd)) l)))) (by kernel_rfl) ?_
  have h' := h.sz hn
  refine ⟨rfl, ⟨0, by simp⟩, fun k ⟨hk, hq⟩ => ifB_intro (fun hb => ?_) (fun hb => ⟨?_⟩)⟩
  · have hk2 : k < l.length := by simpa using hb
    obtain ⟨b1, o1, rfl, hcell⟩ := h'.cells (by rw [hds_len]; omega)
    have w1 : IntKind.i64.wrap ((k : Int) + 1) = ((k + 1 : Nat) : Int) := by simp [IntKind.wrap_i64]; omega
    refine ⟨b1, o1, rfl, by omega, _, _, _, _, by simpa using hd_at hcell hk2, _, del_q _ b o nd _ ⟨hc.out⟩, ifB_intro (fun h1 => ⟨?_⟩) (fun h1 => ⟨k + 1, ⟨⟨hk2, ?_⟩, by simp [w1]⟩, by omega⟩)⟩
    · rw [idxF_found hk2 (fun h hm => by simpa using hq h hm) (by simpa using h1)]
    · intro h hm
      rw [List.take_succ_eq_append_getElem hk2, List.mem_append] at hm
      rcases hm with hm | hm
      · exact hq h hm
      · have hm : h = l[k] := by simpa using hm
        subst hm
        simpa using h1
  · have : k = l.length := by simp at hb; omega
    subst this
    rw [idxF_none fun h hm => by simpa using hq h (by simpa using hm)]

structure DelX where
  i : Nat
  j : Nat
  cur : List Hd
  m : M

structure DelI (l : List Hd) (p : Hd → Bool) (a : Option Addr) (c : Nat) (S : Nat → Prop) (bn on : Nat) (nd : Int) (m : M) (y : DelX) : Prop where
  ij : y.i < y.j
  jl : y.j ≤ l.length
  len : y.cur.length = l.length
  done : y.cur.take y.i = (l.take y.j).filter p
  left : y.cur.drop y.j = l.drop y.j
  own : OwnB m.sz S y.m 4 a l.length c (hds y.cur)
  cap : CellsAt y.m bn on [I nd]
  sz : m.sz ≤ y.m.sz

theorem delfunc_s (a : Option Addr) (c : Nat) (l : List Hd) (bn on : Nat) (nd : Int) (S : Nat → Prop) (hn : l.length ≤ 4398046511000) (m : M) (hS : ∀ b o, a = some ⟨b, o, none⟩ → S b ∧ b ≠ bn) (h : OwnB m.sz S m 4 a l.length c (hds l)) (hc : CellsAt m bn on [I nd]) :
    SpecW Try.prog 74 [.slice a l.length c, delF bn on] m S fun v m' => v = .slice a (l.filter fun h => decide (h.nd ≠ nd)).length c ∧ OwnB m.sz S m' 4 a (l.filter fun h => decide (h.nd ≠ nd)).length c (hds (l.filter fun h => decide (h.nd ≠ nd))) := by
  refine SpecW.of_vc Try.func74 (ann := fun _ => { A := DelX, inv := DelI l (fun h => decide (h.nd ≠ nd)) a c S bn on nd m, st := fun y => [(5, .val (I y.i)), (6, .val (I y.j)), (0, .val (.slice a l.length c)), (1, .val (delF bn on))], own := fun _ => [], m := fun y => y.m, μ := fun y => l.length - y.j }) ?_
  refine vc_by (X :=
      true = true ∧
      ∃ (n : Int),
      QSpec Try.prog (92 : Nat) [Value.slice a l.length c, Value.func (Fn.func (75 : FuncId)) #[] #[Value.pointer (some { block := bn, off := on : Addr })]] m
      (Value.int IntKind.i64 n) ∧
      ifB (n == (-1 : Int))
      (Done
      (Value.slice a l.length c = Value.slice a (List.filter (fun (h : Hd) => decide (h.nd ≠ nd)) l).length c ∧
      OwnB m.sz S m (4 : Nat) a (List.filter (fun (h : Hd) => decide (h.nd ≠ nd)) l).length c (hds (List.filter (fun (h : Hd) => decide (h.nd ≠ nd)) l))))
      ((∃ (a_1 : DelX),
      DelI l (fun (h : Hd) => decide (h.nd ≠ nd)) a c S bn on nd m a_1 ∧
      m = a_1.m ∧
      ((SV.val (Value.int IntKind.i64 n) = SV.val (Value.int IntKind.i64 (↑a_1.i : Int)) ∧ true = true) ∧
      (SV.val (Value.int IntKind.i64 (IntKind.i64.wrap (n + (1 : Int)))) = SV.val (Value.int IntKind.i64 (↑a_1.j : Int)) ∧ true = true) ∧
      (SV.val (Value.slice a l.length c) = SV.val (Value.slice a l.length c) ∧ true = true) ∧
      (SV.val (Value.func (Fn.func (75 : FuncId)) #[] #[Value.pointer (some { block := bn, off := on : Addr })]) =
      SV.val (Value.func (Fn.func (75 : FuncId)) #[] #[Value.pointer (some { block := bn, off := on : Addr })]) ∧
      true = true) ∧
      True) ∧
      True) ∧
      ∀ (a_1 : DelX),
      DelI l (fun (h : Hd) => decide (h.nd ≠ nd)) a c S bn on nd m a_1 →
      ifB (decide ((↑a_1.j : Int) < (↑l.length : Int)))
      (∃ (b : Nat),
      ∃ (off : Nat),
      a = some { block := b, off := off : Addr } ∧
      ((0 : Int) ≤ (↑a_1.j : Int) ∧ (↑a_1.j : Int) < (↑l.length : Int)) ∧
      ∃ (n : Int),
      ∃ (n_1 : Int),
      ∃ (n_2 : Int),
      ∃ (n_3 : Int),
      CellsAt a_1.m b (off + (↑a_1.j : Int).toNat * (4 : Nat))
      [Value.int IntKind.i64 n, Value.int IntKind.i64 n_1, Value.int IntKind.i64 n_2, Value.int IntKind.i64 n_3] ∧
      ∃ (b : Bool),
      QSpec Try.prog (75 : FuncId)
      [Value.agg #[Value.int IntKind.i64 n, Value.int IntKind.i64 n_1, Value.int IntKind.i64 n_2, Value.int IntKind.i64 n_3],
      Value.pointer (some { block := bn, off := on : Addr })]
      a_1.m (Value.bool b) ∧
      ifB (!b)
      (∃ (b : Nat),
      ∃ (off : Nat),
      a = some { block := b, off := off : Addr } ∧
      ((0 : Int) ≤ (↑a_1.i : Int) ∧ (↑a_1.i : Int) < (↑l.length : Int)) ∧
      Wr m.sz S a_1.m b (off + (↑a_1.i : Int).toNat * (4 : Nat))
      #[Value.int IntKind.i64 n, Value.int IntKind.i64 n_1, Value.int IntKind.i64 n_2, Value.int IntKind.i64 n_3].size ∧
      ∃ (a' : DelX),
      (DelI l (fun (h : Hd) => decide (h.nd ≠ nd)) a c S bn on nd m a' ∧
      a_1.m.setCells b (off + (↑a_1.i : Int).toNat * (4 : Nat))
      [Value.int IntKind.i64 n, Value.int IntKind.i64 n_1, Value.int IntKind.i64 n_2, Value.int IntKind.i64 n_3] =
      a'.m ∧
      ((SV.val (Value.int IntKind.i64 (IntKind.i64.wrap ((↑a_1.i : Int) + (1 : Int)))) =
      SV.val (Value.int IntKind.i64 (↑a'.i : Int)) ∧
      true = true) ∧
      (SV.val (Value.int IntKind.i64 (IntKind.i64.wrap ((↑a_1.j : Int) + (1 : Int)))) =
      SV.val (Value.int IntKind.i64 (↑a'.j : Int)) ∧
      true = true) ∧
      (SV.val (Value.slice a l.length c) = SV.val (Value.slice a l.length c) ∧ true = true) ∧
      (SV.val (Value.func (Fn.func (75 : FuncId)) #[] #[Value.pointer (some { block := bn, off := on : Addr })]) =
      SV.val (Value.func (Fn.func (75 : FuncId)) #[] #[Value.pointer (some { block := bn, off := on : Addr })]) ∧
      true = true) ∧
      True) ∧
      True) ∧
      l.length - a'.j < l.length - a_1.j)
      (∃ (a' : DelX),
      (DelI l (fun (h : Hd) => decide (h.nd ≠ nd)) a c S bn on nd m a' ∧
      a_1.m = a'.m ∧
      ((SV.val (Value.int IntKind.i64 (↑a_1.i : Int)) = SV.val (Value.int IntKind.i64 (↑a'.i : Int)) ∧ true = true) ∧
      (SV.val (Value.int IntKind.i64 (IntKind.i64.wrap ((↑a_1.j : Int) + (1 : Int)))) = SV.val (Value.int IntKind.i64 (↑a'.j : Int)) ∧
      true = true) ∧
      (SV.val (Value.slice a l.length c) = SV.val (Value.slice a l.length c) ∧ true = true) ∧
      (SV.val (Value.func (Fn.func (75 : FuncId)) #[] #[Value.pointer (some { block := bn, off := on : Addr })]) =
      SV.val (Value.func (Fn.func (75 : FuncId)) #[] #[Value.pointer (some { block := bn, off := on : Addr })]) ∧
      true = true) ∧
      True) ∧
      True) ∧
      l.length - a'.j < l.length - a_1.j))
      ((true = true ∧ (0 : Int) ≤ (↑a_1.i : Int) ∧ (↑a_1.i : Int) ≤ (↑l.length : Int) ∧ True ∧ True) ∧
      true = true ∧
      ((↑l.length : Int).toNat - (↑a_1.i : Int).toNat ≠ (0 : Nat) →
      ∃ (b : Nat),
      ∃ (o : Nat),
      (if (↑c : Int).toNat = (↑a_1.i : Int).toNat then a
      else Option.map (fun (x : Addr) => x.add ((↑a_1.i : Int).toNat * Try.prog.types[(67 : Nat)].size)) a) =
      some { block := b, off := o : Addr } ∧
      Wr m.sz S a_1.m b o (((↑l.length : Int).toNat - (↑a_1.i : Int).toNat) * (4 : Nat))) ∧
      ∀ (m' : M),
      CopyPost a_1.m
      (if (↑c : Int).toNat = (↑a_1.i : Int).toNat then a else Option.map (fun (x : Addr) => x.add ((↑a_1.i : Int).toNat * Try.prog.types[(67 : Nat)].size)) a)
      (zeroRow Try.prog (67 : Nat) ((↑l.length : Int).toNat - (↑a_1.i : Int).toNat)) m' →
      (true = true ∧ (0 : Int) ≤ (0 : Int) ∧ (0 : Int) ≤ (↑a_1.i : Int) ∧ (↑a_1.i : Int) ≤ (↑c : Int) ∧ True) ∧
      Done
      (Value.slice (if (↑c : Int).toNat = (0 : Nat) then a else Option.map (fun (x : Addr) => x) a) ((↑a_1.i : Int).toNat - (0 : Nat))
      ((↑c : Int).toNat - (0 : Nat)) =
      Value.slice a (List.filter (fun (h : Hd) => decide (h.nd ≠ nd)) l).length c ∧
      OwnB m.sz S m' (4 : Nat) a (List.filter (fun (h : Hd) => decide (h.nd ≠ nd)) l).length c
      (hds (List.filter (fun (h : Hd) => decide (h.nd ≠ nd)) l)))))) (by kernel_rfl) ?_
  have zl : ∀ k, (zeroRow Try.prog 67 k).length = k * 4 := zr_hd
  refine ⟨rfl, _, idx_q a c l bn on nd (by omega) m h.row hc, ?_⟩
  rcases idxF_cases (fun h => decide (h.nd = nd)) l with ⟨e, hall⟩ | ⟨k, hk, e, hp, hq⟩
  · rw [e]
    have ef : (l.filter fun h => decide (h.nd ≠ nd)) = l := List.filter_eq_self.2 fun h hm => by have := hall h hm; simpa using this
    rw [ef]
    exact ifB_true ⟨rfl, h⟩
  rw [e]
  have hkn : ((k : Int) == -1) = false := by simp
  have w1 : IntKind.i64.wrap ((k : Int) + 1) = ((k + 1 : Nat) : Int) := by simp [IntKind.wrap_i64]; omega
  rw [hkn, w1]
  have ft : (l.take (k + 1)).filter (fun h => decide (h.nd ≠ nd)) = l.take k := by
    rw [List.take_succ_eq_append_getElem hk, List.filter_append]
    have e1 : (l.take k).filter (fun h => decide (h.nd ≠ nd)) = l.take k := List.filter_eq_self.2 fun h hm => by have := hq h hm; simpa using this
    have hp' : l[k].nd = nd := by simpa using hp
    rw [e1]; simp [hp']
  refine ifB_false ⟨⟨⟨k, k + 1, l, m⟩, ⟨by simp, by simp only; omega, rfl, ft.symm, rfl, h, hc, Nat.le_refl _⟩, by simp⟩, fun y hy => ?_⟩
  have hij := hy.ij
  have hjl := hy.jl
  have hlen := hy.len
  have ho := hy.own
  have hne : y.cur.length ≠ 0 := by omega
  obtain ⟨b, o, rfl, hcell⟩ := ho.row.cells (by rw [hds_len]; omega)
  obtain ⟨hSb, hbn⟩ := hS b o rfl
  refine ifB_intro (fun hb => ?_) (fun hb => ?_)
  · have hj2 : y.j < l.length := by simpa using hb
    have ecur : y.cur[y.j]'(by omega) = l[y.j] := by
      have h1 : (y.cur.drop y.j)[0]'(by simp; omega) = (l.drop y.j)[0]'(by simp; omega) := by simp only [hy.left]
      simpa using h1
    have wi : IntKind.i64.wrap ((y.i : Int) + 1) = ((y.i + 1 : Nat) : Int) := by simp [IntKind.wrap_i64]; omega
    have wj : IntKind.i64.wrap ((y.j : Int) + 1) = ((y.j + 1 : Nat) : Int) := by simp [IntKind.wrap_i64]; omega
    have hcj := hd_at hcell (by omega : y.j < y.cur.length)
    rw [ecur] at hcj
    have ts : l.take (y.j + 1) = l.take y.j ++ [l[y.j]] := List.take_succ_eq_append_getElem hj2
    have ld : y.cur.drop (y.j + 1) = l.drop (y.j + 1) := by
      have := congrArg (List.drop 1) hy.left
      simpa [List.drop_drop, Nat.add_comm] using this
    refine ⟨b, o, rfl, by omega, _, _, _, _, by simpa using hcj, _, del_q l[y.j] bn on nd _ hy.cap, ifB_intro (fun h1 => ?_) (fun h1 => ?_)⟩
    · have h1 : l[y.j].nd ≠ nd := by simpa using h1
      obtain ⟨g1, g2⟩ := OwnB.setAt (enc := encH) (fun _ => rfl) ho (by omega : y.i < y.cur.length) l[y.j]
      refine ⟨b, o, rfl, by omega, by simpa using g1, ⟨y.i + 1, y.j + 1, y.cur.set y.i l[y.j], y.m.setCells b (o + y.i * 4) (encH l[y.j])⟩, ⟨⟨by simp only; omega, hj2, by simp [hlen], ?_, ?_, g2, ?_, hy.sz⟩, by simp [wi, wj]⟩, by simp only; omega⟩
      · simp only [ts, List.filter_append]
        rw [List.take_succ_eq_append_getElem (by simp; omega), List.take_set_of_le (Nat.le_refl _), hy.done]
        simp [h1]
      · simp only
        rw [List.drop_set_of_lt (by omega), ld]
      · exact hy.cap.of (setCells_other (Ne.symm hbn))
    · have h1 : l[y.j].nd = nd := by simpa using h1
      refine ⟨⟨y.i, y.j + 1, y.cur, y.m⟩, ⟨⟨by simp only; omega, hj2, hlen, ?_, ld, ho, hy.cap, hy.sz⟩, by simp [wj]⟩, by simp only; omega⟩
      simp only [ts, List.filter_append]
      rw [hy.done]
      simp [h1]
  · have hjl2 : y.j = l.length := by simp at hb; omega
    have hd := hy.done
    rw [hjl2, List.take_length] at hd
    have hfl : (l.filter fun h => decide (h.nd ≠ nd)).length = y.i := by rw [← hd, List.length_take]; omega
    have hlc : l.length ≤ c := by cases ho with | «at» b o len cap cs rest lo lt uf h h1 h2 hc => exact hc
    have hci : ¬ c = y.i := by omega
    have ec : hds y.cur = hds (y.cur.take y.i) ++ hds (y.cur.drop y.i) := flat_cut _ _
    rw [ec] at ho
    obtain ⟨g1, g2⟩ := ho.overTail (i := y.i) (new := zeroRow Try.prog 67 (l.length - y.i)) (by rw [hds_len, List.length_take]; congr 1; omega) (by omega) (by rw [zl, hds_len, List.length_drop, hlen])
    rw [zl] at g1
    have es : Try.prog.types[67].size = 4 := by kernel_rfl
    have ea : (if (c : Int).toNat = (y.i : Int).toNat then some (⟨b, o, none⟩ : Addr) else Option.map (fun x : Addr => x.add ((y.i : Int).toNat * Try.prog.types[67].size)) (some (⟨b, o, none⟩ : Addr))) = some ⟨b, o + y.i * 4, none⟩ := by
      rw [if_neg (by simpa using hci)]
      show some (Addr.add _ (y.i * Try.prog.types[67].size)) = _
      rw [es, add_none]
    refine ⟨⟨rfl, by omega, by omega, trivial, trivial⟩, rfl, fun _ => ⟨b, o + y.i * 4, ea, by simpa using g1⟩, fun m' hp => ⟨⟨rfl, by omega, by omega, by omega, trivial⟩, ⟨?_, ?_⟩⟩⟩
    · rw [hfl]; simp
    · have hp' : m' = y.m.setCells b (o + y.i * 4) (zeroRow Try.prog 67 (l.length - y.i)) := by
        rcases hp with ⟨hz, -⟩ | ⟨b', o', he, rfl⟩
        · exfalso
          have := congrArg List.length hz
          rw [zl] at this
          simp at this; omega
        · rw [ea] at he
          cases he
          simp
      rw [hfl, ← hd, hp']
      exact g2

def aReport (x : Ac) (nd le ro net : Int) : Ac × Int :=
  if rightB x = false then (ac0, 21) else if findB x nd = false ∨ (findH x nd).le ≠ le then (ac0, 151) else if x.round = 0 ∨ x.round ≠ ro then (ac0, 152) else
  if (findH x nd).up < net ∨ net < -(findH x nd).dn then (ac0, 150) else ({ x with base := x.base + net, hs := x.hs.filter fun h => decide (h.nd ≠ nd) }, 0)

theorem sumI_mem : ∀ (l : List Int) (y : Int), y ∈ l → (∀ z ∈ l, 0 ≤ z) → y ≤ sumI l
  | x :: r, y, hm, h => by
    rw [sumI_cons]
    have h1 := sumI_nonneg r fun z hz => h z (by simp [hz])
    have h2 := h x (by simp)
    rcases List.mem_cons.1 hm with rfl | hm
    · omega
    · have := sumI_mem r y hm fun z hz => h z (by simp [hz])
      omega

theorem sumI_neg (l : List Hd) (f : Hd → Int) : sumI (l.map fun h => - f h) = - sumI (l.map f) := by
  induction l with
  | nil => rfl
  | cons x r ih => simp only [List.map_cons, sumI_cons, ih]; omega

/-- what one holder has lies in the room of all -/
theorem hold_room {x : Ac} (hr : rightB x = true) {h : Hd} (hm : h ∈ x.hs) : 0 ≤ h.up ∧ 0 ≤ h.dn ∧ x.base + h.up ≤ x.hi ∧ x.lo ≤ x.base - h.dn := by
  have hp := (right_iff x).1 hr
  have hmm := hold_mem _ _ hp.hold
  have h0 := hmm h hm
  have h1 := sumI_mem (x.hs.map (·.up)) h.up (List.mem_map.2 ⟨h, hm, rfl⟩) fun z hz => by obtain ⟨w, hw, rfl⟩ := List.mem_map.1 hz; exact (hmm w hw).2.2.2.1
  have h2 := sumI_mem (x.hs.map (·.dn)) h.dn (List.mem_map.2 ⟨h, hm, rfl⟩) fun z hz => by obtain ⟨w, hw, rfl⟩ := List.mem_map.1 hz; exact (hmm w hw).2.2.2.2
  have h3 := hp.up
  have h4 := hp.dn
  have h5 := sumI_neg x.hs (·.dn)
  simp only [upsL, dnsL, sumI_cons] at h3 h4
  omega

theorem find_mem {x : Ac} {nd : Int} (h : findB x nd = true) : rightB x = true ∧ findH x nd ∈ x.hs ∧ (findH x nd).nd = nd := by
  simp only [findB, Bool.and_eq_true] at h
  obtain ⟨h1, h2⟩ := h
  obtain ⟨z, hz⟩ := Option.isSome_iff_exists.1 h2
  simp only [findH, h1, hz, if_true, Option.getD_some]
  unfold fndH at hz
  exact ⟨trivial, List.mem_of_find?_eq_some hz, by simpa using List.find?_some hz⟩

theorem areport_s (x : Ac) (a : Option Addr) (c : Nat) (nd le ro net : Int) (hx : x.wf) (hn : In64 net) (h0 : a = none → x.hs = []) (m : M) (h : Row m a (hds x.hs)) : Vc.Spec Try.prog 35 [acv x a c, I nd, I le, I ro, I net] m (AcR m (aReport x nd le ro net)) := by
  refine Vc.Spec.of_vc Try.func35 (ann := noAnn) ?_
  refine vc_by (X :=
      true = true ∧
      ∃ (b : Bool),
      QSpec Try.prog (72 : Nat)
      [Value.agg
      #[Value.string x.key, Value.int IntKind.i64 x.lo, Value.int IntKind.i64 x.hi, Value.int IntKind.i64 x.base, Value.int IntKind.i64 x.round, Value.slice a x.hs.length c,
      Value.int IntKind.i64 x.lk.cl, Value.int IntKind.i64 x.lk.sq, Value.int IntKind.i64 x.lk.hm, Value.int IntKind.i64 x.lk.n]]
      m (Value.bool b) ∧
      ifB (!b)
      (Done
      (AcR m (aReport x nd le ro net)
      (Value.tuple
      #[Value.agg
      #[Value.string { data := #[] : ByteArray }, Value.int IntKind.i64 (0 : Int), Value.int IntKind.i64 (0 : Int), Value.int IntKind.i64 (0 : Int),
      Value.int IntKind.i64 (0 : Int), Value.slice none (0 : Nat) (0 : Nat), Value.int IntKind.i64 (0 : Int), Value.int IntKind.i64 (0 : Int),
      Value.int IntKind.i64 (0 : Int), Value.int IntKind.i64 (0 : Int)],
      Value.int IntKind.i64 (21 : Int)])
      m))
      (∃ (n : Int),
      ∃ (n_1 : Int),
      ∃ (n_2 : Int),
      ∃ (n_3 : Int),
      ∃ (b : Bool),
      QSpec Try.prog (33 : Nat)
      [Value.agg
      #[Value.string x.key, Value.int IntKind.i64 x.lo, Value.int IntKind.i64 x.hi, Value.int IntKind.i64 x.base, Value.int IntKind.i64 x.round,
      Value.slice a x.hs.length c, Value.int IntKind.i64 x.lk.cl, Value.int IntKind.i64 x.lk.sq, Value.int IntKind.i64 x.lk.hm, Value.int IntKind.i64 x.lk.n],
      Value.int IntKind.i64 nd]
      m (Value.tuple #[Value.agg #[Value.int IntKind.i64 n, Value.int IntKind.i64 n_1, Value.int IntKind.i64 n_2, Value.int IntKind.i64 n_3], Value.bool b]) ∧
      ifB (!b)
      (Done
      (AcR m (aReport x nd le ro net)
      (Value.tuple
      #[Value.agg
      #[Value.string { data := #[] : ByteArray }, Value.int IntKind.i64 (0 : Int), Value.int IntKind.i64 (0 : Int), Value.int IntKind.i64 (0 : Int),
      Value.int IntKind.i64 (0 : Int), Value.slice none (0 : Nat) (0 : Nat), Value.int IntKind.i64 (0 : Int), Value.int IntKind.i64 (0 : Int),
      Value.int IntKind.i64 (0 : Int), Value.int IntKind.i64 (0 : Int)],
      Value.int IntKind.i64 (151 : Int)])
      m))
      (ifB (n_1 != le)
      (Done
      (AcR m (aReport x nd le ro net)
      (Value.tuple
      #[Value.agg
      #[Value.string { data := #[] : ByteArray }, Value.int IntKind.i64 (0 : Int), Value.int IntKind.i64 (0 : Int), Value.int IntKind.i64 (0 : Int),
      Value.int IntKind.i64 (0 : Int), Value.slice none (0 : Nat) (0 : Nat), Value.int IntKind.i64 (0 : Int), Value.int IntKind.i64 (0 : Int),
      Value.int IntKind.i64 (0 : Int), Value.int IntKind.i64 (0 : Int)],
      Value.int IntKind.i64 (151 : Int)])
      m))
      (ifB (x.round == (0 : Int))
      (Done
      (AcR m (aReport x nd le ro net)
      (Value.tuple
      #[Value.agg
      #[Value.string { data := #[] : ByteArray }, Value.int IntKind.i64 (0 : Int), Value.int IntKind.i64 (0 : Int), Value.int IntKind.i64 (0 : Int),
      Value.int IntKind.i64 (0 : Int), Value.slice none (0 : Nat) (0 : Nat), Value.int IntKind.i64 (0 : Int), Value.int IntKind.i64 (0 : Int),
      Value.int IntKind.i64 (0 : Int), Value.int IntKind.i64 (0 : Int)],
      Value.int IntKind.i64 (152 : Int)])
      m))
      (ifB (x.round != ro)
      (Done
      (AcR m (aReport x nd le ro net)
      (Value.tuple
      #[Value.agg
      #[Value.string { data := #[] : ByteArray }, Value.int IntKind.i64 (0 : Int), Value.int IntKind.i64 (0 : Int), Value.int IntKind.i64 (0 : Int),
      Value.int IntKind.i64 (0 : Int), Value.slice none (0 : Nat) (0 : Nat), Value.int IntKind.i64 (0 : Int), Value.int IntKind.i64 (0 : Int),
      Value.int IntKind.i64 (0 : Int), Value.int IntKind.i64 (0 : Int)],
      Value.int IntKind.i64 (152 : Int)])
      m))
      (ifB (decide (net > n_2))
      (Done
      (AcR m (aReport x nd le ro net)
      (Value.tuple
      #[Value.agg
      #[Value.string { data := #[] : ByteArray }, Value.int IntKind.i64 (0 : Int), Value.int IntKind.i64 (0 : Int),
      Value.int IntKind.i64 (0 : Int), Value.int IntKind.i64 (0 : Int), Value.slice none (0 : Nat) (0 : Nat), Value.int IntKind.i64 (0 : Int),
      Value.int IntKind.i64 (0 : Int), Value.int IntKind.i64 (0 : Int), Value.int IntKind.i64 (0 : Int)],
      Value.int IntKind.i64 (150 : Int)])
      m))
      (ifB (decide (net < IntKind.i64.wrap ((0 : Int) - n_3)))
      (Done
      (AcR m (aReport x nd le ro net)
      (Value.tuple
      #[Value.agg
      #[Value.string { data := #[] : ByteArray }, Value.int IntKind.i64 (0 : Int), Value.int IntKind.i64 (0 : Int),
      Value.int IntKind.i64 (0 : Int), Value.int IntKind.i64 (0 : Int), Value.slice none (0 : Nat) (0 : Nat), Value.int IntKind.i64 (0 : Int),
      Value.int IntKind.i64 (0 : Int), Value.int IntKind.i64 (0 : Int), Value.int IntKind.i64 (0 : Int)],
      Value.int IntKind.i64 (150 : Int)])
      m))
      (∀ (n : Nat),
      m.sz ≤ n →
      Vc.Spec Try.prog (73 : Nat)
      [Value.agg
      #[Value.string x.key, Value.int IntKind.i64 x.lo, Value.int IntKind.i64 x.hi, Value.int IntKind.i64 x.base, Value.int IntKind.i64 x.round,
      Value.slice a x.hs.length c, Value.int IntKind.i64 x.lk.cl, Value.int IntKind.i64 x.lk.sq, Value.int IntKind.i64 x.lk.hm,
      Value.int IntKind.i64 x.lk.n]]
      { π := m.π, sz := n, uf := m.uf : M } fun (v : Value) (m' : M) =>
      ∃ (s : ByteArray),
      ∃ (n : Int),
      ∃ (n_4 : Int),
      ∃ (n_5 : Int),
      ∃ (n_6 : Int),
      ∃ (a : Option Addr),
      ∃ (n_7 : Nat),
      ∃ (c : Nat),
      ∃ (n_8 : Int),
      ∃ (n_9 : Int),
      ∃ (n_10 : Int),
      ∃ (n_11 : Int),
      v =
      Value.agg
      #[Value.string s, Value.int IntKind.i64 n, Value.int IntKind.i64 n_4, Value.int IntKind.i64 n_5,
      Value.int IntKind.i64 n_6, Value.slice a n_7 c, Value.int IntKind.i64 n_8, Value.int IntKind.i64 n_9,
      Value.int IntKind.i64 n_10, Value.int IntKind.i64 n_11] ∧
      ∀ (b : Nat),
      Fresh m.sz m' b →
      ∃ (S' : Nat → Prop),
      (∀ (b_1 : Nat), S' b_1 → (m'.newBlock b [Value.int IntKind.i64 nd]).uf b_1 ∧ (m.sz ≤ b_1 ∨ False)) ∧
      ∀ (n_12 : Nat),
      max m'.sz (b + (1 : Nat)) ≤ n_12 →
      SpecW Try.prog (74 : Nat)
      [Value.slice a n_7 c,
      Value.func (Fn.func (75 : Nat)) #[] #[Value.pointer (some { block := b, off := (0 : Nat) : Addr })]]
      { π := (m'.newBlock b [Value.int IntKind.i64 nd]).π, sz := n_12, uf := (m'.newBlock b [Value.int IntKind.i64 nd]).uf : M }
      S' fun (v : Value) (m' : M) =>
      ∃ (a : Option Addr),
      ∃ (n_13 : Nat),
      ∃ (c : Nat),
      v = Value.slice a n_13 c ∧
      Done
      (AcR m (aReport x nd le ro net)
      (Value.tuple
      #[Value.agg
      #[Value.string s, Value.int IntKind.i64 n, Value.int IntKind.i64 n_4,
      Value.int IntKind.i64 (IntKind.i64.wrap (n_5 + net)), Value.int IntKind.i64 n_6,
      Value.slice a n_13 c, Value.int IntKind.i64 n_8, Value.int IntKind.i64 n_9,
      Value.int IntKind.i64 n_10, Value.int IntKind.i64 n_11],
      Value.int IntKind.i64 (0 : Int)])
      m'))))))))) (by kernel_rfl) ?_
  refine ⟨rfl, _, right_q x a c hx _ h, ?_⟩
  cases hr : rightB x
  · exact ifB_true (fail_d (by simp [aReport, hr]))
  refine ifB_false ⟨_, _, _, _, _, find_q x a c nd hx _ h, ifB_intro (fun h1 => fail_d ?_) (fun h1 => ifB_intro (fun h2 => fail_d ?_) (fun h2 => ifB_intro (fun h3 => fail_d ?_) (fun h3 => ifB_intro (fun h4 => fail_d ?_) (fun h4 => ?_))))⟩
  · simp at h1; simp [aReport, hr, h1]
  · simp at h1 h2; simp [aReport, hr, h2]
  · simp at h1 h2 h3; simp [aReport, hr, h1, h2, h3]
  · simp at h1 h2 h3 h4; simp [aReport, hr, h1, h2, h4]
  have h1 : findB x nd = true := by simpa using h1
  obtain ⟨-, hmem, hnd⟩ := find_mem h1
  have hroom := hold_room hr hmem
  have hlo := hx.lo
  have hhi := hx.hi
  have hdn := (hx.hs _ hmem).2.2.2
  have wd : IntKind.i64.wrap (0 - (findH x nd).dn) = -(findH x nd).dn := by unfold In64 at *; simp [IntKind.wrap_i64]; omega
  simp at h2 h3 h4
  refine ifB_intro (fun h5 => fail_d ?_) (fun h5 => ifB_intro (fun h6 => fail_d ?_) (fun h6 N hN => ?_))
  · simp at h5; simp [aReport, hr, h1, h2, ← h4, h3, h5]
  · rw [wd] at h6; simp at h6; simp [aReport, hr, h1, h2, ← h4, h3, h6]
  rw [wd] at h6
  simp at h5 h6
  have hne : x.hs.length ≠ 0 := fun e => by rw [List.eq_nil_of_length_eq_zero e] at hmem; simp at hmem
  have w1 : IntKind.i64.wrap (x.base + net) = x.base + net := by unfold In64 at *; simp [IntKind.wrap_i64]; omega
  refine (copied_q x a c (by have := right_len hr; omega) h0 _ (h.sz hN)).mono fun v m' hag ⟨a', c', hv, hr'⟩ => ⟨_, _, _, _, _, _, _, _, _, _, _, _, hv, ?_⟩
  intro b hf
  have ho := (hr'.toOwn hne).newFresh (ds := [I nd]) hf
  refine ⟨fun b' => ∃ o, a' = some ⟨b', o, none⟩, fun b' ⟨o, e⟩ => ⟨ho.uf e, by rcases ho.lo e with h | h; left; simp only at h; omega; exact h.elim⟩, fun n hn => ?_⟩
  have hs := delfunc_s a' c' x.hs b 0 nd (fun b' => ∃ o, a' = some ⟨b', o, none⟩) (by have := right_len hr; omega) { m'.newBlock b [I nd] with sz := n }
    (fun b' o e => ⟨⟨o, e⟩, fresh_other hf ((hr'.toOwn hne).uf e)⟩) ((ho.sz hn).re fun b' o e => .inr ⟨o, e⟩) ⟨(cellsAt_new (m := m') (b := b) (cs := [I nd])).out⟩
  refine hs.mono fun v2 m2 hag2 ⟨hv2, ho2⟩ => ⟨_, _, _, hv2, ?_⟩
  rw [w1]
  refine ok_d (z := { x with base := x.base + net, hs := x.hs.filter fun h => decide (h.nd ≠ nd) }) ?_ (.own (ho2.re fun b' o e => ?_)) (Nat.le_refl _)
  · have hnb : ¬ ((findH x nd).up < net ∨ net < -(findH x nd).dn) := by omega
    simp [aReport, hr, h1, h2, ← h4, h3, hnb]
  · rcases ho2.lo e with h | ⟨o', h⟩
    · left; have h3 := hf.lo; simp only at h; omega
    · rcases (hr'.toOwn hne).lo h with h | h
      · left; simp only at h; omega
      · exact h.elim

end Go.Proofs.Ytfkielfnceeedaa
set_option linter.unusedVariables false
set_option linter.unusedSimpArgs false
namespace Go.Proofs.Ytfkielfnceeedaa
open Go.Vc Go.RowKit
set_option maxRecDepth 100000

structure WoX where
  k : Nat
  a : Option Addr
  c : Nat
  m : M

structure WoI (l : List Hd) (p : Hd → Bool) (m : M) (y : WoX) : Prop where
  k : y.k ≤ l.length
  own : NewR m.sz (fun _ => False) y.m 4 y.a ((l.take y.k).filter p).length y.c (hds ((l.take y.k).filter p))
  ag : Agree m.sz m y.m

end Go.Proofs.Ytfkielfnceeedaa
set_option linter.unusedVariables false
set_option linter.unusedSimpArgs false
namespace Go.Proofs.Ytfkielfnceeedaa
open Go.Vc Go.RowKit

theorem hold_mono : ∀ {l : List Hd} {last last' : Int}, last' ≤ last → holdB last l = true → holdB last' l = true
  | [], _, _, _, _ => rfl
  | h :: r, last, last', hl, hb => by
    simp only [holdB, hdB, Bool.and_eq_true, decide_eq_true_eq] at hb ⊢
    exact ⟨by omega, hb.2⟩

theorem hold_filter {p : Hd → Bool} : ∀ {l : List Hd} {last : Int}, holdB last l = true → holdB last (l.filter p) = true
  | [], _, _ => rfl
  | h :: r, last, hb => by
    simp only [holdB, Bool.and_eq_true] at hb
    have hd := hb.1
    simp only [hdB, Bool.and_eq_true, decide_eq_true_eq] at hd
    by_cases hp : p h = true
    · rw [List.filter_cons_of_pos hp]
      simp only [holdB, Bool.and_eq_true]
      exact ⟨hb.1, hold_filter hb.2⟩
    · rw [List.filter_cons_of_neg hp]
      exact hold_mono (by omega) (hold_filter hb.2)

theorem hold_keep {l : List Hd} {last nd : Int} (h : holdB last l = true) (hn : nd ≤ last) : l.filter (fun h => decide (h.nd ≠ nd)) = l :=
  List.filter_eq_self.2 fun z hz => by have := hold_mem _ _ h z hz; simp; omega

theorem hold_cut {h : Hd} {r : List Hd} {last : Int} (hb : holdB last (h :: r) = true) : (h :: r).filter (fun z => decide (z.nd ≠ h.nd)) = r := by
  simp only [holdB, Bool.and_eq_true] at hb
  rw [List.filter_cons_of_neg (by simp)]
  exact hold_keep hb.2 (Int.le_refl _)

theorem sum_cut (f : Hd → Int) : ∀ {l : List Hd} {last : Int} {h : Hd}, holdB last l = true → h ∈ l → sumI ((l.filter fun z => decide (z.nd ≠ h.nd)).map f) = sumI (l.map f) - f h
  | x :: r, last, h, hb, hm => by
    have hb' := hb
    simp only [holdB, Bool.and_eq_true] at hb'
    rcases List.mem_cons.1 hm with rfl | hm
    · rw [hold_cut hb, List.map_cons, sumI_cons]; omega
    · have hgt := hold_mem _ _ hb'.2 h hm
      rw [List.filter_cons_of_pos (by simp; omega), List.map_cons, List.map_cons, sumI_cons, sumI_cons, sum_cut f hb'.2 hm]
      omega

theorem aReport_ok {x : Ac} {nd le ro net : Int} (h : (aReport x nd le ro net).2 = 0) : rightB x = true ∧ findB x nd = true ∧ (findH x nd).le = le ∧ x.round = ro ∧ x.round ≠ 0 ∧ net ≤ (findH x nd).up ∧ -(findH x nd).dn ≤ net ∧
    aReport x nd le ro net = ({ x with base := x.base + net, hs := x.hs.filter fun h => decide (h.nd ≠ nd) }, 0) := by
  unfold aReport at h ⊢
  split at h
  · simp at h
  split at h
  · simp at h
  split at h
  · simp at h
  split at h
  · simp at h
  rename_i h1 h2 h3 h4
  refine ⟨by simpa using h1, ?_, ?_, ?_, ?_, by omega, by omega, by simp only [h1, h2, h3, h4, if_false]; simp⟩
  · cases hf : findB x nd
    · simp [hf] at h2
    · rfl
  · exact Classical.byContradiction fun e => h2 (.inr e)
  · exact Classical.byContradiction fun e => h3 (.inr e)
  · exact fun e => h3 (.inl e)

/-- behind a report the account is right -/
theorem cut_right {x : Ac} {h : Hd} {net : Int} (hx : x.wf) (hr : rightB x = true) (hm : h ∈ x.hs) (h1 : net ≤ h.up) (h2 : -h.dn ≤ net) :
    rightB { x with base := x.base + net, hs := x.hs.filter fun z => decide (z.nd ≠ h.nd) } = true ∧ ({ x with base := x.base + net, hs := x.hs.filter fun z => decide (z.nd ≠ h.nd) } : Ac).wf := by
  have hp := (right_iff x).1 hr
  have hroom := hold_room hr hm
  have e1 := sum_cut (·.up) hp.hold hm
  have e2 := sum_cut (·.dn) hp.hold hm
  have hlo := hx.lo
  have hhi := hx.hi
  refine ⟨(right_iff _).2 ⟨hp.key, by simp only; omega, hp.round, hold_filter hp.hold, ?_, ?_, ?_⟩, ⟨hx.key, hx.lo, hx.hi, by simp only; unfold In64 at *; omega, hx.round, fun z hz => hx.hs z (List.mem_filter.1 hz).1, Nat.le_trans (List.length_filter_le _ _) hx.len, hx.lk⟩⟩
  · have := hp.up
    simp only [upsL, sumI_cons, e1] at this ⊢
    omega
  · have := hp.dn
    have n1 := sumI_neg x.hs (·.dn)
    have n2 := sumI_neg (x.hs.filter fun z => decide (z.nd ≠ h.nd)) (·.dn)
    simp only [dnsL, sumI_cons] at this ⊢
    rw [n1] at this
    rw [n2, e2]
    omega
  · have := hp.lock
    simp only [lockB] at this ⊢
    split
    · rename_i hl; simpa [hl] using this
    · rename_i hl
      simp [hl] at this
      rw [this.1.2] at hm
      simp at hm

end Go.Proofs.Ytfkielfnceeedaa
set_option linter.unusedVariables false
set_option linter.unusedSimpArgs false
namespace Go.Proofs.Ytfkielfnceeedaa
open Go.Vc Go.RowKit
set_option maxRecDepth 100000

def groupB (g : Int) : Bool := decide (1 ≤ g) && decide (g < 8)

def heldE (l : List Rt) (g : Int) (x : Ac) (nd : Int) (zero : Bool) : Int :=
  if ledB none l = false ∨ rightB x = false then 21 else if groupB g = false ∨ zero = true then 1 else if findB x nd = false then 151 else if x.round ≠ 0 then 152 else 0

def heldH (l : List Rt) (g : Int) (x : Ac) (nd : Int) (zero : Bool) : Hd := if heldE l g x nd zero = 0 then findH x nd else hd0

theorem mem_sum (f : Hd → Int) : ∀ {l : List Hd} {h : Hd}, (∀ y ∈ l, 0 ≤ f y) → h ∈ l → f h ≤ sumI (l.map f) ∧ 0 ≤ sumI (l.map f)
  | x :: r, h, hp, hm => by
    have h0 := hp x (by simp)
    rw [List.map_cons, sumI_cons]
    have hr : 0 ≤ sumI (r.map f) := by
      cases r with
      | nil => simp [sumI]
      | cons y ys => exact (mem_sum f (h := y) (fun z hz => hp z (by simp [List.mem_cons.1 hz])) (by simp)).2
    rcases List.mem_cons.1 hm with rfl | hm
    · omega
    · have := mem_sum f (fun z hz => hp z (by simp [hz])) hm
      omega

/-- what a holder that was found may be -/
structure HdP (x : Ac) (h : Hd) : Prop where
  mem : h ∈ x.hs
  right : rightB x = true
  le : 1 ≤ h.le
  up : 0 ≤ h.up ∧ h.up ≤ 9223372036854775807
  dn : 0 ≤ h.dn ∧ h.dn ≤ 9223372036854775807
  wf : h.wf
  hi : x.base + h.up ≤ x.hi
  lo : x.lo ≤ x.base - h.dn

theorem find_fact {x : Ac} {nd : Int} (hx : x.wf) (h : findB x nd = true) : HdP x (findH x nd) := by
  simp only [findB, Bool.and_eq_true] at h
  obtain ⟨hr, hs⟩ := h
  obtain ⟨z, hz⟩ := Option.isSome_iff_exists.1 hs
  have e : findH x nd = z := by simp [findH, hr, hz]
  rw [e]
  have hm : z ∈ x.hs := List.mem_of_find?_eq_some hz
  have hp := (right_iff x).1 hr
  have hh := hold_mem _ _ hp.hold
  have hw := hx.hs z hm
  have h1 := hh z hm
  have s1 := mem_sum (fun y => y.up) (fun y hy => (hh y hy).2.2.2.1) hm
  have s2 := mem_sum (fun y => y.dn) (fun y hy => (hh y hy).2.2.2.2) hm
  have u := hp.up
  have d := hp.dn
  have eu : sumI (upsL x) = x.base + sumI (x.hs.map (·.up)) := by unfold upsL; rw [sumI_cons]
  have ed : sumI (dnsL x) = x.base - sumI (x.hs.map (·.dn)) := by
    unfold dnsL; rw [sumI_cons]
    have : ∀ l : List Hd, sumI (l.map fun h => -h.dn) = - sumI (l.map (·.dn)) := fun l => by
      induction l with
      | nil => rfl
      | cons y ys ih => rw [List.map_cons, List.map_cons, sumI_cons, sumI_cons, ih]; omega
    rw [this]; omega
  have w1 : In64 z.up := hw.2.2.1
  have w2 : In64 z.dn := hw.2.2.2
  unfold In64 at w1 w2
  exact ⟨hm, hr, h1.2.2.1, by omega, by omega, hw, by omega, by omega⟩

theorem net_in {l : List Rt} (h : ∀ r ∈ l, r.wf) (g : Int) (k : ByteArray) (le : Int) : In64 (netR l g k le) := by
  unfold netR
  split
  · cases hf : l.find? (isN g k le) with
    | none => simp [In64]
    | some z => exact (h z (List.mem_of_find?_eq_some hf)).2.2.2
  · simp [In64]

theorem holder_q (al : Option Addr) (cl : Nat) (l : List Rt) (g : Int) (x : Ac) (a : Option Addr) (c : Nat) (nd n : Int) (hl : l.length ≤ 9223372036854775807) (hx : x.wf) (m : M) (h1 : Row m al (rts l)) (h2 : Row m a (hds x.hs)) :
    QSpec Try.prog 54 [.slice al l.length cl, I g, acv x a c, I nd, I n] m (.tuple #[hdv (heldH l g x nd (decide (n = 0))), I (heldE l g x nd (decide (n = 0)))]) := by
  refine QSpec.of_vc Try.func54 (ann := fun _ => noAnn) fun N hN => ?_
  refine vc_by (X :=
      true = true ∧
      ∃ (n_1 : Int),
      QSpec Try.prog (14 : Nat) [Value.slice al l.length cl] { π := m.π, sz := N, uf := m.uf : M } (Value.int IntKind.i64 n_1) ∧
      ifB (n_1 != (0 : Int))
      (Done
      (Value.tuple
      #[Value.agg #[Value.int IntKind.i64 (0 : Int), Value.int IntKind.i64 (0 : Int), Value.int IntKind.i64 (0 : Int), Value.int IntKind.i64 (0 : Int)],
      Value.int IntKind.i64 (21 : Int)] =
      Value.tuple
      #[Value.agg
      #[Value.int IntKind.i64 (heldH l g x nd (decide (n = (0 : Int)))).nd, Value.int IntKind.i64 (heldH l g x nd (decide (n = (0 : Int)))).le,
      Value.int IntKind.i64 (heldH l g x nd (decide (n = (0 : Int)))).up, Value.int IntKind.i64 (heldH l g x nd (decide (n = (0 : Int)))).dn],
      Value.int IntKind.i64 (heldE l g x nd (decide (n = (0 : Int))))]))
      (∃ (n_2 : Int),
      QSpec Try.prog (47 : Nat)
      [Value.agg
      #[Value.string x.key, Value.int IntKind.i64 x.lo, Value.int IntKind.i64 x.hi, Value.int IntKind.i64 x.base, Value.int IntKind.i64 x.round,
      Value.slice a x.hs.length c, Value.int IntKind.i64 x.lk.cl, Value.int IntKind.i64 x.lk.sq, Value.int IntKind.i64 x.lk.hm, Value.int IntKind.i64 x.lk.n]]
      { π := m.π, sz := N, uf := m.uf : M } (Value.int IntKind.i64 n_2) ∧
      ifB (n_2 != (0 : Int))
      (Done
      (Value.tuple
      #[Value.agg #[Value.int IntKind.i64 (0 : Int), Value.int IntKind.i64 (0 : Int), Value.int IntKind.i64 (0 : Int), Value.int IntKind.i64 (0 : Int)],
      Value.int IntKind.i64 (21 : Int)] =
      Value.tuple
      #[Value.agg
      #[Value.int IntKind.i64 (heldH l g x nd (decide (n = (0 : Int)))).nd, Value.int IntKind.i64 (heldH l g x nd (decide (n = (0 : Int)))).le,
      Value.int IntKind.i64 (heldH l g x nd (decide (n = (0 : Int)))).up, Value.int IntKind.i64 (heldH l g x nd (decide (n = (0 : Int)))).dn],
      Value.int IntKind.i64 (heldE l g x nd (decide (n = (0 : Int))))]))
      (∃ (b : Bool),
      QSpec Try.prog (63 : Nat) [Value.int IntKind.i64 g] { π := m.π, sz := N, uf := m.uf : M } (Value.bool b) ∧
      ifB (!b)
      (Done
      (Value.tuple
      #[Value.agg #[Value.int IntKind.i64 (0 : Int), Value.int IntKind.i64 (0 : Int), Value.int IntKind.i64 (0 : Int), Value.int IntKind.i64 (0 : Int)],
      Value.int IntKind.i64 (1 : Int)] =
      Value.tuple
      #[Value.agg
      #[Value.int IntKind.i64 (heldH l g x nd (decide (n = (0 : Int)))).nd, Value.int IntKind.i64 (heldH l g x nd (decide (n = (0 : Int)))).le,
      Value.int IntKind.i64 (heldH l g x nd (decide (n = (0 : Int)))).up, Value.int IntKind.i64 (heldH l g x nd (decide (n = (0 : Int)))).dn],
      Value.int IntKind.i64 (heldE l g x nd (decide (n = (0 : Int))))]))
      (ifB (n == (0 : Int))
      (Done
      (Value.tuple
      #[Value.agg #[Value.int IntKind.i64 (0 : Int), Value.int IntKind.i64 (0 : Int), Value.int IntKind.i64 (0 : Int), Value.int IntKind.i64 (0 : Int)],
      Value.int IntKind.i64 (1 : Int)] =
      Value.tuple
      #[Value.agg
      #[Value.int IntKind.i64 (heldH l g x nd (decide (n = (0 : Int)))).nd, Value.int IntKind.i64 (heldH l g x nd (decide (n = (0 : Int)))).le,
      Value.int IntKind.i64 (heldH l g x nd (decide (n = (0 : Int)))).up, Value.int IntKind.i64 (heldH l g x nd (decide (n = (0 : Int)))).dn],
      Value.int IntKind.i64 (heldE l g x nd (decide (n = (0 : Int))))]))
      (∃ (n_3 : Int),
      ∃ (n_4 : Int),
      ∃ (n_5 : Int),
      ∃ (n_6 : Int),
      ∃ (b : Bool),
      QSpec Try.prog (33 : Nat)
      [Value.agg
      #[Value.string x.key, Value.int IntKind.i64 x.lo, Value.int IntKind.i64 x.hi, Value.int IntKind.i64 x.base, Value.int IntKind.i64 x.round,
      Value.slice a x.hs.length c, Value.int IntKind.i64 x.lk.cl, Value.int IntKind.i64 x.lk.sq, Value.int IntKind.i64 x.lk.hm,
      Value.int IntKind.i64 x.lk.n],
      Value.int IntKind.i64 nd]
      { π := m.π, sz := N, uf := m.uf : M }
      (Value.tuple
      #[Value.agg #[Value.int IntKind.i64 n_3, Value.int IntKind.i64 n_4, Value.int IntKind.i64 n_5, Value.int IntKind.i64 n_6], Value.bool b]) ∧
      ifB (!b)
      (Done
      (Value.tuple
      #[Value.agg
      #[Value.int IntKind.i64 (0 : Int), Value.int IntKind.i64 (0 : Int), Value.int IntKind.i64 (0 : Int), Value.int IntKind.i64 (0 : Int)],
      Value.int IntKind.i64 (151 : Int)] =
      Value.tuple
      #[Value.agg
      #[Value.int IntKind.i64 (heldH l g x nd (decide (n = (0 : Int)))).nd,
      Value.int IntKind.i64 (heldH l g x nd (decide (n = (0 : Int)))).le,
      Value.int IntKind.i64 (heldH l g x nd (decide (n = (0 : Int)))).up,
      Value.int IntKind.i64 (heldH l g x nd (decide (n = (0 : Int)))).dn],
      Value.int IntKind.i64 (heldE l g x nd (decide (n = (0 : Int))))]))
      (ifB (x.round != (0 : Int))
      (Done
      (Value.tuple
      #[Value.agg
      #[Value.int IntKind.i64 (0 : Int), Value.int IntKind.i64 (0 : Int), Value.int IntKind.i64 (0 : Int),
      Value.int IntKind.i64 (0 : Int)],
      Value.int IntKind.i64 (152 : Int)] =
      Value.tuple
      #[Value.agg
      #[Value.int IntKind.i64 (heldH l g x nd (decide (n = (0 : Int)))).nd,
      Value.int IntKind.i64 (heldH l g x nd (decide (n = (0 : Int)))).le,
      Value.int IntKind.i64 (heldH l g x nd (decide (n = (0 : Int)))).up,
      Value.int IntKind.i64 (heldH l g x nd (decide (n = (0 : Int)))).dn],
      Value.int IntKind.i64 (heldE l g x nd (decide (n = (0 : Int))))]))
      (Done
      (Value.tuple
      #[Value.agg #[Value.int IntKind.i64 n_3, Value.int IntKind.i64 n_4, Value.int IntKind.i64 n_5, Value.int IntKind.i64 n_6],
      Value.int IntKind.i64 (0 : Int)] =
      Value.tuple
      #[Value.agg
      #[Value.int IntKind.i64 (heldH l g x nd (decide (n = (0 : Int)))).nd,
      Value.int IntKind.i64 (heldH l g x nd (decide (n = (0 : Int)))).le,
      Value.int IntKind.i64 (heldH l g x nd (decide (n = (0 : Int)))).up,
      Value.int IntKind.i64 (heldH l g x nd (decide (n = (0 : Int)))).dn],
      Value.int IntKind.i64 (heldE l g x nd (decide (n = (0 : Int))))])))))))) (by kernel_rfl) ?_
  have k1 := h1.sz hN
  have k2 := h2.sz hN
  refine ⟨rfl, _, lcheck_q al cl l hl _ k1, ?_⟩
  cases ht : ledB none l
  · exact ifB_true ⟨by simp [heldH, heldE, ht, hd0]⟩
  refine ifB_false ⟨_, check_q x a c hx _ k2, ?_⟩
  cases hr : rightB x
  · exact ifB_true ⟨by simp [heldH, heldE, ht, hr, hd0]⟩
  refine ifB_false ⟨_, group_q g _, ifB_intro (fun q1 => ⟨?_⟩) (fun q1 => ifB_intro (fun q2 => ⟨?_⟩) (fun q2 => ⟨_, _, _, _, _, find_q x a c nd hx _ k2, ifB_intro (fun q3 => ⟨?_⟩) (fun q3 => ifB_intro (fun q4 => ⟨?_⟩) (fun q4 => ⟨?_⟩))⟩))⟩
  · have q1 : groupB g = false := by simp at q1; simp [groupB]; omega
    simp [heldH, heldE, ht, hr, q1, hd0]
  all_goals have q1 : groupB g = true := by simpa [groupB] using q1
  · have q2 : n = 0 := by simpa using q2
    simp [heldH, heldE, ht, hr, q1, q2, hd0]
  all_goals have q2 : ¬ n = 0 := by simpa using q2
  · have q3 : findB x nd = false := by simpa using q3
    simp [heldH, heldE, ht, hr, q1, q2, q3, hd0]
  all_goals have q3 : findB x nd = true := by simpa using q3
  · have q4 : x.round ≠ 0 := by simpa using q4
    simp [heldH, heldE, ht, hr, q1, q2, q3, q4, hd0]
  · have q4 : x.round = 0 := by simpa using q4
    simp [heldH, heldE, ht, hr, q1, q2, q3, q4]

theorem held_q (al : Option Addr) (cl : Nat) (l : List Rt) (g : Int) (x : Ac) (a : Option Addr) (c : Nat) (nd : Int) (z : Bool) (hl : l.length ≤ 9223372036854775807) (hx : x.wf) (m : M) (h1 : Row m al (rts l)) (h2 : Row m a (hds x.hs)) :
    QSpec Try.prog 57 [.slice al l.length cl, I g, acv x a c, I nd, .bool z] m (.tuple #[hdv (heldH l g x nd z), I (heldE l g x nd z)]) := by
  refine QSpec.of_vc Try.func57 (ann := fun _ => noAnn) fun N hN => ?_
  refine vc_by (X :=
      true = true ∧
      ∃ (b : Bool),
      QSpec Try.prog (10 : Nat) [Value.slice al l.length cl] { π := m.π, sz := N, uf := m.uf : M } (Value.bool b) ∧
      ifB (!b)
      (Done
      (Value.tuple
      #[Value.agg #[Value.int IntKind.i64 (0 : Int), Value.int IntKind.i64 (0 : Int), Value.int IntKind.i64 (0 : Int), Value.int IntKind.i64 (0 : Int)],
      Value.int IntKind.i64 (21 : Int)] =
      Value.tuple
      #[Value.agg
      #[Value.int IntKind.i64 (heldH l g x nd z).nd, Value.int IntKind.i64 (heldH l g x nd z).le, Value.int IntKind.i64 (heldH l g x nd z).up,
      Value.int IntKind.i64 (heldH l g x nd z).dn],
      Value.int IntKind.i64 (heldE l g x nd z)]))
      (∃ (b : Bool),
      QSpec Try.prog (32 : Nat)
      [Value.agg
      #[Value.string x.key, Value.int IntKind.i64 x.lo, Value.int IntKind.i64 x.hi, Value.int IntKind.i64 x.base, Value.int IntKind.i64 x.round,
      Value.slice a x.hs.length c, Value.int IntKind.i64 x.lk.cl, Value.int IntKind.i64 x.lk.sq, Value.int IntKind.i64 x.lk.hm, Value.int IntKind.i64 x.lk.n]]
      { π := m.π, sz := N, uf := m.uf : M } (Value.bool b) ∧
      ifB (!b)
      (Done
      (Value.tuple
      #[Value.agg #[Value.int IntKind.i64 (0 : Int), Value.int IntKind.i64 (0 : Int), Value.int IntKind.i64 (0 : Int), Value.int IntKind.i64 (0 : Int)],
      Value.int IntKind.i64 (21 : Int)] =
      Value.tuple
      #[Value.agg
      #[Value.int IntKind.i64 (heldH l g x nd z).nd, Value.int IntKind.i64 (heldH l g x nd z).le, Value.int IntKind.i64 (heldH l g x nd z).up,
      Value.int IntKind.i64 (heldH l g x nd z).dn],
      Value.int IntKind.i64 (heldE l g x nd z)]))
      (∃ (b : Bool),
      QSpec Try.prog (64 : Nat) [Value.int IntKind.i64 g] { π := m.π, sz := N, uf := m.uf : M } (Value.bool b) ∧
      ifB (!b)
      (Done
      (Value.tuple
      #[Value.agg #[Value.int IntKind.i64 (0 : Int), Value.int IntKind.i64 (0 : Int), Value.int IntKind.i64 (0 : Int), Value.int IntKind.i64 (0 : Int)],
      Value.int IntKind.i64 (1 : Int)] =
      Value.tuple
      #[Value.agg
      #[Value.int IntKind.i64 (heldH l g x nd z).nd, Value.int IntKind.i64 (heldH l g x nd z).le, Value.int IntKind.i64 (heldH l g x nd z).up,
      Value.int IntKind.i64 (heldH l g x nd z).dn],
      Value.int IntKind.i64 (heldE l g x nd z)]))
      (ifB z
      (Done
      (Value.tuple
      #[Value.agg #[Value.int IntKind.i64 (0 : Int), Value.int IntKind.i64 (0 : Int), Value.int IntKind.i64 (0 : Int), Value.int IntKind.i64 (0 : Int)],
      Value.int IntKind.i64 (1 : Int)] =
      Value.tuple
      #[Value.agg
      #[Value.int IntKind.i64 (heldH l g x nd z).nd, Value.int IntKind.i64 (heldH l g x nd z).le, Value.int IntKind.i64 (heldH l g x nd z).up,
      Value.int IntKind.i64 (heldH l g x nd z).dn],
      Value.int IntKind.i64 (heldE l g x nd z)]))
      (∃ (n : Int),
      ∃ (n_1 : Int),
      ∃ (n_2 : Int),
      ∃ (n_3 : Int),
      ∃ (b : Bool),
      QSpec Try.prog (52 : Nat)
      [Value.agg
      #[Value.string x.key, Value.int IntKind.i64 x.lo, Value.int IntKind.i64 x.hi, Value.int IntKind.i64 x.base, Value.int IntKind.i64 x.round,
      Value.slice a x.hs.length c, Value.int IntKind.i64 x.lk.cl, Value.int IntKind.i64 x.lk.sq, Value.int IntKind.i64 x.lk.hm,
      Value.int IntKind.i64 x.lk.n],
      Value.int IntKind.i64 nd]
      { π := m.π, sz := N, uf := m.uf : M }
      (Value.tuple
      #[Value.agg #[Value.int IntKind.i64 n, Value.int IntKind.i64 n_1, Value.int IntKind.i64 n_2, Value.int IntKind.i64 n_3], Value.bool b]) ∧
      ifB (!b)
      (Done
      (Value.tuple
      #[Value.agg
      #[Value.int IntKind.i64 (0 : Int), Value.int IntKind.i64 (0 : Int), Value.int IntKind.i64 (0 : Int), Value.int IntKind.i64 (0 : Int)],
      Value.int IntKind.i64 (151 : Int)] =
      Value.tuple
      #[Value.agg
      #[Value.int IntKind.i64 (heldH l g x nd z).nd, Value.int IntKind.i64 (heldH l g x nd z).le,
      Value.int IntKind.i64 (heldH l g x nd z).up, Value.int IntKind.i64 (heldH l g x nd z).dn],
      Value.int IntKind.i64 (heldE l g x nd z)]))
      (ifB (x.round != (0 : Int))
      (Done
      (Value.tuple
      #[Value.agg
      #[Value.int IntKind.i64 (0 : Int), Value.int IntKind.i64 (0 : Int), Value.int IntKind.i64 (0 : Int),
      Value.int IntKind.i64 (0 : Int)],
      Value.int IntKind.i64 (152 : Int)] =
      Value.tuple
      #[Value.agg
      #[Value.int IntKind.i64 (heldH l g x nd z).nd, Value.int IntKind.i64 (heldH l g x nd z).le,
      Value.int IntKind.i64 (heldH l g x nd z).up, Value.int IntKind.i64 (heldH l g x nd z).dn],
      Value.int IntKind.i64 (heldE l g x nd z)]))
      (Done
      (Value.tuple
      #[Value.agg #[Value.int IntKind.i64 n, Value.int IntKind.i64 n_1, Value.int IntKind.i64 n_2, Value.int IntKind.i64 n_3],
      Value.int IntKind.i64 (0 : Int)] =
      Value.tuple
      #[Value.agg
      #[Value.int IntKind.i64 (heldH l g x nd z).nd, Value.int IntKind.i64 (heldH l g x nd z).le,
      Value.int IntKind.i64 (heldH l g x nd z).up, Value.int IntKind.i64 (heldH l g x nd z).dn],
      Value.int IntKind.i64 (heldE l g x nd z)])))))))) (by kernel_rfl) ?_
  have k1 := h1.sz hN
  have k2 := h2.sz hN
  refine ⟨rfl, _, rright_l al cl l hl _ k1, ?_⟩
  cases ht : ledB none l
  · exact ifB_true ⟨by simp [heldH, heldE, ht, hd0]⟩
  refine ifB_false ⟨_, rright_q x a c hx _ k2, ?_⟩
  cases hr : rightB x
  · exact ifB_true ⟨by simp [heldH, heldE, ht, hr, hd0]⟩
  refine ifB_false ⟨_, rgroup_q g _, ifB_intro (fun q1 => ⟨?_⟩) (fun q1 => ifB_intro (fun q2 => ⟨?_⟩) (fun q2 => ⟨_, _, _, _, _, rfind_q x a c nd hx _ k2, ifB_intro (fun q3 => ⟨?_⟩) (fun q3 => ifB_intro (fun q4 => ⟨?_⟩) (fun q4 => ⟨?_⟩))⟩))⟩
  · have q1 : groupB g = false := by simp at q1; simp [groupB]; omega
    simp [heldH, heldE, ht, hr, q1, hd0]
  all_goals have q1 : groupB g = true := by simpa [groupB] using q1
  · have q2 : z = true := q2
    simp [heldH, heldE, ht, hr, q1, q2, hd0]
  all_goals have q2 : z = false := q2
  · have q3 : findB x nd = false := by simpa using q3
    simp [heldH, heldE, ht, hr, q1, q2, q3, hd0]
  all_goals have q3 : findB x nd = true := by simpa using q3
  · have q4 : x.round ≠ 0 := by simpa using q4
    simp [heldH, heldE, ht, hr, q1, q2, q3, q4, hd0]
  · have q4 : x.round = 0 := by simpa using q4
    simp [heldH, heldE, ht, hr, q1, q2, q3, q4]

def inB (h : Hd) (n : Int) : Bool := decide (n ≤ h.up) && decide (-h.dn ≤ n)

theorem within_q (h : Hd) (n : Int) (hd : 0 ≤ h.dn ∧ h.dn ≤ 9223372036854775807) (m : M) : QSpec Try.prog 56 [hdv h, I n] m (.bool (inB h n)) := by
  refine QSpec.of_vc Try.func56 (ann := fun _ => noAnn) fun N hN => ?_
  refine vc_by (X :=
      true = true ∧ ifB (decide (n ≤ h.up)) (Done (Value.bool (decide (n ≥ IntKind.i64.wrap ((0 : Int) - h.dn))) = Value.bool (inB h n))) (Done (Value.bool false = Value.bool (inB h n)))) (by kernel_rfl) ?_
  have w : IntKind.i64.wrap (0 - h.dn) = -h.dn := by simp [IntKind.wrap_i64]; omega
  rw [w]
  refine ⟨rfl, ifB_intro (fun q => ⟨?_⟩) (fun q => ⟨?_⟩)⟩
  · simp at q; simp [inB, q]
  · simp at q; simp [inB]; omega

theorem rwithin_q (h : Hd) (t n : Int) (hu : In64 h.up) (hd : 0 ≤ h.dn ∧ h.dn ≤ 9223372036854775807) (ht : In64 t) (hn : In64 n) (m : M) : QSpec Try.prog 58 [hdv h, I t, I n] m (.bool (inB h (t + n))) := by
  refine QSpec.of_vc Try.func58 (ann := fun _ => noAnn) fun N hN => ?_
  refine vc_by (X :=
      true = true ∧
      true = true ∧
      ∀ (b : Nat),
      N ≤ b →
      ∃ (n_1 : Int),
      ∃ (n_2 : Int),
      QSpec Try.prog (60 : Nat) [Value.slice (some { block := b, off := (0 : Nat) : Addr }) (2 : Nat) (2 : Nat)]
      ({ π := m.π, sz := N, uf := m.uf : M }.newBlock b [Value.int IntKind.i64 t, Value.int IntKind.i64 n])
      (Value.agg #[Value.int IntKind.i64 n_1, Value.int IntKind.u64 n_2]) ∧
      ∃ (b_1 : Bool),
      QSpec Try.prog (70 : Nat) [Value.agg #[Value.int IntKind.i64 n_1, Value.int IntKind.u64 n_2], Value.int IntKind.i64 h.up]
      ({ π := m.π, sz := N, uf := m.uf : M }.newBlock b [Value.int IntKind.i64 t, Value.int IntKind.i64 n]) (Value.bool b_1) ∧
      ifB (!b_1)
      (∃ (n_3 : Int),
      ∃ (n_4 : Int),
      QSpec Try.prog (83 : Nat) [Value.agg #[Value.int IntKind.i64 n_1, Value.int IntKind.u64 n_2], Value.int IntKind.i64 h.dn]
      ({ π := m.π, sz := N, uf := m.uf : M }.newBlock b [Value.int IntKind.i64 t, Value.int IntKind.i64 n])
      (Value.agg #[Value.int IntKind.i64 n_3, Value.int IntKind.u64 n_4]) ∧
      Done (Value.bool (decide (n_3 ≥ (0 : Int))) = Value.bool (inB h (t + n))))
      (Done (Value.bool false = Value.bool (inB h (t + n))))) (by kernel_rfl) ?_
  refine ⟨rfl, rfl, fun b hb => ⟨_, _, of_q (some ⟨b, 0, none⟩) 2 [t, n] (fun y hy => by simp at hy; rcases hy with rfl | rfl <;> assumption) (by simp) _ Row.new, _, above_q _ _ ?_ hu _, ?_⟩⟩
  · unfold In64 at *; simp [sumI]; omega
  have es : sumI [t, n] = t + n := by simp [sumI]
  rw [es]
  have hb2 : -18446744073709551616 ≤ t + n ∧ t + n ≤ 18446744073709551614 := by unfold In64 at *; omega
  refine ifB_intro (fun q => ⟨_, _, plus_q (t + n) h.dn (by unfold In64; omega) _, ⟨?_⟩⟩) (fun q => ⟨?_⟩)
  · simp at q
    have e : (decide (wideHi (t + n + h.dn) ≥ 0)) = decide (-h.dn ≤ t + n) := by
      simp only [wideHi, IntKind.wrap_i64, decide_eq_decide]; omega
    rw [e]
    simp [inB]; omega
  · simp at q; simp [inB]; omega

def spendE (l : List Rt) (g : Int) (x : Ac) (nd n : Int) : Rt × Int :=
  if heldE l g x nd (decide (n = 0)) ≠ 0 then (⟨0, .empty, 0, 0⟩, heldE l g x nd (decide (n = 0))) else
  if inB (findH x nd) (netR l g x.key (findH x nd).le + n) = false then (⟨0, .empty, 0, 0⟩, 150) else (⟨g, x.key, (findH x nd).le, netR l g x.key (findH x nd).le + n⟩, 0)

theorem lspend_q (al : Option Addr) (cl : Nat) (l : List Rt) (g : Int) (x : Ac) (a : Option Addr) (c : Nat) (nd n : Int) (hl : l.length ≤ 9223372036854775807) (hlw : ∀ r ∈ l, r.wf) (hx : x.wf) (hn : In64 n) (m : M) (h1 : Row m al (rts l)) (h2 : Row m a (hds x.hs)) :
    QSpec Try.prog 24 [.slice al l.length cl, I g, acv x a c, I nd, I n] m (.tuple #[rtv (spendE l g x nd n).1, I (spendE l g x nd n).2]) := by
  refine QSpec.of_vc Try.func24 (ann := fun _ => noAnn) fun N hN => ?_
  refine vc_by (X :=
      true = true ∧
      ∃ (n_1 : Int),
      ∃ (n_2 : Int),
      ∃ (n_3 : Int),
      ∃ (n_4 : Int),
      ∃ (n_5 : Int),
      QSpec Try.prog (54 : Nat)
      [Value.slice al l.length cl, Value.int IntKind.i64 g,
      Value.agg
      #[Value.string x.key, Value.int IntKind.i64 x.lo, Value.int IntKind.i64 x.hi, Value.int IntKind.i64 x.base, Value.int IntKind.i64 x.round,
      Value.slice a x.hs.length c, Value.int IntKind.i64 x.lk.cl, Value.int IntKind.i64 x.lk.sq, Value.int IntKind.i64 x.lk.hm, Value.int IntKind.i64 x.lk.n],
      Value.int IntKind.i64 nd, Value.int IntKind.i64 n]
      { π := m.π, sz := N, uf := m.uf : M }
      (Value.tuple
      #[Value.agg #[Value.int IntKind.i64 n_1, Value.int IntKind.i64 n_2, Value.int IntKind.i64 n_3, Value.int IntKind.i64 n_4], Value.int IntKind.i64 n_5]) ∧
      ifB (n_5 != (0 : Int))
      (Done
      (Value.tuple
      #[Value.agg #[Value.int IntKind.i64 (0 : Int), Value.string { data := #[] : ByteArray }, Value.int IntKind.i64 (0 : Int), Value.int IntKind.i64 (0 : Int)],
      Value.int IntKind.i64 n_5] =
      Value.tuple
      #[Value.agg
      #[Value.int IntKind.i64 (spendE l g x nd n).fst.g, Value.string (spendE l g x nd n).fst.ky, Value.int IntKind.i64 (spendE l g x nd n).fst.le,
      Value.int IntKind.i64 (spendE l g x nd n).fst.ne],
      Value.int IntKind.i64 (spendE l g x nd n).snd]))
      (∃ (n_6 : Int),
      QSpec Try.prog (16 : Nat) [Value.slice al l.length cl, Value.int IntKind.i64 g, Value.string x.key, Value.int IntKind.i64 n_2]
      { π := m.π, sz := N, uf := m.uf : M } (Value.int IntKind.i64 n_6) ∧
      ∃ (n_7 : Int),
      ∃ (n_8 : Int),
      QSpec Try.prog (55 : Nat) [Value.int IntKind.i64 n_6, Value.int IntKind.i64 n] { π := m.π, sz := N, uf := m.uf : M }
      (Value.tuple #[Value.int IntKind.i64 n_7, Value.int IntKind.i64 n_8]) ∧
      ifB (n_8 != (0 : Int))
      (Done
      (Value.tuple
      #[Value.agg
      #[Value.int IntKind.i64 (0 : Int), Value.string { data := #[] : ByteArray }, Value.int IntKind.i64 (0 : Int),
      Value.int IntKind.i64 (0 : Int)],
      Value.int IntKind.i64 (150 : Int)] =
      Value.tuple
      #[Value.agg
      #[Value.int IntKind.i64 (spendE l g x nd n).fst.g, Value.string (spendE l g x nd n).fst.ky, Value.int IntKind.i64 (spendE l g x nd n).fst.le,
      Value.int IntKind.i64 (spendE l g x nd n).fst.ne],
      Value.int IntKind.i64 (spendE l g x nd n).snd]))
      (∃ (b : Bool),
      QSpec Try.prog (56 : Nat)
      [Value.agg #[Value.int IntKind.i64 n_1, Value.int IntKind.i64 n_2, Value.int IntKind.i64 n_3, Value.int IntKind.i64 n_4],
      Value.int IntKind.i64 n_7]
      { π := m.π, sz := N, uf := m.uf : M } (Value.bool b) ∧
      ifB (!b)
      (Done
      (Value.tuple
      #[Value.agg
      #[Value.int IntKind.i64 (0 : Int), Value.string { data := #[] : ByteArray }, Value.int IntKind.i64 (0 : Int),
      Value.int IntKind.i64 (0 : Int)],
      Value.int IntKind.i64 (150 : Int)] =
      Value.tuple
      #[Value.agg
      #[Value.int IntKind.i64 (spendE l g x nd n).fst.g, Value.string (spendE l g x nd n).fst.ky,
      Value.int IntKind.i64 (spendE l g x nd n).fst.le, Value.int IntKind.i64 (spendE l g x nd n).fst.ne],
      Value.int IntKind.i64 (spendE l g x nd n).snd]))
      (Done
      (Value.tuple
      #[Value.agg #[Value.int IntKind.i64 g, Value.string x.key, Value.int IntKind.i64 n_2, Value.int IntKind.i64 n_7],
      Value.int IntKind.i64 (0 : Int)] =
      Value.tuple
      #[Value.agg
      #[Value.int IntKind.i64 (spendE l g x nd n).fst.g, Value.string (spendE l g x nd n).fst.ky,
      Value.int IntKind.i64 (spendE l g x nd n).fst.le, Value.int IntKind.i64 (spendE l g x nd n).fst.ne],
      Value.int IntKind.i64 (spendE l g x nd n).snd]))))) (by kernel_rfl) ?_
  have k1 := h1.sz hN
  have k2 := h2.sz hN
  refine ⟨rfl, _, _, _, _, _, holder_q al cl l g x a c nd n hl hx _ k1 k2, ?_⟩
  refine ifB_intro (fun q => ⟨?_⟩) (fun q => ?_)
  · have q : heldE l g x nd (decide (n = 0)) ≠ 0 := by simpa using q
    simp [spendE, q]; rfl
  have q : heldE l g x nd (decide (n = 0)) = 0 := by simpa using q
  have hh : heldH l g x nd (decide (n = 0)) = findH x nd := by simp [heldH, q]
  have hb : findB x nd = true := by
    unfold heldE at q
    split at q; · simp at q
    split at q; · simp at q
    split at q; · simp at q
    rename_i h; simpa using h
  have F := find_fact hx hb
  have hnet := net_in hlw g x.key (findH x nd).le
  have hup := F.up
  have hdn := F.dn
  rw [hh]
  refine ⟨_, lnet_q al cl l g x.key (findH x nd).le hl _ k1, _, _, add_q _ _ hnet hn _, ifB_intro (fun q2 => ⟨?_⟩) (fun q2 => ?_)⟩
  · have q2 : ¬ In64 (netR l g x.key (findH x nd).le + n) := by intro h; simp [addE, h] at q2
    have : inB (findH x nd) (netR l g x.key (findH x nd).le + n) = false := by
      unfold In64 at q2; simp [inB]; omega
    simp [spendE, q, this]; rfl
  have q2 : In64 (netR l g x.key (findH x nd).le + n) := by
    by_cases h : In64 (netR l g x.key (findH x nd).le + n)
    · exact h
    · simp [addE, h] at q2
  have ev : addV (netR l g x.key (findH x nd).le) n = netR l g x.key (findH x nd).le + n := by simp [addV, q2]
  rw [ev]
  refine ⟨_, within_q _ _ hdn _, ifB_intro (fun q3 => ⟨?_⟩) (fun q3 => ⟨?_⟩)⟩
  · have q3 : inB (findH x nd) (netR l g x.key (findH x nd).le + n) = false := by simpa using q3
    simp [spendE, q, q3]; rfl
  · have q3 : inB (findH x nd) (netR l g x.key (findH x nd).le + n) = true := by simpa using q3
    simp [spendE, q, q3]

theorem rspend_q (al : Option Addr) (cl : Nat) (l : List Rt) (g : Int) (x : Ac) (a : Option Addr) (c : Nat) (nd n : Int) (hl : l.length ≤ 9223372036854775807) (hlw : ∀ r ∈ l, r.wf) (hx : x.wf) (hn : In64 n) (m : M) (h1 : Row m al (rts l)) (h2 : Row m a (hds x.hs)) :
    QSpec Try.prog 25 [.slice al l.length cl, I g, acv x a c, I nd, I n] m (.tuple #[rtv (spendE l g x nd n).1, I (spendE l g x nd n).2]) := by
  refine QSpec.of_vc Try.func25 (ann := fun _ => noAnn) fun N hN => ?_
  refine vc_by (X :=
      true = true ∧
      ∃ (n_1 : Int),
      ∃ (n_2 : Int),
      ∃ (n_3 : Int),
      ∃ (n_4 : Int),
      ∃ (n_5 : Int),
      QSpec Try.prog (57 : Nat)
      [Value.slice al l.length cl, Value.int IntKind.i64 g,
      Value.agg
      #[Value.string x.key, Value.int IntKind.i64 x.lo, Value.int IntKind.i64 x.hi, Value.int IntKind.i64 x.base, Value.int IntKind.i64 x.round,
      Value.slice a x.hs.length c, Value.int IntKind.i64 x.lk.cl, Value.int IntKind.i64 x.lk.sq, Value.int IntKind.i64 x.lk.hm, Value.int IntKind.i64 x.lk.n],
      Value.int IntKind.i64 nd, Value.bool (n == (0 : Int))]
      { π := m.π, sz := N, uf := m.uf : M }
      (Value.tuple
      #[Value.agg #[Value.int IntKind.i64 n_1, Value.int IntKind.i64 n_2, Value.int IntKind.i64 n_3, Value.int IntKind.i64 n_4], Value.int IntKind.i64 n_5]) ∧
      ifB (n_5 != (0 : Int))
      (Done
      (Value.tuple
      #[Value.agg #[Value.int IntKind.i64 (0 : Int), Value.string { data := #[] : ByteArray }, Value.int IntKind.i64 (0 : Int), Value.int IntKind.i64 (0 : Int)],
      Value.int IntKind.i64 n_5] =
      Value.tuple
      #[Value.agg
      #[Value.int IntKind.i64 (spendE l g x nd n).fst.g, Value.string (spendE l g x nd n).fst.ky, Value.int IntKind.i64 (spendE l g x nd n).fst.le,
      Value.int IntKind.i64 (spendE l g x nd n).fst.ne],
      Value.int IntKind.i64 (spendE l g x nd n).snd]))
      (∃ (n_6 : Int),
      QSpec Try.prog (17 : Nat) [Value.slice al l.length cl, Value.int IntKind.i64 g, Value.string x.key, Value.int IntKind.i64 n_2]
      { π := m.π, sz := N, uf := m.uf : M } (Value.int IntKind.i64 n_6) ∧
      ∃ (b : Bool),
      QSpec Try.prog (58 : Nat)
      [Value.agg #[Value.int IntKind.i64 n_1, Value.int IntKind.i64 n_2, Value.int IntKind.i64 n_3, Value.int IntKind.i64 n_4], Value.int IntKind.i64 n_6,
      Value.int IntKind.i64 n]
      { π := m.π, sz := N, uf := m.uf : M } (Value.bool b) ∧
      ifB (!b)
      (Done
      (Value.tuple
      #[Value.agg
      #[Value.int IntKind.i64 (0 : Int), Value.string { data := #[] : ByteArray }, Value.int IntKind.i64 (0 : Int), Value.int IntKind.i64 (0 : Int)],
      Value.int IntKind.i64 (150 : Int)] =
      Value.tuple
      #[Value.agg
      #[Value.int IntKind.i64 (spendE l g x nd n).fst.g, Value.string (spendE l g x nd n).fst.ky, Value.int IntKind.i64 (spendE l g x nd n).fst.le,
      Value.int IntKind.i64 (spendE l g x nd n).fst.ne],
      Value.int IntKind.i64 (spendE l g x nd n).snd]))
      (Done
      (Value.tuple
      #[Value.agg #[Value.int IntKind.i64 g, Value.string x.key, Value.int IntKind.i64 n_2, Value.int IntKind.i64 (IntKind.i64.wrap (n_6 + n))],
      Value.int IntKind.i64 (0 : Int)] =
      Value.tuple
      #[Value.agg
      #[Value.int IntKind.i64 (spendE l g x nd n).fst.g, Value.string (spendE l g x nd n).fst.ky, Value.int IntKind.i64 (spendE l g x nd n).fst.le,
      Value.int IntKind.i64 (spendE l g x nd n).fst.ne],
      Value.int IntKind.i64 (spendE l g x nd n).snd])))) (by kernel_rfl) ?_
  have k1 := h1.sz hN
  have k2 := h2.sz hN
  refine ⟨rfl, _, _, _, _, _, held_q al cl l g x a c nd (decide (n = 0)) hl hx _ k1 k2, ?_⟩
  refine ifB_intro (fun q => ⟨?_⟩) (fun q => ?_)
  · have q : heldE l g x nd (decide (n = 0)) ≠ 0 := by simpa using q
    simp [spendE, q]; rfl
  have q : heldE l g x nd (decide (n = 0)) = 0 := by simpa using q
  have hh : heldH l g x nd (decide (n = 0)) = findH x nd := by simp [heldH, q]
  have hb : findB x nd = true := by
    unfold heldE at q
    split at q; · simp at q
    split at q; · simp at q
    split at q; · simp at q
    rename_i h; simpa using h
  have F := find_fact hx hb
  have hnet := net_in hlw g x.key (findH x nd).le
  have hup := F.up
  have hdn := F.dn
  rw [hh]
  refine ⟨_, rnet_q al cl l g x.key (findH x nd).le hl _ k1, _, rwithin_q _ _ _ (by unfold In64; omega) hdn hnet hn _, ifB_intro (fun q3 => ⟨?_⟩) (fun q3 => ⟨?_⟩)⟩
  · have q3 : inB (findH x nd) (netR l g x.key (findH x nd).le + n) = false := by simpa using q3
    simp [spendE, q, q3]; rfl
  · have q3 : inB (findH x nd) (netR l g x.key (findH x nd).le + n) = true := by simpa using q3
    have w : IntKind.i64.wrap (netR l g x.key (findH x nd).le + n) = netR l g x.key (findH x nd).le + n := by
      simp [inB] at q3; simp [IntKind.wrap_i64]; omega
    simp [spendE, q, q3, w]

end Go.Proofs.Ytfkielfnceeedaa
set_option linter.unusedVariables false
set_option linter.unusedSimpArgs false
namespace Go.Proofs.Ytfkielfnceeedaa
open Go.Vc Go.RowKit
set_option maxRecDepth 100000

/-- the two numbers between which the total lies -/
def brackE (l : List Rt) (g : Int) (x : Ac) (nd : Int) : Int × Int × Int :=
  if heldE l g x nd false ≠ 0 then (0, 0, heldE l g x nd false) else
  if inB (findH x nd) (netR l g x.key (findH x nd).le) = false then (0, 0, 150) else
  (x.lo + (findH x nd).dn + netR l g x.key (findH x nd).le, x.hi - (findH x nd).up + netR l g x.key (findH x nd).le, 0)

theorem lbracket_q (al : Option Addr) (cl : Nat) (l : List Rt) (g : Int) (x : Ac) (a : Option Addr) (c : Nat) (nd : Int) (hl : l.length ≤ 9223372036854775807) (hlw : ∀ r ∈ l, r.wf) (hx : x.wf) (m : M) (h1 : Row m al (rts l)) (h2 : Row m a (hds x.hs)) :
    QSpec Try.prog 26 [.slice al l.length cl, I g, acv x a c, I nd] m (.tuple #[I (brackE l g x nd).1, I (brackE l g x nd).2.1, I (brackE l g x nd).2.2]) := by
  refine QSpec.of_vc Try.func26 (ann := fun _ => noAnn) fun N hN => ?_
  refine vc_by (X :=
      true = true ∧
      ∃ (n : Int),
      ∃ (n_1 : Int),
      ∃ (n_2 : Int),
      ∃ (n_3 : Int),
      ∃ (n_4 : Int),
      QSpec Try.prog (54 : Nat)
      [Value.slice al l.length cl, Value.int IntKind.i64 g,
      Value.agg
      #[Value.string x.key, Value.int IntKind.i64 x.lo, Value.int IntKind.i64 x.hi, Value.int IntKind.i64 x.base, Value.int IntKind.i64 x.round,
      Value.slice a x.hs.length c, Value.int IntKind.i64 x.lk.cl, Value.int IntKind.i64 x.lk.sq, Value.int IntKind.i64 x.lk.hm, Value.int IntKind.i64 x.lk.n],
      Value.int IntKind.i64 nd, Value.int IntKind.i64 (1 : Int)]
      { π := m.π, sz := N, uf := m.uf : M }
      (Value.tuple #[Value.agg #[Value.int IntKind.i64 n, Value.int IntKind.i64 n_1, Value.int IntKind.i64 n_2, Value.int IntKind.i64 n_3], Value.int IntKind.i64 n_4]) ∧
      ifB (n_4 != (0 : Int))
      (Done
      (Value.tuple #[Value.int IntKind.i64 (0 : Int), Value.int IntKind.i64 (0 : Int), Value.int IntKind.i64 n_4] =
      Value.tuple #[Value.int IntKind.i64 (brackE l g x nd).fst, Value.int IntKind.i64 (brackE l g x nd).snd.fst, Value.int IntKind.i64 (brackE l g x nd).snd.snd]))
      (∃ (n_5 : Int),
      QSpec Try.prog (16 : Nat) [Value.slice al l.length cl, Value.int IntKind.i64 g, Value.string x.key, Value.int IntKind.i64 n_1]
      { π := m.π, sz := N, uf := m.uf : M } (Value.int IntKind.i64 n_5) ∧
      ∃ (b : Bool),
      QSpec Try.prog (56 : Nat)
      [Value.agg #[Value.int IntKind.i64 n, Value.int IntKind.i64 n_1, Value.int IntKind.i64 n_2, Value.int IntKind.i64 n_3], Value.int IntKind.i64 n_5]
      { π := m.π, sz := N, uf := m.uf : M } (Value.bool b) ∧
      ifB (!b)
      (Done
      (Value.tuple #[Value.int IntKind.i64 (0 : Int), Value.int IntKind.i64 (0 : Int), Value.int IntKind.i64 (150 : Int)] =
      Value.tuple
      #[Value.int IntKind.i64 (brackE l g x nd).fst, Value.int IntKind.i64 (brackE l g x nd).snd.fst, Value.int IntKind.i64 (brackE l g x nd).snd.snd]))
      (true = true ∧
      ∀ (b : Nat),
      N ≤ b →
      ∃ (n : Int),
      ∃ (n_6 : Int),
      QSpec Try.prog (59 : Nat) [Value.slice (some { block := b, off := (0 : Nat) : Addr }) (3 : Nat) (3 : Nat)]
      ({ π := m.π, sz := N, uf := m.uf : M }.newBlock b [Value.int IntKind.i64 x.lo, Value.int IntKind.i64 n_3, Value.int IntKind.i64 n_5])
      (Value.tuple #[Value.int IntKind.i64 n, Value.int IntKind.i64 n_6]) ∧
      true = true ∧
      ∀ (b_1 : Nat),
      max N (b + (1 : Nat)) ≤ b_1 →
      ∃ (n_7 : Int),
      ∃ (n_8 : Int),
      QSpec Try.prog (59 : Nat) [Value.slice (some { block := b_1, off := (0 : Nat) : Addr }) (3 : Nat) (3 : Nat)]
      (({ π := m.π, sz := N, uf := m.uf : M }.newBlock b
      [Value.int IntKind.i64 x.lo, Value.int IntKind.i64 n_3, Value.int IntKind.i64 n_5]).newBlock
      b_1 [Value.int IntKind.i64 x.hi, Value.int IntKind.i64 (IntKind.i64.wrap ((0 : Int) - n_2)), Value.int IntKind.i64 n_5])
      (Value.tuple #[Value.int IntKind.i64 n_7, Value.int IntKind.i64 n_8]) ∧
      ifB (n_6 != (0 : Int))
      (Done
      (Value.tuple #[Value.int IntKind.i64 (0 : Int), Value.int IntKind.i64 (0 : Int), Value.int IntKind.i64 (150 : Int)] =
      Value.tuple
      #[Value.int IntKind.i64 (brackE l g x nd).fst, Value.int IntKind.i64 (brackE l g x nd).snd.fst,
      Value.int IntKind.i64 (brackE l g x nd).snd.snd]))
      (ifB (n_8 != (0 : Int))
      (Done
      (Value.tuple #[Value.int IntKind.i64 (0 : Int), Value.int IntKind.i64 (0 : Int), Value.int IntKind.i64 (150 : Int)] =
      Value.tuple
      #[Value.int IntKind.i64 (brackE l g x nd).fst, Value.int IntKind.i64 (brackE l g x nd).snd.fst,
      Value.int IntKind.i64 (brackE l g x nd).snd.snd]))
      (Done
      (Value.tuple #[Value.int IntKind.i64 n, Value.int IntKind.i64 n_7, Value.int IntKind.i64 (0 : Int)] =
      Value.tuple
      #[Value.int IntKind.i64 (brackE l g x nd).fst, Value.int IntKind.i64 (brackE l g x nd).snd.fst,
      Value.int IntKind.i64 (brackE l g x nd).snd.snd])))))) (by kernel_rfl) ?_
  have k1 := h1.sz hN
  have k2 := h2.sz hN
  have hq := holder_q al cl l g x a c nd 1 hl hx _ k1 k2
  have e10 : (decide ((1 : Int) = 0)) = false := by simp
  rw [e10] at hq
  refine ⟨rfl, _, _, _, _, _, hq, ?_⟩
  refine ifB_intro (fun q => ⟨?_⟩) (fun q => ?_)
  · have q : heldE l g x nd false ≠ 0 := by simpa using q
    simp [brackE, q]
  have q : heldE l g x nd false = 0 := by simpa using q
  have hh : heldH l g x nd false = findH x nd := by simp [heldH, q]
  have hb : findB x nd = true := by
    unfold heldE at q
    split at q; · simp at q
    split at q; · simp at q
    split at q; · simp at q
    rename_i h; simpa using h
  have F := find_fact hx hb
  have hnet := net_in hlw g x.key (findH x nd).le
  have hup := F.up
  have hdn := F.dn
  have hlo := hx.lo
  have hhi := hx.hi
  have hba := hx.base
  have fhi := F.hi
  have flo := F.lo
  have w : IntKind.i64.wrap (0 - (findH x nd).up) = -(findH x nd).up := by simp [IntKind.wrap_i64]; omega
  rw [hh]
  rw [w]
  refine ⟨_, lnet_q al cl l g x.key (findH x nd).le hl _ k1, ?_⟩
  generalize hnv : netR l g x.key (findH x nd).le = nv at *
  refine ⟨_, within_q _ _ hdn _, ifB_intro (fun q3 => ⟨?_⟩) (fun q3 => ?_)⟩
  · have q3 : inB (findH x nd) nv = false := by simpa using q3
    simp [brackE, q, hnv, q3]
  have q3 : inB (findH x nd) nv = true := by simpa using q3
  have q4 : -(findH x nd).dn ≤ nv ∧ nv ≤ (findH x nd).up := by simp [inB] at q3; omega
  have s1 : sumI [x.lo, (findH x nd).dn, nv] = x.lo + (findH x nd).dn + nv := by simp [sumI]
  have s2 : sumI [x.hi, -(findH x nd).up, nv] = x.hi - (findH x nd).up + nv := by simp [sumI]; omega
  have i1 : In64 (x.lo + (findH x nd).dn + nv) := by unfold In64 at *; omega
  have i2 : In64 (x.hi - (findH x nd).up + nv) := by unfold In64 at *; omega
  refine ⟨rfl, fun b hb => ?_⟩
  have g1 := sum_q (some ⟨b, 0, none⟩) 3 [x.lo, (findH x nd).dn, nv] (fun y hy => by
    simp at hy
    rcases hy with rfl | rfl | rfl
    · exact hlo
    · unfold In64; omega
    · exact hnet) (by simp) _ (Row.new (m := { m with sz := N }))
  rw [s1, if_pos i1, if_pos i1] at g1
  refine ⟨_, _, g1, rfl, fun b2 hb2 => ?_⟩
  have g2 := sum_q (some ⟨b2, 0, none⟩) 3 [x.hi, -(findH x nd).up, nv] (fun y hy => by
    simp at hy
    rcases hy with rfl | rfl | rfl
    · exact hhi
    · unfold In64; omega
    · exact hnet) (by simp) _ (Row.new (m := (({ m with sz := N } : M).newBlock b [I x.lo, I (findH x nd).dn, I nv])))
  rw [s2, if_pos i2, if_pos i2] at g2
  exact ⟨_, _, g2, ifB_false (ifB_false ⟨by simp [brackE, q, hnv, q3]⟩)⟩

theorem rbracket_q (al : Option Addr) (cl : Nat) (l : List Rt) (g : Int) (x : Ac) (a : Option Addr) (c : Nat) (nd : Int) (hl : l.length ≤ 9223372036854775807) (hlw : ∀ r ∈ l, r.wf) (hx : x.wf) (m : M) (h1 : Row m al (rts l)) (h2 : Row m a (hds x.hs)) :
    QSpec Try.prog 27 [.slice al l.length cl, I g, acv x a c, I nd] m (.tuple #[I (brackE l g x nd).1, I (brackE l g x nd).2.1, I (brackE l g x nd).2.2]) := by
  refine QSpec.of_vc Try.func27 (ann := fun _ => noAnn) fun N hN => ?_
  refine vc_by (X :=
      true = true ∧
      ∃ (n : Int),
      ∃ (n_1 : Int),
      ∃ (n_2 : Int),
      ∃ (n_3 : Int),
      ∃ (n_4 : Int),
      QSpec Try.prog (57 : Nat)
      [Value.slice al l.length cl, Value.int IntKind.i64 g,
      Value.agg
      #[Value.string x.key, Value.int IntKind.i64 x.lo, Value.int IntKind.i64 x.hi, Value.int IntKind.i64 x.base, Value.int IntKind.i64 x.round,
      Value.slice a x.hs.length c, Value.int IntKind.i64 x.lk.cl, Value.int IntKind.i64 x.lk.sq, Value.int IntKind.i64 x.lk.hm, Value.int IntKind.i64 x.lk.n],
      Value.int IntKind.i64 nd, Value.bool false]
      { π := m.π, sz := N, uf := m.uf : M }
      (Value.tuple #[Value.agg #[Value.int IntKind.i64 n, Value.int IntKind.i64 n_1, Value.int IntKind.i64 n_2, Value.int IntKind.i64 n_3], Value.int IntKind.i64 n_4]) ∧
      ifB (n_4 != (0 : Int))
      (Done
      (Value.tuple #[Value.int IntKind.i64 (0 : Int), Value.int IntKind.i64 (0 : Int), Value.int IntKind.i64 n_4] =
      Value.tuple #[Value.int IntKind.i64 (brackE l g x nd).fst, Value.int IntKind.i64 (brackE l g x nd).snd.fst, Value.int IntKind.i64 (brackE l g x nd).snd.snd]))
      (∃ (n_5 : Int),
      QSpec Try.prog (17 : Nat) [Value.slice al l.length cl, Value.int IntKind.i64 g, Value.string x.key, Value.int IntKind.i64 n_1]
      { π := m.π, sz := N, uf := m.uf : M } (Value.int IntKind.i64 n_5) ∧
      ∃ (b : Bool),
      QSpec Try.prog (58 : Nat)
      [Value.agg #[Value.int IntKind.i64 n, Value.int IntKind.i64 n_1, Value.int IntKind.i64 n_2, Value.int IntKind.i64 n_3], Value.int IntKind.i64 n_5,
      Value.int IntKind.i64 (0 : Int)]
      { π := m.π, sz := N, uf := m.uf : M } (Value.bool b) ∧
      ifB (!b)
      (Done
      (Value.tuple #[Value.int IntKind.i64 (0 : Int), Value.int IntKind.i64 (0 : Int), Value.int IntKind.i64 (150 : Int)] =
      Value.tuple
      #[Value.int IntKind.i64 (brackE l g x nd).fst, Value.int IntKind.i64 (brackE l g x nd).snd.fst, Value.int IntKind.i64 (brackE l g x nd).snd.snd]))
      (true = true ∧
      ∀ (b : Nat),
      N ≤ b →
      ∃ (n : Int),
      ∃ (n_6 : Int),
      QSpec Try.prog (60 : Nat) [Value.slice (some { block := b, off := (0 : Nat) : Addr }) (3 : Nat) (3 : Nat)]
      ({ π := m.π, sz := N, uf := m.uf : M }.newBlock b [Value.int IntKind.i64 x.lo, Value.int IntKind.i64 n_3, Value.int IntKind.i64 n_5])
      (Value.agg #[Value.int IntKind.i64 n, Value.int IntKind.u64 n_6]) ∧
      ∃ (n_7 : Int),
      ∃ (b_1 : Bool),
      QSpec Try.prog (61 : Nat) [Value.agg #[Value.int IntKind.i64 n, Value.int IntKind.u64 n_6]]
      ({ π := m.π, sz := N, uf := m.uf : M }.newBlock b [Value.int IntKind.i64 x.lo, Value.int IntKind.i64 n_3, Value.int IntKind.i64 n_5])
      (Value.tuple #[Value.int IntKind.i64 n_7, Value.bool b_1]) ∧
      true = true ∧
      (true = true ∧
      ∀ (b_2 : Nat),
      max N (b + (1 : Nat)) ≤ b_2 →
      MLe
      ({ π := m.π, sz := N, uf := m.uf : M }.newBlock b
      [Value.int IntKind.i64 x.lo, Value.int IntKind.i64 n_3, Value.int IntKind.i64 n_5])
      (({ π := m.π, sz := N, uf := m.uf : M }.newBlock b
      [Value.int IntKind.i64 x.lo, Value.int IntKind.i64 n_3, Value.int IntKind.i64 n_5]).newBlock
      b_2 [Value.int IntKind.i64 x.hi, Value.int IntKind.i64 n_5]) ∧
      ∃ (n : Int),
      ∃ (n_8 : Int),
      QSpec Try.prog (60 : Nat) [Value.slice (some { block := b_2, off := (0 : Nat) : Addr }) (2 : Nat) (2 : Nat)]
      (({ π := m.π, sz := N, uf := m.uf : M }.newBlock b
      [Value.int IntKind.i64 x.lo, Value.int IntKind.i64 n_3, Value.int IntKind.i64 n_5]).newBlock
      b_2 [Value.int IntKind.i64 x.hi, Value.int IntKind.i64 n_5])
      (Value.agg #[Value.int IntKind.i64 n, Value.int IntKind.u64 n_8]) ∧
      ∃ (n_9 : Int),
      ∃ (n_10 : Int),
      QSpec Try.prog (62 : Nat)
      [Value.agg #[Value.int IntKind.i64 n, Value.int IntKind.u64 n_8], Value.int IntKind.i64 n_2]
      (({ π := m.π, sz := N, uf := m.uf : M }.newBlock b
      [Value.int IntKind.i64 x.lo, Value.int IntKind.i64 n_3, Value.int IntKind.i64 n_5]).newBlock
      b_2 [Value.int IntKind.i64 x.hi, Value.int IntKind.i64 n_5])
      (Value.agg #[Value.int IntKind.i64 n_9, Value.int IntKind.u64 n_10]) ∧
      ∃ (n : Int),
      ∃ (b_3 : Bool),
      QSpec Try.prog (61 : Nat) [Value.agg #[Value.int IntKind.i64 n_9, Value.int IntKind.u64 n_10]]
      (({ π := m.π, sz := N, uf := m.uf : M }.newBlock b
      [Value.int IntKind.i64 x.lo, Value.int IntKind.i64 n_3, Value.int IntKind.i64 n_5]).newBlock
      b_2 [Value.int IntKind.i64 x.hi, Value.int IntKind.i64 n_5])
      (Value.tuple #[Value.int IntKind.i64 n, Value.bool b_3]) ∧
      Done
      (Value.tuple #[Value.int IntKind.i64 n_7, Value.int IntKind.i64 n, Value.int IntKind.i64 (0 : Int)] =
      Value.tuple
      #[Value.int IntKind.i64 (brackE l g x nd).fst, Value.int IntKind.i64 (brackE l g x nd).snd.fst,
      Value.int IntKind.i64 (brackE l g x nd).snd.snd])) ∧
      True))) (by kernel_rfl) ?_
  have k1 := h1.sz hN
  have k2 := h2.sz hN
  refine ⟨rfl, _, _, _, _, _, held_q al cl l g x a c nd false hl hx _ k1 k2, ?_⟩
  refine ifB_intro (fun q => ⟨?_⟩) (fun q => ?_)
  · have q : heldE l g x nd false ≠ 0 := by simpa using q
    simp [brackE, q]
  have q : heldE l g x nd false = 0 := by simpa using q
  have hh : heldH l g x nd false = findH x nd := by simp [heldH, q]
  have hb : findB x nd = true := by
    unfold heldE at q
    split at q; · simp at q
    split at q; · simp at q
    split at q; · simp at q
    rename_i h; simpa using h
  have F := find_fact hx hb
  have hnet := net_in hlw g x.key (findH x nd).le
  have hup := F.up
  have hdn := F.dn
  have hlo := hx.lo
  have hhi := hx.hi
  have hba := hx.base
  have fhi := F.hi
  have flo := F.lo
  have w : IntKind.i64.wrap (0 - (findH x nd).up) = -(findH x nd).up := by simp [IntKind.wrap_i64]; omega
  rw [hh]
  refine ⟨_, rnet_q al cl l g x.key (findH x nd).le hl _ k1, ?_⟩
  generalize hnv : netR l g x.key (findH x nd).le = nv at *
  have hw := rwithin_q (findH x nd) nv 0 (by unfold In64; omega) hdn hnet (by simp [In64]) { m with sz := N }
  rw [Int.add_zero] at hw
  refine ⟨_, hw, ifB_intro (fun q3 => ⟨?_⟩) (fun q3 => ?_)⟩
  · have q3 : inB (findH x nd) nv = false := by simpa using q3
    simp [brackE, q, hnv, q3]
  have q3 : inB (findH x nd) nv = true := by simpa using q3
  have q4 : -(findH x nd).dn ≤ nv ∧ nv ≤ (findH x nd).up := by simp [inB] at q3; omega
  have s1 : sumI [x.lo, (findH x nd).dn, nv] = x.lo + (findH x nd).dn + nv := by simp [sumI]
  have s2 : sumI [x.hi, nv] - (findH x nd).up = x.hi - (findH x nd).up + nv := by simp [sumI]; omega
  have i1 : In64 (x.lo + (findH x nd).dn + nv) := by unfold In64 at *; omega
  have i2 : In64 (x.hi - (findH x nd).up + nv) := by unfold In64 at *; omega
  have j1 : -85070591730234615865843651857942052864 ≤ x.lo + (findH x nd).dn + nv ∧ x.lo + (findH x nd).dn + nv ≤ 85070591730234615865843651857942052864 := by unfold In64 at i1; omega
  have j2 : -85070591730234615865843651857942052864 ≤ x.hi - (findH x nd).up + nv ∧ x.hi - (findH x nd).up + nv ≤ 85070591730234615865843651857942052864 := by unfold In64 at i2; omega
  refine ⟨rfl, fun b hb => ?_⟩
  have g1 := of_q (some ⟨b, 0, none⟩) 3 [x.lo, (findH x nd).dn, nv] (fun y hy => by
    simp at hy
    rcases hy with rfl | rfl | rfl
    · exact hlo
    · unfold In64; omega
    · exact hnet) (by simp) _ (Row.new (m := { m with sz := N }))
  rw [s1] at g1
  refine ⟨_, _, g1, _, _, int_q _ j1.1 j1.2 _, rfl, ⟨rfl, fun b2 hb2 => ?_⟩, trivial⟩
  have g2 := of_q (some ⟨b2, 0, none⟩) 2 [x.hi, nv] (fun y hy => by
    simp at hy
    rcases hy with rfl | rfl
    · exact hhi
    · exact hnet) (by simp) _ (Row.new (m := (({ m with sz := N } : M).newBlock b [I x.lo, I (findH x nd).dn, I nv])))
  have g3 := less_q (sumI [x.hi, nv]) (findH x nd).up (by unfold In64; omega) (((({ m with sz := N } : M).newBlock b [I x.lo, I (findH x nd).dn, I nv])).newBlock b2 [I x.hi, I nv])
  rw [s2] at g3
  refine ⟨MLe.newBlock hb2, _, _, g2, _, _, g3, _, _, int_q _ j2.1 j2.2 _, ⟨?_⟩⟩
  have v1 : IntKind.i64.wrap (x.lo + (findH x nd).dn + nv) = x.lo + (findH x nd).dn + nv := by unfold In64 at i1; simp [IntKind.wrap_i64]; omega
  have v2 : IntKind.i64.wrap (x.hi - (findH x nd).up + nv) = x.hi - (findH x nd).up + nv := by unfold In64 at i2; simp [IntKind.wrap_i64]; omega
  simp [brackE, q, hnv, q3, i1, i2, v1, v2]

structure Cm where
  k : Int
  nd : Int
  ky : ByteArray
  le : Int
  ro : Int
  ne : Int

abbrev cmv (c : Cm) : Value := .agg #[I c.k, I 0, I 0, I 0, I c.nd, I 0, .string c.ky, I c.le, I c.ro, I c.ne, .bool false, I 0, .string .empty, .string .empty, I 0, I 0, I 0, I 0, I 0, I 0, .string .empty, .string .empty, I 0, I 0, .slice none 0 0]

def repB (l : List Rt) (g : Int) (x : Ac) (nd : Int) : Bool := ledB none l && findB x nd && decide (x.round ≠ 0) && groupB g

def repC (l : List Rt) (g : Int) (x : Ac) (nd : Int) : Cm := if repB l g x nd then ⟨2, nd, x.key, (findH x nd).le, x.round, netR l g x.key (findH x nd).le⟩ else ⟨0, 0, .empty, 0, 0, 0⟩

theorem lreport_q (al : Option Addr) (cl : Nat) (l : List Rt) (g : Int) (x : Ac) (a : Option Addr) (c : Nat) (nd : Int) (hl : l.length ≤ 9223372036854775807) (hx : x.wf) (m : M) (h1 : Row m al (rts l)) (h2 : Row m a (hds x.hs)) :
    QSpec Try.prog 28 [.slice al l.length cl, I g, acv x a c, I nd] m (.tuple #[cmv (repC l g x nd), .bool (repB l g x nd)]) := by
  refine QSpec.of_vc Try.func28 (ann := fun _ => noAnn) fun N hN => ?_
  refine vc_by (X :=
      true = true ∧
      ∃ (n : Int),
      QSpec Try.prog (14 : Nat) [Value.slice al l.length cl] { π := m.π, sz := N, uf := m.uf : M } (Value.int IntKind.i64 n) ∧
      ifB (n != (0 : Int))
      (Done
      (Value.tuple
      #[Value.agg
      #[Value.int IntKind.i64 (0 : Int), Value.int IntKind.i64 (0 : Int), Value.int IntKind.i64 (0 : Int), Value.int IntKind.i64 (0 : Int),
      Value.int IntKind.i64 (0 : Int), Value.int IntKind.i64 (0 : Int), Value.string { data := #[] : ByteArray }, Value.int IntKind.i64 (0 : Int),
      Value.int IntKind.i64 (0 : Int), Value.int IntKind.i64 (0 : Int), Value.bool false, Value.int IntKind.i64 (0 : Int), Value.string { data := #[] : ByteArray },
      Value.string { data := #[] : ByteArray }, Value.int IntKind.i64 (0 : Int), Value.int IntKind.i64 (0 : Int), Value.int IntKind.i64 (0 : Int),
      Value.int IntKind.i64 (0 : Int), Value.int IntKind.i64 (0 : Int), Value.int IntKind.i64 (0 : Int), Value.string { data := #[] : ByteArray },
      Value.string { data := #[] : ByteArray }, Value.int IntKind.i64 (0 : Int), Value.int IntKind.i64 (0 : Int), Value.slice none (0 : Nat) (0 : Nat)],
      Value.bool false] =
      Value.tuple
      #[Value.agg
      #[Value.int IntKind.i64 (repC l g x nd).k, Value.int IntKind.i64 (0 : Int), Value.int IntKind.i64 (0 : Int), Value.int IntKind.i64 (0 : Int),
      Value.int IntKind.i64 (repC l g x nd).nd, Value.int IntKind.i64 (0 : Int), Value.string (repC l g x nd).ky, Value.int IntKind.i64 (repC l g x nd).le,
      Value.int IntKind.i64 (repC l g x nd).ro, Value.int IntKind.i64 (repC l g x nd).ne, Value.bool false, Value.int IntKind.i64 (0 : Int),
      Value.string ByteArray.empty, Value.string ByteArray.empty, Value.int IntKind.i64 (0 : Int), Value.int IntKind.i64 (0 : Int), Value.int IntKind.i64 (0 : Int),
      Value.int IntKind.i64 (0 : Int), Value.int IntKind.i64 (0 : Int), Value.int IntKind.i64 (0 : Int), Value.string ByteArray.empty, Value.string ByteArray.empty,
      Value.int IntKind.i64 (0 : Int), Value.int IntKind.i64 (0 : Int), Value.slice none (0 : Nat) (0 : Nat)],
      Value.bool (repB l g x nd)]))
      (∃ (n : Int),
      QSpec Try.prog (47 : Nat)
      [Value.agg
      #[Value.string x.key, Value.int IntKind.i64 x.lo, Value.int IntKind.i64 x.hi, Value.int IntKind.i64 x.base, Value.int IntKind.i64 x.round,
      Value.slice a x.hs.length c, Value.int IntKind.i64 x.lk.cl, Value.int IntKind.i64 x.lk.sq, Value.int IntKind.i64 x.lk.hm, Value.int IntKind.i64 x.lk.n]]
      { π := m.π, sz := N, uf := m.uf : M } (Value.int IntKind.i64 n) ∧
      ifB (n != (0 : Int))
      (Done
      (Value.tuple
      #[Value.agg
      #[Value.int IntKind.i64 (0 : Int), Value.int IntKind.i64 (0 : Int), Value.int IntKind.i64 (0 : Int), Value.int IntKind.i64 (0 : Int),
      Value.int IntKind.i64 (0 : Int), Value.int IntKind.i64 (0 : Int), Value.string { data := #[] : ByteArray }, Value.int IntKind.i64 (0 : Int),
      Value.int IntKind.i64 (0 : Int), Value.int IntKind.i64 (0 : Int), Value.bool false, Value.int IntKind.i64 (0 : Int),
      Value.string { data := #[] : ByteArray }, Value.string { data := #[] : ByteArray }, Value.int IntKind.i64 (0 : Int), Value.int IntKind.i64 (0 : Int),
      Value.int IntKind.i64 (0 : Int), Value.int IntKind.i64 (0 : Int), Value.int IntKind.i64 (0 : Int), Value.int IntKind.i64 (0 : Int),
      Value.string { data := #[] : ByteArray }, Value.string { data := #[] : ByteArray }, Value.int IntKind.i64 (0 : Int), Value.int IntKind.i64 (0 : Int),
      Value.slice none (0 : Nat) (0 : Nat)],
      Value.bool false] =
      Value.tuple
      #[Value.agg
      #[Value.int IntKind.i64 (repC l g x nd).k, Value.int IntKind.i64 (0 : Int), Value.int IntKind.i64 (0 : Int), Value.int IntKind.i64 (0 : Int),
      Value.int IntKind.i64 (repC l g x nd).nd, Value.int IntKind.i64 (0 : Int), Value.string (repC l g x nd).ky, Value.int IntKind.i64 (repC l g x nd).le,
      Value.int IntKind.i64 (repC l g x nd).ro, Value.int IntKind.i64 (repC l g x nd).ne, Value.bool false, Value.int IntKind.i64 (0 : Int),
      Value.string ByteArray.empty, Value.string ByteArray.empty, Value.int IntKind.i64 (0 : Int), Value.int IntKind.i64 (0 : Int),
      Value.int IntKind.i64 (0 : Int), Value.int IntKind.i64 (0 : Int), Value.int IntKind.i64 (0 : Int), Value.int IntKind.i64 (0 : Int),
      Value.string ByteArray.empty, Value.string ByteArray.empty, Value.int IntKind.i64 (0 : Int), Value.int IntKind.i64 (0 : Int),
      Value.slice none (0 : Nat) (0 : Nat)],
      Value.bool (repB l g x nd)]))
      (ifB (x.round == (0 : Int))
      (Done
      (Value.tuple
      #[Value.agg
      #[Value.int IntKind.i64 (0 : Int), Value.int IntKind.i64 (0 : Int), Value.int IntKind.i64 (0 : Int), Value.int IntKind.i64 (0 : Int),
      Value.int IntKind.i64 (0 : Int), Value.int IntKind.i64 (0 : Int), Value.string { data := #[] : ByteArray }, Value.int IntKind.i64 (0 : Int),
      Value.int IntKind.i64 (0 : Int), Value.int IntKind.i64 (0 : Int), Value.bool false, Value.int IntKind.i64 (0 : Int),
      Value.string { data := #[] : ByteArray }, Value.string { data := #[] : ByteArray }, Value.int IntKind.i64 (0 : Int), Value.int IntKind.i64 (0 : Int),
      Value.int IntKind.i64 (0 : Int), Value.int IntKind.i64 (0 : Int), Value.int IntKind.i64 (0 : Int), Value.int IntKind.i64 (0 : Int),
      Value.string { data := #[] : ByteArray }, Value.string { data := #[] : ByteArray }, Value.int IntKind.i64 (0 : Int), Value.int IntKind.i64 (0 : Int),
      Value.slice none (0 : Nat) (0 : Nat)],
      Value.bool false] =
      Value.tuple
      #[Value.agg
      #[Value.int IntKind.i64 (repC l g x nd).k, Value.int IntKind.i64 (0 : Int), Value.int IntKind.i64 (0 : Int), Value.int IntKind.i64 (0 : Int),
      Value.int IntKind.i64 (repC l g x nd).nd, Value.int IntKind.i64 (0 : Int), Value.string (repC l g x nd).ky, Value.int IntKind.i64 (repC l g x nd).le,
      Value.int IntKind.i64 (repC l g x nd).ro, Value.int IntKind.i64 (repC l g x nd).ne, Value.bool false, Value.int IntKind.i64 (0 : Int),
      Value.string ByteArray.empty, Value.string ByteArray.empty, Value.int IntKind.i64 (0 : Int), Value.int IntKind.i64 (0 : Int),
      Value.int IntKind.i64 (0 : Int), Value.int IntKind.i64 (0 : Int), Value.int IntKind.i64 (0 : Int), Value.int IntKind.i64 (0 : Int),
      Value.string ByteArray.empty, Value.string ByteArray.empty, Value.int IntKind.i64 (0 : Int), Value.int IntKind.i64 (0 : Int),
      Value.slice none (0 : Nat) (0 : Nat)],
      Value.bool (repB l g x nd)]))
      (∃ (b : Bool),
      QSpec Try.prog (63 : Nat) [Value.int IntKind.i64 g] { π := m.π, sz := N, uf := m.uf : M } (Value.bool b) ∧
      ifB (!b)
      (Done
      (Value.tuple
      #[Value.agg
      #[Value.int IntKind.i64 (0 : Int), Value.int IntKind.i64 (0 : Int), Value.int IntKind.i64 (0 : Int), Value.int IntKind.i64 (0 : Int),
      Value.int IntKind.i64 (0 : Int), Value.int IntKind.i64 (0 : Int), Value.string { data := #[] : ByteArray }, Value.int IntKind.i64 (0 : Int),
      Value.int IntKind.i64 (0 : Int), Value.int IntKind.i64 (0 : Int), Value.bool false, Value.int IntKind.i64 (0 : Int),
      Value.string { data := #[] : ByteArray }, Value.string { data := #[] : ByteArray }, Value.int IntKind.i64 (0 : Int),
      Value.int IntKind.i64 (0 : Int), Value.int IntKind.i64 (0 : Int), Value.int IntKind.i64 (0 : Int), Value.int IntKind.i64 (0 : Int),
      Value.int IntKind.i64 (0 : Int), Value.string { data := #[] : ByteArray }, Value.string { data := #[] : ByteArray },
      Value.int IntKind.i64 (0 : Int), Value.int IntKind.i64 (0 : Int), Value.slice none (0 : Nat) (0 : Nat)],
      Value.bool false] =
      Value.tuple
      #[Value.agg
      #[Value.int IntKind.i64 (repC l g x nd).k, Value.int IntKind.i64 (0 : Int), Value.int IntKind.i64 (0 : Int), Value.int IntKind.i64 (0 : Int),
      Value.int IntKind.i64 (repC l g x nd).nd, Value.int IntKind.i64 (0 : Int), Value.string (repC l g x nd).ky,
      Value.int IntKind.i64 (repC l g x nd).le, Value.int IntKind.i64 (repC l g x nd).ro, Value.int IntKind.i64 (repC l g x nd).ne, Value.bool false,
      Value.int IntKind.i64 (0 : Int), Value.string ByteArray.empty, Value.string ByteArray.empty, Value.int IntKind.i64 (0 : Int),
      Value.int IntKind.i64 (0 : Int), Value.int IntKind.i64 (0 : Int), Value.int IntKind.i64 (0 : Int), Value.int IntKind.i64 (0 : Int),
      Value.int IntKind.i64 (0 : Int), Value.string ByteArray.empty, Value.string ByteArray.empty, Value.int IntKind.i64 (0 : Int),
      Value.int IntKind.i64 (0 : Int), Value.slice none (0 : Nat) (0 : Nat)],
      Value.bool (repB l g x nd)]))
      (∃ (n : Int),
      ∃ (n_1 : Int),
      ∃ (n_2 : Int),
      ∃ (n_3 : Int),
      ∃ (b : Bool),
      QSpec Try.prog (33 : Nat)
      [Value.agg
      #[Value.string x.key, Value.int IntKind.i64 x.lo, Value.int IntKind.i64 x.hi, Value.int IntKind.i64 x.base, Value.int IntKind.i64 x.round,
      Value.slice a x.hs.length c, Value.int IntKind.i64 x.lk.cl, Value.int IntKind.i64 x.lk.sq, Value.int IntKind.i64 x.lk.hm,
      Value.int IntKind.i64 x.lk.n],
      Value.int IntKind.i64 nd]
      { π := m.π, sz := N, uf := m.uf : M }
      (Value.tuple
      #[Value.agg #[Value.int IntKind.i64 n, Value.int IntKind.i64 n_1, Value.int IntKind.i64 n_2, Value.int IntKind.i64 n_3], Value.bool b]) ∧
      ifB (!b)
      (Done
      (Value.tuple
      #[Value.agg
      #[Value.int IntKind.i64 (0 : Int), Value.int IntKind.i64 (0 : Int), Value.int IntKind.i64 (0 : Int), Value.int IntKind.i64 (0 : Int),
      Value.int IntKind.i64 (0 : Int), Value.int IntKind.i64 (0 : Int), Value.string { data := #[] : ByteArray },
      Value.int IntKind.i64 (0 : Int), Value.int IntKind.i64 (0 : Int), Value.int IntKind.i64 (0 : Int), Value.bool false,
      Value.int IntKind.i64 (0 : Int), Value.string { data := #[] : ByteArray }, Value.string { data := #[] : ByteArray },
      Value.int IntKind.i64 (0 : Int), Value.int IntKind.i64 (0 : Int), Value.int IntKind.i64 (0 : Int), Value.int IntKind.i64 (0 : Int),
      Value.int IntKind.i64 (0 : Int), Value.int IntKind.i64 (0 : Int), Value.string { data := #[] : ByteArray },
      Value.string { data := #[] : ByteArray }, Value.int IntKind.i64 (0 : Int), Value.int IntKind.i64 (0 : Int),
      Value.slice none (0 : Nat) (0 : Nat)],
      Value.bool false] =
      Value.tuple
      #[Value.agg
      #[Value.int IntKind.i64 (repC l g x nd).k, Value.int IntKind.i64 (0 : Int), Value.int IntKind.i64 (0 : Int),
      Value.int IntKind.i64 (0 : Int), Value.int IntKind.i64 (repC l g x nd).nd, Value.int IntKind.i64 (0 : Int),
      Value.string (repC l g x nd).ky, Value.int IntKind.i64 (repC l g x nd).le, Value.int IntKind.i64 (repC l g x nd).ro,
      Value.int IntKind.i64 (repC l g x nd).ne, Value.bool false, Value.int IntKind.i64 (0 : Int), Value.string ByteArray.empty,
      Value.string ByteArray.empty, Value.int IntKind.i64 (0 : Int), Value.int IntKind.i64 (0 : Int), Value.int IntKind.i64 (0 : Int),
      Value.int IntKind.i64 (0 : Int), Value.int IntKind.i64 (0 : Int), Value.int IntKind.i64 (0 : Int), Value.string ByteArray.empty,
      Value.string ByteArray.empty, Value.int IntKind.i64 (0 : Int), Value.int IntKind.i64 (0 : Int),
      Value.slice none (0 : Nat) (0 : Nat)],
      Value.bool (repB l g x nd)]))
      (true = true ∧
      ∃ (n : Int),
      QSpec Try.prog (16 : Nat) [Value.slice al l.length cl, Value.int IntKind.i64 g, Value.string x.key, Value.int IntKind.i64 n_1]
      { π := m.π, sz := N, uf := m.uf : M } (Value.int IntKind.i64 n) ∧
      Done
      (Value.tuple
      #[Value.agg
      #[Value.int IntKind.i64 (2 : Int), Value.int IntKind.i64 (0 : Int), Value.int IntKind.i64 (0 : Int),
      Value.int IntKind.i64 (0 : Int), Value.int IntKind.i64 nd, Value.int IntKind.i64 (0 : Int), Value.string x.key,
      Value.int IntKind.i64 n_1, Value.int IntKind.i64 x.round, Value.int IntKind.i64 n, Value.bool false,
      Value.int IntKind.i64 (0 : Int), Value.string { data := #[] : ByteArray }, Value.string { data := #[] : ByteArray },
      Value.int IntKind.i64 (0 : Int), Value.int IntKind.i64 (0 : Int), Value.int IntKind.i64 (0 : Int),
      Value.int IntKind.i64 (0 : Int), Value.int IntKind.i64 (0 : Int), Value.int IntKind.i64 (0 : Int),
      Value.string { data := #[] : ByteArray }, Value.string { data := #[] : ByteArray }, Value.int IntKind.i64 (0 : Int),
      Value.int IntKind.i64 (0 : Int), Value.slice none (0 : Nat) (0 : Nat)],
      Value.bool true] =
      Value.tuple
      #[Value.agg
      #[Value.int IntKind.i64 (repC l g x nd).k, Value.int IntKind.i64 (0 : Int), Value.int IntKind.i64 (0 : Int),
      Value.int IntKind.i64 (0 : Int), Value.int IntKind.i64 (repC l g x nd).nd, Value.int IntKind.i64 (0 : Int),
      Value.string (repC l g x nd).ky, Value.int IntKind.i64 (repC l g x nd).le, Value.int IntKind.i64 (repC l g x nd).ro,
      Value.int IntKind.i64 (repC l g x nd).ne, Value.bool false, Value.int IntKind.i64 (0 : Int), Value.string ByteArray.empty,
      Value.string ByteArray.empty, Value.int IntKind.i64 (0 : Int), Value.int IntKind.i64 (0 : Int),
      Value.int IntKind.i64 (0 : Int), Value.int IntKind.i64 (0 : Int), Value.int IntKind.i64 (0 : Int),
      Value.int IntKind.i64 (0 : Int), Value.string ByteArray.empty, Value.string ByteArray.empty, Value.int IntKind.i64 (0 : Int),
      Value.int IntKind.i64 (0 : Int), Value.slice none (0 : Nat) (0 : Nat)],
      Value.bool (repB l g x nd)]))))))) (by kernel_rfl) ?_
  have k1 := h1.sz hN
  have k2 := h2.sz hN
  refine ⟨rfl, _, lcheck_q al cl l hl _ k1, ?_⟩
  cases ht : ledB none l
  · exact ifB_true ⟨by simp [repC, repB, ht]; rfl⟩
  refine ifB_false ⟨_, check_q x a c hx _ k2, ?_⟩
  cases hr : rightB x
  · have hb : findB x nd = false := by simp [findB, hr]
    exact ifB_true ⟨by simp [repC, repB, hb]; rfl⟩
  refine ifB_false (ifB_intro (fun q1 => ⟨?_⟩) (fun q1 => ⟨_, group_q g _, ifB_intro (fun q2 => ⟨?_⟩) (fun q2 => ⟨_, _, _, _, _, find_q x a c nd hx _ k2, ifB_intro (fun q3 => ⟨?_⟩) (fun q3 => ⟨rfl, _, lnet_q al cl l g x.key _ hl _ k1, ⟨?_⟩⟩)⟩)⟩))
  · have q1 : x.round = 0 := by simpa using q1
    simp [repC, repB, q1]; rfl
  all_goals have q1 : x.round ≠ 0 := by simpa using q1
  · have q2 : groupB g = false := by simp at q2; simp [groupB]; omega
    simp [repC, repB, q2]; rfl
  all_goals have q2 : groupB g = true := by simpa [groupB] using q2
  · have q3 : findB x nd = false := by simpa using q3
    simp [repC, repB, q3]; rfl
  · have q3 : findB x nd = true := by simpa using q3
    simp [repC, repB, ht, q1, q2, q3]; rfl

theorem rreport_q (al : Option Addr) (cl : Nat) (l : List Rt) (g : Int) (x : Ac) (a : Option Addr) (c : Nat) (nd : Int) (hl : l.length ≤ 9223372036854775807) (hx : x.wf) (m : M) (h1 : Row m al (rts l)) (h2 : Row m a (hds x.hs)) :
    QSpec Try.prog 29 [.slice al l.length cl, I g, acv x a c, I nd] m (.tuple #[cmv (repC l g x nd), .bool (repB l g x nd)]) := by
  refine QSpec.of_vc Try.func29 (ann := fun _ => noAnn) fun N hN => ?_
  refine vc_by (X :=
      true = true ∧
      ∃ (n : Int),
      ∃ (n_1 : Int),
      ∃ (n_2 : Int),
      ∃ (n_3 : Int),
      ∃ (b : Bool),
      QSpec Try.prog (52 : Nat)
      [Value.agg
      #[Value.string x.key, Value.int IntKind.i64 x.lo, Value.int IntKind.i64 x.hi, Value.int IntKind.i64 x.base, Value.int IntKind.i64 x.round,
      Value.slice a x.hs.length c, Value.int IntKind.i64 x.lk.cl, Value.int IntKind.i64 x.lk.sq, Value.int IntKind.i64 x.lk.hm, Value.int IntKind.i64 x.lk.n],
      Value.int IntKind.i64 nd]
      { π := m.π, sz := N, uf := m.uf : M }
      (Value.tuple #[Value.agg #[Value.int IntKind.i64 n, Value.int IntKind.i64 n_1, Value.int IntKind.i64 n_2, Value.int IntKind.i64 n_3], Value.bool b]) ∧
      ∃ (b_1 : Bool),
      QSpec Try.prog (10 : Nat) [Value.slice al l.length cl] { π := m.π, sz := N, uf := m.uf : M } (Value.bool b_1) ∧
      ifB (!b_1)
      (Done
      (Value.tuple
      #[Value.agg
      #[Value.int IntKind.i64 (0 : Int), Value.int IntKind.i64 (0 : Int), Value.int IntKind.i64 (0 : Int), Value.int IntKind.i64 (0 : Int),
      Value.int IntKind.i64 (0 : Int), Value.int IntKind.i64 (0 : Int), Value.string { data := #[] : ByteArray }, Value.int IntKind.i64 (0 : Int),
      Value.int IntKind.i64 (0 : Int), Value.int IntKind.i64 (0 : Int), Value.bool false, Value.int IntKind.i64 (0 : Int),
      Value.string { data := #[] : ByteArray }, Value.string { data := #[] : ByteArray }, Value.int IntKind.i64 (0 : Int),
      Value.int IntKind.i64 (0 : Int), Value.int IntKind.i64 (0 : Int), Value.int IntKind.i64 (0 : Int), Value.int IntKind.i64 (0 : Int),
      Value.int IntKind.i64 (0 : Int), Value.string { data := #[] : ByteArray }, Value.string { data := #[] : ByteArray },
      Value.int IntKind.i64 (0 : Int), Value.int IntKind.i64 (0 : Int), Value.slice none (0 : Nat) (0 : Nat)],
      Value.bool false] =
      Value.tuple
      #[Value.agg
      #[Value.int IntKind.i64 (repC l g x nd).k, Value.int IntKind.i64 (0 : Int), Value.int IntKind.i64 (0 : Int), Value.int IntKind.i64 (0 : Int),
      Value.int IntKind.i64 (repC l g x nd).nd, Value.int IntKind.i64 (0 : Int), Value.string (repC l g x nd).ky,
      Value.int IntKind.i64 (repC l g x nd).le, Value.int IntKind.i64 (repC l g x nd).ro, Value.int IntKind.i64 (repC l g x nd).ne, Value.bool false,
      Value.int IntKind.i64 (0 : Int), Value.string ByteArray.empty, Value.string ByteArray.empty, Value.int IntKind.i64 (0 : Int),
      Value.int IntKind.i64 (0 : Int), Value.int IntKind.i64 (0 : Int), Value.int IntKind.i64 (0 : Int), Value.int IntKind.i64 (0 : Int),
      Value.int IntKind.i64 (0 : Int), Value.string ByteArray.empty, Value.string ByteArray.empty, Value.int IntKind.i64 (0 : Int),
      Value.int IntKind.i64 (0 : Int), Value.slice none (0 : Nat) (0 : Nat)],
      Value.bool (repB l g x nd)]))
      (ifB (!b)
      (Done
      (Value.tuple
      #[Value.agg
      #[Value.int IntKind.i64 (0 : Int), Value.int IntKind.i64 (0 : Int), Value.int IntKind.i64 (0 : Int), Value.int IntKind.i64 (0 : Int),
      Value.int IntKind.i64 (0 : Int), Value.int IntKind.i64 (0 : Int), Value.string { data := #[] : ByteArray }, Value.int IntKind.i64 (0 : Int),
      Value.int IntKind.i64 (0 : Int), Value.int IntKind.i64 (0 : Int), Value.bool false, Value.int IntKind.i64 (0 : Int),
      Value.string { data := #[] : ByteArray }, Value.string { data := #[] : ByteArray }, Value.int IntKind.i64 (0 : Int),
      Value.int IntKind.i64 (0 : Int), Value.int IntKind.i64 (0 : Int), Value.int IntKind.i64 (0 : Int), Value.int IntKind.i64 (0 : Int),
      Value.int IntKind.i64 (0 : Int), Value.string { data := #[] : ByteArray }, Value.string { data := #[] : ByteArray },
      Value.int IntKind.i64 (0 : Int), Value.int IntKind.i64 (0 : Int), Value.slice none (0 : Nat) (0 : Nat)],
      Value.bool false] =
      Value.tuple
      #[Value.agg
      #[Value.int IntKind.i64 (repC l g x nd).k, Value.int IntKind.i64 (0 : Int), Value.int IntKind.i64 (0 : Int), Value.int IntKind.i64 (0 : Int),
      Value.int IntKind.i64 (repC l g x nd).nd, Value.int IntKind.i64 (0 : Int), Value.string (repC l g x nd).ky,
      Value.int IntKind.i64 (repC l g x nd).le, Value.int IntKind.i64 (repC l g x nd).ro, Value.int IntKind.i64 (repC l g x nd).ne, Value.bool false,
      Value.int IntKind.i64 (0 : Int), Value.string ByteArray.empty, Value.string ByteArray.empty, Value.int IntKind.i64 (0 : Int),
      Value.int IntKind.i64 (0 : Int), Value.int IntKind.i64 (0 : Int), Value.int IntKind.i64 (0 : Int), Value.int IntKind.i64 (0 : Int),
      Value.int IntKind.i64 (0 : Int), Value.string ByteArray.empty, Value.string ByteArray.empty, Value.int IntKind.i64 (0 : Int),
      Value.int IntKind.i64 (0 : Int), Value.slice none (0 : Nat) (0 : Nat)],
      Value.bool (repB l g x nd)]))
      (ifB (x.round == (0 : Int))
      (Done
      (Value.tuple
      #[Value.agg
      #[Value.int IntKind.i64 (0 : Int), Value.int IntKind.i64 (0 : Int), Value.int IntKind.i64 (0 : Int), Value.int IntKind.i64 (0 : Int),
      Value.int IntKind.i64 (0 : Int), Value.int IntKind.i64 (0 : Int), Value.string { data := #[] : ByteArray }, Value.int IntKind.i64 (0 : Int),
      Value.int IntKind.i64 (0 : Int), Value.int IntKind.i64 (0 : Int), Value.bool false, Value.int IntKind.i64 (0 : Int),
      Value.string { data := #[] : ByteArray }, Value.string { data := #[] : ByteArray }, Value.int IntKind.i64 (0 : Int),
      Value.int IntKind.i64 (0 : Int), Value.int IntKind.i64 (0 : Int), Value.int IntKind.i64 (0 : Int), Value.int IntKind.i64 (0 : Int),
      Value.int IntKind.i64 (0 : Int), Value.string { data := #[] : ByteArray }, Value.string { data := #[] : ByteArray },
      Value.int IntKind.i64 (0 : Int), Value.int IntKind.i64 (0 : Int), Value.slice none (0 : Nat) (0 : Nat)],
      Value.bool false] =
      Value.tuple
      #[Value.agg
      #[Value.int IntKind.i64 (repC l g x nd).k, Value.int IntKind.i64 (0 : Int), Value.int IntKind.i64 (0 : Int), Value.int IntKind.i64 (0 : Int),
      Value.int IntKind.i64 (repC l g x nd).nd, Value.int IntKind.i64 (0 : Int), Value.string (repC l g x nd).ky,
      Value.int IntKind.i64 (repC l g x nd).le, Value.int IntKind.i64 (repC l g x nd).ro, Value.int IntKind.i64 (repC l g x nd).ne, Value.bool false,
      Value.int IntKind.i64 (0 : Int), Value.string ByteArray.empty, Value.string ByteArray.empty, Value.int IntKind.i64 (0 : Int),
      Value.int IntKind.i64 (0 : Int), Value.int IntKind.i64 (0 : Int), Value.int IntKind.i64 (0 : Int), Value.int IntKind.i64 (0 : Int),
      Value.int IntKind.i64 (0 : Int), Value.string ByteArray.empty, Value.string ByteArray.empty, Value.int IntKind.i64 (0 : Int),
      Value.int IntKind.i64 (0 : Int), Value.slice none (0 : Nat) (0 : Nat)],
      Value.bool (repB l g x nd)]))
      (∃ (b : Bool),
      QSpec Try.prog (64 : Nat) [Value.int IntKind.i64 g] { π := m.π, sz := N, uf := m.uf : M } (Value.bool b) ∧
      ifB (!b)
      (Done
      (Value.tuple
      #[Value.agg
      #[Value.int IntKind.i64 (0 : Int), Value.int IntKind.i64 (0 : Int), Value.int IntKind.i64 (0 : Int), Value.int IntKind.i64 (0 : Int),
      Value.int IntKind.i64 (0 : Int), Value.int IntKind.i64 (0 : Int), Value.string { data := #[] : ByteArray },
      Value.int IntKind.i64 (0 : Int), Value.int IntKind.i64 (0 : Int), Value.int IntKind.i64 (0 : Int), Value.bool false,
      Value.int IntKind.i64 (0 : Int), Value.string { data := #[] : ByteArray }, Value.string { data := #[] : ByteArray },
      Value.int IntKind.i64 (0 : Int), Value.int IntKind.i64 (0 : Int), Value.int IntKind.i64 (0 : Int), Value.int IntKind.i64 (0 : Int),
      Value.int IntKind.i64 (0 : Int), Value.int IntKind.i64 (0 : Int), Value.string { data := #[] : ByteArray },
      Value.string { data := #[] : ByteArray }, Value.int IntKind.i64 (0 : Int), Value.int IntKind.i64 (0 : Int),
      Value.slice none (0 : Nat) (0 : Nat)],
      Value.bool false] =
      Value.tuple
      #[Value.agg
      #[Value.int IntKind.i64 (repC l g x nd).k, Value.int IntKind.i64 (0 : Int), Value.int IntKind.i64 (0 : Int),
      Value.int IntKind.i64 (0 : Int), Value.int IntKind.i64 (repC l g x nd).nd, Value.int IntKind.i64 (0 : Int),
      Value.string (repC l g x nd).ky, Value.int IntKind.i64 (repC l g x nd).le, Value.int IntKind.i64 (repC l g x nd).ro,
      Value.int IntKind.i64 (repC l g x nd).ne, Value.bool false, Value.int IntKind.i64 (0 : Int), Value.string ByteArray.empty,
      Value.string ByteArray.empty, Value.int IntKind.i64 (0 : Int), Value.int IntKind.i64 (0 : Int), Value.int IntKind.i64 (0 : Int),
      Value.int IntKind.i64 (0 : Int), Value.int IntKind.i64 (0 : Int), Value.int IntKind.i64 (0 : Int), Value.string ByteArray.empty,
      Value.string ByteArray.empty, Value.int IntKind.i64 (0 : Int), Value.int IntKind.i64 (0 : Int), Value.slice none (0 : Nat) (0 : Nat)],
      Value.bool (repB l g x nd)]))
      (true = true ∧
      ∃ (n : Int),
      QSpec Try.prog (17 : Nat) [Value.slice al l.length cl, Value.int IntKind.i64 g, Value.string x.key, Value.int IntKind.i64 n_1]
      { π := m.π, sz := N, uf := m.uf : M } (Value.int IntKind.i64 n) ∧
      Done
      (Value.tuple
      #[Value.agg
      #[Value.int IntKind.i64 (2 : Int), Value.int IntKind.i64 (0 : Int), Value.int IntKind.i64 (0 : Int), Value.int IntKind.i64 (0 : Int),
      Value.int IntKind.i64 nd, Value.int IntKind.i64 (0 : Int), Value.string x.key, Value.int IntKind.i64 n_1,
      Value.int IntKind.i64 x.round, Value.int IntKind.i64 n, Value.bool false, Value.int IntKind.i64 (0 : Int),
      Value.string { data := #[] : ByteArray }, Value.string { data := #[] : ByteArray }, Value.int IntKind.i64 (0 : Int),
      Value.int IntKind.i64 (0 : Int), Value.int IntKind.i64 (0 : Int), Value.int IntKind.i64 (0 : Int), Value.int IntKind.i64 (0 : Int),
      Value.int IntKind.i64 (0 : Int), Value.string { data := #[] : ByteArray }, Value.string { data := #[] : ByteArray },
      Value.int IntKind.i64 (0 : Int), Value.int IntKind.i64 (0 : Int), Value.slice none (0 : Nat) (0 : Nat)],
      Value.bool true] =
      Value.tuple
      #[Value.agg
      #[Value.int IntKind.i64 (repC l g x nd).k, Value.int IntKind.i64 (0 : Int), Value.int IntKind.i64 (0 : Int),
      Value.int IntKind.i64 (0 : Int), Value.int IntKind.i64 (repC l g x nd).nd, Value.int IntKind.i64 (0 : Int),
      Value.string (repC l g x nd).ky, Value.int IntKind.i64 (repC l g x nd).le, Value.int IntKind.i64 (repC l g x nd).ro,
      Value.int IntKind.i64 (repC l g x nd).ne, Value.bool false, Value.int IntKind.i64 (0 : Int), Value.string ByteArray.empty,
      Value.string ByteArray.empty, Value.int IntKind.i64 (0 : Int), Value.int IntKind.i64 (0 : Int), Value.int IntKind.i64 (0 : Int),
      Value.int IntKind.i64 (0 : Int), Value.int IntKind.i64 (0 : Int), Value.int IntKind.i64 (0 : Int), Value.string ByteArray.empty,
      Value.string ByteArray.empty, Value.int IntKind.i64 (0 : Int), Value.int IntKind.i64 (0 : Int),
      Value.slice none (0 : Nat) (0 : Nat)],
      Value.bool (repB l g x nd)])))))) (by kernel_rfl) ?_
  have k1 := h1.sz hN
  have k2 := h2.sz hN
  refine ⟨rfl, _, _, _, _, _, rfind_q x a c nd hx _ k2, _, rright_l al cl l hl _ k1, ?_⟩
  refine ifB_intro (fun q0 => ⟨?_⟩) (fun q0 => ifB_intro (fun q3 => ⟨?_⟩) (fun q3 => ifB_intro (fun q1 => ⟨?_⟩) (fun q1 => ⟨_, rgroup_q g _, ifB_intro (fun q2 => ⟨?_⟩) (fun q2 => ⟨rfl, _, rnet_q al cl l g x.key _ hl _ k1, ⟨?_⟩⟩)⟩)))
  · have q0 : ledB none l = false := by simpa using q0
    simp [repC, repB, q0]; rfl
  all_goals have q0 : ledB none l = true := by simpa using q0
  · have q3 : findB x nd = false := by simpa using q3
    simp [repC, repB, q3]; rfl
  all_goals have q3 : findB x nd = true := by simpa using q3
  · have q1 : x.round = 0 := by simpa using q1
    simp [repC, repB, q1]; rfl
  all_goals have q1 : x.round ≠ 0 := by simpa using q1
  · have q2 : groupB g = false := by simp at q2; simp [groupB]; omega
    simp [repC, repB, q2]; rfl
  · have q2 : groupB g = true := by simpa [groupB] using q2
    simp [repC, repB, q0, q1, q2, q3]; rfl

end Go.Proofs.Ytfkielfnceeedaa
