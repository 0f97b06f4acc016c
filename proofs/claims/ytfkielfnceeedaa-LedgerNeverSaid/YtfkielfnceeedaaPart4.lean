/-
  Contracts of functions of this seat: what each hands back, and what it leaves of memory (nev5, nev6, acc8, nev7). Nothing here is trusted: Lean checks it.
-/
import Derived.Test.YtfkielfnceeedaaPart3
import Derived.Test.YtfkielfnceeedaaPart1
set_option linter.unusedVariables false
set_option linter.unusedSimpArgs false
namespace Go.Proofs.Ytfkielfnceeedaa
open Go.Vc Go.RowKit
set_option maxRecDepth 100000

/-- what Put hands back stands in a block of its own -/
structure LnR (B : Nat) (y : List Rt × Int) (v : Value) (m' : M) : Prop where
  out : ∃ a' c', v = .tuple #[.slice a' y.1.length c', I y.2] ∧ Row m' a' (rts y.1) ∧ (y.1 ≠ [] → ∀ b o, a' = some ⟨b, o, none⟩ → B ≤ b)

theorem ln_fail {B : Nat} {m' : M} {y : List Rt × Int} {e : Int} (h : y = ([], e)) : Done (LnR B y (.tuple #[.slice none 0 0, I e]) m') := ⟨by subst h; exact ⟨none, 0, rfl, .nil _, fun h => absurd rfl h⟩⟩

theorem ln_ok {B : Nat} {m' : M} {y : List Rt × Int} {z : List Rt} {a' : Option Addr} {len c' : Nat} (h : y = (z, 0)) (hl : len = z.length) (hr : Row m' a' (rts z)) (hb : ∀ b o, a' = some ⟨b, o, none⟩ → B ≤ b) : Done (LnR B y (.tuple #[.slice a' len c', I 0]) m') := ⟨by subst h; subst hl; exact ⟨a', c', rfl, hr, fun _ => hb⟩⟩

theorem nput_s (a : Option Addr) (cp : Nat) (l : List Rt) (r : Rt) (hn : l.length ≤ 4194304) (m : M) (h : Row m a (rts l)) : Vc.Spec Try.prog 11 [.slice a l.length cp, rtv r] m (LnR m.sz (putE l r)) := by
  refine Vc.Spec.of_vc Try.func11 (ann := noAnn) ?_
  refine vc_by (X :=
      true = true ∧
      ∃ (n : Int),
      QSpec Try.prog (14 : Nat) [Value.slice a l.length cp] m (Value.int IntKind.i64 n) ∧
      ifB (n != (0 : Int)) (Done (LnR m.sz (putE l r) (Value.tuple #[Value.slice none (0 : Nat) (0 : Nat), Value.int IntKind.i64 (21 : Int)]) m))
      (∃ (b : Bool),
      QSpec Try.prog (41 : Nat) [Value.agg #[Value.int IntKind.i64 r.g, Value.string r.ky, Value.int IntKind.i64 r.le, Value.int IntKind.i64 r.ne]] m (Value.bool b) ∧
      ifB (!b) (Done (LnR m.sz (putE l r) (Value.tuple #[Value.slice none (0 : Nat) (0 : Nat), Value.int IntKind.i64 (1 : Int)]) m))
      (∃ (S' : Nat → Prop),
      (∀ (b : Nat), S' b → m.uf b ∧ (m.sz ≤ b ∨ False)) ∧
      ∀ (n : Nat),
      m.sz ≤ n →
      SpecW Try.prog (42 : Nat) [Value.slice a l.length cp] { π := m.π, sz := n, uf := m.uf : M } S' fun (v : Value) (m' : M) =>
      ∃ (a : Option Addr),
      ∃ (n : Nat),
      ∃ (c : Nat),
      v = Value.slice a n c ∧
      ∃ (n_1 : Int),
      ∃ (b : Bool),
      QSpec Try.prog (43 : Nat)
      [Value.slice a n c, Value.agg #[Value.int IntKind.i64 r.g, Value.string r.ky, Value.int IntKind.i64 r.le, Value.int IntKind.i64 r.ne],
      Value.func (Fn.func (44 : Nat)) #[] #[]]
      m' (Value.tuple #[Value.int IntKind.i64 n_1, Value.bool b]) ∧
      ifB b
      (∃ (b : Nat),
      ∃ (off : Nat),
      a = some { block := b, off := off : Addr } ∧
      ((0 : Int) ≤ n_1 ∧ n_1 < (↑n : Int)) ∧
      Wr m.sz (fun (x : Nat) => False) m' b (off + n_1.toNat * (4 : Nat))
      #[Value.int IntKind.i64 r.g, Value.string r.ky, Value.int IntKind.i64 r.le, Value.int IntKind.i64 r.ne].size ∧
      Done
      (LnR m.sz (putE l r) (Value.tuple #[Value.slice a n c, Value.int IntKind.i64 (0 : Int)])
      (m'.setCells b (off + n_1.toNat * (4 : Nat))
      [Value.int IntKind.i64 r.g, Value.string r.ky, Value.int IntKind.i64 r.le, Value.int IntKind.i64 r.ne])))
      (true = true ∧
      ∀ (b : Nat),
      m'.sz ≤ b →
      ∃ (S' : Nat → Prop),
      (∀ (b_1 : Nat),
      S' b_1 →
      (m'.newBlock b [Value.int IntKind.i64 r.g, Value.string r.ky, Value.int IntKind.i64 r.le, Value.int IntKind.i64 r.ne]).uf
      b_1 ∧
      (m.sz ≤ b_1 ∨ False)) ∧
      ∀ (n_2 : Nat),
      max m'.sz (b + (1 : Nat)) ≤ n_2 →
      SpecW Try.prog (45 : Nat)
      [Value.slice a n c, Value.int IntKind.i64 n_1,
      Value.slice (some { block := b, off := (0 : Nat) : Addr }) (1 : Nat) (1 : Nat)]
      { π := (m'.newBlock b [Value.int IntKind.i64 r.g, Value.string r.ky, Value.int IntKind.i64 r.le, Value.int IntKind.i64 r.ne]).π, sz := n_2, uf := (m'.newBlock b [Value.int IntKind.i64 r.g, Value.string r.ky, Value.int IntKind.i64 r.le, Value.int IntKind.i64 r.ne]).uf : M }
      S' fun (v : Value) (m' : M) =>
      ∃ (a : Option Addr),
      ∃ (n : Nat),
      ∃ (c : Nat),
      v = Value.slice a n c ∧
      Done (LnR m.sz (putE l r) (Value.tuple #[Value.slice a n c, Value.int IntKind.i64 (0 : Int)]) m'))))) (by kernel_rfl) ?_
  refine ⟨rfl, _, lcheck_q a cp l (by omega) _ h, ?_⟩
  cases ht : ledB none l
  · exact ifB_true (ln_fail (by simp [putE, ht]))
  refine ifB_false ⟨_, rmay_q r _, ?_⟩
  cases hr : rmayB r
  · exact ifB_true (ln_fail (by simp [putE, ht, hr]))
  have hres : putE l r = (putL l r, 0) := by simp [putE, ht, hr]
  have hple := rtP_le l r
  refine ifB_false ⟨_, noS, fun N hN => (rt_clone l a cp (by omega) (rt_none h) _ (h.sz hN)).monoW fun v m' hag ⟨a', c', hv, hr'⟩ => ⟨a', _, c', hv, ?_⟩⟩
  have hNm : N ≤ m'.sz := hag.2.2
  have hbs := rt_bsearch a' c' l r (fun x => ordR x r) (rtP l r) (by omega) m' hr'.row (fun x _ m'' => order_q x r m'') hple (fun k hk hp => by
      have := rtP_lt ht k hk hp
      rw [ord_bel, this]; simp) (fun k hk hp => by
      have := rtP_ge ht k hk hp
      show (0 : Int) ≤ ordR l[k] r
      rw [ord_bel, this]
      by_cases h5 : sameK l[k] r = true <;> simp [h5])
  rw [rtP_of ht] at hbs
  refine ⟨_, _, hbs, ?_⟩
  cases ho : ofR l r with
  | none =>
    have e := rtP_no ht ho
    refine ifB_false ⟨rfl, fun b hb => ?_⟩
    have hrN := hr'.newBlock (ds := encRt r) hb
    have hs := rt_insert a' c' l (rtP l r) b 0 1 r (fun b' => ∃ o, a' = some ⟨b', o, none⟩ ∧ (m'.newBlock b (encRt r)).uf b' ∧ m.sz ≤ b') (by omega) hple
    refine ⟨fun b' => ∃ o, a' = some ⟨b', o, none⟩ ∧ (m'.newBlock b (encRt r)).uf b' ∧ m.sz ≤ b', fun b' ⟨o, e, hu, hlo⟩ => ⟨hu, .inl hlo⟩, fun n hn => ?_⟩
    refine (hs { m'.newBlock b (encRt r) with sz := n } ((hrN.sz hn).re fun b' o e hu hlo => .inr ⟨o, e, hu, by rcases hlo with h | h; simp only at h; omega; exact h.elim⟩)
      (fun hne b' o e => ?_) (by simp only; omega) (.inl rfl) ⟨(cellsAt_new (m := m') (b := b) (cs := encRt r)).out⟩).mono fun v3 m3 hag3 ⟨a3, c3, hv3, hr3⟩ => ⟨a3, _, c3, hv3, ln_ok (z := putL l r) hres ?_ ?_ ?_⟩
    · have := (hr'.toOwn (fun e => hne (List.eq_nil_of_length_eq_zero e))).lt e
      omega
    · rw [← e]; simp; omega
    · rw [← e]; exact hr3.row
    · intro b' o' e2
      rcases (hr3.toOwn (by omega)).lo e2 with h1 | ⟨o, -, -, h1⟩
      · have h1 : n ≤ b' := h1
        have : max m'.sz (b + 1) ≤ n := hn
        omega
      · exact h1
  | some z =>
    obtain ⟨hk, hz, e⟩ := rtP_at ht ho
    have hown := (hr'.toOwn (by omega)).lower hN
    obtain ⟨b, o, rfl, hc⟩ := hown.row.cells (by rw [rt_len]; omega)
    obtain ⟨g1, g2⟩ := OwnB.setAt rt_k hown hk r
    refine ifB_true ⟨b, o, rfl, by omega, g1, ln_ok (z := putL l r) hres (by rw [← e]; simp) ?_ fun b' o' e2 => ?_⟩
    · rw [← e]; exact g2.row
    · rcases hown.lo e2 with h1 | h1
      · exact h1
      · exact h1.elim

/-- a node looks -/
theorem PtN.setS {b : Nat} {w : Nw} {q : Nq} {m : M} (h : PtN b w q m) {j : Int} (j1 : 1 ≤ j) (j3 : j ≤ 3) {B : Nat} {S : Nat → Prop} (hS : B ≤ b ∨ S b) :
    Wr B S m b (10 + j.toNat * 10) 10 ∧ PtN b (w.look j) { q with s := fun k => if k = j then q.a else q.s k, cs := fun k => if k = j then q.ca else q.cs k } (m.setCells b (10 + j.toNat * 10) (acc w.a q.a q.ca)) := by
  have hs : ∀ n : Int, 0 ≤ n → n ≤ 3 → RowA b m ((fun k => if k = j then q.a else q.s k) n) (hds ((w.look j).s n).hs) := fun n h0 h3 => by
    simp only [Nw.look]
    by_cases e : n = j
    · rw [if_pos e, if_pos e]; exact h.a
    · rw [if_neg e, if_neg e]; exact h.s n h0 h3
  have hx : ∀ z o, q.r = some ⟨z, o, none⟩ → q.cr ≠ 0 → AwX z (w.look j) { q with s := fun k => if k = j then q.a else q.s k, cs := fun k => if k = j then q.ca else q.cs k } := fun z o e hc => by
    obtain ⟨x1, x2, x3⟩ := (h.rx z o e hc).2
    refine ⟨x1, fun n h0 h3 => ?_, x3⟩
    simp only [Nw.look]
    by_cases e : n = j
    · rw [if_pos e, if_pos e]; exact x1
    · rw [if_neg e, if_neg e]; exact x2 n h0 h3
  rcases three j1 j3 with rfl | rfl | rfl
  · exact h.set (w' := w.look 1) (q' := { q with s := fun k => if k = 1 then q.a else q.s k, cs := fun k => if k = 1 then q.ca else q.cs k }) (j := 20) (p := (encNw w q).take 20) (old := acc (w.s 1) (q.s 1) (q.cs 1)) (new := acc w.a q.a q.ca) (r := (encNw w q).drop 30) rfl rfl rfl rfl h.a hs h.bk rfl rfl rfl hx hS
  · exact h.set (w' := w.look 2) (q' := { q with s := fun k => if k = 2 then q.a else q.s k, cs := fun k => if k = 2 then q.ca else q.cs k }) (j := 30) (p := (encNw w q).take 30) (old := acc (w.s 2) (q.s 2) (q.cs 2)) (new := acc w.a q.a q.ca) (r := (encNw w q).drop 40) rfl rfl rfl rfl h.a hs h.bk rfl rfl rfl hx hS
  · exact h.set (w' := w.look 3) (q' := { q with s := fun k => if k = 3 then q.a else q.s k, cs := fun k => if k = 3 then q.ca else q.cs k }) (j := 40) (p := (encNw w q).take 40) (old := acc (w.s 3) (q.s 3) (q.cs 3)) (new := acc w.a q.a q.ca) (r := (encNw w q).drop 50) rfl rfl rfl rfl h.a hs h.bk rfl rfl rfl hx hS

/-- a node's book is written -/
theorem PtN.setB {b : Nat} {w : Nw} {q : Nq} {m : M} (h : PtN b w q m) {j : Int} (j1 : 1 ≤ j) (j3 : j ≤ 3) (p : Int × Int) (a' : Option Addr) (c' : Nat) (ha : RowA b m a' (rts (bkL (some p)))) (hz : ∀ z o, q.r = some ⟨z, o, none⟩ → q.cr ≠ 0 → ∀ b' o', a' = some ⟨b', o', none⟩ → b' ≠ z) {B : Nat} {S : Nat → Prop} (hS : B ≤ b ∨ S b) :
    Wr B S m b (50 + j.toNat * 1) 1 ∧ PtN b (w.put j p) { q with b := fun k => if k = j then a' else q.b k, cb := fun k => if k = j then c' else q.cb k } (m.setCells b (50 + j.toNat * 1) [.slice a' 1 c']) := by
  have hs : ∀ n : Int, 0 ≤ n → n ≤ 3 → RowA b m ((fun k => if k = j then a' else q.b k) n) (rts (bkL ((w.put j p).bk n))) := fun n h0 h3 => by
    simp only [Nw.put]
    by_cases e : n = j
    · rw [if_pos e, if_pos e]; exact ha
    · rw [if_neg e, if_neg e]; exact h.bk n h0 h3
  have hx : ∀ z o, q.r = some ⟨z, o, none⟩ → q.cr ≠ 0 → AwX z (w.put j p) { q with b := fun k => if k = j then a' else q.b k, cb := fun k => if k = j then c' else q.cb k } := fun z o e hc => by
    obtain ⟨x1, x2, x3⟩ := (h.rx z o e hc).2
    refine ⟨x1, x2, fun n h0 h3 => ?_⟩
    simp only [Nw.put]
    by_cases e2 : n = j
    · rw [if_pos e2, if_pos e2]; exact fun _ => hz z o e hc
    · rw [if_neg e2, if_neg e2]; exact x3 n h0 h3
  rcases three j1 j3 with rfl | rfl | rfl
  · exact h.set (w' := w.put 1 p) (q' := { q with b := fun k => if k = 1 then a' else q.b k, cb := fun k => if k = 1 then c' else q.cb k }) (j := 51) (p := (encNw w q).take 51) (old := [.slice (q.b 1) (bkL (w.bk 1)).length (q.cb 1)]) (new := [.slice a' 1 c']) (r := (encNw w q).drop 52) rfl rfl rfl rfl h.a h.s hs rfl rfl rfl hx hS
  · exact h.set (w' := w.put 2 p) (q' := { q with b := fun k => if k = 2 then a' else q.b k, cb := fun k => if k = 2 then c' else q.cb k }) (j := 52) (p := (encNw w q).take 52) (old := [.slice (q.b 2) (bkL (w.bk 2)).length (q.cb 2)]) (new := [.slice a' 1 c']) (r := (encNw w q).drop 53) rfl rfl rfl rfl h.a h.s hs rfl rfl rfl hx hS
  · exact h.set (w' := w.put 3 p) (q' := { q with b := fun k => if k = 3 then a' else q.b k, cb := fun k => if k = 3 then c' else q.cb k }) (j := 53) (p := (encNw w q).take 53) (old := [.slice (q.b 3) (bkL (w.bk 3)).length (q.cb 3)]) (new := [.slice a' 1 c']) (r := (encNw w q).drop 54) rfl rfl rfl rfl h.a h.s hs rfl rfl rfl hx hS

/-- what a node last saw -/
theorem PtN.seen {b : Nat} {w : Nw} {q : Nq} {m : M} (h : PtN b w q m) {j : Int} (j1 : 1 ≤ j) (j3 : j ≤ 3) : CellsAt m b (10 + j.toNat * 10) (acc (w.s j) (q.s j) (q.cs j)) := by
  have c0 := h.cells
  rcases three j1 j3 with rfl | rfl | rfl
  · have := (show CellsAt m b 0 ((encNw w q).take 20 ++ (acc (w.s 1) (q.s 1) (q.cs 1) ++ (encNw w q).drop 30)) from c0).drop.take
    exact this
  · have := (show CellsAt m b 0 ((encNw w q).take 30 ++ (acc (w.s 2) (q.s 2) (q.cs 2) ++ (encNw w q).drop 40)) from c0).drop.take
    exact this
  · have := (show CellsAt m b 0 ((encNw w q).take 40 ++ (acc (w.s 3) (q.s 3) (q.cs 3) ++ (encNw w q).drop 50)) from c0).drop.take
    exact this

end Go.Proofs.Ytfkielfnceeedaa
set_option linter.unusedVariables false
set_option linter.unusedSimpArgs false
namespace Go.Proofs.Ytfkielfnceeedaa
open Go.Vc Go.RowKit
set_option maxRecDepth 100000

/-- behind a step -/
structure StpQ (b : Nat) (w : Nw) (q : Nq) (B : Nat) (m' : M) : Prop where
  out : ∃ w' q', NwI w' ∧ w'.nx ≤ w.nx + 1 ∧ PtN b w' q' m' ∧ w'.rp.length ≤ 50 ∧ ∀ b' o', q'.r = some ⟨b', o', none⟩ → q.r = some ⟨b', o', none⟩ ∨ B ≤ b'

theorem node_in (nd : Int) : 1 ≤ IntKind.i64.wrap (1 + IntKind.i64.wrap ((IntKind.u64.wrap nd).tmod 3)) ∧ IntKind.i64.wrap (1 + IntKind.i64.wrap ((IntKind.u64.wrap nd).tmod 3)) ≤ 3 := by
  have h0 : 0 ≤ IntKind.u64.wrap nd := by rw [IntKind.wrap_u64]; omega
  rw [Int.tmod_eq_emod_of_nonneg h0]
  generalize IntKind.u64.wrap nd = u at *
  have h1 : 0 ≤ u % 3 ∧ u % 3 < 3 := by omega
  simp only [IntKind.wrap_i64]
  omega

theorem cm_zr (k : Nat) : (zeroRow Try.prog 58 k).length = k * 25 := zrLen (by kernel_rfl) k

theorem cm_one (c : Cm) : oneCells (encCm c) = true := rfl

/-- a report is put behind the others -/
theorem PtN.app {b : Nat} {w : Nw} {q : Nq} {m m' : M} (h : PtN b w q m) {c : Cm} {a' : Option Addr} {c' : Nat} (hp : AppPost Try.prog 58 m 25 q.r w.rp.length q.cr 1 (cms w.rp) (encCm c) a' c' m') {B : Nat} {S : Nat → Prop} (hS : B ≤ b ∨ S b) :
    Wr B S m' b 54 1 ∧ PtN b { w with rp := w.rp ++ [c] } { q with r := a', cr := c' } (m'.setCells b 54 [.slice a' (w.rp.length + 1) c']) ∧ ∀ b' o', a' = some ⟨b', o', none⟩ → q.r = some ⟨b', o', none⟩ ∨ m.sz ≤ b' := by
  have R := h.rp.append hp rfl cm_zr (Nat.zero_le _)
  have hlt := h.lt
  have K : m'.π b = m.π b ∧ m'.uf b ∧ m.sz ≤ m'.sz ∧ (∀ a cs, RowA b m a cs → (∀ z o, q.r = some ⟨z, o, none⟩ → q.cr ≠ 0 → cs ≠ [] → ∀ b' o', a = some ⟨b', o', none⟩ → b' ≠ z) → RowA b m' a cs) ∧
      (∀ b' o', a' = some ⟨b', o', none⟩ → b' ≠ b ∧ (q.r = some ⟨b', o', none⟩ ∨ m.sz ≤ b') ∧ b' < m'.sz ∧ AwX b' w q ∧ m'.uf b') := by
    rcases hp with ⟨hle, rfl, rfl, ⟨h0, -⟩ | ⟨z, o, e2, rfl⟩⟩ | ⟨hle, b4, hb4, hc4, rfl, rfl⟩
    · omega
    · have hc0 : q.cr ≠ 0 := by omega
      obtain ⟨x1, x2⟩ := h.rx z o e2 hc0
      have hzb := h.ra z o e2
      refine ⟨setCells_other (fun e => hzb e.symm), h.uf, Nat.le_refl _, fun a cs hr hx => ⟨?_, hr.aw⟩, fun b' o' e => ?_⟩
      · by_cases e : cs = []
        · subst e; exact .nil _
        · exact hr.row.of (Nat.le_refl _) fun b' o' e3 _ => setCells_other (hx z o e2 hc0 e b' o' e3)
      · rw [e2] at e
        cases e
        exact ⟨hzb, .inl e2, x1, x2, (h.ru z o e2).1⟩
    · refine ⟨newBlock_other (by omega), .inr h.uf, by simp only [M.newBlock]; omega, fun a cs hr _ => ⟨hr.row.newBlock hb4, hr.aw⟩, fun b' o' e => ?_⟩
      cases e
      refine ⟨by omega, .inr hb4, by simp only [M.newBlock]; omega, ⟨fun hne b' o' e => ?_, fun n h0 h3 hne b' o' e => ?_, fun n h0 h3 hne b' o' e => ?_⟩, .inl rfl⟩
      · have := h.a.row.lt hne e; omega
      · have := (h.s n h0 h3).row.lt hne e; omega
      · have := (h.bk n h0 h3).row.lt hne e; omega
  obtain ⟨k1, k2, k3, k4, k5⟩ := K
  have hc := h.cells.of k1
  have e1 : encNw w q = (encNw w q).take 54 ++ ([.slice q.r w.rp.length q.cr] ++ [I w.nx]) := rfl
  have e2 : encNw { w with rp := w.rp ++ [c] } { q with r := a', cr := c' } = (encNw w q).take 54 ++ ([.slice a' (w.rp.length + 1) c'] ++ [I w.nx]) := by
    simp only [encNw, List.length_append, List.length_cons, List.length_nil]; rfl
  have hc2 := hc
  rw [e1] at hc2
  refine ⟨⟨hS, k2, fun i hi => ?_⟩, ⟨?_, fun j hj => ?_, k2, by show b < m'.sz; omega, (k4 _ _ h.a fun z o e hc => (h.rx z o e hc).2.a).set _ _, fun n h0 h3 => (k4 _ _ (h.s n h0 h3) fun z o e hc => (h.rx z o e hc).2.s n h0 h3).set _ _, fun n h0 h3 => (k4 _ _ (h.bk n h0 h3) fun z o e hc => (h.rx z o e hc).2.b n h0 h3).set _ _, ?_, fun b' o' e => (k5 b' o' e).1, fun z o e _ => ⟨(k5 z o e).2.2.1, ⟨(k5 z o e).2.2.2.1.a, (k5 z o e).2.2.2.1.s, (k5 z o e).2.2.2.1.b⟩⟩, fun z o e => ⟨(k5 z o e).2.2.2.2, (k5 z o e).2.2.1⟩⟩, fun b' o' e => (k5 b' o' e).2.1⟩
  · have hi : i = 0 := by omega
    subst hi
    have := hc2.drop.take.out 0 (by simp)
    exact ⟨.slice q.r w.rp.length q.cr, by simpa using this⟩
  · have := CellsAt.set hc2 (new := [.slice a' (w.rp.length + 1) c']) rfl
    rw [← e2] at this
    exact this
  · simp only [M.setCells]
    rw [if_neg (by simp; omega), k1]
    exact h.full j hj
  · have e3 : cms (w.rp ++ [c]) = cms w.rp ++ encCm c := by simp [cms]
    simp only [List.length_append, List.length_cons, List.length_nil, e3]
    exact R.of (Nat.le_refl _) fun b' o' e _ => ⟨setCells_other (k5 b' o' e).1, id⟩

theorem held_round {l : List Rt} {g : Int} {x : Ac} {nd : Int} {z : Bool} (h : heldE l g x nd z = 0) : x.round = 0 := by
  unfold heldE at h
  split at h
  · simp at h
  · split at h
    · simp at h
    · split at h
      · simp at h
      · split at h
        · simp at h
        · rename_i h4; exact Classical.byContradiction h4

theorem bk_wf {w : Nw} (hw : NwI w) (hx : w.nx ≤ 4611686018427387904) (j : Int) : ∀ r ∈ bkL (w.bk j), r.wf := by
  intro r hr
  cases hp : w.bk j with
  | none => rw [hp] at hr; simp [bkL] at hr
  | some p =>
    rw [hp] at hr
    have hr : r = ⟨1, kK, p.1, p.2⟩ := by simpa [bkL] using hr
    obtain ⟨b1, b2, b3⟩ := hw.bk j p hp
    subst hr
    exact ⟨by show In64 1; decide, by show kK.size ≤ _; decide, by show In64 p.1; unfold In64; omega, b3⟩

theorem spend_ok {w : Nw} (hw : NwI w) {j n : Int} (h : (spendE (bkL (w.bk j)) 1 (w.s j) j n).2 = 0) : (w.s j).round = 0 ∧ findB (w.s j) j = true ∧
    ∃ v, inB (findH (w.s j) j) v = true ∧ (spendE (bkL (w.bk j)) 1 (w.s j) j n).1 = ⟨1, kK, (findH (w.s j) j).le, v⟩ ∧ putE (bkL (w.bk j)) ⟨1, kK, (findH (w.s j) j).le, v⟩ = ([⟨1, kK, (findH (w.s j) j).le, v⟩], 0) := by
  unfold spendE at h ⊢
  split at h
  · rename_i e; exact absurd h e
  rename_i e
  have e : heldE (bkL (w.bk j)) 1 (w.s j) j (decide (n = 0)) = 0 := Decidable.not_not.1 e
  split at h
  · simp at h
  rename_i e2
  have hb := held_find e
  obtain ⟨s1, s2, s3, -⟩ := hw.sr j
  rw [if_neg (by simpa using e), if_neg e2]
  refine ⟨held_round e, hb, _, by simpa using e2, by rw [s3], ?_⟩
  have hl := led_bk hw j
  have hm : rmayB ⟨1, kK, (findH (w.s j) j).le, netR (bkL (w.bk j)) 1 (w.s j).key (findH (w.s j) j).le + n⟩ = true := by
    have := (find_fact s2 hb).le
    have hk : keyB kK = true := rfl
    simp [rmayB, hk, this]
  unfold putE
  rw [if_neg (by rw [hl]; simp), if_neg (by rw [hm]; simp)]
  cases hp : w.bk j with
  | none => rfl
  | some p =>
    have hs : sameK ⟨1, kK, p.1, p.2⟩ ⟨1, kK, (findH (w.s j) j).le, netR (bkL (some p)) 1 (w.s j).key (findH (w.s j) j).le + n⟩ = true := by simp [sameK]
    have := bel_same hs
    simp only [bkL] at this ⊢
    simp [putL, this.1, this.2]

theorem brack_ok {w : Nw} (hw : NwI w) {j : Int} (h : (brackE (bkL (w.bk j)) 1 (w.s j) j).2.2 = 0) : (brackE (bkL (w.bk j)) 1 (w.s j) j).1 ≤ w.tot ∧ w.tot ≤ (brackE (bkL (w.bk j)) 1 (w.s j) j).2.1 ∧ w.a.lo ≤ (brackE (bkL (w.bk j)) 1 (w.s j) j).1 ∧ (brackE (bkL (w.bk j)) 1 (w.s j) j).2.1 ≤ w.a.hi := by
  have hk := (hw.sr j).2.2.1
  unfold brackE at h ⊢
  split at h
  · rename_i e; exact absurd h e
  rename_i e
  have e : heldE (bkL (w.bk j)) 1 (w.s j) j false = 0 := Decidable.not_not.1 e
  split at h
  · simp at h
  rename_i e2
  rw [if_neg (by simpa using e), if_neg e2]
  rw [hk, net_bk hw] at e2 ⊢
  exact brack_in hw (held_round e) (held_find e) (by simpa using e2)

set_option maxHeartbeats 1000000 in
theorem wstep_s (b : Nat) (w : Nw) (q : Nq) (kd way nd n lo hi : Int) (cm : Bool) (hw : NwI w) (hn : In64 n) (h1 : In64 lo) (h2 : In64 hi) (hx : w.nx + 1 ≤ 4611686018427387904) (hrl : w.rp.length ≤ 50) (m : M) (h : PtN b w q m) :
    SpecW Try.prog 37 [.pointer (some ⟨b, 0, none⟩), stpv kd way nd n lo hi cm] m (fun z => z = b ∨ ∃ o, q.r = some ⟨z, o, none⟩) (fun v m' => v = .bool true ∧ StpQ b w q m.sz m') := by
  refine SpecW.of_vc Try.func37 (ann := fun _ => noAnn 0) ?_
  refine vc_by (X :=
      true = true ∧
      (3 : Int) ≠ (0 : Int) ∧
      ifB (kd == (2 : Int))
      (true = true ∧
      ∃ (s : ByteArray),
      ∃ (n : Int),
      ∃ (n_1 : Int),
      ∃ (n_2 : Int),
      ∃ (n_3 : Int),
      ∃ (a : Option Addr),
      ∃ (n_4 : Nat),
      ∃ (c : Nat),
      ∃ (n_5 : Int),
      ∃ (n_6 : Int),
      ∃ (n_7 : Int),
      ∃ (n_8 : Int),
      CellsAt m b (0 : Nat)
      [Value.string s, Value.int IntKind.i64 n, Value.int IntKind.i64 n_1, Value.int IntKind.i64 n_2, Value.int IntKind.i64 n_3, Value.slice a n_4 c,
      Value.int IntKind.i64 n_5, Value.int IntKind.i64 n_6, Value.int IntKind.i64 n_7, Value.int IntKind.i64 n_8] ∧
      ((0 : Int) ≤ IntKind.i64.wrap ((1 : Int) + IntKind.i64.wrap ((IntKind.u64.wrap nd).tmod (3 : Int))) ∧
      IntKind.i64.wrap ((1 : Int) + IntKind.i64.wrap ((IntKind.u64.wrap nd).tmod (3 : Int))) < (↑(4 : Nat) : Int)) ∧
      (Wr m.sz (fun (z : Nat) => z = b ∨ ∃ (o : Nat), q.r = some { block := z, off := o : Addr }) m b
      ((10 : Nat) + (IntKind.i64.wrap ((1 : Int) + IntKind.i64.wrap ((IntKind.u64.wrap nd).tmod (3 : Int)))).toNat * (10 : Nat))
      #[Value.string s, Value.int IntKind.i64 n, Value.int IntKind.i64 n_1, Value.int IntKind.i64 n_2, Value.int IntKind.i64 n_3,
      Value.slice a n_4 c, Value.int IntKind.i64 n_5, Value.int IntKind.i64 n_6, Value.int IntKind.i64 n_7,
      Value.int IntKind.i64 n_8].size ∧
      ∃ (S' : Nat → Prop),
      (∀ (b_1 : Nat),
      S' b_1 →
      (m.setCells b
      ((10 : Nat) + (IntKind.i64.wrap ((1 : Int) + IntKind.i64.wrap ((IntKind.u64.wrap nd).tmod (3 : Int)))).toNat * (10 : Nat))
      [Value.string s, Value.int IntKind.i64 n, Value.int IntKind.i64 n_1, Value.int IntKind.i64 n_2, Value.int IntKind.i64 n_3,
      Value.slice a n_4 c, Value.int IntKind.i64 n_5, Value.int IntKind.i64 n_6, Value.int IntKind.i64 n_7,
      Value.int IntKind.i64 n_8]).uf
      b_1 ∧
      (m.sz ≤ b_1 ∨ b_1 = b ∨ ∃ (o : Nat), q.r = some { block := b_1, off := o : Addr })) ∧
      ∀ (n_9 : Nat),
      m.sz ≤ n_9 →
      SpecW Try.prog (76 : Nat) [Value.pointer (some { block := b, off := (0 : Nat) : Addr })]
      { π := (m.setCells b ((10 : Nat) + (IntKind.i64.wrap ((1 : Int) + IntKind.i64.wrap ((IntKind.u64.wrap nd).tmod (3 : Int)))).toNat * (10 : Nat)) [Value.string s, Value.int IntKind.i64 n, Value.int IntKind.i64 n_1, Value.int IntKind.i64 n_2, Value.int IntKind.i64 n_3, Value.slice a n_4 c, Value.int IntKind.i64 n_5, Value.int IntKind.i64 n_6, Value.int IntKind.i64 n_7, Value.int IntKind.i64 n_8]).π, sz := n_9, uf := (m.setCells b ((10 : Nat) + (IntKind.i64.wrap ((1 : Int) + IntKind.i64.wrap ((IntKind.u64.wrap nd).tmod (3 : Int)))).toNat * (10 : Nat)) [Value.string s, Value.int IntKind.i64 n, Value.int IntKind.i64 n_1, Value.int IntKind.i64 n_2, Value.int IntKind.i64 n_3, Value.slice a n_4 c, Value.int IntKind.i64 n_5, Value.int IntKind.i64 n_6, Value.int IntKind.i64 n_7, Value.int IntKind.i64 n_8]).uf : M }
      S' fun (v : Value) (m' : M) =>
      ∃ (n : Int),
      ∃ (b_1 : Bool),
      v = Value.tuple #[Value.int IntKind.i64 n, Value.bool b_1] ∧ Done (Value.bool b_1 = Value.bool true ∧ StpQ b w q m.sz m')) ∧
      True)
      (ifB (kd == (3 : Int))
      (true = true ∧
      ((0 : Int) ≤ IntKind.i64.wrap ((1 : Int) + IntKind.i64.wrap ((IntKind.u64.wrap nd).tmod (3 : Int))) ∧
      IntKind.i64.wrap ((1 : Int) + IntKind.i64.wrap ((IntKind.u64.wrap nd).tmod (3 : Int))) < (↑(4 : Nat) : Int)) ∧
      ∃ (a : Option Addr),
      ∃ (n_1 : Nat),
      ∃ (c : Nat),
      CellsAt m b ((50 : Nat) + (IntKind.i64.wrap ((1 : Int) + IntKind.i64.wrap ((IntKind.u64.wrap nd).tmod (3 : Int)))).toNat * (1 : Nat)) [Value.slice a n_1 c] ∧
      ((0 : Int) ≤ IntKind.i64.wrap ((1 : Int) + IntKind.i64.wrap ((IntKind.u64.wrap nd).tmod (3 : Int))) ∧
      IntKind.i64.wrap ((1 : Int) + IntKind.i64.wrap ((IntKind.u64.wrap nd).tmod (3 : Int))) < (↑(4 : Nat) : Int)) ∧
      ∃ (s : ByteArray),
      ∃ (n_2 : Int),
      ∃ (n_3 : Int),
      ∃ (n_4 : Int),
      ∃ (n_5 : Int),
      ∃ (a_1 : Option Addr),
      ∃ (n_6 : Nat),
      ∃ (c_1 : Nat),
      ∃ (n_7 : Int),
      ∃ (n_8 : Int),
      ∃ (n_9 : Int),
      ∃ (n_10 : Int),
      CellsAt m b ((10 : Nat) + (IntKind.i64.wrap ((1 : Int) + IntKind.i64.wrap ((IntKind.u64.wrap nd).tmod (3 : Int)))).toNat * (10 : Nat))
      [Value.string s, Value.int IntKind.i64 n_2, Value.int IntKind.i64 n_3, Value.int IntKind.i64 n_4, Value.int IntKind.i64 n_5,
      Value.slice a_1 n_6 c_1, Value.int IntKind.i64 n_7, Value.int IntKind.i64 n_8, Value.int IntKind.i64 n_9,
      Value.int IntKind.i64 n_10] ∧
      (∃ (S' : Nat → Prop),
      (∀ (b_1 : Nat), S' b_1 → m.uf b_1 ∧ (m.sz ≤ b_1 ∨ b_1 = b ∨ ∃ (o : Nat), q.r = some { block := b_1, off := o : Addr })) ∧
      ∀ (n_11 : Nat),
      m.sz ≤ n_11 →
      SpecW Try.prog (9 : Nat) [Value.slice a n_1 c] { π := m.π, sz := n_11, uf := m.uf : M } S' fun (v : Value) (m' : M) =>
      ∃ (a : Option Addr),
      ∃ (n_12 : Nat),
      ∃ (c : Nat),
      v = Value.slice a n_12 c ∧
      MLe m m' ∧
      ∃ (n_13 : Int),
      ∃ (s_1 : ByteArray),
      ∃ (n_14 : Int),
      ∃ (n_15 : Int),
      ∃ (n_16 : Int),
      QSpec Try.prog (24 : Nat)
      [Value.slice a n_12 c, Value.int IntKind.i64 (1 : Int),
      Value.agg
      #[Value.string s, Value.int IntKind.i64 n_2, Value.int IntKind.i64 n_3,
      Value.int IntKind.i64 n_4, Value.int IntKind.i64 n_5, Value.slice a_1 n_6 c_1,
      Value.int IntKind.i64 n_7, Value.int IntKind.i64 n_8, Value.int IntKind.i64 n_9,
      Value.int IntKind.i64 n_10],
      Value.int IntKind.i64
      (IntKind.i64.wrap ((1 : Int) + IntKind.i64.wrap ((IntKind.u64.wrap nd).tmod (3 : Int)))),
      Value.int IntKind.i64 n]
      m'
      (Value.tuple
      #[Value.agg
      #[Value.int IntKind.i64 n_13, Value.string s_1, Value.int IntKind.i64 n_14,
      Value.int IntKind.i64 n_15],
      Value.int IntKind.i64 n_16]) ∧
      ifB (n_16 == (0 : Int))
      (true = true ∧
      ((0 : Int) ≤
      IntKind.i64.wrap ((1 : Int) + IntKind.i64.wrap ((IntKind.u64.wrap nd).tmod (3 : Int))) ∧
      IntKind.i64.wrap ((1 : Int) + IntKind.i64.wrap ((IntKind.u64.wrap nd).tmod (3 : Int))) <
      (↑(4 : Nat) : Int)) ∧
      ∃ (a : Option Addr),
      ∃ (n : Nat),
      ∃ (c : Nat),
      CellsAt m' b
      ((50 : Nat) +
      (IntKind.i64.wrap
      ((1 : Int) +
      IntKind.i64.wrap ((IntKind.u64.wrap nd).tmod (3 : Int)))).toNat *
      (1 : Nat))
      [Value.slice a n c] ∧
      (∃ (S' : Nat → Prop),
      (∀ (b_1 : Nat),
      S' b_1 →
      m'.uf b_1 ∧
      (m.sz ≤ b_1 ∨
      b_1 = b ∨
      ∃ (o : Nat), q.r = some { block := b_1, off := o : Addr })) ∧
      ∀ (n_17 : Nat),
      m'.sz ≤ n_17 →
      SpecW Try.prog (11 : Nat)
      [Value.slice a n c,
      Value.agg
      #[Value.int IntKind.i64 n_13, Value.string s_1,
      Value.int IntKind.i64 n_14, Value.int IntKind.i64 n_15]]
      { π := m'.π, sz := n_17, uf := m'.uf : M } S'
      fun (v : Value) (m' : M) =>
      ∃ (a : Option Addr),
      ∃ (n : Nat),
      ∃ (c : Nat),
      ∃ (n_18 : Int),
      v =
      Value.tuple
      #[Value.slice a n c, Value.int IntKind.i64 n_18] ∧
      ifB (n_18 != (0 : Int))
      (Done
      (Value.bool false = Value.bool true ∧ StpQ b w q m.sz m'))
      (((0 : Int) ≤
      IntKind.i64.wrap
      ((1 : Int) +
      IntKind.i64.wrap
      ((IntKind.u64.wrap nd).tmod (3 : Int))) ∧
      IntKind.i64.wrap
      ((1 : Int) +
      IntKind.i64.wrap
      ((IntKind.u64.wrap nd).tmod (3 : Int))) <
      (↑(4 : Nat) : Int)) ∧
      Wr m.sz
      (fun (z : Nat) =>
      z = b ∨
      ∃ (o : Nat),
      q.r = some { block := z, off := o : Addr })
      m' b
      ((50 : Nat) +
      (IntKind.i64.wrap
      ((1 : Int) +
      IntKind.i64.wrap
      ((IntKind.u64.wrap nd).tmod
      (3 : Int)))).toNat *
      (1 : Nat))
      #[Value.slice a n c].size ∧
      ∃ (S' : Nat → Prop),
      (∀ (b_1 : Nat),
      S' b_1 →
      (m'.setCells b
      ((50 : Nat) +
      (IntKind.i64.wrap
      ((1 : Int) +
      IntKind.i64.wrap
      ((IntKind.u64.wrap nd).tmod
      (3 : Int)))).toNat *
      (1 : Nat))
      [Value.slice a n c]).uf
      b_1 ∧
      (m.sz ≤ b_1 ∨
      b_1 = b ∨
      ∃ (o : Nat),
      q.r =
      some
      { block := b_1, off := o : Addr })) ∧
      ∀ (n_19 : Nat),
      m'.sz ≤ n_19 →
      SpecW Try.prog (76 : Nat)
      [Value.pointer
      (some
      { block := b, off := (0 : Nat) : Addr })]
      { π := (m'.setCells b ((50 : Nat) + (IntKind.i64.wrap ((1 : Int) + IntKind.i64.wrap ((IntKind.u64.wrap nd).tmod (3 : Int)))).toNat * (1 : Nat)) [Value.slice a n c]).π, sz := n_19, uf := (m'.setCells b ((50 : Nat) + (IntKind.i64.wrap ((1 : Int) + IntKind.i64.wrap ((IntKind.u64.wrap nd).tmod (3 : Int)))).toNat * (1 : Nat)) [Value.slice a n c]).uf : M }
      S' fun (v : Value) (m' : M) =>
      ∃ (n : Int),
      ∃ (b_1 : Bool),
      v =
      Value.tuple
      #[Value.int IntKind.i64 n,
      Value.bool b_1] ∧
      Done
      (Value.bool b_1 = Value.bool true ∧
      StpQ b w q m.sz m'))) ∧
      True)
      (∃ (S' : Nat → Prop),
      (∀ (b_1 : Nat),
      S' b_1 →
      m'.uf b_1 ∧
      (m.sz ≤ b_1 ∨ b_1 = b ∨ ∃ (o : Nat), q.r = some { block := b_1, off := o : Addr })) ∧
      ∀ (n : Nat),
      m'.sz ≤ n →
      SpecW Try.prog (76 : Nat) [Value.pointer (some { block := b, off := (0 : Nat) : Addr })]
      { π := m'.π, sz := n, uf := m'.uf : M } S' fun (v : Value) (m' : M) =>
      ∃ (n : Int),
      ∃ (b_1 : Bool),
      v = Value.tuple #[Value.int IntKind.i64 n, Value.bool b_1] ∧
      Done (Value.bool b_1 = Value.bool true ∧ StpQ b w q m.sz m'))) ∧
      True)
      (ifB (kd == (4 : Int))
      (true = true ∧
      ((0 : Int) ≤ IntKind.i64.wrap ((1 : Int) + IntKind.i64.wrap ((IntKind.u64.wrap nd).tmod (3 : Int))) ∧
      IntKind.i64.wrap ((1 : Int) + IntKind.i64.wrap ((IntKind.u64.wrap nd).tmod (3 : Int))) < (↑(4 : Nat) : Int)) ∧
      ∃ (a : Option Addr),
      ∃ (n : Nat),
      ∃ (c : Nat),
      CellsAt m b ((50 : Nat) + (IntKind.i64.wrap ((1 : Int) + IntKind.i64.wrap ((IntKind.u64.wrap nd).tmod (3 : Int)))).toNat * (1 : Nat)) [Value.slice a n c] ∧
      ((0 : Int) ≤ IntKind.i64.wrap ((1 : Int) + IntKind.i64.wrap ((IntKind.u64.wrap nd).tmod (3 : Int))) ∧
      IntKind.i64.wrap ((1 : Int) + IntKind.i64.wrap ((IntKind.u64.wrap nd).tmod (3 : Int))) < (↑(4 : Nat) : Int)) ∧
      ∃ (s : ByteArray),
      ∃ (n_1 : Int),
      ∃ (n_2 : Int),
      ∃ (n_3 : Int),
      ∃ (n_4 : Int),
      ∃ (a_1 : Option Addr),
      ∃ (n_5 : Nat),
      ∃ (c_1 : Nat),
      ∃ (n_6 : Int),
      ∃ (n_7 : Int),
      ∃ (n_8 : Int),
      ∃ (n_9 : Int),
      CellsAt m b
      ((10 : Nat) + (IntKind.i64.wrap ((1 : Int) + IntKind.i64.wrap ((IntKind.u64.wrap nd).tmod (3 : Int)))).toNat * (10 : Nat))
      [Value.string s, Value.int IntKind.i64 n_1, Value.int IntKind.i64 n_2, Value.int IntKind.i64 n_3, Value.int IntKind.i64 n_4,
      Value.slice a_1 n_5 c_1, Value.int IntKind.i64 n_6, Value.int IntKind.i64 n_7, Value.int IntKind.i64 n_8,
      Value.int IntKind.i64 n_9] ∧
      (∃ (S' : Nat → Prop),
      (∀ (b_1 : Nat), S' b_1 → m.uf b_1 ∧ (m.sz ≤ b_1 ∨ b_1 = b ∨ ∃ (o : Nat), q.r = some { block := b_1, off := o : Addr })) ∧
      ∀ (n_10 : Nat),
      m.sz ≤ n_10 →
      SpecW Try.prog (9 : Nat) [Value.slice a n c] { π := m.π, sz := n_10, uf := m.uf : M } S' fun (v : Value) (m' : M) =>
      ∃ (a : Option Addr),
      ∃ (n : Nat),
      ∃ (c : Nat),
      v = Value.slice a n c ∧
      MLe m m' ∧
      (∃ (S' : Nat → Prop),
      (∀ (b_1 : Nat),
      S' b_1 →
      m'.uf b_1 ∧ (m.sz ≤ b_1 ∨ b_1 = b ∨ ∃ (o : Nat), q.r = some { block := b_1, off := o : Addr })) ∧
      ∀ (n_11 : Nat),
      m'.sz ≤ n_11 →
      SpecW Try.prog (28 : Nat)
      [Value.slice a n c, Value.int IntKind.i64 (1 : Int),
      Value.agg
      #[Value.string s, Value.int IntKind.i64 n_1, Value.int IntKind.i64 n_2,
      Value.int IntKind.i64 n_3, Value.int IntKind.i64 n_4, Value.slice a_1 n_5 c_1,
      Value.int IntKind.i64 n_6, Value.int IntKind.i64 n_7, Value.int IntKind.i64 n_8,
      Value.int IntKind.i64 n_9],
      Value.int IntKind.i64
      (IntKind.i64.wrap ((1 : Int) + IntKind.i64.wrap ((IntKind.u64.wrap nd).tmod (3 : Int))))]
      { π := m'.π, sz := n_11, uf := m'.uf : M } S' fun (v : Value) (m' : M) =>
      ∃ (n : Int),
      ∃ (n_12 : Int),
      ∃ (n_13 : Int),
      ∃ (n_14 : Int),
      ∃ (n_15 : Int),
      ∃ (n_16 : Int),
      ∃ (s : ByteArray),
      ∃ (n_17 : Int),
      ∃ (n_18 : Int),
      ∃ (n_19 : Int),
      ∃ (b_1 : Bool),
      ∃ (n_20 : Int),
      ∃ (s_1 : ByteArray),
      ∃ (s_2 : ByteArray),
      ∃ (n_21 : Int),
      ∃ (n_22 : Int),
      ∃ (n_23 : Int),
      ∃ (n_24 : Int),
      ∃ (n_25 : Int),
      ∃ (n_26 : Int),
      ∃ (s_3 : ByteArray),
      ∃ (s_4 : ByteArray),
      ∃ (n_27 : Int),
      ∃ (n_28 : Int),
      ∃ (a : Option Addr),
      ∃ (n_29 : Nat),
      ∃ (c : Nat),
      ∃ (b_2 : Bool),
      v =
      Value.tuple
      #[Value.agg
      #[Value.int IntKind.i64 n,
      Value.int IntKind.i64 n_12,
      Value.int IntKind.i64 n_13,
      Value.int IntKind.i64 n_14,
      Value.int IntKind.i64 n_15,
      Value.int IntKind.i64 n_16,
      Value.string s,
      Value.int IntKind.i64 n_17,
      Value.int IntKind.i64 n_18,
      Value.int IntKind.i64 n_19,
      Value.bool b_1,
      Value.int IntKind.i64 n_20,
      Value.string s_1,
      Value.string s_2,
      Value.int IntKind.i64 n_21,
      Value.int IntKind.i64 n_22,
      Value.int IntKind.i64 n_23,
      Value.int IntKind.i64 n_24,
      Value.int IntKind.i64 n_25,
      Value.int IntKind.i64 n_26,
      Value.string s_3,
      Value.string s_4,
      Value.int IntKind.i64 n_27,
      Value.int IntKind.i64 n_28,
      Value.slice a n_29 c],
      Value.bool b_2] ∧
      ifB b_2
      (∃ (a_4 : Option Addr),
      ∃ (n_30 : Nat),
      ∃ (c_2 : Nat),
      CellsAt m' b (54 : Nat)
      [Value.slice a_4 n_30
      c_2] ∧
      ifB
      (decide
      ((↑n_30 : Int) <
      (50 : Int)))
      (true = true ∧
      ∃ (a_5 : Option Addr),
      ∃ (n_31 : Nat),
      ∃ (c_3 : Nat),
      CellsAt m' b
      (54 : Nat)
      [Value.slice
      a_5 n_31
      c_3] ∧
      (true = true ∧
      ∀
      (b_3 :
      Nat),
      m'.sz ≤
      b_3 →
      MLe m'
      (m'.newBlock
      b_3
      [Value.int
      IntKind.i64
      n,
      Value.int
      IntKind.i64
      n_12,
      Value.int
      IntKind.i64
      n_13,
      Value.int
      IntKind.i64
      n_14,
      Value.int
      IntKind.i64
      n_15,
      Value.int
      IntKind.i64
      n_16,
      Value.string
      s,
      Value.int
      IntKind.i64
      n_17,
      Value.int
      IntKind.i64
      n_18,
      Value.int
      IntKind.i64
      n_19,
      Value.bool
      b_1,
      Value.int
      IntKind.i64
      n_20,
      Value.string
      s_1,
      Value.string
      s_2,
      Value.int
      IntKind.i64
      n_21,
      Value.int
      IntKind.i64
      n_22,
      Value.int
      IntKind.i64
      n_23,
      Value.int
      IntKind.i64
      n_24,
      Value.int
      IntKind.i64
      n_25,
      Value.int
      IntKind.i64
      n_26,
      Value.string
      s_3,
      Value.string
      s_4,
      Value.int
      IntKind.i64
      n_27,
      Value.int
      IntKind.i64
      n_28,
      Value.slice
      a
      n_29
      c]) ∧
      (∃
      (old
      :
      List
      Value),
      ∃
      (src
      :
      List
      Value),
      AppPre
      m.sz
      (fun
      (z :
      Nat) =>
      z =
      b ∨
      ∃
      (o
      :
      Nat),
      q.r =
      some
      { block := z, off := o : Addr })
      (m'.newBlock
      b_3
      [Value.int
      IntKind.i64
      n,
      Value.int
      IntKind.i64
      n_12,
      Value.int
      IntKind.i64
      n_13,
      Value.int
      IntKind.i64
      n_14,
      Value.int
      IntKind.i64
      n_15,
      Value.int
      IntKind.i64
      n_16,
      Value.string
      s,
      Value.int
      IntKind.i64
      n_17,
      Value.int
      IntKind.i64
      n_18,
      Value.int
      IntKind.i64
      n_19,
      Value.bool
      b_1,
      Value.int
      IntKind.i64
      n_20,
      Value.string
      s_1,
      Value.string
      s_2,
      Value.int
      IntKind.i64
      n_21,
      Value.int
      IntKind.i64
      n_22,
      Value.int
      IntKind.i64
      n_23,
      Value.int
      IntKind.i64
      n_24,
      Value.int
      IntKind.i64
      n_25,
      Value.int
      IntKind.i64
      n_26,
      Value.string
      s_3,
      Value.string
      s_4,
      Value.int
      IntKind.i64
      n_27,
      Value.int
      IntKind.i64
      n_28,
      Value.slice
      a
      n_29
      c])
      (25 :
      Nat)
      (256 :
      Nat)
      a_5
      n_31
      c_3
      (some
      { block := b_3, off := (0 : Nat) : Addr })
      (1 :
      Nat)
      old
      src ∧
      ∀
      (a' :
      Option
      Addr)
      (c' :
      Nat)
      (m'_1 :
      M),
      AppPost
      Try.prog
      (58 :
      Nat)
      (m'.newBlock
      b_3
      [Value.int
      IntKind.i64
      n,
      Value.int
      IntKind.i64
      n_12,
      Value.int
      IntKind.i64
      n_13,
      Value.int
      IntKind.i64
      n_14,
      Value.int
      IntKind.i64
      n_15,
      Value.int
      IntKind.i64
      n_16,
      Value.string
      s,
      Value.int
      IntKind.i64
      n_17,
      Value.int
      IntKind.i64
      n_18,
      Value.int
      IntKind.i64
      n_19,
      Value.bool
      b_1,
      Value.int
      IntKind.i64
      n_20,
      Value.string
      s_1,
      Value.string
      s_2,
      Value.int
      IntKind.i64
      n_21,
      Value.int
      IntKind.i64
      n_22,
      Value.int
      IntKind.i64
      n_23,
      Value.int
      IntKind.i64
      n_24,
      Value.int
      IntKind.i64
      n_25,
      Value.int
      IntKind.i64
      n_26,
      Value.string
      s_3,
      Value.string
      s_4,
      Value.int
      IntKind.i64
      n_27,
      Value.int
      IntKind.i64
      n_28,
      Value.slice
      a
      n_29
      c])
      (25 :
      Nat)
      a_5
      n_31
      c_3
      (1 :
      Nat)
      old
      src
      a'
      c'
      m'_1 →
      (Wr
      m.sz
      (fun
      (z :
      Nat) =>
      z =
      b ∨
      ∃
      (o
      :
      Nat),
      q.r =
      some
      { block := z, off := o : Addr })
      m'_1
      b
      (54 :
      Nat)
      #[Value.slice
      a'
      (n_31 +
      (1 :
      Nat))
      c'].size ∧
      ∃
      (S'
      :
      Nat →
      Prop),
      (∀
      (b_4 :
      Nat),
      S'
      b_4 →
      (m'_1.setCells
      b
      (54 :
      Nat)
      [Value.slice
      a'
      (n_31 +
      (1 :
      Nat))
      c']).uf
      b_4 ∧
      (m.sz ≤
      b_4 ∨
      b_4 =
      b ∨
      ∃
      (o
      :
      Nat),
      q.r =
      some
      { block := b_4, off := o : Addr })) ∧
      ∀
      (n :
      Nat),
      m'_1.sz ≤
      n →
      SpecW
      Try.prog
      (76 :
      Nat)
      [Value.pointer
      (some
      { block := b, off := (0 : Nat) : Addr })]
      { π := (m'_1.setCells b (54 : Nat) [Value.slice a' (n_31 + (1 : Nat)) c']).π, sz := n, uf := (m'_1.setCells b (54 : Nat) [Value.slice a' (n_31 + (1 : Nat)) c']).uf : M }
      S'
      fun
      (v :
      Value)
      (m' :
      M) =>
      ∃
      (n
      :
      Int),
      ∃
      (b_4
      :
      Bool),
      v =
      Value.tuple
      #[Value.int
      IntKind.i64
      n,
      Value.bool
      b_4] ∧
      Done
      (Value.bool
      b_4 =
      Value.bool
      true ∧
      StpQ
      b
      w
      q
      m.sz
      m')) ∧
      True) ∧
      True) ∧
      True)
      (∃ (S' : Nat → Prop),
      (∀ (b_3 : Nat),
      S' b_3 →
      m'.uf b_3 ∧
      (m.sz ≤ b_3 ∨
      b_3 = b ∨
      ∃ (o : Nat),
      q.r =
      some
      { block := b_3, off := o : Addr })) ∧
      ∀ (n : Nat),
      m'.sz ≤ n →
      SpecW Try.prog
      (76 : Nat)
      [Value.pointer
      (some
      { block := b, off := (0 : Nat) : Addr })]
      { π := m'.π, sz := n, uf := m'.uf : M }
      S'
      fun (v : Value)
      (m' : M) =>
      ∃ (n : Int),
      ∃ (b_3 :
      Bool),
      v =
      Value.tuple
      #[Value.int
      IntKind.i64
      n,
      Value.bool
      b_3] ∧
      Done
      (Value.bool
      b_3 =
      Value.bool
      true ∧
      StpQ b
      w q
      m.sz
      m')))
      (∃ (S' : Nat → Prop),
      (∀ (b_3 : Nat),
      S' b_3 →
      m'.uf b_3 ∧
      (m.sz ≤ b_3 ∨
      b_3 = b ∨
      ∃ (o : Nat),
      q.r =
      some
      { block := b_3, off := o : Addr })) ∧
      ∀ (n : Nat),
      m'.sz ≤ n →
      SpecW Try.prog (76 : Nat)
      [Value.pointer
      (some
      { block := b, off := (0 : Nat) : Addr })]
      { π := m'.π, sz := n, uf := m'.uf : M }
      S'
      fun (v : Value)
      (m' : M) =>
      ∃ (n : Int),
      ∃ (b_3 : Bool),
      v =
      Value.tuple
      #[Value.int
      IntKind.i64
      n,
      Value.bool
      b_3] ∧
      Done
      (Value.bool b_3 =
      Value.bool
      true ∧
      StpQ b w q m.sz
      m'))) ∧
      True) ∧
      True)
      (ifB (kd == (5 : Int))
      (∃ (a : Option Addr),
      ∃ (n_1 : Nat),
      ∃ (c : Nat),
      CellsAt m b (54 : Nat) [Value.slice a n_1 c] ∧
      ifB (decide ((↑n_1 : Int) > (0 : Int)))
      (true = true ∧
      ∃ (a : Option Addr),
      ∃ (n_2 : Nat),
      ∃ (c : Nat),
      CellsAt m b (54 : Nat) [Value.slice a n_2 c] ∧
      ∃ (a_1 : Option Addr),
      ∃ (n_3 : Nat),
      ∃ (c : Nat),
      CellsAt m b (54 : Nat) [Value.slice a_1 n_3 c] ∧
      IntKind.u64.wrap (↑n_3 : Int) ≠ (0 : Int) ∧
      ∃ (b_1 : Nat),
      ∃ (off : Nat),
      a = some { block := b_1, off := off : Addr } ∧
      ((0 : Int) ≤ IntKind.i64.wrap ((IntKind.u64.wrap n).tmod (IntKind.u64.wrap (↑n_3 : Int))) ∧
      IntKind.i64.wrap ((IntKind.u64.wrap n).tmod (IntKind.u64.wrap (↑n_3 : Int))) < (↑n_2 : Int)) ∧
      ∃ (n_4 : Int),
      ∃ (n_5 : Int),
      ∃ (n_6 : Int),
      ∃ (n_7 : Int),
      ∃ (n_8 : Int),
      ∃ (n_9 : Int),
      ∃ (s : ByteArray),
      ∃ (n_10 : Int),
      ∃ (n_11 : Int),
      ∃ (n_12 : Int),
      ∃ (b_2 : Bool),
      ∃ (n_13 : Int),
      ∃ (s_1 : ByteArray),
      ∃ (s_2 : ByteArray),
      ∃ (n_14 : Int),
      ∃ (n_15 : Int),
      ∃ (n_16 : Int),
      ∃ (n_17 : Int),
      ∃ (n_18 : Int),
      ∃ (n_19 : Int),
      ∃ (s_3 : ByteArray),
      ∃ (s_4 : ByteArray),
      ∃ (n_20 : Int),
      ∃ (n_21 : Int),
      ∃ (a : Option Addr),
      ∃ (n_22 : Nat),
      ∃ (c : Nat),
      CellsAt m b_1
      (off +
      (IntKind.i64.wrap
      ((IntKind.u64.wrap n).tmod
      (IntKind.u64.wrap (↑n_3 : Int)))).toNat *
      (25 : Nat))
      [Value.int IntKind.i64 n_4, Value.int IntKind.i64 n_5,
      Value.int IntKind.i64 n_6, Value.int IntKind.i64 n_7,
      Value.int IntKind.i64 n_8, Value.int IntKind.i64 n_9, Value.string s,
      Value.int IntKind.i64 n_10, Value.int IntKind.i64 n_11,
      Value.int IntKind.i64 n_12, Value.bool b_2,
      Value.int IntKind.i64 n_13, Value.string s_1, Value.string s_2,
      Value.int IntKind.i64 n_14, Value.int IntKind.i64 n_15,
      Value.int IntKind.i64 n_16, Value.int IntKind.i64 n_17,
      Value.int IntKind.i64 n_18, Value.int IntKind.i64 n_19,
      Value.string s_3, Value.string s_4, Value.int IntKind.i64 n_20,
      Value.int IntKind.i64 n_21, Value.slice a n_22 c] ∧
      true = true ∧
      ∃ (s : ByteArray),
      ∃ (n : Int),
      ∃ (n_23 : Int),
      ∃ (n_24 : Int),
      ∃ (n_25 : Int),
      ∃ (a : Option Addr),
      ∃ (n_26 : Nat),
      ∃ (c : Nat),
      ∃ (n_27 : Int),
      ∃ (n_28 : Int),
      ∃ (n_29 : Int),
      ∃ (n_30 : Int),
      CellsAt m b (0 : Nat)
      [Value.string s, Value.int IntKind.i64 n,
      Value.int IntKind.i64 n_23,
      Value.int IntKind.i64 n_24,
      Value.int IntKind.i64 n_25,
      Value.slice a n_26 c,
      Value.int IntKind.i64 n_27,
      Value.int IntKind.i64 n_28,
      Value.int IntKind.i64 n_29,
      Value.int IntKind.i64 n_30] ∧
      (∀ (n_31 : Nat),
      m.sz ≤ n_31 →
      Vc.Spec Try.prog (35 : Nat)
      [Value.agg
      #[Value.string s,
      Value.int IntKind.i64 n,
      Value.int IntKind.i64 n_23,
      Value.int IntKind.i64 n_24,
      Value.int IntKind.i64 n_25,
      Value.slice a n_26 c,
      Value.int IntKind.i64 n_27,
      Value.int IntKind.i64 n_28,
      Value.int IntKind.i64 n_29,
      Value.int IntKind.i64 n_30],
      Value.int IntKind.i64 n_8,
      Value.int IntKind.i64 n_10,
      Value.int IntKind.i64 n_11,
      Value.int IntKind.i64 n_12]
      { π := m.π, sz := n_31, uf := m.uf : M }
      fun (v : Value) (m' : M) =>
      ∃ (s : ByteArray),
      ∃ (n : Int),
      ∃ (n_32 : Int),
      ∃ (n_33 : Int),
      ∃ (n_34 : Int),
      ∃ (a : Option Addr),
      ∃ (n_35 : Nat),
      ∃ (c : Nat),
      ∃ (n_36 : Int),
      ∃ (n_37 : Int),
      ∃ (n_38 : Int),
      ∃ (n_39 : Int),
      ∃ (n_40 :
      Int),
      v =
      Value.tuple
      #[Value.agg
      #[Value.string
      s,
      Value.int
      IntKind.i64
      n,
      Value.int
      IntKind.i64
      n_32,
      Value.int
      IntKind.i64
      n_33,
      Value.int
      IntKind.i64
      n_34,
      Value.slice
      a
      n_35
      c,
      Value.int
      IntKind.i64
      n_36,
      Value.int
      IntKind.i64
      n_37,
      Value.int
      IntKind.i64
      n_38,
      Value.int
      IntKind.i64
      n_39],
      Value.int
      IntKind.i64
      n_40] ∧
      ifB
      (n_40 ==
      (0 :
      Int))
      (Wr m.sz
      (fun
      (z :
      Nat) =>
      z =
      b ∨
      ∃
      (o
      :
      Nat),
      q.r =
      some
      { block := z, off := o : Addr })
      m' b
      (0 :
      Nat)
      #[Value.string
      s,
      Value.int
      IntKind.i64
      n,
      Value.int
      IntKind.i64
      n_32,
      Value.int
      IntKind.i64
      n_33,
      Value.int
      IntKind.i64
      n_34,
      Value.slice
      a
      n_35
      c,
      Value.int
      IntKind.i64
      n_36,
      Value.int
      IntKind.i64
      n_37,
      Value.int
      IntKind.i64
      n_38,
      Value.int
      IntKind.i64
      n_39].size ∧
      ∃ (S'
      :
      Nat →
      Prop),
      (∀
      (b_3 :
      Nat),
      S'
      b_3 →
      (m'.setCells
      b
      (0 :
      Nat)
      [Value.string
      s,
      Value.int
      IntKind.i64
      n,
      Value.int
      IntKind.i64
      n_32,
      Value.int
      IntKind.i64
      n_33,
      Value.int
      IntKind.i64
      n_34,
      Value.slice
      a
      n_35
      c,
      Value.int
      IntKind.i64
      n_36,
      Value.int
      IntKind.i64
      n_37,
      Value.int
      IntKind.i64
      n_38,
      Value.int
      IntKind.i64
      n_39]).uf
      b_3 ∧
      (m.sz ≤
      b_3 ∨
      b_3 =
      b ∨
      ∃
      (o
      :
      Nat),
      q.r =
      some
      { block := b_3, off := o : Addr })) ∧
      ∀
      (n_41 :
      Nat),
      m'.sz ≤
      n_41 →
      SpecW
      Try.prog
      (76 :
      Nat)
      [Value.pointer
      (some
      { block := b, off := (0 : Nat) : Addr })]
      { π := (m'.setCells b (0 : Nat) [Value.string s, Value.int IntKind.i64 n, Value.int IntKind.i64 n_32, Value.int IntKind.i64 n_33, Value.int IntKind.i64 n_34, Value.slice a n_35 c, Value.int IntKind.i64 n_36, Value.int IntKind.i64 n_37, Value.int IntKind.i64 n_38, Value.int IntKind.i64 n_39]).π, sz := n_41, uf := (m'.setCells b (0 : Nat) [Value.string s, Value.int IntKind.i64 n, Value.int IntKind.i64 n_32, Value.int IntKind.i64 n_33, Value.int IntKind.i64 n_34, Value.slice a n_35 c, Value.int IntKind.i64 n_36, Value.int IntKind.i64 n_37, Value.int IntKind.i64 n_38, Value.int IntKind.i64 n_39]).uf : M }
      S'
      fun
      (v :
      Value)
      (m' :
      M) =>
      ∃
      (n
      :
      Int),
      ∃
      (b_3
      :
      Bool),
      v =
      Value.tuple
      #[Value.int
      IntKind.i64
      n,
      Value.bool
      b_3] ∧
      Done
      (Value.bool
      b_3 =
      Value.bool
      true ∧
      StpQ
      b
      w
      q
      m.sz
      m'))
      (∃ (S' :
      Nat →
      Prop),
      (∀
      (b_3 :
      Nat),
      S'
      b_3 →
      m'.uf
      b_3 ∧
      (m.sz ≤
      b_3 ∨
      b_3 =
      b ∨
      ∃
      (o
      :
      Nat),
      q.r =
      some
      { block := b_3, off := o : Addr })) ∧
      ∀
      (n :
      Nat),
      m'.sz ≤
      n →
      SpecW
      Try.prog
      (76 :
      Nat)
      [Value.pointer
      (some
      { block := b, off := (0 : Nat) : Addr })]
      { π := m'.π, sz := n, uf := m'.uf : M }
      S'
      fun
      (v :
      Value)
      (m' :
      M) =>
      ∃
      (n
      :
      Int),
      ∃
      (b_3
      :
      Bool),
      v =
      Value.tuple
      #[Value.int
      IntKind.i64
      n,
      Value.bool
      b_3] ∧
      Done
      (Value.bool
      b_3 =
      Value.bool
      true ∧
      StpQ
      b
      w
      q
      m.sz
      m'))) ∧
      True)
      (∃ (S' : Nat → Prop),
      (∀ (b_1 : Nat), S' b_1 → m.uf b_1 ∧ (m.sz ≤ b_1 ∨ b_1 = b ∨ ∃ (o : Nat), q.r = some { block := b_1, off := o : Addr })) ∧
      ∀ (n : Nat),
      m.sz ≤ n →
      SpecW Try.prog (76 : Nat) [Value.pointer (some { block := b, off := (0 : Nat) : Addr })] { π := m.π, sz := n, uf := m.uf : M } S'
      fun (v : Value) (m' : M) =>
      ∃ (n : Int),
      ∃ (b_1 : Bool), v = Value.tuple #[Value.int IntKind.i64 n, Value.bool b_1] ∧ Done (Value.bool b_1 = Value.bool true ∧ StpQ b w q m.sz m')))
      (ifB (kd == (6 : Int))
      (true = true ∧
      ((0 : Int) ≤ IntKind.i64.wrap ((1 : Int) + IntKind.i64.wrap ((IntKind.u64.wrap nd).tmod (3 : Int))) ∧
      IntKind.i64.wrap ((1 : Int) + IntKind.i64.wrap ((IntKind.u64.wrap nd).tmod (3 : Int))) < (↑(4 : Nat) : Int)) ∧
      ∃ (a : Option Addr),
      ∃ (n : Nat),
      ∃ (c : Nat),
      CellsAt m b ((50 : Nat) + (IntKind.i64.wrap ((1 : Int) + IntKind.i64.wrap ((IntKind.u64.wrap nd).tmod (3 : Int)))).toNat * (1 : Nat)) [Value.slice a n c] ∧
      ((0 : Int) ≤ IntKind.i64.wrap ((1 : Int) + IntKind.i64.wrap ((IntKind.u64.wrap nd).tmod (3 : Int))) ∧
      IntKind.i64.wrap ((1 : Int) + IntKind.i64.wrap ((IntKind.u64.wrap nd).tmod (3 : Int))) < (↑(4 : Nat) : Int)) ∧
      ∃ (s : ByteArray),
      ∃ (n_1 : Int),
      ∃ (n_2 : Int),
      ∃ (n_3 : Int),
      ∃ (n_4 : Int),
      ∃ (a_1 : Option Addr),
      ∃ (n_5 : Nat),
      ∃ (c_1 : Nat),
      ∃ (n_6 : Int),
      ∃ (n_7 : Int),
      ∃ (n_8 : Int),
      ∃ (n_9 : Int),
      CellsAt m b
      ((10 : Nat) + (IntKind.i64.wrap ((1 : Int) + IntKind.i64.wrap ((IntKind.u64.wrap nd).tmod (3 : Int)))).toNat * (10 : Nat))
      [Value.string s, Value.int IntKind.i64 n_1, Value.int IntKind.i64 n_2, Value.int IntKind.i64 n_3, Value.int IntKind.i64 n_4,
      Value.slice a_1 n_5 c_1, Value.int IntKind.i64 n_6, Value.int IntKind.i64 n_7, Value.int IntKind.i64 n_8,
      Value.int IntKind.i64 n_9] ∧
      (∃ (S' : Nat → Prop),
      (∀ (b_1 : Nat), S' b_1 → m.uf b_1 ∧ (m.sz ≤ b_1 ∨ b_1 = b ∨ ∃ (o : Nat), q.r = some { block := b_1, off := o : Addr })) ∧
      ∀ (n_10 : Nat),
      m.sz ≤ n_10 →
      SpecW Try.prog (9 : Nat) [Value.slice a n c] { π := m.π, sz := n_10, uf := m.uf : M } S' fun (v : Value) (m' : M) =>
      ∃ (a : Option Addr),
      ∃ (n : Nat),
      ∃ (c : Nat),
      v = Value.slice a n c ∧
      MLe m m' ∧
      ∃ (n_11 : Int),
      ∃ (n_12 : Int),
      ∃ (n_13 : Int),
      QSpec Try.prog (26 : Nat)
      [Value.slice a n c, Value.int IntKind.i64 (1 : Int),
      Value.agg
      #[Value.string s, Value.int IntKind.i64 n_1, Value.int IntKind.i64 n_2,
      Value.int IntKind.i64 n_3, Value.int IntKind.i64 n_4, Value.slice a_1 n_5 c_1,
      Value.int IntKind.i64 n_6, Value.int IntKind.i64 n_7, Value.int IntKind.i64 n_8,
      Value.int IntKind.i64 n_9],
      Value.int IntKind.i64
      (IntKind.i64.wrap ((1 : Int) + IntKind.i64.wrap ((IntKind.u64.wrap nd).tmod (3 : Int))))]
      m'
      (Value.tuple
      #[Value.int IntKind.i64 n_11, Value.int IntKind.i64 n_12, Value.int IntKind.i64 n_13]) ∧
      ∃ (S' : Nat → Prop),
      (∀ (b_1 : Nat),
      S' b_1 →
      m'.uf b_1 ∧
      (m.sz ≤ b_1 ∨ b_1 = b ∨ ∃ (o : Nat), q.r = some { block := b_1, off := o : Addr })) ∧
      ∀ (n : Nat),
      m'.sz ≤ n →
      SpecW Try.prog (76 : Nat) [Value.pointer (some { block := b, off := (0 : Nat) : Addr })]
      { π := m'.π, sz := n, uf := m'.uf : M } S' fun (v : Value) (m' : M) =>
      ∃ (n : Int),
      ∃ (b_1 : Bool),
      v = Value.tuple #[Value.int IntKind.i64 n, Value.bool b_1] ∧
      ifB (n_13 == (0 : Int))
      (ifB (decide (n < n_11))
      (Done (Value.bool false = Value.bool true ∧ StpQ b w q m.sz m'))
      (ifB (decide (n > n_12))
      (Done (Value.bool false = Value.bool true ∧ StpQ b w q m.sz m'))
      (∃ (n : Int),
      CellsAt m' b (1 : Nat) [Value.int IntKind.i64 n] ∧
      ifB (decide (n_11 < n))
      (Done (Value.bool false = Value.bool true ∧ StpQ b w q m.sz m'))
      (∃ (n : Int),
      CellsAt m' b (2 : Nat) [Value.int IntKind.i64 n] ∧
      ifB (decide (n_12 > n))
      (Done
      (Value.bool false = Value.bool true ∧ StpQ b w q m.sz m'))
      (∃ (S' : Nat → Prop),
      (∀ (b_2 : Nat),
      S' b_2 →
      m'.uf b_2 ∧
      (m.sz ≤ b_2 ∨
      b_2 = b ∨
      ∃ (o : Nat),
      q.r =
      some { block := b_2, off := o : Addr })) ∧
      ∀ (n : Nat),
      m'.sz ≤ n →
      SpecW Try.prog (76 : Nat)
      [Value.pointer
      (some { block := b, off := (0 : Nat) : Addr })]
      { π := m'.π, sz := n, uf := m'.uf : M } S'
      fun (v : Value) (m' : M) =>
      ∃ (n : Int),
      ∃ (b_2 : Bool),
      v =
      Value.tuple
      #[Value.int IntKind.i64 n,
      Value.bool b_2] ∧
      Done
      (Value.bool b_2 = Value.bool true ∧
      StpQ b w q m.sz m'))))))
      (∃ (S' : Nat → Prop),
      (∀ (b_2 : Nat),
      S' b_2 →
      m'.uf b_2 ∧
      (m.sz ≤ b_2 ∨
      b_2 = b ∨
      ∃ (o : Nat), q.r = some { block := b_2, off := o : Addr })) ∧
      ∀ (n : Nat),
      m'.sz ≤ n →
      SpecW Try.prog (76 : Nat)
      [Value.pointer (some { block := b, off := (0 : Nat) : Addr })]
      { π := m'.π, sz := n, uf := m'.uf : M } S'
      fun (v : Value) (m' : M) =>
      ∃ (n : Int),
      ∃ (b_2 : Bool),
      v = Value.tuple #[Value.int IntKind.i64 n, Value.bool b_2] ∧
      Done
      (Value.bool b_2 = Value.bool true ∧ StpQ b w q m.sz m'))) ∧
      True)
      (∃ (S' : Nat → Prop),
      (∀ (b_1 : Nat), S' b_1 → m.uf b_1 ∧ (m.sz ≤ b_1 ∨ b_1 = b ∨ ∃ (o : Nat), q.r = some { block := b_1, off := o : Addr })) ∧
      ∀ (n_1 : Nat),
      m.sz ≤ n_1 →
      SpecW Try.prog (77 : Nat)
      [Value.pointer (some { block := b, off := (0 : Nat) : Addr }),
      Value.agg
      #[Value.int IntKind.i64 kd, Value.int IntKind.i64 way, Value.int IntKind.i64 nd, Value.int IntKind.i64 n, Value.int IntKind.i64 lo,
      Value.int IntKind.i64 hi, Value.bool cm],
      Value.int IntKind.i64 (IntKind.i64.wrap ((1 : Int) + IntKind.i64.wrap ((IntKind.u64.wrap nd).tmod (3 : Int))))]
      { π := m.π, sz := n_1, uf := m.uf : M } S' fun (v : Value) (m' : M) =>
      v = Value.tuple #[] ∧
      ∃ (S' : Nat → Prop),
      (∀ (b_1 : Nat), S' b_1 → m'.uf b_1 ∧ (m.sz ≤ b_1 ∨ b_1 = b ∨ ∃ (o : Nat), q.r = some { block := b_1, off := o : Addr })) ∧
      ∀ (n : Nat),
      m'.sz ≤ n →
      SpecW Try.prog (76 : Nat) [Value.pointer (some { block := b, off := (0 : Nat) : Addr })] { π := m'.π, sz := n, uf := m'.uf : M } S'
      fun (v : Value) (m' : M) =>
      ∃ (n : Int),
      ∃ (b_1 : Bool), v = Value.tuple #[Value.int IntKind.i64 n, Value.bool b_1] ∧ Done (Value.bool b_1 = Value.bool true ∧ StpQ b w q m.sz m'))))))) (by kernel_rfl) ?_
  refine ⟨rfl, by decide, ?_⟩
  have hj := node_in nd
  generalize IntKind.i64.wrap (1 + IntKind.i64.wrap ((IntKind.u64.wrap nd).tmod 3)) = j at *
  obtain ⟨j1, j3⟩ := hj
  have hb2 := bk_len (w.bk j)
  have fin : ∀ {w' : Nw} {q' : Nq} {m' : M}, NwI w' → w'.nx ≤ w.nx + 1 → PtN b w' q' m' → w'.rp.length ≤ 50 → (∀ b' o', q'.r = some ⟨b', o', none⟩ → q.r = some ⟨b', o', none⟩ ∨ m.sz ≤ b') → ∀ N, m'.sz ≤ N →
      SpecW Try.prog 76 [.pointer (some ⟨b, 0, none⟩)] { m' with sz := N } (fun _ => False) fun v m2 => ∃ n b_1, v = .tuple #[I n, .bool b_1] ∧ Done (Value.bool b_1 = Value.bool true ∧ StpQ b w q m.sz m2) := fun {w' q' m'} hw' hnx P hl hr N hN =>
    ((wtotal_q b w' q' hw' _ (P.sz hN)).spec).monoW fun v m2 ag hv => ⟨_, _, hv.1, ⟨rfl, ⟨w', q', hw', hnx, P.step hN ag, hl, hr⟩⟩⟩
  refine ifB_intro (fun g => ?_) (fun g2 => ifB_intro (fun g => ?_) (fun g3 => ifB_intro (fun g => ?_) (fun g4 => ifB_intro (fun g => ?_) (fun g5 => ifB_intro (fun g => ?_) (fun g6 => ?_)))))
  · obtain ⟨w1, P⟩ := h.setS j1 j3 (B := m.sz) (S := fun z => z = b ∨ ∃ o, q.r = some ⟨z, o, none⟩) (.inr (.inl rfl))
    have ca : CellsAt m b 0 (acc w.a q.a q.ca) := (show CellsAt m b 0 (acc w.a q.a q.ca ++ _) from h.cells).take
    exact ⟨rfl, _, _, _, _, _, _, _, _, _, _, _, _, ca, by omega, ⟨w1, _, noS, fun N hN => fin (hw.look j) (by show w.nx ≤ _; omega) P hrl (fun b' o' e => .inl e) N hN⟩, trivial⟩
  · have hs := h.seen j1 j3
    have hwfb := bk_wf hw (by omega) j
    obtain ⟨s1, s2, s3, s4⟩ := hw.sr j
    refine ⟨rfl, by omega, _, _, _, h.bkc j1 j3, by omega, _, _, _, _, _, _, _, _, _, _, _, _, hs, ⟨_, noS, fun N1 g1 => (own_s (q.b j) (q.cb j) (bkL (w.bk j)) (by omega) _ ((h.bk j (by omega) j3).row.sz g1)).monoW fun v m1 ag1 O => ?_⟩, trivial⟩
    obtain ⟨b1, e1, r1⟩ := O.out
    have P1 := h.step g1 ag1
    refine ⟨_, _, _, e1, MLe.ofAgree g1 ag1, _, _, _, _, _, lspend_q _ _ (bkL (w.bk j)) 1 (w.s j) (q.s j) (q.cs j) j n (by omega) hwfb s2 hn _ r1.take (P1.s j (by omega) j3).row, ?_⟩
    refine ifB_intro (fun g => ?_) (fun g => ⟨_, noS, fun N hN => fin hw (by omega) P1 hrl (fun b' o' e => .inl e) N hN⟩)
    obtain ⟨k1, k2, v', k3, k4, k5⟩ := spend_ok hw (by simpa using g)
    refine ⟨rfl, by omega, _, _, _, P1.bkc j1 j3, ⟨_, noS, fun N2 g2 => (nput_s (q.b j) (q.cb j) (bkL (w.bk j)) (spendE (bkL (w.bk j)) 1 (w.s j) j n).1 (by omega) _ ((P1.bk j (by omega) j3).row.sz g2)).monoW fun v m2 ag2 O2 => ?_⟩, trivial⟩
    obtain ⟨a2, c2, e2, r2, f2⟩ := O2.out
    rw [k4, k5] at e2 r2 f2
    have P2 := P1.step g2 ag2
    have lt1 := P1.lt
    obtain ⟨w2, P3⟩ := P2.setB j1 j3 ((findH (w.s j) j).le, v') a2 c2 ⟨r2, fun hne b' o' e => by have h5 : N2 ≤ b' := f2 (by simp) b' o' e; omega⟩ (fun z o e hc b' o' e3 => by have h5 : N2 ≤ b' := f2 (by simp) b' o' e3; have h6 := (P1.rx z o e hc).1; omega) (B := m.sz) (S := fun z => z = b ∨ ∃ o, q.r = some ⟨z, o, none⟩) (.inr (.inl rfl))
    exact ⟨_, _, _, _, e2, ifB_false' rfl ⟨by omega, w2, _, noS, fun N hN => fin (hw.put k1 k2 k3) (by show w.nx ≤ _; omega) P3 hrl (fun b' o' e => .inl e) N hN⟩⟩
  · have hs := h.seen j1 j3
    have hwfb := bk_wf hw (by omega) j
    obtain ⟨s1, s2, s3, s4⟩ := hw.sr j
    refine ⟨rfl, by omega, _, _, _, h.bkc j1 j3, by omega, _, _, _, _, _, _, _, _, _, _, _, _, hs, ⟨_, noS, fun N1 g1 => (own_s (q.b j) (q.cb j) (bkL (w.bk j)) (by omega) _ ((h.bk j (by omega) j3).row.sz g1)).monoW fun v m1 ag1 O => ?_⟩, trivial⟩
    obtain ⟨b1, e1, r1⟩ := O.out
    have P1 := h.step g1 ag1
    refine ⟨_, _, _, e1, MLe.ofAgree g1 ag1, ⟨_, noS, fun N2 g2 => ((lreport_q _ _ (bkL (w.bk j)) 1 (w.s j) (q.s j) (q.cs j) j (by omega) s2 _ (r1.take.sz g2) ((P1.s j (by omega) j3).row.sz g2)).spec).monoW fun v m2 ag2 hv => ⟨_, _, _, _, _, _, _, _, _, _, _, _, _, _, _, _, _, _, _, _, _, _, _, _, _, _, _, _, hv.1, ?_⟩⟩, trivial⟩
    have P2 := P1.step g2 ag2
    refine ifB_intro (fun g => ⟨_, _, _, P2.cell 54 _ rfl, ifB_intro (fun g50 => ?_) (fun _ => ⟨_, noS, fun N hN => fin hw (by omega) P2 hrl (fun b' o' e => .inl e) N hN⟩)⟩) (fun g => ⟨_, noS, fun N hN => fin hw (by omega) P2 hrl (fun b' o' e => .inl e) N hN⟩)
    have hl50 : w.rp.length < 50 := by simp at g50; omega
    have hrep : repC (bkL (w.bk j)) 1 (w.s j) j = ⟨2, j, (w.s j).key, (findH (w.s j) j).le, (w.s j).round, netR (bkL (w.bk j)) 1 (w.s j).key (findH (w.s j) j).le⟩ := by unfold repC; rw [if_pos g]
    have hro : (w.s j).round ≠ 0 := by
      simp only [repB, Bool.and_eq_true, decide_eq_true_eq] at g
      exact g.1.2
    have hkeep : NwI { w with rp := w.rp ++ [repC (bkL (w.bk j)) 1 (w.s j) j] } := hw.keep (n := j) (by rw [hrep]) (by rw [hrep]) hro (by rw [hrep]; simp only; rw [s3, net_bk hw]; exact nt_in64 hw _ _)
    refine ⟨rfl, _, _, _, P2.cell 54 _ rfl, ⟨rfl, fun b3 hb3 => ⟨MLe.newBlock hb3, ⟨_, _, ((P2.rp.newBlock hb3).re (B' := m.sz) (S' := fun z => z = b ∨ ∃ o, q.r = some ⟨z, o, none⟩) fun b' o' e _ _ => .inr (.inr ⟨o', e⟩)).appPre (n := 1) (Row.new) rfl rfl (by omega), fun a' c' m3 hp => ?_⟩, trivial⟩⟩, trivial⟩
    have P3 := P2.newBlock (ds := encCm (repC (bkL (w.bk j)) 1 (w.s j) j)) hb3
    obtain ⟨w3, P4, f4⟩ := P3.app (c := repC (bkL (w.bk j)) 1 (w.s j) j) hp (B := m.sz) (S := fun z => z = b ∨ ∃ o, q.r = some ⟨z, o, none⟩) (.inr (.inl rfl))
    have z1 : N1 ≤ m1.sz := ag1.2.2
    have z2 : N2 ≤ m2.sz := ag2.2.2
    exact ⟨⟨w3, _, noS, fun N hN => fin hkeep (by show w.nx ≤ _; omega) P4 (by simp; omega) (fun b' o' e => (f4 b' o' e).imp id (fun h => by simp only [M.newBlock] at h; omega)) N hN⟩, trivial⟩
  · refine ⟨_, _, _, h.cell 54 _ rfl, ifB_intro (fun g => ?_) (fun g => ⟨_, noS, fun N hN => fin hw (by omega) h hrl (fun b' o' e => .inl e) N hN⟩)⟩
    have hpos : 0 < w.rp.length := by simp at g; omega
    have wl : IntKind.u64.wrap (w.rp.length : Int) = w.rp.length := by rw [IntKind.wrap_u64]; omega
    have hu : 0 ≤ IntKind.u64.wrap n := by rw [IntKind.wrap_u64]; omega
    refine ⟨rfl, _, _, _, h.cell 54 _ rfl, _, _, _, h.cell 54 _ rfl, ?_⟩
    rw [wl, Int.tmod_eq_emod_of_nonneg hu]
    generalize IntKind.u64.wrap n = u at *
    have hm1 : 0 ≤ u % (w.rp.length : Int) := Int.emod_nonneg _ (by omega)
    have hm2 : u % (w.rp.length : Int) < w.rp.length := Int.emod_lt_of_pos _ (by omega)
    generalize u % (w.rp.length : Int) = i at *
    have wi : IntKind.i64.wrap i = i := by simp [IntKind.wrap_i64]; omega
    rw [wi]
    obtain ⟨br, orr, er, hc⟩ := h.rp.row.cells (by rw [cm_len]; omega)
    have hi2 : i.toNat < w.rp.length := by omega
    have hmem := List.getElem_mem hi2
    have hne := (hw.rp _ hmem).2.2.1
    have ca : CellsAt m b 0 (acc w.a q.a q.ca) := (show CellsAt m b 0 (acc w.a q.a q.ca ++ _) from h.cells).take
    refine ⟨by omega, br, orr, er, by omega, _, _, _, _, _, _, _, _, _, _, _, _, _, _, _, _, _, _, _, _, _, _, _, _, _, _, _, cm_at hc hi2, rfl, _, _, _, _, _, _, _, _, _, _, _, _, ca, fun N1 g1 => (areport_s w.a q.a q.ca w.rp[i.toNat].nd w.rp[i.toNat].le w.rp[i.toNat].ro w.rp[i.toNat].ne hw.wf hne (hd_none h.a.row) _ (h.a.row.sz g1)).mono fun v m1 ag1 R => ?_, trivial⟩
    obtain ⟨a', c', hv, hr⟩ := R.out
    have P1 := h.step g1 ag1
    refine ⟨_, _, _, _, _, _, _, _, _, _, _, _, _, hv, ifB_intro (fun g => ?_) (fun g => ⟨_, noS, fun N hN => fin hw (by omega) P1 hrl (fun b' o' e => .inl e) N hN⟩)⟩
    have hcnt := hw.count hmem (by simpa using g)
    obtain ⟨w1, P2⟩ := P1.setA _ a' c' (h.freshA (n := N1) g1 hr (by decide)) (fun z o e hc hne b' o' e2 => by have h1 := fresh_x hr hne e2; have h2 := (h.rx z o e hc).1; simp only at h1; omega) (B := m.sz) (S := fun z => z = b ∨ ∃ o, q.r = some ⟨z, o, none⟩) (.inr (.inl rfl))
    exact ⟨w1, _, noS, fun N hN => fin hcnt (by show w.nx ≤ _; omega) P2 hrl (fun b' o' e => .inl e) N hN⟩
  · have hs := h.seen j1 j3
    have hwfb := bk_wf hw (by omega) j
    obtain ⟨s1, s2, s3, s4⟩ := hw.sr j
    refine ⟨rfl, by omega, _, _, _, h.bkc j1 j3, by omega, _, _, _, _, _, _, _, _, _, _, _, _, hs, ⟨_, noS, fun N1 g1 => (own_s (q.b j) (q.cb j) (bkL (w.bk j)) (by omega) _ ((h.bk j (by omega) j3).row.sz g1)).monoW fun v m1 ag1 O => ?_⟩, trivial⟩
    obtain ⟨b1, e1, r1⟩ := O.out
    have P1 := h.step g1 ag1
    refine ⟨_, _, _, e1, MLe.ofAgree g1 ag1, _, _, _, lbracket_q _ _ (bkL (w.bk j)) 1 (w.s j) (q.s j) (q.cs j) j (by omega) hwfb s2 _ r1.take (P1.s j (by omega) j3).row, ?_⟩
    refine ⟨_, noS, fun N2 g2 => ((wtotal_q b w q hw _ (P1.sz g2)).spec).monoW fun v m2 ag2 hv => ⟨_, _, hv.1, ?_⟩⟩
    have P2 := P1.step g2 ag2
    refine ifB_intro (fun g => ?_) (fun g => ⟨_, noS, fun N hN => fin hw (by omega) P2 hrl (fun b' o' e => .inl e) N hN⟩)
    obtain ⟨k1, k2, k3, k4⟩ := brack_ok hw (by simpa using g)
    exact ifB_false' (by simpa using k1) (ifB_false' (by simpa using k2) ⟨_, P2.cell 1 _ rfl, ifB_false' (by simpa using k3) ⟨_, P2.cell 2 _ rfl, ifB_false' (by simpa using k4) ⟨_, noS, fun N hN => fin hw (by omega) P2 hrl (fun b' o' e => .inl e) N hN⟩⟩⟩)
  · refine ⟨fun z => z = b, fun z e => ⟨by subst e; exact h.uf, .inr (.inl e)⟩, fun N1 g1 => (wcall_s b w q kd way nd n lo hi j cm hw hn h1 h2 hx _ (h.sz g1)).mono fun v m1 ag1 ⟨hv, q', P1, hq⟩ => ⟨hv, _, noS, fun N hN => fin (hw.call j1 j3 hn h1 h2 hx) (Int.le_refl _) P1 hrl (fun b' o' e => .inl (by rw [← hq]; exact e)) N hN⟩⟩

end Go.Proofs.Ytfkielfnceeedaa
set_option linter.unusedVariables false
set_option linter.unusedSimpArgs false
namespace Go.Proofs.Ytfkielfnceeedaa
open Go.Vc Go.RowKit Go.ChangeShapes Go.WideShapes Go.ChangeAt
set_option maxRecDepth 100000

theorem cells_acc : Try.prog.cellsOf 46 = 10 := by kernel_rfl

theorem cells_hd : Try.prog.cellsOf 67 = 4 := by kernel_rfl

theorem cells_lk : Try.prog.cellsOf 44 = 4 := by kernel_rfl

theorem cells_sp : Try.prog.cellsOf 41 = 2 := by kernel_rfl

theorem cells_int : Try.prog.cellsOf 3 = 1 := by kernel_rfl

theorem cells_str : Try.prog.cellsOf 9 = 1 := by kernel_rfl

theorem cells_hds : Try.prog.cellsOf 42 = 1 := by kernel_rfl

/-- cells that are read as an account -/
theorem rd_acc {m : M} {N d : Nat} {cs : List Value} (h : Rd Try.prog m N (d + 4) 46 cs) (hN : N ≤ 9223372036854775807) :
    ∃ (x : Ac) (a : Option Addr) (c : Nat), cs = acc x a c ∧ x.wf ∧ x.hs.length ≤ N ∧ x.hs.length ≤ c ∧ c ≤ N ∧ (a = none → x.hs = []) ∧ Row m a (hds x.hs) := by
  simp only [Rd, Try.underlying46, Try.underlying41, Try.underlying44, Try.underlying3, Try.underlying9, Try.underlying42, Try.underlying67, fieldsD, cells_acc, cells_hd, cells_lk, cells_sp, cells_int, cells_str, cells_hds] at h
  obtain ⟨hl, ⟨k, hk, hks⟩, ⟨-, ⟨lo, hlo, wlo⟩, ⟨hi, hhi, whi⟩, -⟩, ⟨base, hbase, wbase⟩, ⟨round, hround, wround⟩, ⟨a, c, rows, hsl, h1, h2, h3, h4, h5⟩, ⟨-, ⟨l1, hl1, w1⟩, ⟨l2, hl2, w2⟩, ⟨l3, hl3, w3⟩, ⟨l4, hl4, w4⟩, -⟩, -⟩ := h
  obtain ⟨z, hz, he, hw⟩ := rows_list (α := Hd) (e := encH) (p := Hd.wf) rows fun r hr => by
    obtain ⟨g0, ⟨-, ⟨n1, hn1, v1⟩, ⟨n2, hn2, v2⟩, ⟨n3, hn3, v3⟩, ⟨n4, hn4, v4⟩, -⟩⟩ := h4 r hr
    obtain ⟨c1, c2, c3, c4, rfl⟩ : ∃ c1 c2 c3 c4, r = [c1, c2, c3, c4] := by
      match r, g0 with
      | [c1, c2, c3, c4], _ => exact ⟨c1, c2, c3, c4, rfl⟩
    simp at hn1 hn2 hn3 hn4
    subst hn1 hn2 hn3 hn4
    exact ⟨⟨n1, n2, n3, n4⟩, rfl, in64_of v1, in64_of v2, in64_of v3, in64_of v4⟩
  obtain ⟨c1, c2, c3, c4, c5, c6, c7, c8, c9, c10, rfl⟩ : ∃ c1 c2 c3 c4 c5 c6 c7 c8 c9 c10, cs = [c1, c2, c3, c4, c5, c6, c7, c8, c9, c10] := by
    match cs, hl with
    | [c1, c2, c3, c4, c5, c6, c7, c8, c9, c10], _ => exact ⟨_, _, _, _, _, _, _, _, _, _, rfl⟩
  simp at hk hlo hhi hbase hround hsl hl1 hl2 hl3 hl4
  subst hk hlo hhi hbase hround hsl hl1 hl2 hl3 hl4
  refine ⟨⟨k, lo, hi, base, round, z, ⟨l1, l2, l3, l4⟩⟩, a, c, by simp [acc, hz], ⟨Nat.le_trans hks hN, in64_of wlo, in64_of whi, in64_of wbase, in64_of wround, hw, by simp only [hz]; omega, in64_of w1, in64_of w2, in64_of w3, in64_of w4⟩, by simp only [hz]; omega, by simp only [hz]; omega, h2, fun e => ?_, ?_⟩
  · have : z.length = 0 := by have := h3 e; omega
    simpa using this
  · rw [he] at h5; exact h5

variable {H : Type} {enc : TypeId × Value → H} {W : World} {r : Reach} {b0 : Nat} {v : Value} {d : DataW H} {p : List MemPlace} {N : Nat} {Bd : DataW H → Prop}

theorem open_acc (B : Bound N Bd) (hN : N ≤ 9223372036854775807) (hv : Value.okWide Try.prog W r b0 46 v) (h : DataW.Trod enc Try.prog W 0 (fun _ => true) true 46 v d p) (hb : Bd d) :
    ∃ (x : Ac) (a : Option Addr) (c : Nat), v = acv x a c ∧ x.wf ∧ x.hs.length ≤ N ∧ (a = none → x.hs = []) ∧ Row (M.all W) a (hds x.hs) := by
  obtain ⟨cs, rfl, hl⟩ := open_agg Try.underlying46 cells_acc hv
  obtain ⟨fuel, hf⟩ := h
  have hr := rd_of_trod B 4 fuel 46 _ _ hf hb
  simp only [Value.cells] at hr
  obtain ⟨x, a, c, he, hw, h1, h2, h3, h4, h5⟩ := rd_acc (d := 0) hr hN
  exact ⟨x, a, c, by rw [show cs = acc x a c from he], hw, h1, h4, h5⟩

theorem open_lk (hv : Value.okWide Try.prog W r b0 44 v) (h : DataW.Trod enc Try.prog W 0 (fun _ => true) true 44 v d p) :
    ∃ k : Lk, v = .agg #[I k.cl, I k.sq, I k.hm, I k.n] ∧ k.wf := by
  obtain ⟨cs, rfl, hl⟩ := open_agg Try.underlying44 cells_lk hv
  obtain ⟨fuel, hf⟩ := h
  have hr := rd_of_trod (bound_any H) 2 fuel 44 _ _ hf trivial
  simp only [Rd, Try.underlying44, Try.underlying3, fieldsD, cells_lk, cells_int] at hr
  obtain ⟨-, ⟨l1, hl1, w1⟩, ⟨l2, hl2, w2⟩, ⟨l3, hl3, w3⟩, ⟨l4, hl4, w4⟩, -⟩ := hr
  obtain ⟨c1, c2, c3, c4, rfl⟩ : ∃ c1 c2 c3 c4, cs = [c1, c2, c3, c4] := by
    match cs, hl with
    | [c1, c2, c3, c4], _ => exact ⟨_, _, _, _, rfl⟩
  simp [Value.cells] at hl1 hl2 hl3 hl4
  subst hl1 hl2 hl3 hl4
  exact ⟨⟨l1, l2, l3, l4⟩, rfl, in64_of w1, in64_of w2, in64_of w3, in64_of w4⟩

theorem open_sp (hv : Value.okWide Try.prog W r b0 41 v) (h : DataW.Trod enc Try.prog W 0 (fun _ => true) true 41 v d p) :
    ∃ lo hi : Int, v = sp lo hi ∧ In64 lo ∧ In64 hi := by
  obtain ⟨cs, rfl, hl⟩ := open_agg Try.underlying41 cells_sp hv
  obtain ⟨fuel, hf⟩ := h
  have hr := rd_of_trod (bound_any H) 2 fuel 41 _ _ hf trivial
  simp only [Rd, Try.underlying41, Try.underlying3, fieldsD, cells_sp, cells_int] at hr
  obtain ⟨-, ⟨l1, hl1, w1⟩, ⟨l2, hl2, w2⟩, -⟩ := hr
  obtain ⟨c1, c2, rfl⟩ : ∃ c1 c2, cs = [c1, c2] := by
    match cs, hl with
    | [c1, c2], _ => exact ⟨_, _, rfl⟩
  simp [Value.cells] at hl1 hl2
  subst hl1 hl2
  exact ⟨l1, l2, rfl, in64_of w1, in64_of w2⟩

end Go.Proofs.Ytfkielfnceeedaa
set_option linter.unusedVariables false
set_option linter.unusedSimpArgs false
namespace Go.Proofs.Ytfkielfnceeedaa
open Go.Vc Go.RowKit
set_option maxRecDepth 100000

structure NeX where
  k : Nat
  b : Nat
  w : Nw
  q : Nq
  m : M

structure NeI (N : Nat) (z : List Zp) (za : Option Addr) (y : NeX) : Prop where
  k : y.k ≤ z.length
  k4 : y.k ≤ 400
  i : NwI y.w
  nx : y.w.nx ≤ y.k
  p : PtN y.b y.w y.q y.m
  rl : y.w.rp.length ≤ 50
  rz : Row y.m za (zps z)
  lo : N ≤ y.b
  rlo : ∀ b' o', y.q.r = some ⟨b', o', none⟩ → N ≤ b'

def nvA (lo hi base : Int) : Ac := ⟨⟨#[107]⟩, lo, hi, base, 0, [], ⟨0, 0, 0, 0⟩⟩

def nvW (lo hi base : Int) : Nw := ⟨nvA lo hi base, fun _ => nvA lo hi base, fun _ => none, [], 0⟩

def nvQ : Nq := ⟨none, 0, fun _ => none, fun _ => 0, fun _ => none, fun _ => 0, none, 0⟩

theorem nvA_wf {lo hi base : Int} (h1 : In64 lo) (h2 : In64 hi) (h3 : In64 base) : (nvA lo hi base).wf :=
  ⟨by show (ByteArray.mk #[107]).size ≤ _; decide, h1, h2, h3, by show In64 0; decide, fun h hm => by simp [nvA] at hm, by simp [nvA], ⟨by show In64 0; decide, by show In64 0; decide, by show In64 0; decide, by show In64 0; decide⟩⟩

theorem nvA_find {lo hi base : Int} (n : Int) : findB (nvA lo hi base) n ≠ true := by
  unfold findB
  simp [nvA, fndH]

theorem nvW_ok {lo hi base : Int} (h1 : In64 lo) (h2 : In64 hi) (h3 : In64 base) (hr : rightB (nvA lo hi base) = true) : NwI (nvW lo hi base) :=
  ⟨hr, nvA_wf h1 h2 h3, rfl, Int.le_refl _, fun n hn => absurd hn (nvA_find n), Int.le_refl _, fun n => ⟨hr, nvA_wf h1 h2 h3, rfl, Int.le_refl _⟩, fun n _ hn => absurd hn (nvA_find n), fun n p hp => (by cases hp), fun c hc => by simp [nvW] at hc⟩

theorem nvP {lo hi base : Int} {b n : Nat} {m : M} (hb : Fresh n m b) : PtN b (nvW lo hi base) nvQ (m.newBlock b (encNw (nvW lo hi base) nvQ)) :=
  ⟨cellsAt_new, fun j hj => by simp only [M.newBlock]; rw [show Nat.beq b b = true by simp]; exact List.getElem?_eq_none (by simpa using hj), .inl rfl, by simp only [M.newBlock]; omega, ⟨.nil _, fun hne => absurd rfl hne⟩, fun n _ _ => ⟨.nil _, fun hne => absurd rfl hne⟩, fun n _ _ => ⟨.nil _, fun hne => absurd rfl hne⟩, .nil _, fun b' o' e => (by cases e), fun z o e => (by cases e), fun z o e => (by cases e)⟩

set_option maxHeartbeats 1000000 in
theorem ledgernever (lo hi base : Int) (za : Option Addr) (zc : Nat) (z : List Zp) (h1 : In64 lo) (h2 : In64 hi) (h3 : In64 base) (hz : ∀ x ∈ z, x.wf) (hl : z.length ≤ 9223372036854775807) (m : M) (h : Row m za (zps z)) :
    QSpec Try.prog 8 [.agg #[I lo, I hi], I base, .slice za z.length zc] m (.bool true) := by
  refine QSpec.of_vc Try.func8 (ann := fun n _ => { A := NeX, inv := fun y => NeI n z za y, st := fun y => [(9, .val (I y.k)), (2, .val (.slice za z.length zc)), (8, .val (.pointer (some ⟨y.b, 0, none⟩)))], own := fun _ => [], m := fun y => y.m, μ := fun y => 400 - y.k, esc := [21] }) fun N hN => ?_
  refine vc_by (X :=
      true = true ∧
      ∃ (b : Bool),
      QSpec Try.prog (13 : Nat) [] { π := m.π, sz := N, uf := m.uf : M } (Value.bool b) ∧
      ifB (!b) (∃ (b : Bool), QSpec Try.prog (13 : Nat) [] { π := m.π, sz := N, uf := m.uf : M } (Value.bool b) ∧ Done (Value.bool b = Value.bool true))
      (∃ (b : Bool),
      QSpec Try.prog (32 : Nat)
      [Value.agg
      #[Value.string { data := #[(107 : UInt8)] : ByteArray }, Value.int IntKind.i64 lo, Value.int IntKind.i64 hi, Value.int IntKind.i64 base,
      Value.int IntKind.i64 (0 : Int), Value.slice none (0 : Nat) (0 : Nat), Value.int IntKind.i64 (0 : Int), Value.int IntKind.i64 (0 : Int),
      Value.int IntKind.i64 (0 : Int), Value.int IntKind.i64 (0 : Int)]]
      { π := m.π, sz := N, uf := m.uf : M } (Value.bool b) ∧
      ifB (!b) (∃ (b : Bool), QSpec Try.prog (13 : Nat) [] { π := m.π, sz := N, uf := m.uf : M } (Value.bool b) ∧ Done (Value.bool b = Value.bool true))
      (∀ (b : Nat),
      Fresh N { π := m.π, sz := N, uf := m.uf : M } b →
      (∃ (a : NeX),
      NeI N z za a ∧
      { π := m.π, sz := N, uf := m.uf : M }.newBlock b
      [Value.string { data := #[(107 : UInt8)] : ByteArray }, Value.int IntKind.i64 lo, Value.int IntKind.i64 hi, Value.int IntKind.i64 base,
      Value.int IntKind.i64 (0 : Int), Value.slice none (0 : Nat) (0 : Nat), Value.int IntKind.i64 (0 : Int), Value.int IntKind.i64 (0 : Int),
      Value.int IntKind.i64 (0 : Int), Value.int IntKind.i64 (0 : Int), Value.string { data := #[(107 : UInt8)] : ByteArray }, Value.int IntKind.i64 lo,
      Value.int IntKind.i64 hi, Value.int IntKind.i64 base, Value.int IntKind.i64 (0 : Int), Value.slice none (0 : Nat) (0 : Nat),
      Value.int IntKind.i64 (0 : Int), Value.int IntKind.i64 (0 : Int), Value.int IntKind.i64 (0 : Int), Value.int IntKind.i64 (0 : Int),
      Value.string { data := #[(107 : UInt8)] : ByteArray }, Value.int IntKind.i64 lo, Value.int IntKind.i64 hi, Value.int IntKind.i64 base,
      Value.int IntKind.i64 (0 : Int), Value.slice none (0 : Nat) (0 : Nat), Value.int IntKind.i64 (0 : Int), Value.int IntKind.i64 (0 : Int),
      Value.int IntKind.i64 (0 : Int), Value.int IntKind.i64 (0 : Int), Value.string { data := #[(107 : UInt8)] : ByteArray }, Value.int IntKind.i64 lo,
      Value.int IntKind.i64 hi, Value.int IntKind.i64 base, Value.int IntKind.i64 (0 : Int), Value.slice none (0 : Nat) (0 : Nat),
      Value.int IntKind.i64 (0 : Int), Value.int IntKind.i64 (0 : Int), Value.int IntKind.i64 (0 : Int), Value.int IntKind.i64 (0 : Int),
      Value.string { data := #[(107 : UInt8)] : ByteArray }, Value.int IntKind.i64 lo, Value.int IntKind.i64 hi, Value.int IntKind.i64 base,
      Value.int IntKind.i64 (0 : Int), Value.slice none (0 : Nat) (0 : Nat), Value.int IntKind.i64 (0 : Int), Value.int IntKind.i64 (0 : Int),
      Value.int IntKind.i64 (0 : Int), Value.int IntKind.i64 (0 : Int), Value.slice none (0 : Nat) (0 : Nat), Value.slice none (0 : Nat) (0 : Nat),
      Value.slice none (0 : Nat) (0 : Nat), Value.slice none (0 : Nat) (0 : Nat), Value.slice none (0 : Nat) (0 : Nat), Value.int IntKind.i64 (0 : Int)] =
      a.m ∧
      ((SV.val (Value.int IntKind.i64 (0 : Int)) = SV.val (Value.int IntKind.i64 (↑a.k : Int)) ∧ true = true) ∧
      (SV.val (Value.slice za z.length zc) = SV.val (Value.slice za z.length zc) ∧ true = true) ∧
      (SV.val (Value.pointer (some { block := b, off := (0 : Nat) : Addr })) = SV.val (Value.pointer (some { block := a.b, off := (0 : Nat) : Addr })) ∧
      true = true) ∧
      True) ∧
      True) ∧
      ∀ (a : NeX),
      NeI N z za a →
      ifB (decide ((↑a.k : Int) < (↑z.length : Int)))
      (ifB (decide ((↑a.k : Int) < (400 : Int)))
      (∃ (b : Nat),
      ∃ (off : Nat),
      za = some { block := b, off := off : Addr } ∧
      ((0 : Int) ≤ (↑a.k : Int) ∧ (↑a.k : Int) < (↑z.length : Int)) ∧
      ∃ (n : Int),
      ∃ (n_1 : Int),
      ∃ (n_2 : Int),
      ∃ (n_3 : Int),
      ∃ (n_4 : Int),
      ∃ (n_5 : Int),
      ∃ (b_1 : Bool),
      CellsAt a.m b (off + (↑a.k : Int).toNat * (7 : Nat))
      [Value.int IntKind.i64 n, Value.int IntKind.i64 n_1, Value.int IntKind.i64 n_2, Value.int IntKind.i64 n_3,
      Value.int IntKind.i64 n_4, Value.int IntKind.i64 n_5, Value.bool b_1] ∧
      ∃ (S' : Nat → Prop),
      (∀ (b : Nat), S' b → a.m.uf b ∧ (N ≤ b ∨ False)) ∧
      ∀ (n_6 : Nat),
      a.m.sz ≤ n_6 →
      SpecW Try.prog (37 : Nat)
      [Value.pointer (some { block := a.b, off := (0 : Nat) : Addr }),
      Value.agg
      #[Value.int IntKind.i64 n, Value.int IntKind.i64 n_1, Value.int IntKind.i64 n_2, Value.int IntKind.i64 n_3,
      Value.int IntKind.i64 n_4, Value.int IntKind.i64 n_5, Value.bool b_1]]
      { π := a.m.π, sz := n_6, uf := a.m.uf : M } S' fun (v : Value) (m' : M) =>
      ∃ (b : Bool),
      v = Value.bool b ∧
      ifB (!b) (Done (Value.bool false = Value.bool true))
      (∃ (a' : NeX),
      (NeI N z za a' ∧
      m' = a'.m ∧
      ((SV.val (Value.int IntKind.i64 (IntKind.i64.wrap ((↑a.k : Int) + (1 : Int)))) =
      SV.val (Value.int IntKind.i64 (↑a'.k : Int)) ∧
      true = true) ∧
      (SV.val (Value.slice za z.length zc) = SV.val (Value.slice za z.length zc) ∧ true = true) ∧
      (SV.val (Value.pointer (some { block := a.b, off := (0 : Nat) : Addr })) =
      SV.val (Value.pointer (some { block := a'.b, off := (0 : Nat) : Addr })) ∧
      true = true) ∧
      True) ∧
      True) ∧
      (400 : Nat) - a'.k < (400 : Nat) - a.k))
      (Done (Value.bool true = Value.bool true)))
      (Done (Value.bool true = Value.bool true))))) (by kernel_rfl) ?_
  have hA := nvA_wf h1 h2 h3
  have hq := rright_q (nvA lo hi base) none 0 hA { m with sz := N } (.nil _)
  refine ⟨rfl, _, lawake_q _, ifB_false ⟨_, hq, ?_⟩⟩
  cases hr : rightB (nvA lo hi base) with
  | false => exact ifB_true ⟨_, lawake_q _, ⟨rfl⟩⟩
  | true =>
  refine ifB_false fun b hb => ⟨⟨⟨0, b, nvW lo hi base, nvQ, _⟩, ⟨Nat.zero_le _, Nat.zero_le _, nvW_ok h1 h2 h3 hr, Int.le_refl _, nvP hb, Nat.zero_le _, (h.sz hN).newBlock hb.lo, hb.lo, fun b' o' e => by cases e⟩, rfl, by simp⟩, ?_⟩
  rintro ⟨k, b, w, q, mx⟩ ⟨hk, hk4, hw, hnx, P, hrl, hrz, hlo, hrlo⟩
  simp only at hk hk4 hw hnx P hrl hrz hlo hrlo ⊢
  refine ifB_intro (fun g1 => ifB_intro (fun g2 => ?_) (fun _ => ⟨trivial⟩)) (fun _ => ⟨trivial⟩)
  have hk2 : k < z.length := by simpa using g1
  have h400 : k < 400 := by simp at g2; omega
  have wk : IntKind.i64.wrap ((k : Int) + 1) = ((k + 1 : Nat) : Int) := by simp [IntKind.wrap_i64]; omega
  obtain ⟨bz, oz, ez, hc⟩ := hrz.cells (by rw [zp_len]; omega)
  obtain ⟨v1, v2, v3, v4, v5, v6⟩ := hz _ (List.getElem_mem hk2)
  have hstep := fun n hn => wstep_s b w q z[k].kd z[k].wy z[k].nd z[k].n z[k].sp_lo z[k].sp_hi z[k].cm hw v4 v5 v6 (by omega) hrl { mx with sz := n } (P.sz hn)
  refine ⟨bz, oz, ez, by omega, z[k].kd, z[k].wy, z[k].nd, z[k].n, z[k].sp_lo, z[k].sp_hi, z[k].cm, by simpa using zp_at hc hk2, fun y => y = b ∨ ∃ o, q.r = some ⟨y, o, none⟩, ?_, fun n hn => (hstep n hn).mono fun v m' ag hO => ?_⟩
  · rintro y (rfl | ⟨o, e⟩)
    · exact ⟨P.uf, .inl hlo⟩
    · exact ⟨(P.ru _ _ e).1, .inl (hrlo _ _ e)⟩
  · obtain ⟨hv, O⟩ := hO
    refine ⟨_, hv, ifB_false ?_⟩
    obtain ⟨w', q', hw', hnx', P', hrl', hr'⟩ := O.out
    have hsz : mx.sz ≤ m'.sz := Nat.le_trans hn ag.2.2
    refine ⟨⟨k + 1, b, w', q', m'⟩, ⟨⟨hk2, h400, hw', by simp only; omega, P', hrl', ?_, hlo, fun b' o' e => ?_⟩, rfl, by simp [wk]⟩, by simp only; omega⟩
    · refine hrz.of hsz fun b' o' e hb' => ag.1 b' (Nat.lt_of_lt_of_le hb' hn) ?_
      have hlt := h.lt (by intro e; rw [List.eq_nil_iff_length_eq_zero, zp_len] at e; omega) e
      rintro (rfl | ⟨o, e⟩)
      · omega
      · have := hrlo _ _ e; omega
    · rcases hr' b' o' e with h5 | h5
      · exact hrlo b' o' h5
      · have h6 := P.lt
        have h5 : n ≤ b' := h5
        omega

end Go.Proofs.Ytfkielfnceeedaa
