/-
  Contracts of functions of this seat: what each hands back, and what it leaves of memory (wit3). Nothing here is trusted: Lean checks it.
-/
import Derived.Test.YtbhlhnkjmncloaaDeltt
set_option linter.unusedVariables false
set_option linter.unusedSimpArgs false
namespace Go.Proofs.Ytbhlhnkjmncloaa
open Go.Vc Go.RowKit
set_option maxRecDepth 100000

theorem wplace_q (a : Option Addr) (cp : Nat) (l : List Tt) (k : ByteArray) (hn : l.length ≤ 4194304) (ht : totB none l = true) (m : M) (h : Row m a (tts l)) : QSpec Try.prog 51 [.slice a l.length cp, .string k] m (.tuple #[I (ttP l (zT k)), .bool (ofT l (zT k)).isSome]) := by
  refine QSpec.of_vc Try.func51 (ann := fun _ => noAnn) fun n hn' => ?_
  refine vc_by (X :=
      true = true ∧
      ∃ (n_1 : Int),
      ∃ (b : Bool),
      QSpec Try.prog (63 : Nat) [Value.slice a l.length cp, Value.string k, Value.func (Fn.func (64 : Nat)) #[] #[]] { π := m.π, sz := n, uf := m.uf : M }
      (Value.tuple #[Value.int IntKind.i64 n_1, Value.bool b]) ∧
      Done (Value.tuple #[Value.int IntKind.i64 n_1, Value.bool b] = Value.tuple #[Value.int IntKind.i64 (↑(ttP l (zT k)) : Int), Value.bool (ofT l (zT k)).isSome])) (by kernel_rfl) ?_
  have hbs := tt_bsearch a cp l k (fun x => ordT x (zT k)) (ttP l (zT k)) (by omega) { m with sz := n } (h.sz hn') (fun x _ m'' => wplace1_q x k m'') (ttP_le l _) (fun j hj hp => by
      have := ttP_lt ht j hj hp
      rw [ordT_bel, this]; simp) (fun j hj hp => by
      have := ttP_ge ht j hj hp
      show (0 : Int) ≤ ordT l[j] (zT k)
      rw [ordT_bel, this]
      by_cases h5 : sameT l[j] (zT k) = true <;> simp [h5])
  rw [ttP_of ht] at hbs
  exact ⟨rfl, _, _, hbs, ⟨rfl⟩⟩

theorem wfind_q (a : Option Addr) (cp : Nat) (l : List Tt) (k : ByteArray) (hn : l.length ≤ 4194304) (ht : totB none l = true) (m : M) (h : Row m a (tts l)) : QSpec Try.prog 35 [.slice a l.length cp, .string k] m (ttv (fndT l k)) := by
  refine QSpec.of_vc Try.func35 (ann := fun _ => noAnn) fun n hn' => ?_
  refine vc_by (X :=
      true = true ∧
      ∃ (n_1 : Int),
      ∃ (b : Bool),
      QSpec Try.prog (51 : Nat) [Value.slice a l.length cp, Value.string k] { π := m.π, sz := n, uf := m.uf : M } (Value.tuple #[Value.int IntKind.i64 n_1, Value.bool b]) ∧
      ifB b
      (∃ (b : Nat),
      ∃ (off : Nat),
      a = some { block := b, off := off : Addr } ∧
      ((0 : Int) ≤ n_1 ∧ n_1 < (↑l.length : Int)) ∧
      ∃ (s : ByteArray),
      ∃ (n_2 : Int),
      ∃ (n_3 : Int),
      ∃ (n_4 : Int),
      CellsAt { π := m.π, sz := n, uf := m.uf : M } b (off + n_1.toNat * (4 : Nat))
      [Value.string s, Value.int IntKind.i64 n_2, Value.int IntKind.i64 n_3, Value.int IntKind.i64 n_4] ∧
      Done
      (Value.agg #[Value.string s, Value.int IntKind.i64 n_2, Value.int IntKind.i64 n_3, Value.int IntKind.i64 n_4] =
      Value.agg
      #[Value.string (fndT l k).ky, Value.int IntKind.i64 (fndT l k).sp_lo, Value.int IntKind.i64 (fndT l k).sp_hi,
      Value.int IntKind.i64 (fndT l k).va]))
      (Done
      (Value.agg #[Value.string k, Value.int IntKind.i64 (0 : Int), Value.int IntKind.i64 (0 : Int), Value.int IntKind.i64 (0 : Int)] =
      Value.agg #[Value.string (fndT l k).ky, Value.int IntKind.i64 (fndT l k).sp_lo, Value.int IntKind.i64 (fndT l k).sp_hi, Value.int IntKind.i64 (fndT l k).va]))) (by kernel_rfl) ?_
  have h' := h.sz hn'
  refine ⟨rfl, _, _, wplace_q a cp l k hn ht _ h', ?_⟩
  cases ho : ofT l (zT k) with
  | none => exact ifB_false ⟨by rw [show fndT l k = zT k by simp [fndT, ho]]; rfl⟩
  | some z =>
    obtain ⟨hk, hz, -⟩ := ttP_at ht ho
    obtain ⟨b, o, rfl, hc⟩ := h'.cells (by rw [tt_len]; omega)
    have e := tt_at hc hk
    rw [hz] at e
    exact ifB_true ⟨b, o, rfl, by omega, _, _, _, _, by simpa using e, ⟨by simp [fndT, ho]⟩⟩

theorem wwith_s (a : Option Addr) (cp : Nat) (l : List Tt) (x : Tt) (hn : l.length ≤ 4194304) (ht : totB none l = true) (m : M) (h : Row m a (tts l)) : Vc.Spec Try.prog 37 [.slice a l.length cp, ttv x] m fun v m' => ∃ a' c', v = .slice a' (setT l x).length c' ∧ Row m' a' (tts (setT l x)) := by
  refine Vc.Spec.of_vc Try.func37 (ann := noAnn) ?_
  refine vc_by (X :=
      true = true ∧
      ∃ (n : Int),
      ∃ (b : Bool),
      QSpec Try.prog (51 : Nat) [Value.slice a l.length cp, Value.string x.ky] m (Value.tuple #[Value.int IntKind.i64 n, Value.bool b]) ∧
      ∃ (S' : Nat → Prop),
      (∀ (b : Nat), S' b → m.uf b ∧ (m.sz ≤ b ∨ False)) ∧
      ∀ (n_1 : Nat),
      m.sz ≤ n_1 →
      SpecW Try.prog (34 : Nat) [Value.slice a l.length cp] { π := m.π, sz := n_1, uf := m.uf : M } S' fun (v : Value) (m' : M) =>
      ∃ (a : Option Addr),
      ∃ (n_2 : Nat),
      ∃ (c : Nat),
      v = Value.slice a n_2 c ∧
      ifB b
      (∃ (b_1 : Bool),
      QSpec Try.prog (44 : Nat) [Value.agg #[Value.string x.ky, Value.int IntKind.i64 x.sp_lo, Value.int IntKind.i64 x.sp_hi, Value.int IntKind.i64 x.va]]
      m' (Value.bool b_1) ∧
      ifB b_1
      (∃ (S' : Nat → Prop),
      (∀ (b : Nat), S' b → m'.uf b ∧ (m.sz ≤ b ∨ False)) ∧
      ∀ (n_3 : Nat),
      m'.sz ≤ n_3 →
      SpecW Try.prog (53 : Nat) [Value.slice a n_2 c, Value.int IntKind.i64 n, Value.int IntKind.i64 (IntKind.i64.wrap (n + (1 : Int)))]
      { π := m'.π, sz := n_3, uf := m'.uf : M } S' fun (v : Value) (m' : M) =>
      ∃ (a : Option Addr),
      ∃ (n : Nat),
      ∃ (c : Nat),
      v = Value.slice a n c ∧
      Done (∃ (a' : Option Addr), ∃ (c' : Nat), Value.slice a n c = Value.slice a' (setT l x).length c' ∧ Row m' a' (tts (setT l x))))
      (ifB b
      (∃ (b : Nat),
      ∃ (off : Nat),
      a = some { block := b, off := off : Addr } ∧
      ((0 : Int) ≤ n ∧ n < (↑n_2 : Int)) ∧
      Wr m.sz (fun (x : Nat) => False) m' b (off + n.toNat * (4 : Nat))
      #[Value.string x.ky, Value.int IntKind.i64 x.sp_lo, Value.int IntKind.i64 x.sp_hi, Value.int IntKind.i64 x.va].size ∧
      Done
      (∃ (a' : Option Addr),
      ∃ (c' : Nat),
      Value.slice a n_2 c = Value.slice a' (setT l x).length c' ∧
      Row
      (m'.setCells b (off + n.toNat * (4 : Nat))
      [Value.string x.ky, Value.int IntKind.i64 x.sp_lo, Value.int IntKind.i64 x.sp_hi, Value.int IntKind.i64 x.va])
      a' (tts (setT l x))))
      (∃ (b : Bool),
      QSpec Try.prog (44 : Nat)
      [Value.agg #[Value.string x.ky, Value.int IntKind.i64 x.sp_lo, Value.int IntKind.i64 x.sp_hi, Value.int IntKind.i64 x.va]] m'
      (Value.bool b) ∧
      ifB b (Done (∃ (a' : Option Addr), ∃ (c' : Nat), Value.slice a n_2 c = Value.slice a' (setT l x).length c' ∧ Row m' a' (tts (setT l x))))
      (true = true ∧
      ∀ (b : Nat),
      m'.sz ≤ b →
      ∃ (S' : Nat → Prop),
      (∀ (b_2 : Nat),
      S' b_2 →
      (m'.newBlock b
      [Value.string x.ky, Value.int IntKind.i64 x.sp_lo, Value.int IntKind.i64 x.sp_hi, Value.int IntKind.i64 x.va]).uf
      b_2 ∧
      (m.sz ≤ b_2 ∨ False)) ∧
      ∀ (n_3 : Nat),
      max m'.sz (b + (1 : Nat)) ≤ n_3 →
      SpecW Try.prog (54 : Nat)
      [Value.slice a n_2 c, Value.int IntKind.i64 n,
      Value.slice (some { block := b, off := (0 : Nat) : Addr }) (1 : Nat) (1 : Nat)]
      { π := (m'.newBlock b [Value.string x.ky, Value.int IntKind.i64 x.sp_lo, Value.int IntKind.i64 x.sp_hi, Value.int IntKind.i64 x.va]).π, sz := n_3, uf := (m'.newBlock b [Value.string x.ky, Value.int IntKind.i64 x.sp_lo, Value.int IntKind.i64 x.sp_hi, Value.int IntKind.i64 x.va]).uf : M }
      S' fun (v : Value) (m' : M) =>
      ∃ (a : Option Addr),
      ∃ (n : Nat),
      ∃ (c : Nat),
      v = Value.slice a n c ∧
      Done
      (∃ (a' : Option Addr),
      ∃ (c' : Nat), Value.slice a n c = Value.slice a' (setT l x).length c' ∧ Row m' a' (tts (setT l x)))))))
      (ifB b
      (∃ (b : Nat),
      ∃ (off : Nat),
      a = some { block := b, off := off : Addr } ∧
      ((0 : Int) ≤ n ∧ n < (↑n_2 : Int)) ∧
      Wr m.sz (fun (x : Nat) => False) m' b (off + n.toNat * (4 : Nat))
      #[Value.string x.ky, Value.int IntKind.i64 x.sp_lo, Value.int IntKind.i64 x.sp_hi, Value.int IntKind.i64 x.va].size ∧
      Done
      (∃ (a' : Option Addr),
      ∃ (c' : Nat),
      Value.slice a n_2 c = Value.slice a' (setT l x).length c' ∧
      Row
      (m'.setCells b (off + n.toNat * (4 : Nat))
      [Value.string x.ky, Value.int IntKind.i64 x.sp_lo, Value.int IntKind.i64 x.sp_hi, Value.int IntKind.i64 x.va])
      a' (tts (setT l x))))
      (∃ (b : Bool),
      QSpec Try.prog (44 : Nat) [Value.agg #[Value.string x.ky, Value.int IntKind.i64 x.sp_lo, Value.int IntKind.i64 x.sp_hi, Value.int IntKind.i64 x.va]]
      m' (Value.bool b) ∧
      ifB b (Done (∃ (a' : Option Addr), ∃ (c' : Nat), Value.slice a n_2 c = Value.slice a' (setT l x).length c' ∧ Row m' a' (tts (setT l x))))
      (true = true ∧
      ∀ (b : Nat),
      m'.sz ≤ b →
      ∃ (S' : Nat → Prop),
      (∀ (b_1 : Nat),
      S' b_1 →
      (m'.newBlock b [Value.string x.ky, Value.int IntKind.i64 x.sp_lo, Value.int IntKind.i64 x.sp_hi, Value.int IntKind.i64 x.va]).uf
      b_1 ∧
      (m.sz ≤ b_1 ∨ False)) ∧
      ∀ (n_3 : Nat),
      max m'.sz (b + (1 : Nat)) ≤ n_3 →
      SpecW Try.prog (54 : Nat)
      [Value.slice a n_2 c, Value.int IntKind.i64 n, Value.slice (some { block := b, off := (0 : Nat) : Addr }) (1 : Nat) (1 : Nat)]
      { π := (m'.newBlock b [Value.string x.ky, Value.int IntKind.i64 x.sp_lo, Value.int IntKind.i64 x.sp_hi, Value.int IntKind.i64 x.va]).π, sz := n_3, uf := (m'.newBlock b [Value.string x.ky, Value.int IntKind.i64 x.sp_lo, Value.int IntKind.i64 x.sp_hi, Value.int IntKind.i64 x.va]).uf : M }
      S' fun (v : Value) (m' : M) =>
      ∃ (a : Option Addr),
      ∃ (n : Nat),
      ∃ (c : Nat),
      v = Value.slice a n c ∧
      Done
      (∃ (a' : Option Addr),
      ∃ (c' : Nat), Value.slice a n c = Value.slice a' (setT l x).length c' ∧ Row m' a' (tts (setT l x))))))) (by kernel_rfl) ?_
  have hple := ttP_le l x
  have ez : ttP l (zT x.ky) = ttP l x := rfl
  have eo : ofT l (zT x.ky) = ofT l x := rfl
  refine ⟨rfl, _, _, wplace_q a cp l x.ky hn ht _ h, _, noS, fun N hN => (tt_clone l a cp (by omega) (tt_none h) _ (h.sz hN)).monoW fun v m' hag ⟨a', c', hv, hr'⟩ => ⟨a', _, c', hv, ?_⟩⟩
  rw [ez, eo]
  cases ho : ofT l x with
  | none =>
    refine ifB_false (ifB_false ⟨_, wplain_q x _, ifB_intro (fun h1 => ⟨a', c', ?_, ?_⟩) (fun h1 => ⟨rfl, fun b hb => ?_⟩)⟩)
    · rw [← ttP_plain ht ho h1]
    · rw [← ttP_plain ht ho h1]; exact hr'.row
    have e := ttP_no ht ho
    rw [← setT_put h1] at e
    have hrN := hr'.newBlock (ds := encTt x) hb
    have hs := tt_insert a' c' l (ttP l x) b 0 1 x (fun b' => ∃ o, a' = some ⟨b', o, none⟩ ∧ (m'.newBlock b (encTt x)).uf b' ∧ m.sz ≤ b') (by omega) hple
    refine ⟨fun b' => ∃ o, a' = some ⟨b', o, none⟩ ∧ (m'.newBlock b (encTt x)).uf b' ∧ m.sz ≤ b', fun b' ⟨o, e, hu, hlo⟩ => ⟨hu, .inl hlo⟩, fun n hn => ?_⟩
    refine (hs { m'.newBlock b (encTt x) with sz := n } ((hrN.sz hn).re fun b' o e hu hlo => .inr ⟨o, e, hu, by rcases hlo with h | h; simp only at h; omega; exact h.elim⟩)
      (fun hne b' o e => ?_) (by simp only; omega) (.inl rfl) ⟨(cellsAt_new (m := m') (b := b) (cs := encTt x)).out⟩).mono fun v3 m3 hag3 ⟨a3, c3, hv3, hr3⟩ => ⟨a3, _, c3, hv3, ⟨a3, c3, ?_, ?_⟩⟩
    · have := (hr'.toOwn (fun e => hne (List.eq_nil_of_length_eq_zero e))).lt e
      omega
    · rw [← e]; congr 1; simp; omega
    · rw [← e]; exact hr3.row
  | some z =>
    obtain ⟨hk, hz, e⟩ := ttP_at ht ho
    have hown := (hr'.toOwn (by omega)).lower hN
    refine ifB_true ⟨_, wplain_q x _, ifB_intro (fun h1 => ?_) (fun h1 => ifB_true ?_)⟩
    · have w1 : IntKind.i64.wrap ((ttP l x : Int) + 1) = ((ttP l x + 1 : Nat) : Int) := by simp [IntKind.wrap_i64]; omega
      rw [w1]
      have e2 := ttP_del ht ho h1
      refine ⟨fun b' => ∃ o, a' = some ⟨b', o, none⟩ ∧ m'.uf b' ∧ m.sz ≤ b', fun b' ⟨o, e, hu, hlo⟩ => ⟨hu, .inl hlo⟩, fun n hn => ?_⟩
      have ho2 := ((hr'.sz hn).re (B' := n) (S' := fun b' => ∃ o, a' = some ⟨b', o, none⟩ ∧ m'.uf b' ∧ m.sz ≤ b') fun b' o e hu hlo => .inr ⟨o, e, hu, by rcases hlo with h | h; simp only at h; omega; exact h.elim⟩).toOwn (by omega)
      refine (tt_delete a' c' l (ttP l x) _ (by omega) hk _ ho2).mono fun v3 m3 hag3 ⟨hv3, hr3⟩ => ⟨_, _, _, hv3, ⟨a', c', ?_, ?_⟩⟩
      · rw [← e2]; congr 1; simp; omega
      · rw [← e2]; exact hr3.row
    · obtain ⟨b, o, rfl, hc⟩ := hown.row.cells (by rw [tt_len]; omega)
      obtain ⟨g1, g2⟩ := OwnB.setAt tt_k hown hk x
      rw [← setT_put h1] at e
      refine ⟨b, o, rfl, by omega, g1, ⟨some ⟨b, o, none⟩, c', by rw [← e]; simp, ?_⟩⟩
      rw [← e]; exact g2.row

def movB (x : Tt) (n : Int) : Bool := decide (In64 (x.va + n)) && hasB x.sp_lo x.sp_hi (x.va + n)

def movT (x : Tt) (n : Int) : Tt := { x with va := x.va + n }

def tt0 : Tt := ⟨.empty, 0, 0, 0⟩

theorem wmoved_q (x : Tt) (n : Int) (hx : In64 x.va) (hn : In64 n) (m : M) : QSpec Try.prog 36 [ttv x, I n] m (.tuple #[ttv (if movB x n then movT x n else tt0), .bool (movB x n)]) := by
  refine QSpec.of_vc Try.func36 (ann := fun _ => noAnn) fun N hn' => ?_
  refine vc_by (X :=
      true = true ∧
      ∃ (n_1 : Int),
      ∃ (n_2 : Int),
      QSpec Try.prog (52 : Nat) [Value.int IntKind.i64 x.va, Value.int IntKind.i64 n] { π := m.π, sz := N, uf := m.uf : M }
      (Value.tuple #[Value.int IntKind.i64 n_1, Value.int IntKind.i64 n_2]) ∧
      ifB (n_2 != (0 : Int))
      (Done
      (Value.tuple
      #[Value.agg #[Value.string { data := #[] : ByteArray }, Value.int IntKind.i64 (0 : Int), Value.int IntKind.i64 (0 : Int), Value.int IntKind.i64 (0 : Int)],
      Value.bool false] =
      Value.tuple
      #[Value.agg
      #[Value.string (if movB x n = true then movT x n else tt0).ky, Value.int IntKind.i64 (if movB x n = true then movT x n else tt0).sp_lo,
      Value.int IntKind.i64 (if movB x n = true then movT x n else tt0).sp_hi, Value.int IntKind.i64 (if movB x n = true then movT x n else tt0).va],
      Value.bool (movB x n)]))
      (∃ (b : Bool),
      QSpec Try.prog (38 : Nat) [Value.agg #[Value.int IntKind.i64 x.sp_lo, Value.int IntKind.i64 x.sp_hi], Value.int IntKind.i64 n_1] { π := m.π, sz := N, uf := m.uf : M }
      (Value.bool b) ∧
      ifB (!b)
      (Done
      (Value.tuple
      #[Value.agg #[Value.string { data := #[] : ByteArray }, Value.int IntKind.i64 (0 : Int), Value.int IntKind.i64 (0 : Int), Value.int IntKind.i64 (0 : Int)],
      Value.bool false] =
      Value.tuple
      #[Value.agg
      #[Value.string (if movB x n = true then movT x n else tt0).ky, Value.int IntKind.i64 (if movB x n = true then movT x n else tt0).sp_lo,
      Value.int IntKind.i64 (if movB x n = true then movT x n else tt0).sp_hi, Value.int IntKind.i64 (if movB x n = true then movT x n else tt0).va],
      Value.bool (movB x n)]))
      (Done
      (Value.tuple #[Value.agg #[Value.string x.ky, Value.int IntKind.i64 x.sp_lo, Value.int IntKind.i64 x.sp_hi, Value.int IntKind.i64 n_1], Value.bool true] =
      Value.tuple
      #[Value.agg
      #[Value.string (if movB x n = true then movT x n else tt0).ky, Value.int IntKind.i64 (if movB x n = true then movT x n else tt0).sp_lo,
      Value.int IntKind.i64 (if movB x n = true then movT x n else tt0).sp_hi, Value.int IntKind.i64 (if movB x n = true then movT x n else tt0).va],
      Value.bool (movB x n)])))) (by kernel_rfl) ?_
  refine ⟨rfl, _, _, add_q _ _ hx hn _, ?_⟩
  by_cases hin : In64 (x.va + n)
  · simp only [addE, addV, hin, if_true]
    refine ifB_false ⟨_, has_q _ _ _ _, ifB_intro (fun h => ⟨?_⟩) (fun h => ⟨?_⟩)⟩
    · have h : hasB x.sp_lo x.sp_hi (x.va + n) = false := by simpa using h
      have : movB x n = false := by simp [movB, h]
      rw [this]; rfl
    · have h : hasB x.sp_lo x.sp_hi (x.va + n) = true := by simpa using h
      have : movB x n = true := by simp [movB, h, hin]
      rw [this]; rfl
  · simp only [addE, addV, hin, if_false]
    have : movB x n = false := by simp [movB, hin]
    rw [this]
    exact ifB_true ⟨rfl⟩

theorem rmore_q (x : Tt) (n : Int) (hx : In64 x.va) (hn : In64 n) (m : M) : QSpec Try.prog 41 [ttv x, wide (x.va + n)] m (.tuple #[ttv (if movB x n then movT x n else x), .bool (movB x n)]) := by
  refine QSpec.of_vc Try.func41 (ann := fun _ => noAnn) fun N hn' => ?_
  refine vc_by (X :=
      true = true ∧
      ∃ (n_1 : Int),
      ∃ (b : Bool),
      QSpec Try.prog (56 : Nat) [Value.agg #[Value.int IntKind.i64 (wideHi (x.va + n)), Value.int IntKind.u64 (wideLo (x.va + n))]] { π := m.π, sz := N, uf := m.uf : M }
      (Value.tuple #[Value.int IntKind.i64 n_1, Value.bool b]) ∧
      ifB (!b)
      (Done
      (Value.tuple #[Value.agg #[Value.string x.ky, Value.int IntKind.i64 x.sp_lo, Value.int IntKind.i64 x.sp_hi, Value.int IntKind.i64 x.va], Value.bool false] =
      Value.tuple
      #[Value.agg
      #[Value.string (if movB x n = true then movT x n else x).ky, Value.int IntKind.i64 (if movB x n = true then movT x n else x).sp_lo,
      Value.int IntKind.i64 (if movB x n = true then movT x n else x).sp_hi, Value.int IntKind.i64 (if movB x n = true then movT x n else x).va],
      Value.bool (movB x n)]))
      (∃ (b : Bool),
      QSpec Try.prog (32 : Nat) [Value.agg #[Value.int IntKind.i64 x.sp_lo, Value.int IntKind.i64 x.sp_hi], Value.int IntKind.i64 n_1] { π := m.π, sz := N, uf := m.uf : M }
      (Value.bool b) ∧
      ifB (!b)
      (Done
      (Value.tuple #[Value.agg #[Value.string x.ky, Value.int IntKind.i64 x.sp_lo, Value.int IntKind.i64 x.sp_hi, Value.int IntKind.i64 x.va], Value.bool false] =
      Value.tuple
      #[Value.agg
      #[Value.string (if movB x n = true then movT x n else x).ky, Value.int IntKind.i64 (if movB x n = true then movT x n else x).sp_lo,
      Value.int IntKind.i64 (if movB x n = true then movT x n else x).sp_hi, Value.int IntKind.i64 (if movB x n = true then movT x n else x).va],
      Value.bool (movB x n)]))
      (Done
      (Value.tuple #[Value.agg #[Value.string x.ky, Value.int IntKind.i64 x.sp_lo, Value.int IntKind.i64 x.sp_hi, Value.int IntKind.i64 n_1], Value.bool true] =
      Value.tuple
      #[Value.agg
      #[Value.string (if movB x n = true then movT x n else x).ky, Value.int IntKind.i64 (if movB x n = true then movT x n else x).sp_lo,
      Value.int IntKind.i64 (if movB x n = true then movT x n else x).sp_hi, Value.int IntKind.i64 (if movB x n = true then movT x n else x).va],
      Value.bool (movB x n)])))) (by kernel_rfl) ?_
  have hx' := hx
  have hn2 := hn
  unfold In64 at hx' hn2
  refine ⟨rfl, _, _, int_q _ (by omega) (by omega) _, ?_⟩
  by_cases hin : In64 (x.va + n)
  · have w : IntKind.i64.wrap (x.va + n) = x.va + n := by unfold In64 at hin; simp [IntKind.wrap_i64]; omega
    rw [w]
    simp only [hin, decide_true, Bool.not_true]
    refine ifB_false ⟨_, rhas_q _ _ _ _, ifB_intro (fun h => ⟨?_⟩) (fun h => ⟨?_⟩)⟩
    · have h : hasB x.sp_lo x.sp_hi (x.va + n) = false := by simpa using h
      have : movB x n = false := by simp [movB, h]
      rw [this]; rfl
    · have h : hasB x.sp_lo x.sp_hi (x.va + n) = true := by simpa using h
      have : movB x n = true := by simp [movB, h, hin]
      rw [this]; rfl
  · simp only [hin, decide_false, Bool.not_false]
    have : movB x n = false := by simp [movB, hin]
    rw [this]
    exact ifB_true ⟨rfl⟩

theorem rofk_q (a : Option Addr) (cp : Nat) (l : List Tt) (k : ByteArray) (hn : l.length ≤ 9223372036854775807) (m : M) (h : Row m a (tts l)) : QSpec Try.prog 40 [.slice a l.length cp, .string k] m (ttv (fndT l k)) := by
  refine QSpec.of_vc Try.func40 (ann := fun n _ => { A := Nat, inv := fun k' => k' ≤ l.length ∧ ∀ x ∈ l.take k', sameT x (zT k) = false, st := fun k' => [(5, .val (I k')), (0, .val (.slice a l.length cp)), (1, .val (.string k)), (4, .own 0 0)], own := fun _ => [(0, ⟨29, encTt tt0⟩)], m := fun _ => { m with sz := n }, μ := fun k' => l.length - k' }) fun n hn' => ?_
  refine vc_by (X :=
      true = true ∧
      (∃ (a_1 : Nat),
      (a_1 ≤ l.length ∧ ∀ (x : Tt), x ∈ List.take a_1 l → sameT x (zT k) = false) ∧
      { π := m.π, sz := n, uf := m.uf : M } = { π := m.π, sz := n, uf := m.uf : M } ∧
      ((SV.val (Value.int IntKind.i64 (0 : Int)) = SV.val (Value.int IntKind.i64 (↑a_1 : Int)) ∧ true = true) ∧
      (SV.val (Value.slice a l.length cp) = SV.val (Value.slice a l.length cp) ∧ true = true) ∧
      (SV.val (Value.string k) = SV.val (Value.string k) ∧ true = true) ∧ (SV.own ((0 : Nat) + (0 : Nat)) (0 : Nat) = SV.own (0 : Nat) (0 : Nat) ∧ true = true) ∧ True) ∧
      (some
      { ty := (29 : Nat), cs := [Value.string { data := #[] : ByteArray }, Value.int IntKind.i64 (0 : Int), Value.int IntKind.i64 (0 : Int), Value.int IntKind.i64 (0 : Int)] : Bx } =
      some
      { ty := (29 : TypeId), cs := [Value.string ByteArray.empty, Value.int IntKind.i64 (0 : Int), Value.int IntKind.i64 (0 : Int), Value.int IntKind.i64 (0 : Int)] : Bx } ∧
      true = true) ∧
      True) ∧
      ∀ (a_1 : Nat),
      (a_1 ≤ l.length ∧ ∀ (x : Tt), x ∈ List.take a_1 l → sameT x (zT k) = false) →
      ifB (decide ((↑a_1 : Int) < (↑l.length : Int)))
      (∃ (b : Nat),
      ∃ (off : Nat),
      a = some { block := b, off := off : Addr } ∧
      ((0 : Int) ≤ (↑a_1 : Int) ∧ (↑a_1 : Int) < (↑l.length : Int)) ∧
      ∃ (s : ByteArray),
      CellsAt { π := m.π, sz := n, uf := m.uf : M } b (off + (↑a_1 : Int).toNat * (4 : Nat) + (0 : Nat)) [Value.string s] ∧
      ifB (s.toList == k.toList)
      (∃ (b : Nat),
      ∃ (off : Nat),
      a = some { block := b, off := off : Addr } ∧
      ((0 : Int) ≤ (↑a_1 : Int) ∧ (↑a_1 : Int) < (↑l.length : Int)) ∧
      ∃ (s : ByteArray),
      ∃ (n_1 : Int),
      ∃ (n_2 : Int),
      ∃ (n_3 : Int),
      CellsAt { π := m.π, sz := n, uf := m.uf : M } b (off + (↑a_1 : Int).toNat * (4 : Nat))
      [Value.string s, Value.int IntKind.i64 n_1, Value.int IntKind.i64 n_2, Value.int IntKind.i64 n_3] ∧
      Done
      (Value.agg #[Value.string s, Value.int IntKind.i64 n_1, Value.int IntKind.i64 n_2, Value.int IntKind.i64 n_3] =
      Value.agg
      #[Value.string (fndT l k).ky, Value.int IntKind.i64 (fndT l k).sp_lo, Value.int IntKind.i64 (fndT l k).sp_hi,
      Value.int IntKind.i64 (fndT l k).va]))
      (∃ (a' : Nat),
      ((a' ≤ l.length ∧ ∀ (x : Tt), x ∈ List.take a' l → sameT x (zT k) = false) ∧
      { π := m.π, sz := n, uf := m.uf : M } = { π := m.π, sz := n, uf := m.uf : M } ∧
      ((SV.val (Value.int IntKind.i64 (IntKind.i64.wrap ((↑a_1 : Int) + (1 : Int)))) = SV.val (Value.int IntKind.i64 (↑a' : Int)) ∧ true = true) ∧
      (SV.val (Value.slice a l.length cp) = SV.val (Value.slice a l.length cp) ∧ true = true) ∧
      (SV.val (Value.string k) = SV.val (Value.string k) ∧ true = true) ∧
      (SV.own (0 : Nat) (0 : Nat) = SV.own (0 : Nat) (0 : Nat) ∧ true = true) ∧ True) ∧
      (some
      { ty := (29 : TypeId), cs := [Value.string ByteArray.empty, Value.int IntKind.i64 (0 : Int), Value.int IntKind.i64 (0 : Int), Value.int IntKind.i64 (0 : Int)] : Bx } =
      some
      { ty := (29 : TypeId), cs := [Value.string ByteArray.empty, Value.int IntKind.i64 (0 : Int), Value.int IntKind.i64 (0 : Int), Value.int IntKind.i64 (0 : Int)] : Bx } ∧
      true = true) ∧
      True) ∧
      l.length - a' < l.length - a_1))
      (Done
      (Value.agg #[Value.string k, Value.int IntKind.i64 (0 : Int), Value.int IntKind.i64 (0 : Int), Value.int IntKind.i64 (0 : Int)] =
      Value.agg #[Value.string (fndT l k).ky, Value.int IntKind.i64 (fndT l k).sp_lo, Value.int IntKind.i64 (fndT l k).sp_hi, Value.int IntKind.i64 (fndT l k).va]))) (by kernel_rfl) ?_
  have h' := h.sz hn'
  refine ⟨rfl, ⟨0, by simp, rfl, by simp, by simp; rfl⟩, fun k' ⟨hk, hq⟩ => ifB_intro (fun hb => ?_) (fun hb => ⟨?_⟩)⟩
  · have hk2 : k' < l.length := by simpa using hb
    obtain ⟨b, o, rfl, hc⟩ := h'.cells (by rw [tt_len]; omega)
    have w1 : IntKind.i64.wrap ((k' : Int) + 1) = ((k' + 1 : Nat) : Int) := by simp [IntKind.wrap_i64]; omega
    have hc0 := CellsAt.field tt_k hc hk2 (p := []) (old := [.string l[k'].ky]) (q := [I l[k'].sp_lo, I l[k'].sp_hi, I l[k'].va]) rfl
    refine ⟨b, o, rfl, by omega, _, by simpa using hc0, ?_⟩
    rw [bytes_beq]
    refine ifB_intro (fun h1 => ⟨b, o, rfl, by omega, _, _, _, _, by simpa using tt_at hc hk2, ⟨?_⟩⟩) (fun h1 => ⟨k' + 1, ⟨⟨hk2, fun x hx => ?_⟩, rfl, by simp [w1], by simp⟩, by omega⟩)
    · have e : ofT l (zT k) = some l[k'] := by
        have e1 : l = l.take k' ++ l[k'] :: l.drop (k' + 1) := by rw [← List.drop_eq_getElem_cons hk2, List.take_append_drop]
        have e2 : (l.take k').find? (fun x => sameT x (zT k)) = none := List.find?_eq_none.2 fun x hx => by simp [hq x hx]
        have e3 : sameT l[k'] (zT k) = true := h1
        unfold ofT
        conv => lhs; rw [e1]
        rw [List.find?_append, e2, List.find?_cons, e3]; rfl
      simp [fndT, e]
    · rw [List.take_succ_eq_append_getElem hk2, List.mem_append] at hx
      rcases hx with hx | hx
      · exact hq x hx
      · have hx : x = l[k'] := by simpa using hx
        subst hx
        exact h1
  · have e : k' = l.length := by simp at hb; omega
    rw [e, List.take_length] at hq
    have : ofT l (zT k) = none := List.find?_eq_none.2 fun x hx => by simp [hq x hx]
    rw [show fndT l k = zT k by simp [fndT, this]]; rfl

def mayR (o : Oq) : Bool := keyB o.ky && decide (1 ≤ o.kd) && decide (o.kd ≤ 6) && (if o.kd = 1 ∨ o.kd = 2 then decide (1 ≤ o.n) else if o.kd = 6 then decide (1 ≤ o.n) && keyB o.ot && !decide (o.ot = o.ky) else true)

theorem ronly_q (o : Oq) (m : M) : QSpec Try.prog 55 [oqv o] m (.bool (mayR o)) := by
  refine QSpec.of_vc Try.func55 (ann := fun _ => noAnn) fun n hn => ?_
  refine vc_by (X :=
      true = true ∧
      ifB (decide (o.kd < (1 : Int))) (Done (Value.bool false = Value.bool (mayR o)))
      (ifB (decide (o.kd > (6 : Int))) (Done (Value.bool false = Value.bool (mayR o)))
      (∃ (b : Bool),
      QSpec Try.prog (31 : Nat) [Value.string o.ky] { π := m.π, sz := n, uf := m.uf : M } (Value.bool b) ∧
      ifB (!b) (Done (Value.bool false = Value.bool (mayR o)))
      (ifB (o.kd == (1 : Int))
      (ifB (decide (o.n < (1 : Int))) (Done (Value.bool false = Value.bool (mayR o)))
      (ifB (o.kd != (6 : Int)) (Done (Value.bool true = Value.bool (mayR o)))
      (∃ (b : Bool),
      QSpec Try.prog (31 : Nat) [Value.string o.ot] { π := m.π, sz := n, uf := m.uf : M } (Value.bool b) ∧
      ifB b (Done ((Value.bool !o.ot.toList == o.ky.toList) = Value.bool (mayR o))) (Done (Value.bool false = Value.bool (mayR o))))))
      (ifB (o.kd == (2 : Int))
      (ifB (decide (o.n < (1 : Int))) (Done (Value.bool false = Value.bool (mayR o)))
      (ifB (o.kd != (6 : Int)) (Done (Value.bool true = Value.bool (mayR o)))
      (∃ (b : Bool),
      QSpec Try.prog (31 : Nat) [Value.string o.ot] { π := m.π, sz := n, uf := m.uf : M } (Value.bool b) ∧
      ifB b (Done ((Value.bool !o.ot.toList == o.ky.toList) = Value.bool (mayR o))) (Done (Value.bool false = Value.bool (mayR o))))))
      (ifB (o.kd == (6 : Int))
      (ifB (decide (o.n < (1 : Int))) (Done (Value.bool false = Value.bool (mayR o)))
      (ifB (o.kd != (6 : Int)) (Done (Value.bool true = Value.bool (mayR o)))
      (∃ (b : Bool),
      QSpec Try.prog (31 : Nat) [Value.string o.ot] { π := m.π, sz := n, uf := m.uf : M } (Value.bool b) ∧
      ifB b (Done ((Value.bool !o.ot.toList == o.ky.toList) = Value.bool (mayR o))) (Done (Value.bool false = Value.bool (mayR o))))))
      (ifB (o.kd != (6 : Int)) (Done (Value.bool true = Value.bool (mayR o)))
      (∃ (b : Bool),
      QSpec Try.prog (31 : Nat) [Value.string o.ot] { π := m.π, sz := n, uf := m.uf : M } (Value.bool b) ∧
      ifB b (Done ((Value.bool !o.ot.toList == o.ky.toList) = Value.bool (mayR o))) (Done (Value.bool false = Value.bool (mayR o))))))))))) (by kernel_rfl) ?_
  refine ⟨rfl, ifB_intro (fun h1 => ⟨?_⟩) (fun h1 => ifB_intro (fun h2 => ⟨?_⟩) (fun h2 => ⟨_, rkey_q _ _, ?_⟩))⟩
  · simp at h1; simp [mayR, show ¬ 1 ≤ o.kd by omega]
  · simp at h2; simp [mayR, show ¬ o.kd ≤ 6 by omega]
  cases hk : keyB o.ky
  · exact ifB_true ⟨by simp [mayR, hk]⟩
  simp at h1 h2
  refine ifB_false (ifB_intro (fun h3 => ifB_intro (fun h4 => ⟨?_⟩) (fun h4 => ifB_intro (fun h5 => ⟨?_⟩) (fun h5 => ?_))) (fun h3 => ifB_intro (fun h6 => ifB_intro (fun h4 => ⟨?_⟩) (fun h4 => ifB_intro (fun h5 => ⟨?_⟩) (fun h5 => ?_))) (fun h6 => ifB_intro (fun h7 => ifB_intro (fun h4 => ⟨?_⟩) (fun h4 => ifB_intro (fun h5 => ?_) (fun h5 => ⟨_, rkey_q _ _, ifB_intro (fun h8 => ⟨?_⟩) (fun h8 => ⟨?_⟩)⟩))) (fun h7 => ifB_intro (fun h5 => ⟨?_⟩) (fun h5 => ?_)))))
  · simp at h3 h4; simp [mayR, h3, show ¬ 1 ≤ o.n by omega]
  · simp at h3 h4; simp [mayR, hk, h3, h4]
  · exfalso; simp at h3 h5; omega
  · simp at h6 h4; simp [mayR, h6, show ¬ 1 ≤ o.n by omega]
  · simp at h6 h4; simp [mayR, hk, h6, h4]
  · exfalso; simp at h6 h5; omega
  · simp at h7 h4; simp [mayR, h7, show ¬ 1 ≤ o.n by omega]
  · exfalso; simp at h7 h5; omega
  · simp at h7 h4; simp [mayR, hk, h7, h4, h8, bytes_beq]
  · simp at h7 h4; simp [mayR, hk, h7, h4, h8]
  · simp at h3 h6 h7; simp [mayR, hk, h3, h6, h7, h1, h2]
  · exfalso; simp at h7 h5; omega

/-- just the fields that its kind names -/
def strO (o : Oq) : Oq := ⟨o.kd, o.ky, if o.kd = 6 then o.ot else .empty, if o.kd = 1 ∨ o.kd = 2 ∨ o.kd = 6 then o.n else 0, if o.kd = 5 then o.lo else 0, if o.kd = 5 then o.hi else 0⟩

theorem rop_q (o : Oq) (m : M) : QSpec Try.prog 39 [oqv o] m (.tuple #[oqv (strO o), .bool (mayO o)]) := by
  refine QSpec.of_vc Try.func39 (ann := fun _ => noAnn) fun n hn => ?_
  refine vc_by (X :=
      true = true ∧
      ifB (o.kd == (1 : Int))
      (true = true ∧
      ∃ (b : Bool),
      QSpec Try.prog (55 : Nat)
      [Value.agg #[Value.int IntKind.i64 o.kd, Value.string o.ky, Value.string o.ot, Value.int IntKind.i64 o.n, Value.int IntKind.i64 o.lo, Value.int IntKind.i64 o.hi]]
      { π := m.π, sz := n, uf := m.uf : M } (Value.bool b) ∧
      Done
      (Value.tuple
      #[Value.agg
      #[Value.int IntKind.i64 o.kd, Value.string o.ky, Value.string { data := #[] : ByteArray }, Value.int IntKind.i64 o.n, Value.int IntKind.i64 (0 : Int),
      Value.int IntKind.i64 (0 : Int)],
      Value.bool b] =
      Value.tuple
      #[Value.agg
      #[Value.int IntKind.i64 o.kd, Value.string o.ky, Value.string (if o.kd = (6 : Int) then o.ot else ByteArray.empty),
      Value.int IntKind.i64 (if o.kd = (1 : Int) ∨ o.kd = (2 : Int) ∨ o.kd = (6 : Int) then o.n else (0 : Int)),
      Value.int IntKind.i64 (if o.kd = (5 : Int) then o.lo else (0 : Int)), Value.int IntKind.i64 (if o.kd = (5 : Int) then o.hi else (0 : Int))],
      Value.bool (mayO o)]))
      (ifB (o.kd == (2 : Int))
      (true = true ∧
      ∃ (b : Bool),
      QSpec Try.prog (55 : Nat)
      [Value.agg #[Value.int IntKind.i64 o.kd, Value.string o.ky, Value.string o.ot, Value.int IntKind.i64 o.n, Value.int IntKind.i64 o.lo, Value.int IntKind.i64 o.hi]]
      { π := m.π, sz := n, uf := m.uf : M } (Value.bool b) ∧
      Done
      (Value.tuple
      #[Value.agg
      #[Value.int IntKind.i64 o.kd, Value.string o.ky, Value.string { data := #[] : ByteArray }, Value.int IntKind.i64 o.n, Value.int IntKind.i64 (0 : Int),
      Value.int IntKind.i64 (0 : Int)],
      Value.bool b] =
      Value.tuple
      #[Value.agg
      #[Value.int IntKind.i64 o.kd, Value.string o.ky, Value.string (if o.kd = (6 : Int) then o.ot else ByteArray.empty),
      Value.int IntKind.i64 (if o.kd = (1 : Int) ∨ o.kd = (2 : Int) ∨ o.kd = (6 : Int) then o.n else (0 : Int)),
      Value.int IntKind.i64 (if o.kd = (5 : Int) then o.lo else (0 : Int)), Value.int IntKind.i64 (if o.kd = (5 : Int) then o.hi else (0 : Int))],
      Value.bool (mayO o)]))
      (ifB (o.kd == (5 : Int))
      (true = true ∧
      true = true ∧
      ∃ (b : Bool),
      QSpec Try.prog (55 : Nat)
      [Value.agg #[Value.int IntKind.i64 o.kd, Value.string o.ky, Value.string o.ot, Value.int IntKind.i64 o.n, Value.int IntKind.i64 o.lo, Value.int IntKind.i64 o.hi]]
      { π := m.π, sz := n, uf := m.uf : M } (Value.bool b) ∧
      Done
      (Value.tuple
      #[Value.agg
      #[Value.int IntKind.i64 o.kd, Value.string o.ky, Value.string { data := #[] : ByteArray }, Value.int IntKind.i64 (0 : Int), Value.int IntKind.i64 o.lo,
      Value.int IntKind.i64 o.hi],
      Value.bool b] =
      Value.tuple
      #[Value.agg
      #[Value.int IntKind.i64 o.kd, Value.string o.ky, Value.string (if o.kd = (6 : Int) then o.ot else ByteArray.empty),
      Value.int IntKind.i64 (if o.kd = (1 : Int) ∨ o.kd = (2 : Int) ∨ o.kd = (6 : Int) then o.n else (0 : Int)),
      Value.int IntKind.i64 (if o.kd = (5 : Int) then o.lo else (0 : Int)), Value.int IntKind.i64 (if o.kd = (5 : Int) then o.hi else (0 : Int))],
      Value.bool (mayO o)]))
      (ifB (o.kd == (6 : Int))
      (true = true ∧
      true = true ∧
      ∃ (b : Bool),
      QSpec Try.prog (55 : Nat)
      [Value.agg
      #[Value.int IntKind.i64 o.kd, Value.string o.ky, Value.string o.ot, Value.int IntKind.i64 o.n, Value.int IntKind.i64 o.lo, Value.int IntKind.i64 o.hi]]
      { π := m.π, sz := n, uf := m.uf : M } (Value.bool b) ∧
      Done
      (Value.tuple
      #[Value.agg
      #[Value.int IntKind.i64 o.kd, Value.string o.ky, Value.string o.ot, Value.int IntKind.i64 o.n, Value.int IntKind.i64 (0 : Int),
      Value.int IntKind.i64 (0 : Int)],
      Value.bool b] =
      Value.tuple
      #[Value.agg
      #[Value.int IntKind.i64 o.kd, Value.string o.ky, Value.string (if o.kd = (6 : Int) then o.ot else ByteArray.empty),
      Value.int IntKind.i64 (if o.kd = (1 : Int) ∨ o.kd = (2 : Int) ∨ o.kd = (6 : Int) then o.n else (0 : Int)),
      Value.int IntKind.i64 (if o.kd = (5 : Int) then o.lo else (0 : Int)), Value.int IntKind.i64 (if o.kd = (5 : Int) then o.hi else (0 : Int))],
      Value.bool (mayO o)]))
      (ifB (o.kd == (7 : Int))
      (true = true ∧
      ∃ (b : Bool),
      QSpec Try.prog (55 : Nat)
      [Value.agg
      #[Value.int IntKind.i64 (4 : Int), Value.string o.ky, Value.string o.ot, Value.int IntKind.i64 o.n, Value.int IntKind.i64 o.lo, Value.int IntKind.i64 o.hi]]
      { π := m.π, sz := n, uf := m.uf : M } (Value.bool b) ∧
      Done
      (Value.tuple
      #[Value.agg
      #[Value.int IntKind.i64 o.kd, Value.string o.ky, Value.string { data := #[] : ByteArray }, Value.int IntKind.i64 (0 : Int),
      Value.int IntKind.i64 (0 : Int), Value.int IntKind.i64 (0 : Int)],
      Value.bool b] =
      Value.tuple
      #[Value.agg
      #[Value.int IntKind.i64 o.kd, Value.string o.ky, Value.string (if o.kd = (6 : Int) then o.ot else ByteArray.empty),
      Value.int IntKind.i64 (if o.kd = (1 : Int) ∨ o.kd = (2 : Int) ∨ o.kd = (6 : Int) then o.n else (0 : Int)),
      Value.int IntKind.i64 (if o.kd = (5 : Int) then o.lo else (0 : Int)), Value.int IntKind.i64 (if o.kd = (5 : Int) then o.hi else (0 : Int))],
      Value.bool (mayO o)]))
      (ifB (o.kd == (8 : Int))
      (true = true ∧
      ∃ (b : Bool),
      QSpec Try.prog (55 : Nat)
      [Value.agg
      #[Value.int IntKind.i64 (4 : Int), Value.string o.ky, Value.string o.ot, Value.int IntKind.i64 o.n, Value.int IntKind.i64 o.lo,
      Value.int IntKind.i64 o.hi]]
      { π := m.π, sz := n, uf := m.uf : M } (Value.bool b) ∧
      Done
      (Value.tuple
      #[Value.agg
      #[Value.int IntKind.i64 o.kd, Value.string o.ky, Value.string { data := #[] : ByteArray }, Value.int IntKind.i64 (0 : Int),
      Value.int IntKind.i64 (0 : Int), Value.int IntKind.i64 (0 : Int)],
      Value.bool b] =
      Value.tuple
      #[Value.agg
      #[Value.int IntKind.i64 o.kd, Value.string o.ky, Value.string (if o.kd = (6 : Int) then o.ot else ByteArray.empty),
      Value.int IntKind.i64 (if o.kd = (1 : Int) ∨ o.kd = (2 : Int) ∨ o.kd = (6 : Int) then o.n else (0 : Int)),
      Value.int IntKind.i64 (if o.kd = (5 : Int) then o.lo else (0 : Int)), Value.int IntKind.i64 (if o.kd = (5 : Int) then o.hi else (0 : Int))],
      Value.bool (mayO o)]))
      (true = true ∧
      ∃ (b : Bool),
      QSpec Try.prog (55 : Nat)
      [Value.agg
      #[Value.int IntKind.i64 o.kd, Value.string o.ky, Value.string o.ot, Value.int IntKind.i64 o.n, Value.int IntKind.i64 o.lo, Value.int IntKind.i64 o.hi]]
      { π := m.π, sz := n, uf := m.uf : M } (Value.bool b) ∧
      Done
      (Value.tuple
      #[Value.agg
      #[Value.int IntKind.i64 o.kd, Value.string o.ky, Value.string { data := #[] : ByteArray }, Value.int IntKind.i64 (0 : Int),
      Value.int IntKind.i64 (0 : Int), Value.int IntKind.i64 (0 : Int)],
      Value.bool b] =
      Value.tuple
      #[Value.agg
      #[Value.int IntKind.i64 o.kd, Value.string o.ky, Value.string (if o.kd = (6 : Int) then o.ot else ByteArray.empty),
      Value.int IntKind.i64 (if o.kd = (1 : Int) ∨ o.kd = (2 : Int) ∨ o.kd = (6 : Int) then o.n else (0 : Int)),
      Value.int IntKind.i64 (if o.kd = (5 : Int) then o.lo else (0 : Int)), Value.int IntKind.i64 (if o.kd = (5 : Int) then o.hi else (0 : Int))],
      Value.bool (mayO o)])))))))) (by kernel_rfl) ?_
  have e6 : o.kd ≤ 6 → mayR o = mayO o := fun h => by simp [mayR, mayO, h, show o.kd ≤ 8 by omega]
  have e7 : o.kd = 7 ∨ o.kd = 8 → mayR { o with kd := 4 } = mayO o := fun h => by
    simp only [mayR, mayO]
    rcases h with h | h <;> simp [h]
  have e9 : ¬ o.kd ≤ 8 → mayR o = mayO o := fun h => by simp [mayR, mayO, h, show ¬ o.kd ≤ 6 by omega]
  refine ⟨rfl, ifB_intro (fun h1 => ⟨rfl, _, ronly_q o _, ⟨?_⟩⟩) (fun h1 => ifB_intro (fun h2 => ⟨rfl, _, ronly_q o _, ⟨?_⟩⟩) (fun h2 => ifB_intro (fun h3 => ⟨rfl, rfl, _, ronly_q o _, ⟨?_⟩⟩) (fun h3 => ifB_intro (fun h4 => ⟨rfl, rfl, _, ronly_q o _, ⟨?_⟩⟩) (fun h4 => ifB_intro (fun h5 => ⟨rfl, _, ronly_q { o with kd := 4 } _, ⟨?_⟩⟩) (fun h5 => ifB_intro (fun h6 => ⟨rfl, _, ronly_q { o with kd := 4 } _, ⟨?_⟩⟩) (fun h6 => ⟨rfl, _, ronly_q o _, ⟨?_⟩⟩))))))⟩
  all_goals simp at *
  · rw [e6 (by omega)]; simp [strO, h1]; rfl
  · rw [e6 (by omega)]; simp [strO, h2]; rfl
  · rw [e6 (by omega)]; simp [strO, h3]; rfl
  · rw [e6 (by omega)]; simp [strO, h4]
  · rw [e7 (by omega)]; simp [strO, h5]; rfl
  · rw [e7 (by omega)]; simp [strO, h6]; rfl
  · rw [show mayR o = mayO o by by_cases h : o.kd ≤ 6; exact e6 h; exact e9 (by omega)]; simp [strO, h1, h2, h3, h4]; rfl

end Go.Proofs.Ytbhlhnkjmncloaa
