/-
  Lemmas on rows of cells and on tests. Nothing here is trusted: Lean checks it. It names no program.
-/
import Derived.Test.YtlifpjllhibdpaaVcSound3
set_option linter.unusedVariables false
set_option linter.unusedSimpArgs false
namespace Go.Vc
open Go.RowKit

theorem ifB_iff {b : Bool} {X Y : Prop} : ifB b X Y ↔ (b = true → X) ∧ (b = false → Y) := by cases b <;> simp [ifB]
theorem done_iff {p : Prop} : Done p ↔ p := ⟨fun h => h.out, fun h => ⟨h⟩⟩

/-- cells that lie in known memory -/
inductive Row (m : M) : Option Addr → List Value → Prop where
  | nil (a : Option Addr) : Row m a []
  | at (b o : Nat) (cs : List Value) (lt : b < m.sz) (h : CellsAt m b o cs) : Row m (some ⟨b, o, none⟩) cs

theorem Row.rowAt {m : M} {a : Option Addr} {cs : List Value} (h : Row m a cs) : RowAt m a cs := by
  cases h with
  | nil => exact .inl rfl
  | «at» b o cs lt h => exact .inr ⟨b, o, rfl, h⟩

theorem CellsAt.of {m m' : M} {b o : Nat} {cs : List Value} (h : CellsAt m b o cs) (e : m'.π b = m.π b) : CellsAt m' b o cs := ⟨fun j hj => by rw [e]; exact h.out j hj⟩

theorem Row.of {m m' : M} {a : Option Addr} {cs : List Value} (h : Row m a cs) (hs : m.sz ≤ m'.sz) (e : ∀ b o, a = some ⟨b, o, none⟩ → b < m.sz → m'.π b = m.π b) : Row m' a cs := by
  cases h with
  | nil => exact .nil _
  | «at» b o cs lt h => exact .at b o cs (Nat.lt_of_lt_of_le lt hs) (h.of (e b o rfl lt))

theorem Row.agree {m m' : M} {a : Option Addr} {cs : List Value} (h : Row m a cs) (hag : Agree m.sz m m') : Row m' a cs := h.of hag.2.2 fun b _ _ hb => hag.1 b hb
theorem Row.sz {m : M} {a : Option Addr} {cs : List Value} (h : Row m a cs) {n : Nat} (hn : m.sz ≤ n) : Row { m with sz := n } a cs := h.of hn fun _ _ _ _ => rfl

theorem Row.cells {m : M} {a : Option Addr} {cs : List Value} (h : Row m a cs) (hne : cs.length ≠ 0) : ∃ b o, a = some ⟨b, o, none⟩ ∧ CellsAt m b o cs := by
  cases h with
  | nil => exact absurd rfl hne
  | «at» b o cs lt h => exact ⟨b, o, rfl, h⟩

theorem CellsAt.take {m : M} {b o : Nat} {cs ds : List Value} (h : CellsAt m b o (cs ++ ds)) : CellsAt m b o cs :=
  ⟨fun j hj => by rw [h.out j (by simp; omega), List.getElem?_append_left hj]⟩
theorem CellsAt.drop {m : M} {b o : Nat} {cs ds : List Value} (h : CellsAt m b o (cs ++ ds)) : CellsAt m b (o + cs.length) ds :=
  ⟨fun j hj => by
    have := h.out (cs.length + j) (by simp; omega)
    rw [show o + cs.length + j = o + (cs.length + j) by omega, this, List.getElem?_append_right (by omega)]
    congr 1; omega⟩
theorem CellsAt.append {m : M} {b o : Nat} {cs ds : List Value} (h : CellsAt m b o cs) (k : CellsAt m b (o + cs.length) ds) : CellsAt m b o (cs ++ ds) :=
  ⟨fun j hj => by
    by_cases hc : j < cs.length
    · rw [h.out j hc, List.getElem?_append_left hc]
    · rw [List.getElem?_append_right (by omega)]
      have := k.out (j - cs.length) (by simp at hj; omega)
      rw [← this]; congr 1; omega⟩

theorem Row.take {m : M} {a : Option Addr} {cs ds : List Value} (h : Row m a (cs ++ ds)) : Row m a cs := by
  generalize he : cs ++ ds = es at h
  cases h with
  | nil => simp at he; rw [he.1]; exact .nil _
  | «at» b o _ lt h => subst he; exact .at b o cs lt h.take
theorem Row.drop {m : M} {a : Option Addr} {cs ds : List Value} {k : Nat} (h : Row m a (cs ++ ds)) (hk : cs.length = k) : Row m (a.map (·.add k)) ds := by
  generalize he : cs ++ ds = es at h
  cases h with
  | nil => simp at he; rw [he.2]; exact .nil _
  | «at» b o _ lt h =>
    subst he
    subst hk
    have e : Addr.add ⟨b, o, none⟩ cs.length = ⟨b, o + cs.length, none⟩ := by unfold Addr.add; split <;> simp_all
    show Row m (some (Addr.add ⟨b, o, none⟩ cs.length)) ds
    rw [e]
    exact .at b (o + cs.length) ds lt h.drop
/-- a slice of a slice -/
theorem Row.sub {m : M} {a : Option Addr} {cs ds : List Value} {c j k : Nat} (h : Row m a (cs ++ ds)) (hk : cs.length = k) (hc : c = j → ds = []) : Row m (if c = j then a else a.map (·.add k)) ds := by
  split
  · rename_i e; rw [hc e]; exact .nil _
  · exact h.drop hk

/-- one element's cells -/
theorem CellsAt.elem {α : Type} {m : M} {b k : Nat} {enc : α → List Value} (hk : ∀ x, (enc x).length = k) : ∀ (xs : List α) (o i : Nat) (hi : i < xs.length), CellsAt m b o (xs.flatMap enc) → CellsAt m b (o + i * k) (enc xs[i])
  | x :: r, o, 0, _, h => by simpa using (show CellsAt m b o (enc x ++ r.flatMap enc) by simpa using h).take
  | x :: r, o, i + 1, hi, h => by
    have h' : CellsAt m b o (enc x ++ r.flatMap enc) := by simpa using h
    have := CellsAt.elem hk r (o + k) i (by simpa using hi) (by have := h'.drop; rw [hk] at this; exact this)
    rw [show o + (i + 1) * k = o + k + i * k by rw [Nat.add_mul]; omega]
    simpa using this

theorem cellsAt_new {m : M} {b : Nat} {cs : List Value} : CellsAt (m.newBlock b cs) b 0 cs :=
  ⟨fun j hj => by simp [M.newBlock]⟩

theorem setCells_in {m : M} {b o : Nat} {cs : List Value} : CellsAt (m.setCells b o cs) b o cs :=
  ⟨fun j hj => by
    simp only [M.setCells]
    have hc : True ∧ o ≤ o + j ∧ o + j < o + cs.length := ⟨trivial, by omega, by omega⟩
    rw [if_pos hc]
    congr 1; omega⟩
theorem setCells_below {m : M} {b o o' : Nat} {cs ds : List Value} (h : CellsAt m b o' ds) (hlt : o' + ds.length ≤ o ∨ o + cs.length ≤ o') : CellsAt (m.setCells b o cs) b o' ds :=
  ⟨fun j hj => by
    simp only [M.setCells]
    rw [if_neg (by omega)]
    exact h.out j hj⟩
theorem setCells_other {m : M} {b o b' : Nat} {cs : List Value} (h : b' ≠ b) : (m.setCells b o cs).π b' = m.π b' := by
  funext o'
  simp only [M.setCells]
  rw [if_neg (fun e => h e.1)]
theorem newBlock_other {m : M} {b b' : Nat} {cs : List Value} (h : b' ≠ b) : (m.newBlock b cs).π b' = m.π b' := by
  have hq : Nat.beq b' b = false := by
    cases hq : Nat.beq b' b with
    | false => rfl
    | true => exact absurd (Nat.eq_of_beq_eq_true hq) h
  funext o'
  simp only [M.newBlock, hq, cond_false]

/-- a row of the call's own: its cells, and those behind them up to the capacity -/
inductive OwnB (B : Nat) (S : Nat → Prop) (m : M) (size : Nat) : Option Addr → Nat → Nat → List Value → Prop where
  | nil : OwnB B S m size none 0 0 []
  | at (b o len cap : Nat) (cs rest : List Value) (lo : B ≤ b ∨ S b) (lt : b < m.sz) (uf : m.uf b) (h : CellsAt m b o (cs ++ rest)) (hl : cs.length = len * size) (hr : rest.length = (cap - len) * size) (hc : len ≤ cap) :
    OwnB B S m size (some ⟨b, o, none⟩) len cap cs

theorem OwnB.row {B : Nat} {S : Nat → Prop} {m : M} {size len cap : Nat} {a : Option Addr} {cs : List Value} (h : OwnB B S m size a len cap cs) : Row m a cs := by
  cases h with
  | nil => exact .nil _
  | «at» b o len cap cs rest lo lt uf h => exact .at b o cs lt h.take

theorem OwnB.len {B : Nat} {S : Nat → Prop} {m : M} {size len cap : Nat} {a : Option Addr} {cs : List Value} (h : OwnB B S m size a len cap cs) : cs.length = len * size := by
  cases h with
  | nil => simp
  | «at» b o len cap cs rest lo lt uf h hl => exact hl

theorem OwnB.of {B : Nat} {S : Nat → Prop} {m m' : M} {size len cap : Nat} {a : Option Addr} {cs : List Value} (h : OwnB B S m size a len cap cs) (hs : m.sz ≤ m'.sz)
    (e : ∀ b o, a = some ⟨b, o, none⟩ → b < m.sz → m'.π b = m.π b ∧ (m.uf b → m'.uf b)) : OwnB B S m' size a len cap cs := by
  cases h with
  | nil => exact .nil
  | «at» b o len cap cs rest lo lt uf h hl hr hc =>
    obtain ⟨e1, e2⟩ := e b o rfl lt
    exact .at b o len cap cs rest lo (Nat.lt_of_lt_of_le lt hs) (e2 uf) (h.of e1) hl hr hc
theorem OwnB.agree {B : Nat} {S : Nat → Prop} {m m' : M} {size len cap : Nat} {a : Option Addr} {cs : List Value} (h : OwnB B S m size a len cap cs) (hag : Agree m.sz m m') : OwnB B S m' size a len cap cs :=
  h.of hag.2.2 fun b _ _ hb => ⟨hag.1 b hb, (hag.2.1 b hb).2⟩
theorem OwnB.sz {B : Nat} {S : Nat → Prop} {m : M} {size len cap : Nat} {a : Option Addr} {cs : List Value} (h : OwnB B S m size a len cap cs) {n : Nat} (hn : m.sz ≤ n) : OwnB B S { m with sz := n } size a len cap cs :=
  h.of hn fun _ _ _ _ => ⟨rfl, id⟩

/-- a row just made: 'make', a slice literal, a box that went out -/
theorem OwnB.new {B : Nat} {S : Nat → Prop} {m : M} {size len cap b : Nat} {cs rest : List Value} (hb : B ≤ b) (hl : cs.length = len * size) (hr : rest.length = (cap - len) * size) (hc : len ≤ cap) :
    OwnB B S (m.newBlock b (cs ++ rest)) size (some ⟨b, 0, none⟩) len cap cs :=
  .at b 0 len cap cs rest (.inl hb) (by simp only [M.newBlock]; omega) (by simp [M.newBlock]) cellsAt_new hl hr hc

theorem OwnB.appPre {B : Nat} {S : Nat → Prop} {m : M} {size bytes len cap n : Nat} {a a2 : Option Addr} {cs src : List Value} (h : OwnB B S m size a len cap cs)
    (hs : Row m a2 src) (hsl : src.length = n * size) (h1 : oneCells src = true) (hb : (len + n) * bytes ≤ 140737488355328 ∧ len + n ≤ 140737488355328) : AppPre B S m size bytes a len cap a2 n cs src := by
  refine ⟨h.row.rowAt, h.len, hs.rowAt, hsl, h1, hb, fun e => ?_, fun hn hr => ?_⟩
  · cases h with
    | nil => exact ⟨rfl, rfl⟩
    | «at» => cases e
  · cases h with
    | nil => omega
    | «at» b o len cap cs rest lo lt uf h hl hrr hc =>
      refine ⟨b, o, rfl, lo, uf, fun j hj => ?_⟩
      have h2 := h.drop
      have hj2 : j < rest.length := by
        rw [hrr]
        refine Nat.lt_of_lt_of_le hj (Nat.mul_le_mul_right _ ?_)
        omega
      refine ⟨rest[j], ?_⟩
      rw [← hl, h2.out j hj2, List.getElem?_eq_getElem hj2]

theorem OwnB.append {P : Program} {e : TypeId} {B : Nat} {S : Nat → Prop} {m m' : M} {size len cap n c' : Nat} {a a' : Option Addr} {cs src : List Value} (h : OwnB B S m size a len cap cs)
    (hp : AppPost P e m size a len cap n cs src a' c' m') (hsl : src.length = n * size) (hz : ∀ k, (zeroRow P e k).length = k * size) (hB : B ≤ m.sz) : OwnB B S m' size a' (len + n) c' (cs ++ src) := by
  rcases hp with ⟨hr, rfl, rfl, ⟨rfl, rfl⟩ | ⟨b, o, rfl, rfl⟩⟩ | ⟨hlt, b, hb, hc, rfl, rfl⟩
  · have : src = [] := by simpa using hsl
    subst this
    simpa using h
  · cases h with
    | «at» b o len cap cs rest lo lt uf h hl hrr hc =>
      have hsl' : src.length ≤ rest.length := by rw [hsl, hrr]; exact Nat.mul_le_mul_right _ (by omega)
      have e1 : rest = rest.take src.length ++ rest.drop src.length := (List.take_append_drop _ _).symm
      refine .at b o _ _ _ (rest.drop src.length) lo lt uf ?_ (by simp [hl, hsl, Nat.add_mul]) (by rw [List.length_drop, hrr, hsl, ← Nat.sub_mul]; congr 1; omega) hr
      rw [← hl]
      have hcs := h.take
      have hrest := h.drop
      rw [e1] at hrest
      have hr2 := hrest.drop
      rw [List.length_take, Nat.min_eq_left hsl'] at hr2
      refine CellsAt.append (CellsAt.append (setCells_below hcs (.inl (Nat.le_refl _))) setCells_in) ?_
      rw [List.length_append, ← Nat.add_assoc]
      exact setCells_below hr2 (.inr (Nat.le_refl _))
  · refine .at b 0 _ _ _ _ (.inl (Nat.le_trans hB hb)) (by simp only [M.newBlock]; omega) (by simp [M.newBlock]) cellsAt_new (by simp [h.len, hsl, Nat.add_mul]) (by rw [hz]) hc

theorem AppPost.sz {P : Program} {e : TypeId} {m m' : M} {size len cap n c' : Nat} {a a' : Option Addr} {cs src : List Value} (hp : AppPost P e m size a len cap n cs src a' c' m') : m.sz ≤ m'.sz := by
  rcases hp with ⟨-, -, -, ⟨-, rfl⟩ | ⟨b, o, -, rfl⟩⟩ | ⟨-, b, hb, -, -, rfl⟩
  · exact Nat.le_refl _
  · exact Nat.le_refl _
  · simp only [M.newBlock]; omega
/-- blocks but the row's own are as they were -/
theorem AppPost.other {P : Program} {e : TypeId} {m m' : M} {size len cap n c' : Nat} {a a' : Option Addr} {cs src : List Value} (hp : AppPost P e m size a len cap n cs src a' c' m') {b : Nat} (hb : b < m.sz)
    (hne : ∀ o, a ≠ some ⟨b, o, none⟩) : m'.π b = m.π b ∧ (m.uf b → m'.uf b) := by
  rcases hp with ⟨-, -, -, ⟨-, rfl⟩ | ⟨b', o, rfl, rfl⟩⟩ | ⟨-, b', hb', -, -, rfl⟩
  · exact ⟨rfl, id⟩
  · exact ⟨setCells_other (fun e => by subst e; exact hne o rfl), id⟩
  · exact ⟨newBlock_other (by omega), fun h => .inr h⟩
theorem AppPost.block {P : Program} {e : TypeId} {m m' : M} {size len cap n c' : Nat} {a a' : Option Addr} {cs src : List Value} (hp : AppPost P e m size a len cap n cs src a' c' m') :
    a' = a ∨ ∃ b, m.sz ≤ b ∧ a' = some ⟨b, 0, none⟩ := by
  rcases hp with ⟨-, rfl, -, -⟩ | ⟨-, b, hb, -, rfl, -⟩
  · exact .inl rfl
  · exact .inr ⟨b, hb, rfl⟩
/-- below B everything is as it was, where the row is the call's own -/
theorem AppPost.agree {P : Program} {e : TypeId} {B : Nat} {m m' : M} {size len cap n c' : Nat} {a a' : Option Addr} {cs src : List Value} (hp : AppPost P e m size a len cap n cs src a' c' m') (hB : B ≤ m.sz)
    (h : OwnB B (fun _ => False) m size a len cap cs) : Agree B m m' := by
  have hne : ∀ b, b < B → ∀ o, a ≠ some ⟨b, o, none⟩ := fun b hb o he => by
    cases h with
    | nil => cases he
    | «at» b' o' len cap cs rest lo lt uf h hl hrr hc => cases he; rcases lo with h | h; omega; exact h
  refine ⟨fun b hb => (hp.other (Nat.lt_of_lt_of_le hb hB) (hne b hb)).1, fun b hb => ⟨fun hu => ?_, fun hu => (hp.other (Nat.lt_of_lt_of_le hb hB) (hne b hb)).2 hu⟩, hp.sz⟩
  rcases hp with ⟨-, -, -, ⟨-, rfl⟩ | ⟨b', o, -, rfl⟩⟩ | ⟨-, b', hb', -, -, rfl⟩
  · exact hu
  · exact hu
  · simp only [M.newBlock] at hu
    rcases hu with rfl | hu
    · omega
    · exact hu

theorem newBlock_agreeB {B b : Nat} {m : M} {cs : List Value} (hb : B ≤ b) : Agree B m (m.newBlock b cs) :=
  ⟨fun b' hb' => newBlock_other (by omega), fun b' hb' => ⟨fun h => by simp only [M.newBlock] at h; rcases h with rfl | h; omega; exact h, .inr⟩, by simp only [M.newBlock]; omega⟩
theorem Agree.trans {B : Nat} {m m1 m2 : M} (h : Agree B m m1) (k : Agree B m1 m2) : Agree B m m2 :=
  ⟨fun b hb => (k.1 b hb).trans (h.1 b hb), fun b hb => (k.2.1 b hb).trans (h.2.1 b hb), Nat.le_trans h.2.2 k.2.2⟩
theorem Agree.mono {B B' : Nat} {m m1 : M} (h : Agree B m m1) (hB : B' ≤ B) : Agree B' m m1 :=
  ⟨fun b hb => h.1 b (Nat.lt_of_lt_of_le hb hB), fun b hb => h.2.1 b (Nat.lt_of_lt_of_le hb hB), h.2.2⟩
theorem Agree.refl (B : Nat) (m : M) : Agree B m m := ⟨fun _ _ => rfl, fun _ _ => Iff.rfl, Nat.le_refl _⟩
theorem Agree.szl {B : Nat} {m : M} {n : Nat} (hn : m.sz ≤ n) : Agree B m { m with sz := n } := ⟨fun _ _ => rfl, fun _ _ => Iff.rfl, hn⟩

theorem zeroRow_len {P : Program} {e : TypeId} {i : TypeInfo} {z : Value} {size : Nat} (hi : P.info? e = some i) (hz : i.zero = some z) (hs : z.cells.size = size) (k : Nat) : (zeroRow P e k).length = k * size := by
  simp [zeroRow, hi, hz, Builtin.zeroCells, hs]
end Go.Vc
