/-
  Rows of the call's own beside each other. Nothing here is trusted: Lean checks it. It names no program.
-/
import Derived.Test.YtlifpjllhibdpaaVcOwned
import Derived.Laws.Strings
set_option linter.unusedVariables false
set_option linter.unusedSimpArgs false
namespace Go.Vc
open Go.RowKit
/-- two rows in two blocks -/
def Apart (a1 a2 : Option Addr) : Prop := ∀ b o o', a1 = some ⟨b, o, none⟩ → a2 = some ⟨b, o', none⟩ → False
theorem Apart.symm {a1 a2 : Option Addr} (h : Apart a1 a2) : Apart a2 a1 := fun b o o' h1 h2 => h b o' o h2 h1
theorem Apart.nil (a : Option Addr) : Apart none a := fun b o o' h1 _ => by cases h1
theorem Apart.new {a : Option Addr} {b : Nat} (h : ∀ b' o, a = some ⟨b', o, none⟩ → b' < b) : Apart (some ⟨b, 0, none⟩) a := fun b' o o' h1 h2 => by cases h1; have := h _ _ h2; omega
theorem Row.lt {m : M} {a : Option Addr} {cs : List Value} (h : Row m a cs) (hne : cs ≠ []) {b o : Nat} (e : a = some ⟨b, o, none⟩) : b < m.sz := by
  cases h with
  | nil => exact absurd rfl hne
  | «at» b' o' _ lt h => cases e; exact lt
theorem OwnB.lt {B : Nat} {S : Nat → Prop} {m : M} {size len cap : Nat} {a : Option Addr} {cs : List Value} (h : OwnB B S m size a len cap cs) {b o : Nat} (e : a = some ⟨b, o, none⟩) : b < m.sz := by
  cases h with
  | nil => cases e
  | «at» b' o' len cap cs rest lo lt uf h hl hr hc => cases e; exact lt
theorem OwnB.uf {B : Nat} {S : Nat → Prop} {m : M} {size len cap : Nat} {a : Option Addr} {cs : List Value} (h : OwnB B S m size a len cap cs) {b o : Nat} (e : a = some ⟨b, o, none⟩) : m.uf b := by
  cases h with
  | nil => cases e
  | «at» b' o' len cap cs rest lo lt uf h hl hr hc => cases e; exact uf
theorem OwnB.lo {B : Nat} {S : Nat → Prop} {m : M} {size len cap : Nat} {a : Option Addr} {cs : List Value} (h : OwnB B S m size a len cap cs) {b o : Nat} (e : a = some ⟨b, o, none⟩) : B ≤ b ∨ S b := by
  cases h with
  | nil => cases e
  | «at» b' o' len cap cs rest lo lt uf h hl hr hc => cases e; exact lo
theorem AppPost.apart {P : Program} {e : TypeId} {m m' : M} {size len cap n c' : Nat} {a a' a2 : Option Addr} {cs src : List Value} (hp : AppPost P e m size a len cap n cs src a' c' m') (h : Apart a a2) (hlt : ∀ b o, a2 = some ⟨b, o, none⟩ → b < m.sz) : Apart a' a2 := by
  rcases hp.block with rfl | ⟨b, hb, rfl⟩
  · exact h
  · exact Apart.new fun b' o e => Nat.lt_of_lt_of_le (hlt b' o e) hb
/-- what an append leaves of another row -/
theorem OwnB.other {P : Program} {e : TypeId} {B : Nat} {S : Nat → Prop} {m m' : M} {size size2 len cap len2 cap2 n c' : Nat} {a a' a2 : Option Addr} {cs src cs2 : List Value} (h : OwnB B S m size2 a2 len2 cap2 cs2) (hp : AppPost P e m size a len cap n cs src a' c' m')
    (hap : Apart a a2) : OwnB B S m' size2 a2 len2 cap2 cs2 :=
  h.of hp.sz fun b o e2 hb => hp.other hb fun o' e1 => hap b o' o e1 e2
theorem Row.other {P : Program} {e : TypeId} {m m' : M} {size len cap n c' : Nat} {a a' a2 : Option Addr} {cs src cs2 : List Value} (h : Row m a2 cs2) (hp : AppPost P e m size a len cap n cs src a' c' m')
    (hap : Apart a a2) : Row m' a2 cs2 :=
  h.of hp.sz fun b o e2 hb => (hp.other hb fun o' e1 => hap b o' o e1 e2).1
theorem OwnB.newBlock {B : Nat} {S : Nat → Prop} {m : M} {size len cap b : Nat} {a : Option Addr} {cs ds : List Value} (h : OwnB B S m size a len cap cs) (hb : m.sz ≤ b) : OwnB B S (m.newBlock b ds) size a len cap cs :=
  h.of (by simp only [M.newBlock]; omega) fun b' o' _ hb' => ⟨newBlock_other (by omega), .inr⟩
theorem MLe.newBlock {m : M} {b : Nat} {cs : List Value} (hb : m.sz ≤ b) : MLe m (m.newBlock b cs) :=
  ⟨fun b' hb' o v hv => by rw [newBlock_other (by omega)]; exact hv, fun b' hb' hu => .inr hu, by simp only [M.newBlock]; omega⟩
theorem newBlock_sz {m : M} {b : Nat} {cs : List Value} : (m.newBlock b cs).sz = max m.sz (b + 1) := rfl
/-- a row just made, without room -/
theorem OwnB.fresh {B : Nat} {S : Nat → Prop} {m : M} {size len b : Nat} {cs : List Value} (hb : B ≤ b) (hl : cs.length = len * size) : OwnB B S (m.newBlock b cs) size (some ⟨b, 0, none⟩) len len cs := by
  have := OwnB.new (B := B) (S := S) (m := m) (size := size) (len := len) (cap := len) (cs := cs) (rest := []) hb hl (by simp) (Nat.le_refl _)
  rwa [List.append_nil] at this
/-- one element more, put in a block of its own first -/
theorem OwnB.push {P : Program} {e : TypeId} {B : Nat} {S : Nat → Prop} {m : M} {size bytes len cap b : Nat} {a : Option Addr} {cs src : List Value} (h : OwnB B S m size a len cap cs) (hb : m.sz ≤ b) (hB : B ≤ m.sz) (hsl : src.length = size) (h1 : oneCells src = true)
    (hbd : (len + 1) * bytes ≤ 140737488355328 ∧ len + 1 ≤ 140737488355328) (hz : ∀ k, (zeroRow P e k).length = k * size) :
    AppPre B S (m.newBlock b src) size bytes a len cap (some ⟨b, 0, none⟩) 1 cs src ∧ ∀ a' c' m', AppPost P e (m.newBlock b src) size a len cap 1 cs src a' c' m' → OwnB B S m' size a' (len + 1) c' (cs ++ src) ∧ m.sz ≤ m'.sz := by
  have ho := h.newBlock (ds := src) hb
  refine ⟨ho.appPre Row.new (by omega) h1 hbd, fun a' c' m' hp => ⟨ho.append hp (by omega) hz (by simp only [M.newBlock]; omega), ?_⟩⟩
  have := hp.sz
  simp only [M.newBlock] at this
  omega
def zrOk (P : Program) (e : TypeId) (size : Nat) : Bool := match P.info? e with | some i => (match i.zero with | some z => Nat.beq z.cells.size size | none => false) | none => false
theorem zrLen {P : Program} {e : TypeId} {size : Nat} (h : zrOk P e size = true) (k : Nat) : (zeroRow P e k).length = k * size := by
  unfold zrOk at h
  split at h
  · rename_i i hi
    split at h
    · rename_i z hz
      exact zeroRow_len hi hz (Nat.eq_of_beq_eq_true h) k
    · cases h
  · cases h
end Go.Vc
namespace Go.Vc
open Go.RowKit
/-- a list of the call's own, or one without cells and without room -/
inductive NewR (B : Nat) (S : Nat → Prop) (m : M) (size : Nat) : Option Addr → Nat → Nat → List Value → Prop where
  | nil (a : Option Addr) : NewR B S m size a 0 0 []
  | own {a : Option Addr} {len cap : Nat} {cs : List Value} (h : OwnB B S m size a len cap cs) : NewR B S m size a len cap cs
section
variable {P : Program} {e : TypeId} {B : Nat} {S : Nat → Prop} {m m' : M} {size bytes len cap n c' : Nat} {a a' a2 : Option Addr} {cs src : List Value}

theorem NewR.row (h : NewR B S m size a len cap cs) : Row m a cs := by
  cases h with
  | nil => exact .nil _
  | own h => exact h.row
theorem NewR.leng (h : NewR B S m size a len cap cs) : cs.length = len * size := by
  cases h with
  | nil => simp
  | own h => exact h.len
theorem NewR.of (h : NewR B S m size a len cap cs) (hs : m.sz ≤ m'.sz) (e : ∀ b o, a = some ⟨b, o, none⟩ → b < m.sz → m'.π b = m.π b ∧ (m.uf b → m'.uf b)) : NewR B S m' size a len cap cs := by
  cases h with
  | nil => exact .nil _
  | own h => exact .own (h.of hs e)
theorem NewR.agree (h : NewR B S m size a len cap cs) (hag : Agree m.sz m m') : NewR B S m' size a len cap cs := by
  cases h with
  | nil => exact .nil _
  | own h => exact .own (h.agree hag)
theorem NewR.sz (h : NewR B S m size a len cap cs) {n : Nat} (hn : m.sz ≤ n) : NewR B S { m with sz := n } size a len cap cs := by
  cases h with
  | nil => exact .nil _
  | own h => exact .own (h.sz hn)
theorem NewR.newBlock {b : Nat} {ds : List Value} (h : NewR B S m size a len cap cs) (hb : m.sz ≤ b) : NewR B S (m.newBlock b ds) size a len cap cs := by
  cases h with
  | nil => exact .nil _
  | own h => exact .own (h.newBlock hb)
theorem NewR.appPre (h : NewR B S m size a len cap cs) (hs : Row m a2 src) (hsl : src.length = n * size) (h1 : oneCells src = true) (hb : (len + n) * bytes ≤ 140737488355328 ∧ len + n ≤ 140737488355328) : AppPre B S m size bytes a len cap a2 n cs src := by
  cases h with
  | nil => exact ⟨.inl rfl, by simp, hs.rowAt, hsl, h1, hb, fun _ => ⟨rfl, rfl⟩, fun h1 h2 => by omega⟩
  | own h => exact h.appPre hs hsl h1 hb
theorem setCells_nil {b o : Nat} : m.setCells b o [] = m := by
  obtain ⟨π, sz, uf⟩ := m
  simp only [M.setCells, List.length_nil, Nat.add_zero]
  congr
  funext b' o'
  rw [if_neg (by omega)]
theorem NewR.append (h : NewR B S m size a len cap cs) (hp : AppPost P e m size a len cap n cs src a' c' m') (hsl : src.length = n * size) (hz : ∀ k, (zeroRow P e k).length = k * size) (hB : B ≤ m.sz) : NewR B S m' size a' (len + n) c' (cs ++ src) := by
  cases h with
  | nil =>
    rcases hp with ⟨hr, rfl, rfl, -⟩ | ⟨hlt, b, hb, hc, rfl, rfl⟩
    · have : n = 0 := by omega
      subst this
      have : src = [] := by simpa using hsl
      subst this
      exact .nil _
    · exact .own (.at b 0 _ _ _ _ (.inl (Nat.le_trans hB hb)) (by simp only [M.newBlock]; omega) (by simp [M.newBlock]) cellsAt_new (by simp [hsl]) (by rw [hz]) hc)
  | own h => exact .own (h.append hp hsl hz hB)
theorem NewR.appAgree (h : NewR B (fun _ => False) m size a len cap cs) (hp : AppPost P e m size a len cap n cs src a' c' m') (hsl : src.length = n * size) (hB : B ≤ m.sz) : Agree B m m' := by
  cases h with
  | nil =>
    rcases hp with ⟨hr, rfl, rfl, ⟨-, rfl⟩ | ⟨b, o, -, rfl⟩⟩ | ⟨hlt, b, hb, hc, rfl, rfl⟩
    · exact Agree.refl _ _
    · have : n = 0 := by omega
      subst this
      have : src = [] := by simpa using hsl
      subst this
      rw [setCells_nil]
      exact Agree.refl _ _
    · exact newBlock_agreeB (by omega)
  | own h => exact hp.agree hB h
theorem OwnB.lower {B' : Nat} (h : OwnB B S m size a len cap cs) (hB : B' ≤ B) : OwnB B' S m size a len cap cs := by
  cases h with
  | nil => exact .nil
  | «at» b o len cap cs rest lo lt uf h h1 h2 hc => exact .at b o len cap cs rest (lo.imp (fun h => Nat.le_trans hB h) id) lt uf h h1 h2 hc
theorem NewR.lower {B' : Nat} (h : NewR B S m size a len cap cs) (hB : B' ≤ B) : NewR B' S m size a len cap cs := by
  cases h with
  | nil => exact .nil _
  | own h => exact .own (h.lower hB)
/-- what is written in the place of what was there -/
theorem CellsAt.set {b o : Nat} {pre old new post : List Value} (h : CellsAt m b o (pre ++ (old ++ post))) (hl : new.length = old.length) : CellsAt (m.setCells b (o + pre.length) new) b o (pre ++ (new ++ post)) := by
  have h2 := h.drop.drop
  rw [← hl] at h2
  exact CellsAt.append (setCells_below h.take (.inl (Nat.le_refl _))) (CellsAt.append setCells_in (setCells_below h2 (.inr (Nat.le_refl _))))
theorem OwnB.set {b o : Nat} {pre old new post : List Value} (h : OwnB B S m size (some ⟨b, o, none⟩) len cap (pre ++ (old ++ post))) (hl : new.length = old.length) :
    Wr B S m b (o + pre.length) new.length ∧ OwnB B S (m.setCells b (o + pre.length) new) size (some ⟨b, o, none⟩) len cap (pre ++ (new ++ post)) := by
  cases h with
  | «at» b o len cap _ rest lo lt uf h h1 h2 hc =>
    refine ⟨⟨lo, uf, fun j hj => ?_⟩, ?_⟩
    · have h3 := h.take.drop.take
      exact ⟨old[j]'(by omega), by rw [h3.out j (by omega), List.getElem?_eq_getElem]⟩
    · refine .at b o _ _ _ rest lo lt uf ?_ (by simpa [hl] using h1) h2 hc
      rw [List.append_assoc, List.append_assoc] at h ⊢
      exact CellsAt.set h hl
end
end Go.Vc
namespace Go.Vc
open Go.RowKit
theorem bytes_beq (a b : ByteArray) : (a.toList == b.toList) = decide (a = b) := by
  rw [Bool.eq_iff_iff, beq_iff_eq, decide_eq_true_eq, ByteArray.toList_eq, ByteArray.toList_eq]
  constructor
  · intro h
    obtain ⟨⟨a⟩⟩ := a
    obtain ⟨⟨b⟩⟩ := b
    simp only at h
    rw [h]
  · rintro rfl; rfl
end Go.Vc
