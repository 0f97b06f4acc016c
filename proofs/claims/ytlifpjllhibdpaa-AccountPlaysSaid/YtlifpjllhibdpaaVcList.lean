/-
  Rows of the call's own: one element written, the tail written over. Nothing here is trusted: Lean checks it. It names no program.
-/
import Derived.Test.YtlifpjllhibdpaaVcRow
set_option linter.unusedVariables false
set_option linter.unusedSimpArgs false
namespace Go.Vc
open Go.RowKit
/-- what 'Own' hands back: the list, two marks behind it, in a block of its own -/
structure Owned (m : M) (cs marks : List Value) (len cap : Nat) (v : Value) (m' : M) : Prop where
  out : ∃ b, v = .slice (some ⟨b, 0, none⟩) len cap ∧ m.sz ≤ b ∧ b < m'.sz ∧ m'.uf b ∧ CellsAt m' b 0 (cs ++ marks)
section
variable {P : Program} {e : TypeId} {B B' : Nat} {S S' : Nat → Prop} {m m' : M} {size bytes len cap n c' : Nat} {a a' a2 : Option Addr} {cs src : List Value} {α : Type} {enc : α → List Value} {k : Nat}

theorem OwnB.re (h : OwnB B S m size a len cap cs) (hk : ∀ b o, a = some ⟨b, o, none⟩ → B' ≤ b ∨ S' b) : OwnB B' S' m size a len cap cs := by
  cases h with
  | nil => exact .nil
  | «at» b o len cap cs rest lo lt uf h h1 h2 hc => exact .at b o len cap cs rest (hk b o rfl) lt uf h h1 h2 hc
theorem NewR.re (h : NewR B S m size a len cap cs) (hk : ∀ b o, a = some ⟨b, o, none⟩ → m.uf b → (B ≤ b ∨ S b) → B' ≤ b ∨ S' b) : NewR B' S' m size a len cap cs := by
  cases h with
  | nil => exact .nil _
  | own h => exact .own (h.re fun b o e => hk b o e (h.uf e) (h.lo e))
theorem NewR.toOwn (h : NewR B S m size a len cap cs) (hne : len ≠ 0) : OwnB B S m size a len cap cs := by
  cases h with
  | nil => exact absurd rfl hne
  | own h => exact h
theorem fresh_other {b b' : Nat} (hf : Fresh B m b) (hu : m.uf b') : b' ≠ b := fun e => by subst e; exact hf.uf hu
/-- a box of the call's own that goes out -/
theorem OwnB.newFresh {b : Nat} {ds : List Value} (h : OwnB B S m size a len cap cs) (hf : Fresh B' m b) : OwnB B S (m.newBlock b ds) size a len cap cs :=
  h.of (by simp only [M.newBlock]; omega) fun b' o e _ => ⟨newBlock_other (fresh_other hf (h.uf e)), .inr⟩
theorem NewR.newFresh {b : Nat} {ds : List Value} (h : NewR B S m size a len cap cs) (hf : Fresh B' m b) : NewR B S (m.newBlock b ds) size a len cap cs := by
  cases h with
  | nil => exact .nil _
  | own h => exact .own (h.newFresh hf)
theorem Row.newFresh {b : Nat} {ds : List Value} (h : Row m a cs) (hf : Fresh B m b) (hlt : ∀ b' o, a = some ⟨b', o, none⟩ → b' < B ∨ m.uf b') : Row (m.newBlock b ds) a cs :=
  h.of (by simp only [M.newBlock]; omega) fun b' o e _ => newBlock_other (by rcases hlt b' o e with h1 | h1; have := hf.lo; omega; exact fresh_other hf h1)

/-- a row of old memory, where a box goes out -/
theorem Row.fresh {b : Nat} {ds : List Value} (h : Row m a cs) (hf : Fresh B' m b) (hB : cs ≠ [] → ∀ b' o, a = some ⟨b', o, none⟩ → b' < B') : Row (m.newBlock b ds) a cs := by
  by_cases he : cs = []
  · subst he; exact .nil _
  · exact h.of (by simp only [M.newBlock]; omega) fun b' o e _ => newBlock_other (by have := hB he b' o e; have := hf.lo; omega)
theorem Row.fresh2 {b b2 n : Nat} {ds ds2 : List Value} (h : Row m a cs) (hn : m.sz ≤ n) (hf : Fresh n { m with sz := n } b) (hf2 : Fresh n (({ m with sz := n } : M).newBlock b ds) b2) : Row ((({ m with sz := n } : M).newBlock b ds).newBlock b2 ds2) a cs :=
  ((h.sz hn).fresh hf fun hne b' o e => h.lt hne e |> fun h => Nat.lt_of_lt_of_le h hn).fresh hf2 fun hne b' o e => Nat.lt_of_lt_of_le (h.lt hne e) hn
theorem fresh_ne {b b2 : Nat} {v : Value} {r : List Value} (hf : Fresh B' (m.newBlock b (v :: r)) b2) : b ≠ b2 := fun e => by
  subst e
  have h1 := hf.cells 0
  have h2 := (cellsAt_new (m := m) (b := b) (cs := v :: r)).out 0 (by simp)
  rw [Nat.zero_add] at h2
  rw [h2] at h1
  simp at h1
theorem flat_len (hk : ∀ x, (enc x).length = k) (l : List α) : (l.flatMap enc).length = l.length * k := by
  induction l with
  | nil => simp
  | cons x r ih => simp only [List.flatMap_cons, List.length_append, List.length_cons, hk, ih, Nat.add_mul]; omega
theorem flat_split (l : List α) (i : Nat) (hi : i < l.length) : l.flatMap enc = (l.take i).flatMap enc ++ (enc l[i] ++ (l.drop (i + 1)).flatMap enc) := by
  have h := congrArg (List.flatMap enc) (List.take_append_drop i l)
  rw [← h, List.flatMap_append, List.drop_eq_getElem_cons hi, List.flatMap_cons]
theorem flat_set (l : List α) (i : Nat) (v : α) (hi : i < l.length) : (l.set i v).flatMap enc = (l.take i).flatMap enc ++ (enc v ++ (l.drop (i + 1)).flatMap enc) := by
  rw [List.set_eq_take_append_cons_drop, if_pos hi]; simp
theorem flat_cut (l : List α) (i : Nat) : l.flatMap enc = (l.take i).flatMap enc ++ (l.drop i).flatMap enc := by
  have h := congrArg (List.flatMap enc) (List.take_append_drop i l)
  rw [← h, List.flatMap_append]
/-- one element written -/
theorem OwnB.setAt (hk : ∀ x, (enc x).length = k) {b o i : Nat} {l : List α} (h : OwnB B S m k (some ⟨b, o, none⟩) len cap (l.flatMap enc)) (hi : i < l.length) (v : α) :
    Wr B S m b (o + i * k) k ∧ OwnB B S (m.setCells b (o + i * k) (enc v)) k (some ⟨b, o, none⟩) len cap ((l.set i v).flatMap enc) := by
  rw [flat_split l i hi] at h
  have := h.set (new := enc v) (by rw [hk, hk])
  rw [flat_len hk, List.length_take, Nat.min_eq_left (Nat.le_of_lt hi), hk] at this
  rw [flat_set l i v hi]
  exact this
/-- a part of one element, read and written -/
theorem CellsAt.field (hk : ∀ x, (enc x).length = k) {b o i : Nat} {l : List α} (h : CellsAt m b o (l.flatMap enc)) (hi : i < l.length) {p old q : List Value} (e : enc l[i] = p ++ (old ++ q)) : CellsAt m b (o + i * k + p.length) old := by
  have := CellsAt.elem hk l o i hi h
  rw [e] at this
  exact this.drop.take
theorem OwnB.setField (hk : ∀ x, (enc x).length = k) {b o i : Nat} {l : List α} (h : OwnB B S m k (some ⟨b, o, none⟩) len cap (l.flatMap enc)) (hi : i < l.length) (v : α) {p old new q : List Value} (e1 : enc l[i] = p ++ (old ++ q)) (e2 : enc v = p ++ (new ++ q)) (hl : new.length = old.length) :
    Wr B S m b (o + i * k + p.length) new.length ∧ OwnB B S (m.setCells b (o + i * k + p.length) new) k (some ⟨b, o, none⟩) len cap ((l.set i v).flatMap enc) := by
  rw [flat_split l i hi, e1, show (l.take i).flatMap enc ++ (p ++ (old ++ q) ++ (l.drop (i + 1)).flatMap enc) = ((l.take i).flatMap enc ++ p) ++ (old ++ (q ++ (l.drop (i + 1)).flatMap enc)) by simp only [List.append_assoc]] at h
  have := h.set (new := new) hl
  rw [List.length_append, flat_len hk, List.length_take, Nat.min_eq_left (Nat.le_of_lt hi), ← Nat.add_assoc] at this
  rw [flat_set l i v hi, e2, show (l.take i).flatMap enc ++ (p ++ (new ++ q) ++ (l.drop (i + 1)).flatMap enc) = ((l.take i).flatMap enc ++ p) ++ (new ++ (q ++ (l.drop (i + 1)).flatMap enc)) by simp only [List.append_assoc]]
  exact this
theorem setCells_twice {b o : Nat} {x y : Value} : (m.setCells b o [x]).setCells b o [y] = m.setCells b o [y] := by
  obtain ⟨π, sz, uf⟩ := m
  simp only [M.setCells, List.length_cons, List.length_nil]
  congr 1
  funext b' o'
  split <;> simp_all
/-- the tail written over: what stands ahead of it stays -/
theorem OwnB.overTail {b o i : Nat} {cs1 cs2 new : List Value} (h : OwnB B S m size (some ⟨b, o, none⟩) len cap (cs1 ++ cs2)) (h1 : cs1.length = i * size) (hi : i ≤ len) (hl : new.length = cs2.length) :
    Wr B S m b (o + i * size) new.length ∧ OwnB B S (m.setCells b (o + i * size) new) size (some ⟨b, o, none⟩) i cap cs1 := by
  have h' : OwnB B S m size (some ⟨b, o, none⟩) len cap (cs1 ++ (cs2 ++ [])) := by simpa using h
  have hs := h'.set (new := new) hl
  rw [h1] at hs
  refine ⟨hs.1, ?_⟩
  cases hs.2 with
  | «at» b o len cap cs rest lo lt uf h h1' h2 hc =>
    rw [List.append_nil, List.append_assoc] at h
    simp only [List.append_nil, List.length_append] at h1'
    refine .at b o i cap cs1 (new ++ rest) lo lt uf h h1 ?_ (Nat.le_trans hi hc)
    have e1 : new.length = (len - i) * size := by rw [Nat.sub_mul]; omega
    rw [List.length_append, h2, e1, ← Nat.add_mul]
    congr 1; omega
theorem NewR.push {b : Nat} (h : NewR B (fun _ => False) m size a len cap cs) (hb : m.sz ≤ b) (hB : B ≤ m.sz) (hsl : src.length = size) (h1 : oneCells src = true)
    (hbd : (len + 1) * bytes ≤ 140737488355328 ∧ len + 1 ≤ 140737488355328) (hz : ∀ k, (zeroRow P e k).length = k * size) :
    AppPre B (fun _ => False) (m.newBlock b src) size bytes a len cap (some ⟨b, 0, none⟩) 1 cs src ∧
      ∀ a' c' m', AppPost P e (m.newBlock b src) size a len cap 1 cs src a' c' m' → NewR B (fun _ => False) m' size a' (len + 1) c' (cs ++ src) ∧ Agree B m m' := by
  have ho := h.newBlock (ds := src) hb
  have hB' : B ≤ (m.newBlock b src).sz := by simp only [M.newBlock]; omega
  refine ⟨ho.appPre (.at _ _ _ (by simp only [M.newBlock]; omega) cellsAt_new) (by omega) h1 hbd, fun a' c' m' hp => ⟨ho.append hp (by omega) hz hB', (newBlock_agreeB (by omega)).trans (ho.appAgree hp (by omega) hB')⟩⟩
theorem CopyPost.atc {A : Option Addr} {b o : Nat} (h : CopyPost m A src m') (hA : A = some ⟨b, o, none⟩) : m' = m.setCells b o src := by
  rcases h with ⟨rfl, rfl⟩ | ⟨b', o', e, rfl⟩
  · exact setCells_nil.symm
  · rw [hA] at e; cases e; rfl
theorem copyPre {A : Option Addr} {b o : Nat} (hA : A = some ⟨b, o, none⟩) (hr : RowAt m a2 src) (hl : src.length = min n len * size) (h1 : oneCells src = true) (hw : Wr B S m b o src.length) (hn : a2 ≠ none) : CopyPre B S m size A len a2 n src :=
  ⟨hr, hl, h1, fun _ => ⟨b, o, hA, hw⟩, fun _ => hn⟩
theorem sub_addr {b o c i k : Nat} (h : c ≠ i) : (if c = i then some (⟨b, o, none⟩ : Addr) else Option.map (fun x : Addr => x.add (i * k)) (some (⟨b, o, none⟩ : Addr))) = some ⟨b, o + i * k, none⟩ := by
  rw [if_neg h]
  show some (Addr.add _ (i * k)) = _
  unfold Addr.add; split <;> simp_all
theorem OwnB.capLe (h : OwnB B S m size a len cap cs) : len ≤ cap := by
  cases h with
  | nil => exact Nat.le_refl _
  | «at» b o len cap cs rest lo lt uf h h1 h2 hc => exact hc
/-- where the first is that has it; -1: nowhere -/
def idxF (p : α → Bool) (l : List α) : Int := match l.findIdx? p with | some i => i | none => -1
theorem idxF_found {p : α → Bool} {l : List α} {k : Nat} (hk : k < l.length) (h1 : ∀ h ∈ l.take k, p h = false) (h2 : p l[k] = true) : idxF p l = k := by
  have : l.findIdx? p = some k := by
    rw [List.findIdx?_eq_some_iff_getElem]
    refine ⟨hk, h2, fun j hj => ?_⟩
    have := h1 l[j] (by rw [List.mem_take_iff_getElem]; exact ⟨j, by omega, rfl⟩)
    simp [this]
  simp [idxF, this]
theorem idxF_none {p : α → Bool} {l : List α} (h1 : ∀ h ∈ l, p h = false) : idxF p l = -1 := by
  have : l.findIdx? p = none := by rw [List.findIdx?_eq_none_iff]; exact h1
  simp [idxF, this]
theorem idxF_cases (p : α → Bool) (l : List α) : (idxF p l = -1 ∧ ∀ h ∈ l, p h = false) ∨ ∃ k, ∃ hk : k < l.length, idxF p l = k ∧ p l[k] = true ∧ ∀ h ∈ l.take k, p h = false := by
  cases hf : l.findIdx? p with
  | none => left; refine ⟨by simp [idxF, hf], ?_⟩; rw [List.findIdx?_eq_none_iff] at hf; exact hf
  | some k =>
    right
    rw [List.findIdx?_eq_some_iff_getElem] at hf
    obtain ⟨hk, h2, h3⟩ := hf
    refine ⟨k, hk, by simp [idxF, List.findIdx?_eq_some_iff_getElem.2 ⟨hk, h2, h3⟩], h2, fun h hm => ?_⟩
    rw [List.mem_take_iff_getElem] at hm
    obtain ⟨j, hj, rfl⟩ := hm
    have := h3 j (by omega)
    simpa using this
theorem oneCells_iff {l : List Value} : oneCells l = true ↔ ∀ v ∈ l, one v = true := by
  induction l with
  | nil => simp [oneCells]
  | cons x r ih => simp [oneCells, ih]
def zrOneOk (P : Program) (e : TypeId) : Bool := match P.info? e with | some i => (match i.zero with | some z => oneCells z.cells.toList && !(Nat.beq z.cells.size 0) | none => true) | none => true
theorem zrOne {P : Program} {e : TypeId} (h : zrOneOk P e = true) (k : Nat) : oneCells (zeroRow P e k) = true := by
  rw [oneCells_iff]
  intro v hv
  unfold zrOneOk at h
  unfold zeroRow at hv
  split at h
  · rename_i i hi
    rw [hi] at hv
    simp only at hv
    split at h
    · rename_i z hz
      rw [hz] at hv
      simp only [Builtin.zeroCells, Array.toList_map, List.mem_map] at hv
      obtain ⟨j, -, rfl⟩ := hv
      simp only [Bool.and_eq_true, Bool.not_eq_true'] at h
      have hs : 0 < z.cells.size := by
        rcases Nat.eq_zero_or_pos z.cells.size with h0 | h0
        · rw [h0] at h; exact absurd h.2 (by decide)
        · exact h0
      have hlt := Nat.mod_lt j hs
      refine (oneCells_iff.1 h.1) _ ?_
      rw [getElem!_pos z.cells (j % z.cells.size) hlt]
      exact Array.getElem_mem_toList hlt
    · rename_i hz; rw [hz] at hv; simp at hv
  · rename_i hi; rw [hi] at hv; simp at hv
theorem MLe.ofAgree {N : Nat} (hN : m.sz ≤ N) (h : Agree N { m with sz := N } m') : MLe m m' :=
  ⟨fun b hb o v hv => by rw [h.1 b (Nat.lt_of_lt_of_le hb hN)]; exact hv, fun b hb hu => (h.2.1 b (Nat.lt_of_lt_of_le hb hN)).2 hu, Nat.le_trans hN h.2.2⟩
theorem add_none {b o j : Nat} : Addr.add ⟨b, o, none⟩ j = ⟨b, o + j, none⟩ := by unfold Addr.add; split <;> simp_all
theorem NewR.other {P : Program} {e : TypeId} {B : Nat} {S : Nat → Prop} {m m' : M} {size size2 len cap len2 cap2 n c' : Nat} {a a' a2 : Option Addr} {cs src cs2 : List Value} (h : NewR B S m size2 a2 len2 cap2 cs2) (hp : AppPost P e m size a len cap n cs src a' c' m')
    (hap : Apart a a2) : NewR B S m' size2 a2 len2 cap2 cs2 := by
  cases h with
  | nil => exact .nil _
  | own h => exact .own (h.other hp hap)
/-- two lists of the call's own that grow beside each other -/
structure Two (B : Nat) (m : M) (size : Nat) (a1 : Option Addr) (l1 c1 : Nat) (cs1 : List Value) (size2 : Nat) (a2 : Option Addr) (l2 c2 : Nat) (cs2 : List Value) : Prop where
  o1 : NewR B (fun _ => False) m size a1 l1 c1 cs1
  o2 : NewR B (fun _ => False) m size2 a2 l2 c2 cs2
  ap : Apart a1 a2
  lt1 : ∀ b o, a1 = some ⟨b, o, none⟩ → b < m.sz
  lt2 : ∀ b o, a2 = some ⟨b, o, none⟩ → b < m.sz
theorem Two.symm {B : Nat} {m : M} {size l1 c1 size2 l2 c2 : Nat} {a1 a2 : Option Addr} {cs1 cs2 : List Value} (h : Two B m size a1 l1 c1 cs1 size2 a2 l2 c2 cs2) : Two B m size2 a2 l2 c2 cs2 size a1 l1 c1 cs1 := ⟨h.o2, h.o1, h.ap.symm, h.lt2, h.lt1⟩
theorem Two.nil {B : Nat} {m : M} {size size2 : Nat} : Two B m size none 0 0 [] size2 none 0 0 [] := ⟨.nil _, .nil _, .nil _, fun _ _ e => (by cases e), fun _ _ e => (by cases e)⟩
theorem Two.push {P : Program} {e : TypeId} {B : Nat} {m : M} {size bytes l1 c1 size2 l2 c2 b : Nat} {a1 a2 : Option Addr} {cs1 cs2 src : List Value} (h : Two B m size a1 l1 c1 cs1 size2 a2 l2 c2 cs2) (hb : m.sz ≤ b) (hB : B ≤ m.sz) (hsl : src.length = size) (h1 : oneCells src = true)
    (hbd : (l1 + 1) * bytes ≤ 140737488355328 ∧ l1 + 1 ≤ 140737488355328) (hz : ∀ k, (zeroRow P e k).length = k * size) :
    AppPre B (fun _ => False) (m.newBlock b src) size bytes a1 l1 c1 (some ⟨b, 0, none⟩) 1 cs1 src ∧
      ∀ a' c' m', AppPost P e (m.newBlock b src) size a1 l1 c1 1 cs1 src a' c' m' → Two B m' size a' (l1 + 1) c' (cs1 ++ src) size2 a2 l2 c2 cs2 ∧ Agree B m m' := by
  obtain ⟨p1, p2⟩ := h.o1.push (P := P) (e := e) (bytes := bytes) hb hB hsl h1 hbd hz
  have hs : m.sz ≤ (m.newBlock b src).sz := by simp only [M.newBlock]; omega
  refine ⟨p1, fun a' c' m' hp => ?_⟩
  obtain ⟨q1, q2⟩ := p2 a' c' m' hp
  have hs2 := hp.sz
  refine ⟨⟨q1, (h.o2.newBlock hb).other hp h.ap, hp.apart h.ap fun b o e => Nat.lt_of_lt_of_le (h.lt2 b o e) hs, fun b' o e2 => ?_, fun b' o e2 => ?_⟩, q2⟩
  · cases q1 with
    | own q => exact q.lt e2
  · have := h.lt2 b' o e2; omega
/-- rows that are known, beside each other -/
def Rs (m : M) : List (Option Addr × List Value) → Prop
  | [] => True
  | p :: r => Row m p.1 p.2 ∧ Rs m r
theorem Rs.of {m m' : M} (h : ∀ a cs, Row m a cs → Row m' a cs) : ∀ {L : List (Option Addr × List Value)}, Rs m L → Rs m' L
  | [], _ => trivial
  | _ :: _, ⟨h1, h2⟩ => ⟨h _ _ h1, Rs.of h h2⟩
theorem Rs.sz {m : M} {L : List (Option Addr × List Value)} {n : Nat} (h : Rs m L) (hn : m.sz ≤ n) : Rs { m with sz := n } L := h.of fun _ _ r => r.sz hn
theorem Rs.agree {m m' : M} {L : List (Option Addr × List Value)} (h : Rs m L) (hag : Agree m.sz m m') : Rs m' L := h.of fun _ _ r => r.agree hag
theorem Rs.step {m m' : M} {L : List (Option Addr × List Value)} {N : Nat} (h : Rs m L) (hN : m.sz ≤ N) (hag : Agree N { m with sz := N } m') : Rs m' L := (h.sz hN).agree hag
theorem Rs.newBlock {m : M} {L : List (Option Addr × List Value)} {b : Nat} {ds : List Value} (h : Rs m L) (hb : m.sz ≤ b) : Rs (m.newBlock b ds) L := h.of fun _ _ r => r.newBlock hb
theorem Rs.cons {m : M} {a : Option Addr} {cs : List Value} {L : List (Option Addr × List Value)} (h : Row m a cs) (r : Rs m L) : Rs m ((a, cs) :: L) := ⟨h, r⟩
/-- and memory below is as it was -/
structure Kp (B : Nat) (m0 m : M) (L : List (Option Addr × List Value)) : Prop where
  rs : Rs m L
  ag : Agree B m0 m
theorem Kp.sz {B : Nat} {m0 m : M} {L : List (Option Addr × List Value)} {n : Nat} (h : Kp B m0 m L) (hn : m.sz ≤ n) : Kp B m0 { m with sz := n } L := ⟨h.rs.sz hn, h.ag.trans (.szl hn)⟩
theorem Kp.step {B : Nat} {m0 m m' : M} {L : List (Option Addr × List Value)} {N : Nat} (h : Kp B m0 m L) (hB : B ≤ m.sz) (hN : m.sz ≤ N) (hag : Agree N { m with sz := N } m') : Kp B m0 m' L :=
  ⟨h.rs.step hN hag, h.ag.trans ((Agree.szl (B := B) (m := m) hN).trans (hag.mono (Nat.le_trans hB hN)))⟩
theorem Owned.row {m m' : M} {cs marks : List Value} {len cap : Nat} {v : Value} (h : Owned m cs marks len cap v m') : ∃ b, v = .slice (some ⟨b, 0, none⟩) len cap ∧ Row m' (some ⟨b, 0, none⟩) (cs ++ marks) := by
  obtain ⟨b, e, -, h2, -, h4⟩ := h
  exact ⟨b, e, .at _ _ _ h2 h4⟩
end
end Go.Vc
