/-
  Contracts of functions of this seat: what each hands back, and what it leaves of memory (deal21). Nothing here is trusted: Lean checks it.
-/
import Derived.Test.YtoilbbfidnhekaaDeal20
set_option linter.unusedVariables false
set_option linter.unusedSimpArgs false
namespace Go.Proofs.Ytoilbbfidnhekaa.Acc
open Go.Vc Go.RowKit Go.ChangeShapes Go.WideShapes Go.ChangeAt
set_option maxRecDepth 100000

def ix (j : Bool) : Nat := if j then 1 else 0

abbrev acD (y : DwX) (j : Bool) : List Value := acc (y.X j) (y.a j) (y.c j)

structure DwM (N : Nat) (aw : Option Addr) (ws : List Int) (y : DwX) : Prop where
  lo : N ≤ y.b1 ∧ N ≤ y.b2 ∧ N ≤ y.b3
  ne : y.b1 ≠ y.b2 ∧ y.b1 ≠ y.b3 ∧ y.b2 ≠ y.b3
  lt : y.b1 < y.m.sz ∧ y.b2 < y.m.sz ∧ y.b3 < y.m.sz
  uf : y.m.uf y.b1 ∧ y.m.uf y.b2 ∧ y.m.uf y.b3
  now : CellsAt y.m y.b1 0 (acD y false ++ acD y true)
  said : CellsAt y.m y.b2 0 [I (y.s false), I (y.s true)]
  ended : CellsAt y.m y.b3 0 [.bool (y.e false), .bool (y.e true)]
  mv : Row y.m aw (ints ws)
  hs : ∀ j, Row y.m (y.a j) (hds (y.X j).hs)
  bk : Row y.m y.aB (dls [y.D])
  apM : ∀ b o, aw = some ⟨b, o, none⟩ → ws ≠ [] → b < N
  apH : ∀ j b o, y.a j = some ⟨b, o, none⟩ → (y.X j).hs ≠ [] → b < N
  apB : ∀ b o, y.aB = some ⟨b, o, none⟩ → b ≠ y.b1 ∧ b ≠ y.b2 ∧ b ≠ y.b3

theorem row_nil_or {m m' : M} {a : Option Addr} {cs : List Value} {N : Nat} (h : Row m a cs) (hap : ∀ b o, a = some ⟨b, o, none⟩ → cs ≠ [] → b < N) (hs : m.sz ≤ m'.sz) (hk : ∀ b, b < N → b < m.sz → m'.π b = m.π b) : Row m' a cs := by
  by_cases hc : cs = []
  · subst hc; exact .nil _
  · exact h.of hs fun b o e hb => hk b (hap b o e hc) hb

theorem ints_ne {ws : List Int} (h : ints ws ≠ []) : ws ≠ [] := fun e => h (by rw [e]; rfl)

theorem hds_ne {l : List Hd} (h : hds l ≠ []) : l ≠ [] := fun e => h (by rw [e]; rfl)

section
variable {N : Nat} {aw : Option Addr} {ws : List Int} {y : DwX}

theorem DwM.now_at (h : DwM N aw ws y) (j : Bool) : CellsAt y.m y.b1 (0 + ix j * 10) (acD y j) := by
  cases j
  · exact h.now.take
  · exact h.now.drop

theorem DwM.said_at (h : DwM N aw ws y) (j : Bool) : CellsAt y.m y.b2 (0 + ix j * 1) [I (y.s j)] := by
  cases j
  · exact CellsAt.take (cs := [I (y.s false)]) (ds := [I (y.s true)]) h.said
  · exact CellsAt.drop (cs := [I (y.s false)]) (ds := [I (y.s true)]) h.said

theorem DwM.ended_at (h : DwM N aw ws y) (j : Bool) : CellsAt y.m y.b3 (0 + ix j * 1) [.bool (y.e j)] := by
  cases j
  · exact CellsAt.take (cs := [.bool (y.e false)]) (ds := [.bool (y.e true)]) h.ended
  · exact CellsAt.drop (cs := [.bool (y.e false)]) (ds := [.bool (y.e true)]) h.ended

theorem wr_of {m : M} {b o : Nat} {cs : List Value} {n : Nat} (hlo : N ≤ b) (hu : m.uf b) (h : CellsAt m b o cs) (hn : n = cs.length) : Wr N (fun _ => False) m b o n :=
  ⟨.inl hlo, hu, fun j hj => ⟨cs[j]'(by omega), by rw [h.out j (by omega), List.getElem?_eq_getElem (by omega)]⟩⟩

/-- behind a call -/
theorem DwM.call (h : DwM N aw ws y) {N1 : Nat} {m' : M} (hN : y.m.sz ≤ N1) (hag : Agree N1 { y.m with sz := N1 } m') : DwM N aw ws { y with m := m' } := by
  have hs : y.m.sz ≤ m'.sz := by have := hag.2.2; simp only at this; omega
  have hp : ∀ b, b < y.m.sz → m'.π b = y.m.π b := fun b hb => hag.1 b (by omega)
  have hu : ∀ b, b < y.m.sz → y.m.uf b → m'.uf b := fun b hb hu => (hag.2.1 b (by omega)).2 hu
  have hr : ∀ a cs, Row y.m a cs → Row m' a cs := fun a cs r => r.of hs fun b o e hb => hp b hb
  have l1 := h.lt.1
  have l2 := h.lt.2.1
  have l3 := h.lt.2.2
  exact ⟨h.lo, h.ne, ⟨Nat.lt_of_lt_of_le l1 hs, Nat.lt_of_lt_of_le l2 hs, Nat.lt_of_lt_of_le l3 hs⟩, ⟨hu _ l1 h.uf.1, hu _ l2 h.uf.2.1, hu _ l3 h.uf.2.2⟩, h.now.of (hp _ l1), h.said.of (hp _ l2), h.ended.of (hp _ l3), hr _ _ h.mv, fun j => hr _ _ (h.hs j), hr _ _ h.bk, h.apM, h.apH, h.apB⟩

theorem DwM.books (h : DwM N aw ws y) {N1 : Nat} {m' : M} (hN : y.m.sz ≤ N1) (hag : Agree N1 { y.m with sz := N1 } m') {D' : Dl} {a' : Option Addr} {c' : Nat} (hr : NewR N1 (fun _ => False) m' 8 a' 1 c' (dls [D'])) : DwM N aw ws { y with m := m', D := D', aB := a', cB := c' } := by
  have g := h.call hN hag
  have l := h.lt
  refine ⟨g.lo, g.ne, g.lt, g.uf, g.now, g.said, g.ended, g.mv, g.hs, hr.row, g.apM, g.apH, fun b o e => ?_⟩
  have := (hr.toOwn (by decide)).lo e
  rcases this with h | h
  · refine ⟨?_, ?_, ?_⟩ <;> (simp only; omega)
  · exact h.elim

theorem DwM.setNow (h : DwM N aw ws y) (j : Bool) {X' : Ac} {a' : Option Addr} {c' : Nat} (hn : X'.hs = []) : DwM N aw ws { y with X := upB y.X j X', a := upB y.a j a', c := upB y.c j c', m := y.m.setCells y.b1 (0 + ix j * 10) (acc X' a' c') } := by
  have hp : ∀ b, b ≠ y.b1 → (y.m.setCells y.b1 (0 + ix j * 10) (acc X' a' c')).π b = y.m.π b := fun b hb => setCells_other hb
  obtain ⟨n1, n2, n3⟩ := h.ne
  obtain ⟨l1, l2, l3⟩ := h.lo
  refine ⟨h.lo, h.ne, h.lt, h.uf, ?_, h.said.of (hp _ (Ne.symm n1)), h.ended.of (hp _ (Ne.symm n2)), row_nil_or h.mv (fun b o e hc => h.apM b o e (ints_ne hc)) (Nat.le_refl _) (fun b hb _ => hp b (by omega)), fun i => ?_, ?_, h.apM, fun i b o e hc => ?_, h.apB⟩
  · cases j
    · simp only [acD, upB_same, upB_ne (show true ≠ false by decide)]
      have := CellsAt.set (pre := []) (old := acD y false) (new := acc X' a' c') (post := acD y true) h.now rfl
      exact this
    · simp only [acD, upB_same, upB_ne (show false ≠ true by decide)]
      have := CellsAt.set (pre := acD y false) (old := acD y true) (new := acc X' a' c') (post := []) (by rw [List.append_nil]; exact h.now) rfl
      rw [List.append_nil] at this
      exact this
  · by_cases hi : i = j
    · subst hi; simp only [upB_same, hn]; exact .nil _
    · simp only [upB_ne hi]; exact row_nil_or (h.hs i) (fun b o e hc => h.apH i b o e (hds_ne hc)) (Nat.le_refl _) (fun b hb _ => hp b (by omega))
  · exact h.bk.of (Nat.le_refl _) fun b o e hb => hp b (h.apB b o e).1
  · by_cases hi : i = j
    · subst hi; simp only [upB_same] at hc; exact absurd hn hc
    · simp only [upB_ne hi] at e hc; exact h.apH i b o e hc

theorem DwM.setSaid (h : DwM N aw ws y) (j : Bool) (v : Int) : DwM N aw ws { y with s := upB y.s j v, m := y.m.setCells y.b2 (0 + ix j * 1) [I v] } := by
  have hp : ∀ b, b ≠ y.b2 → (y.m.setCells y.b2 (0 + ix j * 1) [I v]).π b = y.m.π b := fun b hb => setCells_other hb
  obtain ⟨n1, n2, n3⟩ := h.ne
  obtain ⟨l1, l2, l3⟩ := h.lo
  refine ⟨h.lo, h.ne, h.lt, h.uf, h.now.of (hp _ n1), ?_, h.ended.of (hp _ (Ne.symm n3)), row_nil_or h.mv (fun b o e hc => h.apM b o e (ints_ne hc)) (Nat.le_refl _) (fun b hb _ => hp b (by omega)), fun i => row_nil_or (h.hs i) (fun b o e hc => h.apH i b o e (hds_ne hc)) (Nat.le_refl _) (fun b hb _ => hp b (by omega)), h.bk.of (Nat.le_refl _) fun b o e hb => hp b (h.apB b o e).2.1, h.apM, h.apH, h.apB⟩
  cases j
  · simp only [upB_same, upB_ne (show true ≠ false by decide)]
    exact CellsAt.set (pre := []) (old := [I (y.s false)]) (new := [I v]) (post := [I (y.s true)]) h.said rfl
  · simp only [upB_same, upB_ne (show false ≠ true by decide)]
    exact CellsAt.set (pre := [I (y.s false)]) (old := [I (y.s true)]) (new := [I v]) (post := []) h.said rfl

theorem DwM.setEnded (h : DwM N aw ws y) (j : Bool) (v : Bool) : DwM N aw ws { y with e := upB y.e j v, m := y.m.setCells y.b3 (0 + ix j * 1) [.bool v] } := by
  have hp : ∀ b, b ≠ y.b3 → (y.m.setCells y.b3 (0 + ix j * 1) [.bool v]).π b = y.m.π b := fun b hb => setCells_other hb
  obtain ⟨n1, n2, n3⟩ := h.ne
  obtain ⟨l1, l2, l3⟩ := h.lo
  refine ⟨h.lo, h.ne, h.lt, h.uf, h.now.of (hp _ n2), h.said.of (hp _ n3), ?_, row_nil_or h.mv (fun b o e hc => h.apM b o e (ints_ne hc)) (Nat.le_refl _) (fun b hb _ => hp b (by omega)), fun i => row_nil_or (h.hs i) (fun b o e hc => h.apH i b o e (hds_ne hc)) (Nat.le_refl _) (fun b hb _ => hp b (by omega)), h.bk.of (Nat.le_refl _) fun b o e hb => hp b (h.apB b o e).2.2, h.apM, h.apH, h.apB⟩
  cases j
  · simp only [upB_same, upB_ne (show true ≠ false by decide)]
    exact CellsAt.set (pre := []) (old := [.bool (y.e false)]) (new := [.bool v]) (post := [.bool (y.e true)]) h.ended rfl
  · simp only [upB_same, upB_ne (show false ≠ true by decide)]
    exact CellsAt.set (pre := [.bool (y.e false)]) (old := [.bool (y.e true)]) (new := [.bool v]) (post := []) h.ended rfl
end

structure DwI (N : Nat) (O : Bool → Ac) (n : Int) (aw : Option Addr) (ws : List Int) (y : DwX) : Prop where
  k : y.k ≤ ws.length
  L : DwL O n y
  M : DwM N aw ws y

def ogD (A B : Ac) (j : Bool) : Ac := if j then B else A

def dwAnn (N : Nat) (A B : Ac) (a1 : Option Addr) (c1 : Nat) (a2 : Option Addr) (c2 : Nat) (n : Int) (aw : Option Addr) (cw : Nat) (ws : List Int) : Nat → Ann
  | 10 => {
    A := DwX
    inv := DwI N (ogD A B) n aw ws
    st := fun y => [(14, .val (I y.k)), (3, .val (.slice aw ws.length cw)), (9, .val (.slice y.aB 1 y.cB)), (11, .val (.pointer (some ⟨y.b1, 0, none⟩))), (12, .val (.pointer (some ⟨y.b2, 0, none⟩))), (13, .val (.pointer (some ⟨y.b3, 0, none⟩))), (4, .own 0 0), (5, .own 1 0), (2, .val (I n))]
    own := fun y => [(0, ⟨65, acc A a1 c1⟩), (1, ⟨65, acc B a2 c2⟩)]
    m := fun y => y.m
    μ := fun y => ws.length - y.k
    esc := [39, 42, 45] }
  | 44 => {
    A := DwX
    inv := fun y => y.k < ws.length ∧ DwI N (ogD A B) n aw ws y
    st := fun y => [(14, .val (I y.k)), (3, .val (.slice aw ws.length cw)), (9, .val (.slice y.aB 1 y.cB)), (11, .val (.pointer (some ⟨y.b1, 0, none⟩))), (12, .val (.pointer (some ⟨y.b2, 0, none⟩))), (13, .val (.pointer (some ⟨y.b3, 0, none⟩))), (4, .own 0 0), (5, .own 1 0), (2, .val (I n)), (16, .own 64 0)]
    own := fun y => [(0, ⟨65, acc A a1 c1⟩), (1, ⟨65, acc B a2 c2⟩), (64, ⟨24, encDl y.d⟩)]
    m := fun y => y.m
    μ := fun _ => 0
    cut := true
    link := some fun y ctx => ctx = [ws.length - y.k] }
  | _ => noAnn 0

end Go.Proofs.Ytoilbbfidnhekaa.Acc
