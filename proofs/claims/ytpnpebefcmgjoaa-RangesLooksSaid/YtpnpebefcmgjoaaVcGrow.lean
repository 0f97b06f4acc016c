/-
  Two lists that grow beside blocks that stay. Nothing here is trusted: Lean checks it. It names no program.
-/
import Derived.Test.YtpnpebefcmgjoaaVcList
set_option linter.unusedVariables false
set_option linter.unusedSimpArgs false
namespace Go.Vc
open Go.RowKit
section
variable {P : Program} {e : TypeId} {B : Nat} {G : Nat → Prop} {m m' m2 : M} {s1 s2 bytes l1 c1 l2 c2 b : Nat} {a1 a2 aw : Option Addr} {cs1 cs2 src : List Value}
/-- the blocks of G are as they were -/
structure Keep (G : Nat → Prop) (m m' : M) : Prop where
  π : ∀ b, G b → m'.π b = m.π b
  uf : ∀ b, G b → m.uf b → m'.uf b
  sz : m.sz ≤ m'.sz
theorem Keep.trans (h : Keep G m m') (k : Keep G m' m2) : Keep G m m2 := ⟨fun b hb => (k.π b hb).trans (h.π b hb), fun b hb hu => k.uf b hb (h.uf b hb hu), Nat.le_trans h.sz k.sz⟩
theorem Keep.weak {G' : Nat → Prop} (h : Keep G m m') (hs : ∀ b, G' b → G b) : Keep G' m m' := ⟨fun b hb => h.π b (hs b hb), fun b hb => h.uf b (hs b hb), h.sz⟩
theorem Keep.blk (h : Keep G m m') (hb : G b) : KeepB b m m' := ⟨fun o v hv => by rw [h.π b hb]; exact hv, h.sz⟩
/-- two lists of the call's own that grow beside blocks that stay -/
structure Gr (B : Nat) (G : Nat → Prop) (m : M) (s1 : Nat) (a1 : Option Addr) (l1 c1 : Nat) (cs1 : List Value) (s2 : Nat) (a2 : Option Addr) (l2 c2 : Nat) (cs2 : List Value) : Prop where
  two : Two B m s1 a1 l1 c1 cs1 s2 a2 l2 c2 cs2
  g1 : ∀ b o, a1 = some ⟨b, o, none⟩ → ¬ G b
  g2 : ∀ b o, a2 = some ⟨b, o, none⟩ → ¬ G b
  glt : ∀ b, G b → b < m.sz
  hB : B ≤ m.sz
theorem Gr.symm (h : Gr B G m s1 a1 l1 c1 cs1 s2 a2 l2 c2 cs2) : Gr B G m s2 a2 l2 c2 cs2 s1 a1 l1 c1 cs1 := ⟨h.two.symm, h.g2, h.g1, h.glt, h.hB⟩
theorem Gr.weak {G' : Nat → Prop} (h : Gr B G m s1 a1 l1 c1 cs1 s2 a2 l2 c2 cs2) (hs : ∀ b, G' b → G b) : Gr B G' m s1 a1 l1 c1 cs1 s2 a2 l2 c2 cs2 := ⟨h.two, fun b o e hb => h.g1 b o e (hs b hb), fun b o e hb => h.g2 b o e (hs b hb), fun b hb => h.glt b (hs b hb), h.hB⟩
theorem Gr.new {ds : List Value} (h : Gr B G m s1 a1 l1 c1 cs1 s2 a2 l2 c2 cs2) (hb : m.sz ≤ b) : Gr B (fun x => G x ∨ x = b) (m.newBlock b ds) s1 a1 l1 c1 cs1 s2 a2 l2 c2 cs2 ∧ Keep G m (m.newBlock b ds) := by
  have hs : m.sz ≤ (m.newBlock b ds).sz := by simp only [M.newBlock]; omega
  refine ⟨⟨⟨h.two.o1.newBlock hb, h.two.o2.newBlock hb, h.two.ap, fun b' o e => Nat.lt_of_lt_of_le (h.two.lt1 b' o e) hs, fun b' o e => Nat.lt_of_lt_of_le (h.two.lt2 b' o e) hs⟩, fun b' o e hg => ?_, fun b' o e hg => ?_, fun b' hg => ?_, Nat.le_trans h.hB hs⟩, fun b' hg => ?_, fun b' hg hu => .inr hu, hs⟩
  · rcases hg with hg | rfl
    · exact h.g1 b' o e hg
    · have := h.two.lt1 b' o e; omega
  · rcases hg with hg | rfl
    · exact h.g2 b' o e hg
    · have := h.two.lt2 b' o e; omega
  · rcases hg with hg | rfl
    · exact Nat.lt_of_lt_of_le (h.glt b' hg) hs
    · simp only [M.newBlock]; omega
  · exact newBlock_other (by have := h.glt b' hg; omega)
theorem Gr.app1 (h : Gr B G m s1 a1 l1 c1 cs1 s2 a2 l2 c2 cs2) (hs : Row m aw src) (hsl : src.length = s1) (h1 : oneCells src = true) (hbd : (l1 + 1) * bytes ≤ 140737488355328 ∧ l1 + 1 ≤ 140737488355328) (hz : ∀ k, (zeroRow P e k).length = k * s1) :
    AppPre B (fun _ => False) m s1 bytes a1 l1 c1 aw 1 cs1 src ∧
      ∀ a' c' m', AppPost P e m s1 a1 l1 c1 1 cs1 src a' c' m' → Gr B G m' s1 a' (l1 + 1) c' (cs1 ++ src) s2 a2 l2 c2 cs2 ∧ Keep G m m' ∧ Agree B m m' := by
  refine ⟨h.two.o1.appPre hs (by omega) h1 hbd, fun a' c' m' hp => ?_⟩
  have q1 := h.two.o1.append hp (by omega) hz h.hB
  have hk : Keep G m m' := ⟨fun b hb => (hp.other (h.glt b hb) fun o e => h.g1 b o e hb).1, fun b hb hu => (hp.other (h.glt b hb) fun o e => h.g1 b o e hb).2 hu, hp.sz⟩
  refine ⟨⟨⟨q1, h.two.o2.other hp h.two.ap, hp.apart h.two.ap fun b o e => h.two.lt2 b o e, fun b' o e2 => ?_, fun b' o e2 => Nat.lt_of_lt_of_le (h.two.lt2 b' o e2) hp.sz⟩, fun b' o e2 hg => ?_, h.g2, fun b' hg => Nat.lt_of_lt_of_le (h.glt b' hg) hp.sz, Nat.le_trans h.hB hp.sz⟩, hk, h.two.o1.appAgree hp (by omega) h.hB⟩
  · cases q1 with
    | own q => exact q.lt e2
  · rcases hp with ⟨-, rfl, -, -⟩ | ⟨-, b'', hb'', -, rfl, -⟩
    · exact h.g1 b' o e2 hg
    · have e3 : b'' = b' := by cases e2; rfl
      have := h.glt b' hg
      omega
/-- a block that stays may be written -/
theorem Gr.set {o : Nat} {v : Value} (h : Gr B G m s1 a1 l1 c1 cs1 s2 a2 l2 c2 cs2) (hg : G b) : Gr B G (m.setCells b o [v]) s1 a1 l1 c1 cs1 s2 a2 l2 c2 cs2 := by
  have hr : ∀ {a : Option Addr}, (∀ b' o, a = some ⟨b', o, none⟩ → ¬ G b') → ∀ b' o', a = some ⟨b', o', none⟩ → b' < m.sz → (m.setCells b o [v]).π b' = m.π b' ∧ (m.uf b' → (m.setCells b o [v]).uf b') := fun ha b' o' e _ => ⟨setCells_other (fun e2 => by subst e2; exact ha b' o' e hg), id⟩
  exact ⟨⟨h.two.o1.of (Nat.le_refl _) (hr h.g1), h.two.o2.of (Nat.le_refl _) (hr h.g2), h.two.ap, h.two.lt1, h.two.lt2⟩, h.g1, h.g2, h.glt, h.hB⟩
theorem fresh_ne2 {x y : Nat} {v : Value} (hf : Fresh B m x) (h : m.π y 0 = some v) : y ≠ x := fun e => by
  subst e; rw [hf.cells] at h; cases h
theorem nb_same {cs : List Value} {o : Nat} : (m.newBlock b cs).π b o = cs[o]? := by simp [M.newBlock]
theorem nb_ne {cs : List Value} {b' o : Nat} (h : b' ≠ b) : (m.newBlock b cs).π b' o = m.π b' o := by rw [newBlock_other h]
theorem cell1 {v : Value} (h : m.π b 0 = some v) : CellsAt m b 0 [v] := ⟨fun j hj => by
  have hj : j = 0 := by simpa using hj
  subst hj
  exact h⟩
theorem wr1 {n : Nat} {S : Nat → Prop} {v : Value} (hlo : n ≤ b) (hu : m.uf b) (h : m.π b 0 = some v) : Wr n S m b 0 1 := ⟨.inl hlo, hu, fun j hj => ⟨v, by
  have hj : j = 0 := by omega
  subst hj
  exact h⟩⟩
theorem sc_same {v : Value} : (m.setCells b 0 [v]).π b 0 = some v := by simp [M.setCells]
theorem sc_ne {v : Value} {b' o : Nat} (h : b' ≠ b) : (m.setCells b 0 [v]).π b' o = m.π b' o := by rw [setCells_other h]
/-- what is known of blocks ahead of the end -/
def M.cut (m : M) : M := { m with π := fun b o => if b < m.sz then m.π b o else none }
theorem Row.cut {a : Option Addr} {cs : List Value} (h : Row m a cs) : Row m.cut a cs := by
  cases h with
  | nil => exact .nil _
  | «at» b o cs lt hc => exact .at b o cs lt ⟨fun j hj => by simp only [M.cut, if_pos lt]; exact hc.out j hj⟩
end
end Go.Vc
