/-
  Operations of a region without a fixed order: what they read and leave. Nothing here is trusted: Lean checks it. It names no program.
-/
import Derived.Test.YtlifpjllhibdpaaVcSound2
import Derived.Orders
set_option linter.unusedVariables false
set_option linter.unusedSimpArgs false
namespace Go.Vc
open Go.RowKit

theorem exists_least {p : Nat → Prop} (h : ∃ k, p k) : ∃ k, p k ∧ ∀ j, p j → k ≤ j := by
  obtain ⟨k, hk⟩ := h
  induction k using Nat.strongRecOn with
  | _ k ih =>
    by_cases hs : ∃ j, p j ∧ j < k
    · obtain ⟨j, hj, hlt⟩ := hs
      exact ih j hlt hj
    · exact ⟨k, hk, fun j hj => Nat.le_of_not_lt fun hlt => hs ⟨j, hj, hlt⟩⟩


/-- whatever holds of it holds of one thing, and that thing serves every other claim -/
def Dn {α : Type} (T : (α → Prop) → Prop) : Prop := ∀ Φ, T Φ → ∃ v, Φ v ∧ ∀ Ψ : α → Prop, Ψ v → T Ψ

theorem Dn.ret {α : Type} (v : α) : Dn (fun K : α → Prop => K v) := fun _ h => ⟨v, h, fun _ h => h⟩
theorem Dn.none {α : Type} : Dn (fun _ : α → Prop => False) := fun _ h => h.elim
theorem Dn.bind {α β : Type} {T : (α → Prop) → Prop} {U : α → (β → Prop) → Prop} (h : Dn T) (k : ∀ v, Dn (U v)) : Dn (fun K => T fun v => U v K) := fun Φ hT => by
  obtain ⟨v, hv, hp⟩ := h _ hT
  obtain ⟨e, he, hq⟩ := k v _ hv
  exact ⟨e, he, fun Ψ hΨ => hp (fun v => U v Ψ) (hq Ψ hΨ)⟩
theorem Dn.and {α : Type} {p : Prop} {T : (α → Prop) → Prop} (h : Dn T) : Dn (fun K => p ∧ T K) := fun Φ hT => by
  obtain ⟨v, hv, hp⟩ := h _ hT.2
  exact ⟨v, hv, fun Ψ hΨ => ⟨hT.1, hp Ψ hΨ⟩⟩
theorem Dn.ex {α : Type} {ι : Sort _} {T : ι → (α → Prop) → Prop} (h : ∀ i, Dn (T i)) : Dn (fun K => ∃ i, T i K) := fun Φ ⟨i, hT⟩ => by
  obtain ⟨v, hv, hp⟩ := h i _ hT
  exact ⟨v, hv, fun Ψ hΨ => ⟨i, hp Ψ hΨ⟩⟩
theorem Dn.ifB {α : Type} {b : Bool} {T U : (α → Prop) → Prop} (h : Dn T) (k : Dn U) : Dn (fun K => ifB b (T K) (U K)) := by
  cases b
  · exact k
  · exact h
theorem Dn.pureK {α β : Type} {P : Program} (s : Sem α) {U : α → (β → Prop) → Prop} (k : ∀ v, Dn (U v)) : Dn (fun K => pureK P s fun v => U v K) := by
  refine Dn.bind (T := Vc.pureK P s) (fun Φ h => ?_) k
  induction s with
  | pure a => exact ⟨a, h, fun _ h => h⟩
  | program k ih => exact ih P h
  | mark m k ih => exact ih h
  | _ => exact h.elim
mutual
theorem dn_exSh : ∀ s : Sh, Dn (exSh s)
  | .int k => fun Φ h => by simp only [exSh] at h; obtain ⟨n, h⟩ := h; exact ⟨_, h, fun Ψ hΨ => by simp only [exSh]; exact ⟨n, hΨ⟩⟩
  | .bool => fun Φ h => by simp only [exSh] at h; obtain ⟨n, h⟩ := h; exact ⟨_, h, fun Ψ hΨ => by simp only [exSh]; exact ⟨n, hΨ⟩⟩
  | .str => fun Φ h => by simp only [exSh] at h; obtain ⟨n, h⟩ := h; exact ⟨_, h, fun Ψ hΨ => by simp only [exSh]; exact ⟨n, hΨ⟩⟩
  | .sl => fun Φ h => by simp only [exSh] at h; obtain ⟨a, n, c, h⟩ := h; exact ⟨_, h, fun Ψ hΨ => by simp only [exSh]; exact ⟨a, n, c, hΨ⟩⟩
  | .ptr => fun Φ h => by simp only [exSh] at h; obtain ⟨n, h⟩ := h; exact ⟨_, h, fun Ψ hΨ => by simp only [exSh]; exact ⟨n, hΨ⟩⟩
  | .fn => fun Φ h => by simp only [exSh] at h; obtain ⟨f, c, h⟩ := h; exact ⟨_, h, fun Ψ hΨ => by simp only [exSh]; exact ⟨f, c, hΨ⟩⟩
  | .any => fun Φ h => by simp only [exSh] at h; obtain ⟨n, h1, h⟩ := h; exact ⟨_, h, fun Ψ hΨ => by simp only [exSh]; exact ⟨n, h1, hΨ⟩⟩
  | .agg l => fun Φ h => by
    simp only [exSh] at h
    obtain ⟨cs, hk, hp⟩ := dn_exCells l [] _ h
    exact ⟨_, hk, fun Ψ hΨ => by simp only [exSh]; exact hp _ hΨ⟩
  | .tup l => fun Φ h => by
    simp only [exSh] at h
    obtain ⟨cs, hk, hp⟩ := dn_exVals l [] _ h
    exact ⟨_, hk, fun Ψ hΨ => by simp only [exSh]; exact hp _ hΨ⟩
theorem dn_exCells : ∀ (l : List Sh) (acc : List Value), Dn (exCells l acc)
  | [], acc => fun Φ h => by simp only [exCells] at h; exact ⟨acc, h, fun Ψ hΨ => by simp only [exCells]; exact hΨ⟩
  | s :: r, acc => fun Φ h => by
    simp only [exCells] at h
    obtain ⟨v, hv, hp⟩ := dn_exSh s _ h
    obtain ⟨cs, hk, hq⟩ := dn_exCells r _ _ hv
    exact ⟨cs, hk, fun Ψ hΨ => by simp only [exCells]; exact hp _ (hq _ hΨ)⟩
theorem dn_exVals : ∀ (l : List Sh) (acc : List Value), Dn (exVals l acc)
  | [], acc => fun Φ h => by simp only [exVals] at h; exact ⟨acc, h, fun Ψ hΨ => by simp only [exVals]; exact hΨ⟩
  | s :: r, acc => fun Φ h => by
    simp only [exVals] at h
    obtain ⟨v, hv, hp⟩ := dn_exSh s _ h
    obtain ⟨cs, hk, hq⟩ := dn_exVals r _ _ hv
    exact ⟨cs, hk, fun Ψ hΨ => by simp only [exVals]; exact hp _ (hq _ hΨ)⟩
end
theorem Dn.exSh {β : Type} (s : Sh) {U : Value → (β → Prop) → Prop} (k : ∀ v, Dn (U v)) : Dn (fun K => exSh s fun v => U v K) := Dn.bind (dn_exSh s) k
theorem Dn.withVal {β : Type} (st : St) (x : Operand) {U : Value → (β → Prop) → Prop} (k : ∀ v, Dn (U v)) : Dn (fun K => withVal st x fun v => U v K) := by
  unfold Vc.withVal
  split
  · exact k _
  · exact Dn.none
theorem dn_withVals (st : St) : ∀ (l : List Operand) (acc : List Value), Dn (withVals st l acc)
  | [], acc => fun _ h => ⟨acc, h, fun _ h => h⟩
  | x :: r, acc => Dn.withVal st x fun v => dn_withVals st r (acc ++ [v])
theorem Dn.withVals {β : Type} (st : St) (l : List Operand) (acc : List Value) {U : List Value → (β → Prop) → Prop} (k : ∀ v, Dn (U v)) : Dn (fun K => withVals st l acc fun v => U v K) := Dn.bind (dn_withVals st l acc) k
theorem Dn.boundV {β : Type} (st : St) (x : Option Operand) (d : Int) {U : Int → (β → Prop) → Prop} (k : ∀ v, Dn (U v)) : Dn (fun K => boundV st x d fun v => U v K) := by
  unfold Vc.boundV
  split
  · exact k _
  · split
    · exact k _
    · exact Dn.none

def DnR {α : Type} (R : α → Prop) (T : (α → Prop) → Prop) : Prop := ∀ Φ, T Φ → ∃ v, R v ∧ Φ v ∧ ∀ Ψ : α → Prop, Ψ v → T Ψ
section
variable {β : Type} {R : β → Prop}
theorem DnR.ret (v : β) (h : R v) : DnR R (fun K : β → Prop => K v) := fun _ hk => ⟨v, h, hk, fun _ h => h⟩
theorem DnR.none : DnR R (fun _ : β → Prop => False) := fun _ h => h.elim
theorem DnR.bind {α : Type} {T : (α → Prop) → Prop} {U : α → (β → Prop) → Prop} (h : Dn T) (k : ∀ v, DnR R (U v)) : DnR R (fun K => T fun v => U v K) := fun Φ hT => by
  obtain ⟨v, hv, hp⟩ := h _ hT
  obtain ⟨e, hr, he, hq⟩ := k v _ hv
  exact ⟨e, hr, he, fun Ψ hΨ => hp (fun v => U v Ψ) (hq Ψ hΨ)⟩
theorem DnR.and {p : Prop} {T : (β → Prop) → Prop} (h : DnR R T) : DnR R (fun K => p ∧ T K) := fun Φ hT => by
  obtain ⟨v, hr, hv, hp⟩ := h _ hT.2
  exact ⟨v, hr, hv, fun Ψ hΨ => ⟨hT.1, hp Ψ hΨ⟩⟩
theorem DnR.ex {ι : Sort _} {T : ι → (β → Prop) → Prop} (h : ∀ i, DnR R (T i)) : DnR R (fun K => ∃ i, T i K) := fun Φ ⟨i, hT⟩ => by
  obtain ⟨v, hr, hv, hp⟩ := h i _ hT
  exact ⟨v, hr, hv, fun Ψ hΨ => ⟨i, hp Ψ hΨ⟩⟩
theorem DnR.ifB {b : Bool} {T U : (β → Prop) → Prop} (h : DnR R T) (k : DnR R U) : DnR R (fun K => ifB b (T K) (U K)) := by
  cases b
  · exact k
  · exact h
theorem DnR.pureK {α : Type} {P : Program} (s : Sem α) {U : α → (β → Prop) → Prop} (k : ∀ v, DnR R (U v)) : DnR R (fun K => pureK P s fun v => U v K) :=
  DnR.bind (T := Vc.pureK P s) (Dn.pureK s fun v => Dn.ret v) k
theorem DnR.exSh (s : Sh) {U : Value → (β → Prop) → Prop} (k : ∀ v, DnR R (U v)) : DnR R (fun K => exSh s fun v => U v K) := DnR.bind (dn_exSh s) k
theorem DnR.withVal (st : St) (x : Operand) {U : Value → (β → Prop) → Prop} (k : ∀ v, DnR R (U v)) : DnR R (fun K => withVal st x fun v => U v K) :=
  DnR.bind (T := Vc.withVal st x) (Dn.withVal st x fun v => Dn.ret v) k
theorem DnR.withVals (st : St) (l : List Operand) (acc : List Value) {U : List Value → (β → Prop) → Prop} (k : ∀ v, DnR R (U v)) : DnR R (fun K => withVals st l acc fun v => U v K) := DnR.bind (dn_withVals st l acc) k
theorem DnR.boundV (st : St) (x : Option Operand) (d : Int) {U : Int → (β → Prop) → Prop} (k : ∀ v, DnR R (U v)) : DnR R (fun K => boundV st x d fun v => U v K) :=
  DnR.bind (T := Vc.boundV st x d) (Dn.boundV st x d fun v => Dn.ret v) k
end

def ptrOp (o : Oper) : Bool := match o.op with | .move _ | .assign _ | .pick .. | .fieldAddr .. | .nilCheck _ => true | _ => false
def boxOp (o : Oper) : Bool := match o.op with | .alloc _ | .box .. => true | _ => false
/-- what an effect may be -/
def RE (o : Oper) (id : Nat) (st : St) : Eff → Prop
  | .put x => ∀ i off, x = .own i off → ptrOp o = true ∧ ∃ y off', y ∈ o.op.operands.toList ∧ evO st y = .own i off'
  | .box i _ => i = id ∧ boxOp o = true
  | .wr i _ => (∃ y off', addrO o = some y ∧ y ∈ o.op.operands.toList ∧ evO st y = .own i off') ∧ isStore o = true

theorem re_put {o : Oper} {st : St} {x : Operand} {i off : Nat} (h : evO st x = .own i off) (hx : x ∈ o.op.operands.toList) (hp : ptrOp o = true) : ptrOp o = true ∧ ∃ y off', y ∈ o.op.operands.toList ∧ evO st y = .own i off' := ⟨hp, x, off, hx, h⟩

theorem opK_dn (P : Program) (o : Oper) (id : Nat) (st : St) (m : M) : DnR (RE o id st) (opK P o id st m) := by
  unfold opK
  split
  · exact DnR.ret _ (by intro i off e; first | (cases e; done) | exact re_put e (by simp [*, Op.operands]) (by simp [ptrOp, *]) | (cases e; exact re_put (by assumption) (by simp [*, Op.operands]) (by simp [ptrOp, *])))
  · exact DnR.ret _ (by intro i off e; first | (cases e; done) | exact re_put e (by simp [*, Op.operands]) (by simp [ptrOp, *]) | (cases e; exact re_put (by assumption) (by simp [*, Op.operands]) (by simp [ptrOp, *])))
  · split
    · exact DnR.ifB (DnR.ret _ (by intro i off e; first | (cases e; done) | exact re_put e (by simp [*, Op.operands]) (by simp [ptrOp, *]) | (cases e; exact re_put (by assumption) (by simp [*, Op.operands]) (by simp [ptrOp, *])))) (DnR.ret _ (by intro i off e; first | (cases e; done) | exact re_put e (by simp [*, Op.operands]) (by simp [ptrOp, *]) | (cases e; exact re_put (by assumption) (by simp [*, Op.operands]) (by simp [ptrOp, *]))))
    · exact DnR.none
  · exact DnR.pureK _ fun v => DnR.ret _ ⟨rfl, by simp [boxOp, *]⟩
  · exact DnR.withVal _ _ fun v => DnR.ret _ ⟨rfl, by simp [boxOp, *]⟩
  · split
    · split
      · split
        · exact DnR.ret _ (by intro i off e; first | (cases e; done) | exact re_put e (by simp [*, Op.operands]) (by simp [ptrOp, *]) | (cases e; exact re_put (by assumption) (by simp [*, Op.operands]) (by simp [ptrOp, *])))
        · exact DnR.none
      · exact DnR.none
    · refine DnR.exSh _ fun v => ?_
      split
      · exact DnR.and (DnR.ret _ (by intro i off e; first | (cases e; done) | exact re_put e (by simp [*, Op.operands]) (by simp [ptrOp, *]) | (cases e; exact re_put (by assumption) (by simp [*, Op.operands]) (by simp [ptrOp, *]))))
      · exact DnR.none
    · exact DnR.none
  · split
    · split
      · split
        · exact DnR.ret _ (by rename_i x y ho _ _ i off v hx _ _ _ _ _ _; exact ⟨⟨x, off, by simp [addrO, ho], by simp [ho, Op.operands], hx⟩, by simp [isStore, ho]⟩)
        · exact DnR.none
      · exact DnR.none
    · exact DnR.none
  · split
    · split
      · exact DnR.ret _ (by intro i off e; first | (cases e; done) | exact re_put e (by simp [*, Op.operands]) (by simp [ptrOp, *]) | (cases e; exact re_put (by assumption) (by simp [*, Op.operands]) (by simp [ptrOp, *])))
      · exact DnR.none
    · split
      · exact DnR.ret _ (by intro i off e; first | (cases e; done) | exact re_put e (by simp [*, Op.operands]) (by simp [ptrOp, *]) | (cases e; exact re_put (by assumption) (by simp [*, Op.operands]) (by simp [ptrOp, *])))
      · exact DnR.none
    · exact DnR.none
  · split
    · exact DnR.ex fun b => DnR.ex fun off => DnR.and (DnR.and (DnR.ret _ (by intro i off e; first | (cases e; done) | exact re_put e (by simp [*, Op.operands]) (by simp [ptrOp, *]) | (cases e; exact re_put (by assumption) (by simp [*, Op.operands]) (by simp [ptrOp, *])))))
    · split
      · exact DnR.and (DnR.ret _ (by intro i off e; first | (cases e; done) | exact re_put e (by simp [*, Op.operands]) (by simp [ptrOp, *]) | (cases e; exact re_put (by assumption) (by simp [*, Op.operands]) (by simp [ptrOp, *]))))
      · exact DnR.none
    · exact DnR.none
  · split
    · exact DnR.ret _ (by intro i off e; first | (cases e; done) | exact re_put e (by simp [*, Op.operands]) (by simp [ptrOp, *]) | (cases e; exact re_put (by assumption) (by simp [*, Op.operands]) (by simp [ptrOp, *])))
    · exact DnR.ret _ (by intro i off e; first | (cases e; done) | exact re_put e (by simp [*, Op.operands]) (by simp [ptrOp, *]) | (cases e; exact re_put (by assumption) (by simp [*, Op.operands]) (by simp [ptrOp, *])))
    · exact DnR.ret _ (by intro i off e; first | (cases e; done) | exact re_put e (by simp [*, Op.operands]) (by simp [ptrOp, *]) | (cases e; exact re_put (by assumption) (by simp [*, Op.operands]) (by simp [ptrOp, *])))
    · exact DnR.none
  · exact DnR.withVal _ _ fun v => DnR.pureK _ fun v => DnR.ret _ (by intro i off e; first | (cases e; done) | exact re_put e (by simp [*, Op.operands]) (by simp [ptrOp, *]) | (cases e; exact re_put (by assumption) (by simp [*, Op.operands]) (by simp [ptrOp, *])))
  · exact DnR.withVal _ _ fun v => DnR.pureK _ fun v => DnR.ret _ (by intro i off e; first | (cases e; done) | exact re_put e (by simp [*, Op.operands]) (by simp [ptrOp, *]) | (cases e; exact re_put (by assumption) (by simp [*, Op.operands]) (by simp [ptrOp, *])))
  · exact DnR.withVal _ _ fun v => DnR.pureK _ fun v => DnR.ret _ (by intro i off e; first | (cases e; done) | exact re_put e (by simp [*, Op.operands]) (by simp [ptrOp, *]) | (cases e; exact re_put (by assumption) (by simp [*, Op.operands]) (by simp [ptrOp, *])))
  · exact DnR.withVal _ _ fun v => DnR.pureK _ fun v => DnR.ret _ (by intro i off e; first | (cases e; done) | exact re_put e (by simp [*, Op.operands]) (by simp [ptrOp, *]) | (cases e; exact re_put (by assumption) (by simp [*, Op.operands]) (by simp [ptrOp, *])))
  · exact DnR.withVals _ _ _ fun v => DnR.pureK _ fun v => DnR.ret _ (by intro i off e; first | (cases e; done) | exact re_put e (by simp [*, Op.operands]) (by simp [ptrOp, *]) | (cases e; exact re_put (by assumption) (by simp [*, Op.operands]) (by simp [ptrOp, *])))
  · refine DnR.withVal _ _ fun v => DnR.withVal _ _ fun u => ?_
    split
    · split
      · exact DnR.and (DnR.ret _ (by intro i off e; first | (cases e; done) | exact re_put e (by simp [*, Op.operands]) (by simp [ptrOp, *]) | (cases e; exact re_put (by assumption) (by simp [*, Op.operands]) (by simp [ptrOp, *]))))
      · exact DnR.none
    · split
      · exact DnR.and (DnR.ret _ (by intro i off e; first | (cases e; done) | exact re_put e (by simp [*, Op.operands]) (by simp [ptrOp, *]) | (cases e; exact re_put (by assumption) (by simp [*, Op.operands]) (by simp [ptrOp, *]))))
      · exact DnR.none
    · split
      · exact DnR.ret _ (by intro i off e; first | (cases e; done) | exact re_put e (by simp [*, Op.operands]) (by simp [ptrOp, *]) | (cases e; exact re_put (by assumption) (by simp [*, Op.operands]) (by simp [ptrOp, *])))
      · exact DnR.none
    · split
      · exact DnR.ret _ (by intro i off e; first | (cases e; done) | exact re_put e (by simp [*, Op.operands]) (by simp [ptrOp, *]) | (cases e; exact re_put (by assumption) (by simp [*, Op.operands]) (by simp [ptrOp, *])))
      · exact DnR.none
    · split
      · exact DnR.ret _ (by intro i off e; first | (cases e; done) | exact re_put e (by simp [*, Op.operands]) (by simp [ptrOp, *]) | (cases e; exact re_put (by assumption) (by simp [*, Op.operands]) (by simp [ptrOp, *])))
      · exact DnR.none
    · split
      · exact DnR.ret _ (by intro i off e; first | (cases e; done) | exact re_put e (by simp [*, Op.operands]) (by simp [ptrOp, *]) | (cases e; exact re_put (by assumption) (by simp [*, Op.operands]) (by simp [ptrOp, *])))
      · exact DnR.none
    · split
      · exact DnR.ret _ (by intro i off e; first | (cases e; done) | exact re_put e (by simp [*, Op.operands]) (by simp [ptrOp, *]) | (cases e; exact re_put (by assumption) (by simp [*, Op.operands]) (by simp [ptrOp, *])))
      · exact DnR.none
    · exact DnR.pureK _ fun v => DnR.ret _ (by intro i off e; first | (cases e; done) | exact re_put e (by simp [*, Op.operands]) (by simp [ptrOp, *]) | (cases e; exact re_put (by assumption) (by simp [*, Op.operands]) (by simp [ptrOp, *])))
    · exact DnR.pureK _ fun v => DnR.ret _ (by intro i off e; first | (cases e; done) | exact re_put e (by simp [*, Op.operands]) (by simp [ptrOp, *]) | (cases e; exact re_put (by assumption) (by simp [*, Op.operands]) (by simp [ptrOp, *])))
    · exact DnR.pureK _ fun v => DnR.ret _ (by intro i off e; first | (cases e; done) | exact re_put e (by simp [*, Op.operands]) (by simp [ptrOp, *]) | (cases e; exact re_put (by assumption) (by simp [*, Op.operands]) (by simp [ptrOp, *])))
    · exact DnR.none
  · split
    · exact DnR.boundV _ _ _ fun l => DnR.boundV _ _ _ fun h => DnR.and (DnR.ret _ (by intro i off e; first | (cases e; done) | exact re_put e (by simp [*, Op.operands]) (by simp [ptrOp, *]) | (cases e; exact re_put (by assumption) (by simp [*, Op.operands]) (by simp [ptrOp, *]))))
    · split
      · exact DnR.boundV _ _ _ fun l => DnR.boundV _ _ _ fun h => DnR.boundV _ _ _ fun mm => DnR.and (DnR.ret _ (by intro i off e; first | (cases e; done) | exact re_put e (by simp [*, Op.operands]) (by simp [ptrOp, *]) | (cases e; exact re_put (by assumption) (by simp [*, Op.operands]) (by simp [ptrOp, *]))))
      · exact DnR.none
    · exact DnR.none
  · split
    · split
      · refine DnR.withVals _ _ _ fun vs => DnR.pureK _ fun n => ?_
        split
        · exact DnR.ret _ (by intro i off e; first | (cases e; done) | exact re_put e (by simp [*, Op.operands]) (by simp [ptrOp, *]) | (cases e; exact re_put (by assumption) (by simp [*, Op.operands]) (by simp [ptrOp, *])))
        · exact DnR.none
      · exact DnR.none
    · split
      · split
        · split
          · exact DnR.withVals _ _ _ fun vs => DnR.exSh _ fun v => DnR.and (DnR.ret _ (by intro i off e; first | (cases e; done) | exact re_put e (by simp [*, Op.operands]) (by simp [ptrOp, *]) | (cases e; exact re_put (by assumption) (by simp [*, Op.operands]) (by simp [ptrOp, *]))))
          · split
            · exact DnR.none
            · split
              · exact DnR.withVals _ _ _ fun vs => DnR.exSh _ fun v => DnR.and (DnR.ret _ (by intro i off e; first | (cases e; done) | exact re_put e (by simp [*, Op.operands]) (by simp [ptrOp, *]) | (cases e; exact re_put (by assumption) (by simp [*, Op.operands]) (by simp [ptrOp, *]))))
              · split
                · exact DnR.withVals _ _ _ fun vs => DnR.exSh _ fun v => DnR.and (DnR.ret _ (by intro i off e; first | (cases e; done) | exact re_put e (by simp [*, Op.operands]) (by simp [ptrOp, *]) | (cases e; exact re_put (by assumption) (by simp [*, Op.operands]) (by simp [ptrOp, *]))))
                · refine DnR.withVals _ _ _ fun vs => DnR.pureK _ fun n => ?_
                  split
                  · exact DnR.ret _ (by intro i off e; first | (cases e; done) | exact re_put e (by simp [*, Op.operands]) (by simp [ptrOp, *]) | (cases e; exact re_put (by assumption) (by simp [*, Op.operands]) (by simp [ptrOp, *])))
                  · exact DnR.none
        · exact DnR.none
      · exact DnR.none
    · exact DnR.none
  · exact DnR.none

theorem withVal_congr {st st' : St} {x : Operand} (h : evO st' x = evO st x) : withVal st' x = withVal st x := by funext K; simp only [withVal, h]
theorem withVals_congr {st st' : St} : ∀ (l : List Operand) (acc : List Value), (∀ x, x ∈ l → evO st' x = evO st x) → withVals st' l acc = withVals st l acc
  | [], _, _ => rfl
  | x :: r, acc, h => by
    funext K
    simp only [withVals, withVal_congr (h x (by simp))]
    congr 1
    funext v
    rw [withVals_congr r _ fun y hy => h y (by simp [hy])]
theorem boundV_congr {st st' : St} {x : Option Operand} {d : Int} (h : ∀ y, x = some y → evO st' y = evO st y) : boundV st' x d = boundV st x d := by
  funext K
  cases x with
  | none => rfl
  | some y => simp only [boundV, h y rfl]

/-- an operation looks at its operands, and, to load or to store, into one box -/
theorem opK_congr {P : Program} {o : Oper} {id : Nat} {st st' : St} {m : M} {K : Eff → Prop} (h : ∀ x, x ∈ o.op.operands.toList → evO st' x = evO st x)
    (hb : isMem o = true → ∀ x i off, addrO o = some x → x ∈ o.op.operands.toList → evO st x = .own i off → st'.own i = st.own i) (hk : opK P o id st m K) : opK P o id st' m K := by
  cases ho : o.op <;> simp only [opK, ho, Op.operands] at h hk ⊢
  case move x => rw [h x (by simp)]; exact hk
  case assign x => rw [h x (by simp)]; exact hk
  case pick c x y => rw [h c (by simp), h x (by simp), h y (by simp)]; exact hk
  case alloc t => exact hk
  case box t x => rw [withVal_congr (h x (by simp))]; exact hk
  case load t x =>
    rw [h x (by simp)]
    have hm : isMem o = true := by simp [isMem, ho]
    split at hk
    · rename_i i off hx
      rw [hb hm x i off (by simp [addrO, ho]) (by simp [ho, Op.operands]) hx]
      exact hk
    · exact hk
    · exact hk.elim
  case store t x y =>
    rw [h x (by simp), h y (by simp)]
    have hm : isMem o = true := by simp [isMem, ho]
    split at hk
    · rename_i i off v hx hy
      rw [hb hm x i off (by simp [addrO, ho]) (by simp [ho, Op.operands]) hx]
      exact hk
    · exact hk.elim
  case fieldAddr s x f => rw [h x (by simp)]; exact hk
  case indexAddr t x y => rw [h x (by simp), h y (by simp)]; exact hk
  case nilCheck x => rw [h x (by simp)]; exact hk
  case field t x f => rw [withVal_congr (h x (by simp))]; exact hk
  case extract x i => rw [withVal_congr (h x (by simp))]; exact hk
  case unOp op t x => rw [withVal_congr (h x (by simp))]; exact hk
  case convert s d x => rw [withVal_congr (h x (by simp))]; exact hk
  case build t parts => rw [withVals_congr _ _ fun x hx => h x (by simpa using hx)]; exact hk
  case binOp op t x y yt => rw [withVal_congr (h x (by simp)), withVal_congr (h y (by simp))]; exact hk
  case slice t x lo hi mx =>
    have h1 := fun d => boundV_congr (x := lo) (d := d) fun y hy => h y (by simp [hy])
    have h2 := fun d => boundV_congr (x := hi) (d := d) fun y hy => h y (by simp [hy])
    have h3 := fun d => boundV_congr (x := mx) (d := d) fun y hy => h y (by simp [hy])
    simp only [h x (by simp), h1, h2, h3]
    exact hk
  case call c =>
    obtain ⟨callee, args, argTypes⟩ := c
    have ha : ∀ x, x ∈ args.toList → evO st' x = evO st x := fun x hx => h x (by simp [Call.operands]; right; simpa using hx)
    cases callee with
    | value f =>
      simp only at hk ⊢
      rw [h f (by simp [Call.operands])]
      simp only [withVals_congr _ _ ha]
      exact hk
    | invoke => exact hk
    | builtin b =>
      simp only at hk ⊢
      rw [withVals_congr _ _ ha]
      exact hk
  all_goals exact hk

/-! ### a region's operations in whatever order -/

def slotOf : Eff → SV
  | .put x => x
  | .box id _ => .own id 0
  | .wr _ _ => .val undef
def boxOf : Eff → Option (Nat × Bx)
  | .put _ => none
  | .box id b => some (id, b)
  | .wr id b => some (id, b)

theorem app_tmps (st : St) (dst : Option Nat) (e : Eff) (t : Nat) : (st.app dst e).tmps t = if dst = some t then slotOf e else st.tmps t := by
  have key : ∀ x, (st.putO dst x).tmps t = if dst = some t then x else st.tmps t := fun x => by
    cases dst with
    | none => rfl
    | some d =>
      simp only [St.putO, St.put]
      cases hb : Nat.beq t d with
      | true => have := Nat.eq_of_beq_eq_true hb; subst this; simp
      | false => have := Nat.ne_of_beq_eq_false hb; rw [if_neg (by intro e; cases e; exact this rfl)]; rfl
  cases e <;> simp only [St.app, St.setOwn, slotOf] <;> exact key _

theorem app_own (st : St) (dst : Option Nat) (e : Eff) (i : Nat) : (st.app dst e).own i = match boxOf e with | some (id, b) => if i = id then some b else st.own i | none => st.own i := by
  have key : ∀ id b, (bif Nat.beq i id then some b else st.own i) = if i = id then some b else st.own i := fun id b => by
    cases hb : Nat.beq i id with
    | true => have := Nat.eq_of_beq_eq_true hb; subst this; simp
    | false => have := Nat.ne_of_beq_eq_false hb; simp [this]
  cases e <;> simp only [St.app, St.setOwn, boxOf, putO_own] <;> exact key _ _

theorem app_nx' (st : St) (dst : Option Nat) (e : Eff) : (st.app dst e).nx = st.nx := by cases e <;> cases dst <;> rfl

theorem St.ext' {s t : St} (h1 : ∀ i, s.tmps i = t.tmps i) (h2 : ∀ i, s.own i = t.own i) (h3 : s.nx = t.nx) : s = t := by
  obtain ⟨a, b, c⟩ := s
  obtain ⟨d, e, f⟩ := t
  have := funext h1
  have := funext h2
  simp_all

/-- the state behind the operations of L -/
def run (L : Nat → Bool) : List (Oper × Eff) → Nat → St → St
  | [], _, st => st
  | (o, e) :: r, i, st => run L r (i + 1) (bif L i then st.app o.dst e else st)

theorem run_tmps_congr {L L' : Nat → Bool} {t : Nat} : ∀ (l : List (Oper × Eff)) (i : Nat) (s s' : St), (∀ j o e, l[j]? = some (o, e) → o.dst = some t → L (i + j) = L' (i + j)) → s.tmps t = s'.tmps t →
    (run L l i s).tmps t = (run L' l i s').tmps t
  | [], _, _, _, _, h => h
  | (o, e) :: r, i, s, s', hL, h => by
    simp only [run]
    refine run_tmps_congr r (i + 1) _ _ (fun j o' e' hj hd => by have := hL (j + 1) o' e' (by simpa using hj) hd; rwa [show i + (j + 1) = i + 1 + j by omega] at this) ?_
    by_cases hd : o.dst = some t
    · have h0 := hL 0 o e rfl hd
      simp only [Nat.add_zero] at h0
      rw [← h0]
      cases L i
      · exact h
      · simp only [cond_true, app_tmps, hd, if_true]
    · have : ∀ (b : Bool) (s : St), (bif b then s.app o.dst e else s).tmps t = s.tmps t := fun b s => by cases b <;> simp [app_tmps, hd]
      rw [this, this]; exact h

theorem run_own_congr {L L' : Nat → Bool} {id : Nat} : ∀ (l : List (Oper × Eff)) (i : Nat) (s s' : St), (∀ j o e b, l[j]? = some (o, e) → boxOf e = some (id, b) → L (i + j) = L' (i + j)) → s.own id = s'.own id →
    (run L l i s).own id = (run L' l i s').own id
  | [], _, _, _, _, h => h
  | (o, e) :: r, i, s, s', hL, h => by
    simp only [run]
    refine run_own_congr r (i + 1) _ _ (fun j o' e' b hj hd => by have := hL (j + 1) o' e' b (by simpa using hj) hd; rwa [show i + (j + 1) = i + 1 + j by omega] at this) ?_
    by_cases hd : ∃ b, boxOf e = some (id, b)
    · obtain ⟨b, hd⟩ := hd
      have h0 := hL 0 o e b rfl hd
      simp only [Nat.add_zero] at h0
      rw [← h0]
      cases L i
      · exact h
      · simp only [cond_true, app_own, hd, if_true]
    · have : ∀ (b : Bool) (s : St), (bif b then s.app o.dst e else s).own id = s.own id := fun b s => by
        cases b
        · rfl
        · simp only [cond_true, app_own]
          split
          · rename_i id' b' hb
            rw [if_neg]
            rintro rfl
            exact hd ⟨b', hb⟩
          · rfl
      rw [this, this]; exact h

theorem run_nx (L : Nat → Bool) : ∀ (l : List (Oper × Eff)) (i : Nat) (s : St), (run L l i s).nx = s.nx
  | [], _, _ => rfl
  | (o, e) :: r, i, s => by
    simp only [run, run_nx L r]
    cases L i <;> simp [app_nx']

/-- the last that touched it has the word -/
theorem run_tmps_last {L : Nat → Bool} {t k : Nat} {o : Oper} {e : Eff} : ∀ (l : List (Oper × Eff)) (i : Nat) (s : St), l[k]? = some (o, e) → L (i + k) = true → o.dst = some t →
    (∀ j o' e', l[j]? = some (o', e') → k < j → L (i + j) = true → o'.dst ≠ some t) → (run L l i s).tmps t = slotOf e := by
  induction k with
  | zero =>
    intro l i s hl hL hd hn
    cases l with
    | nil => simp at hl
    | cons p r =>
      obtain ⟨o1, e1⟩ := p
      simp only [List.getElem?_cons_zero, Option.some.injEq, Prod.mk.injEq] at hl
      obtain ⟨rfl, rfl⟩ := hl
      simp only [run]
      rw [run_tmps_congr (L' := fun _ => false) r (i + 1) _ (s.app o1.dst e1) (fun j o' e' hj hd' => ?_) (by simp only [Nat.add_zero] at hL; rw [hL]; rfl)]
      · have : ∀ (l : List (Oper × Eff)) (i : Nat) (s : St), run (fun _ => false) l i s = s := fun l => by
          induction l with
          | nil => intros; rfl
          | cons p r ih => intro i s; obtain ⟨o, e⟩ := p; simp only [run, cond_false]; exact ih _ _
        rw [this, app_tmps, if_pos hd]
      · cases hq : L (i + 1 + j) with
        | false => rfl
        | true => exact absurd hd' (hn (j + 1) o' e' (by simpa using hj) (by omega) (by rw [show i + (j + 1) = i + 1 + j by omega]; exact hq))
  | succ k ih =>
    intro l i s hl hL hd hn
    cases l with
    | nil => simp at hl
    | cons p r =>
      obtain ⟨o1, e1⟩ := p
      simp only [run]
      exact ih r (i + 1) _ (by simpa using hl) (by rw [show i + 1 + k = i + (k + 1) by omega]; exact hL) hd fun j o' e' hj hlt hLj => hn (j + 1) o' e' (by simpa using hj) (by omega) (by rw [show i + (j + 1) = i + 1 + j by omega]; exact hLj)

theorem run_own_last {L : Nat → Bool} {id k : Nat} {o : Oper} {e : Eff} {b : Bx} : ∀ (l : List (Oper × Eff)) (i : Nat) (s : St), l[k]? = some (o, e) → L (i + k) = true → boxOf e = some (id, b) →
    (∀ j o' e' b', l[j]? = some (o', e') → k < j → L (i + j) = true → boxOf e' ≠ some (id, b')) → (run L l i s).own id = some b := by
  induction k with
  | zero =>
    intro l i s hl hL hd hn
    cases l with
    | nil => simp at hl
    | cons p r =>
      obtain ⟨o1, e1⟩ := p
      simp only [List.getElem?_cons_zero, Option.some.injEq, Prod.mk.injEq] at hl
      obtain ⟨rfl, rfl⟩ := hl
      simp only [run]
      rw [run_own_congr (L' := fun _ => false) r (i + 1) _ (s.app o1.dst e1) (fun j o' e' b' hj hd' => ?_) (by simp only [Nat.add_zero] at hL; rw [hL]; rfl)]
      · have : ∀ (l : List (Oper × Eff)) (i : Nat) (s : St), run (fun _ => false) l i s = s := fun l => by
          induction l with
          | nil => intros; rfl
          | cons p r ih => intro i s; obtain ⟨o, e⟩ := p; simp only [run, cond_false]; exact ih _ _
        rw [this, app_own, hd]
        simp
      · cases hq : L (i + 1 + j) with
        | false => rfl
        | true => exact absurd hd' (hn (j + 1) o' e' b' (by simpa using hj) (by omega) (by rw [show i + (j + 1) = i + 1 + j by omega]; exact hq))
  | succ k ih =>
    intro l i s hl hL hd hn
    cases l with
    | nil => simp at hl
    | cons p r =>
      obtain ⟨o1, e1⟩ := p
      simp only [run]
      exact ih r (i + 1) _ (by simpa using hl) (by rw [show i + 1 + k = i + (k + 1) by omega]; exact hL) hd fun j o' e' b' hj hlt hLj => hn (j + 1) o' e' b' (by simpa using hj) (by omega) (by rw [show i + (j + 1) = i + 1 + j by omega]; exact hLj)

/-- is it carried out? by the state -/
inductive Goes (ops : Array Oper) (st : St) (o : Oper) : Bool → Prop where
  | plain (h : o.guard = none) : Goes ops st o true
  | slot (j d : Nat) (want b : Bool) (h : o.guard = some (j, want)) (hd : (ops[j]?).bind (·.dst) = some d) (hs : st.tmps d = .val (.bool b)) : Goes ops st o (b == want)
  | other (j d : Nat) (want : Bool) (v : Value) (h : o.guard = some (j, want)) (hd : (ops[j]?).bind (·.dst) = some d) (hs : st.tmps d = .val v) (hv : ∀ b, v ≠ .bool b) : Goes ops st o false
  | nodst (j : Nat) (want : Bool) (h : o.guard = some (j, want)) (hd : (ops[j]?).bind (·.dst) = none) : Goes ops st o false

theorem Goes.wanted {DF : List Deferred} {N n : Nat} {st : St} {ρ : Nat → Nat} {a : Act} (T : TC DF N n st ρ a) {ops : Array Oper} {o : Oper} {g : Bool} (h : Goes ops st o g) : Region.wanted o (yielded ops a.tmps) = g := by
  cases h with
  | plain h => simp [Region.wanted, h]
  | slot j d want b h hd hs =>
    have ht := tmps_of_slot T hs
    have hy : yielded ops a.tmps j = some b := by simp [yielded, hd, ht]
    simp only [Region.wanted, h, hy]
    cases b <;> cases want <;> rfl
  | other j d want v h hd hs hv =>
    have hs := T.slots d
    rename_i hs0
    rw [hs0] at hs
    have hs : a.tmps.getD d undef = v := hs
    have hy : yielded ops a.tmps j = none := by
      simp only [yielded, hd, Option.bind_some]
      cases ht : a.tmps[d]? with
      | none => rfl
      | some u =>
        have : u = v := by rw [← hs]; simp [Array.getD, Array.getElem?_eq_some_iff] at ht ⊢; obtain ⟨h1, h2⟩ := ht; simp [h1, h2]
        subst this
        cases u <;> first | rfl | exact absurd rfl (hv _)
    simp [Region.wanted, h, hy]
  | nodst j want h hd =>
    have hy : yielded ops a.tmps j = none := by simp [yielded, hd]
    simp [Region.wanted, h, hy]

theorem put_self {st : St} {d : Nat} {x : SV} (h : st.tmps d = x) : st.put d x = st := by
  refine St.ext' (fun i => ?_) (fun _ => rfl) rfl
  simp only [St.put]
  cases hb : Nat.beq i d with
  | true => have := Nat.eq_of_beq_eq_true hb; subst this; exact h.symm
  | false => rfl

theorem guardK_goes {ops : Array Oper} {o : Oper} {st : St} {run skip : St → Prop} (h : guardK ops o st run skip) : (Goes ops st o true ∧ run st) ∨ (Goes ops st o false ∧ skip st) := by
  unfold guardK at h
  split at h
  · rename_i hg
    exact .inl ⟨.plain hg, h⟩
  · rename_i j want hg
    split at h
    · rename_i d hd
      split at h
      · rename_i b hb
        have G := Goes.slot (st := st) j d want b hg hd hb
        rcases ifB_elim h with ⟨rfl, h⟩ | ⟨rfl, h⟩
        · rw [put_self hb] at h
          cases want
          · exact .inr ⟨G, h⟩
          · exact .inl ⟨G, h⟩
        · rw [put_self hb] at h
          cases want
          · exact .inl ⟨G, h⟩
          · exact .inr ⟨G, h⟩
      · rename_i v hv hnb
        exact .inr ⟨.other j d want v hg hd hnb hv, h⟩
      · exact h.elim
    · rename_i hd
      exact .inr ⟨.nodst j want hg hd, h⟩

/-- what an operation does in a state -/
def Yld (P : Program) (ops : Array Oper) (base : Nat) (m : M) (o : Oper) (i : Nat) (st : St) (e : Eff) : Prop :=
  (Goes ops st o true ∧ opK P o (base + i) st m (· = e) ∧ RE o (base + i) st e) ∨ (Goes ops st o false ∧ e = .put (.val undef))

theorem app_skip (st : St) (dst : Option Nat) : st.putO dst (.val undef) = st.app dst (.put (.val undef)) := rfl

/-- what the static look gives -/
structure Static (ops : Array Oper) (base : Nat) (st : St) : Prop where
  back : ∀ (i : Nat) (o : Oper), ops[i]? = some o → ∀ e ∈ o.after, Region.binds .any e = true → e.on < i
  reads : ∀ (i : Nat) (o : Oper) (k : Nat) (o' : Oper) (d : Nat), ops[i]? = some o → ops[k]? = some o' → o'.dst = some d → inList d (opReads ops o) = true → (k < i ∧ hasEdge o k = true) ∨ (i < k ∧ hasEdge o' i = true ∧ ∃ v, st.tmps d = .val v)
  dsts : ∀ (i : Nat) (o : Oper) (k : Nat) (o' : Oper) (d : Nat), ops[i]? = some o → ops[k]? = some o' → k ≠ i → o.dst = some d → o'.dst ≠ some d
  mems : ∀ (i : Nat) (o : Oper) (k : Nat) (o' : Oper), ops[i]? = some o → ops[k]? = some o' → isMem o = true → isMem o' = true → (isStore o = true ∨ isStore o' = true) → k < i →
    hasEdge o k = true ∨ apartL (addrL (labT base st ops) st o) (addrL (labT base st ops) st o') = true
  labs : ∀ (k : Nat) (o : Oper) (d : Nat), ops[k]? = some o → o.dst = some d → lookL (labT base st ops) d = some (labOp base (labT base st ops) st o k)
  keys : ∀ (d : Nat) (l : Lbl), lookL (labT base st ops) d = some l → ∃ (k : Nat) (o : Oper), ops[k]? = some o ∧ o.dst = some d

theorem lblEq_elim {a b : Lbl} (h : lblEq a b = true) : a = b := by
  cases a <;> cases b <;> simp_all [lblEq]

theorem lookL_mem {d : Nat} {l : Lbl} : ∀ {T : List (Nat × Lbl)}, lookL T d = some l → (d, l) ∈ T
  | (k, l') :: r, h => by
    simp only [lookL] at h
    cases hb : Nat.beq d k with
    | true =>
      rw [hb] at h
      have := Nat.eq_of_beq_eq_true hb
      subst this
      simp only [cond_true, Option.some.injEq] at h
      subst h
      exact List.mem_cons_self
    | false => rw [hb] at h; exact List.mem_cons_of_mem _ (lookL_mem h)

theorem drawB_static {ops : Array Oper} {base : Nat} {st : St} (h : drawB ops base st = true) : Static ops base st := by
  unfold drawB at h
  simp only [Bool.and_eq_true] at h
  obtain ⟨hl, h⟩ := h
  generalize hT : labT base st ops = T at hl h
  unfold labsB at hl
  simp only [Bool.and_eq_true] at hl
  obtain ⟨hl1, hl2⟩ := hl
  rw [List.all_eq_true] at h hl1 hl2
  have mem : ∀ i o, ops[i]? = some o → (o, i) ∈ ops.toList.zipIdx := fun i o ho => by
    rw [List.mem_zipIdx_iff_getElem?]; simpa using ho
  have key : ∀ i o k o', ops[i]? = some o → ops[k]? = some o' → (∀ e ∈ o.after, Region.binds .any e = true → e.on < i) ∧ pairB st ops o i o' k = true ∧ memB T st o i o' k = true := fun i o k o' ho ho' => by
    have h1 := h _ (mem i o ho)
    simp only [Bool.and_eq_true] at h1
    obtain ⟨h1, h2⟩ := h1
    rw [List.all_eq_true] at h1 h2
    have h3 := h2 _ (mem k o' ho')
    simp only [Bool.and_eq_true] at h3
    refine ⟨fun e he hb => ?_, h3.1, h3.2⟩
    have := h1 e (by simpa using he)
    rw [hb] at this
    simp at this
    exact this
  refine ⟨fun i o ho => (key i o i o ho ho).1, fun i o k o' d ho ho' hd hin => ?_, fun i o k o' d ho ho' hne hd hd' => ?_, fun i o k o' ho ho' h1 h2 h3 h4 => ?_, fun k o d ho hd => ?_, fun d l hdl => ?_⟩
  · have := (key i o k o' ho ho').2.1
    simp only [pairB, hd, hin, Bool.and_eq_true, Bool.or_eq_true] at this
    rcases this with ⟨h1, h2⟩ | ⟨⟨h1, h2⟩, h3⟩
    · exact .inl ⟨by simp at h1; exact h1, h2⟩
    · refine .inr ⟨by simp at h1; exact h1, h2, ?_⟩
      cases hs : st.tmps d with
      | val v => exact ⟨v, rfl⟩
      | own i o => rw [hs] at h3; cases h3
      | unk => rw [hs] at h3; cases h3
  · have := (key i o k o' ho ho').2.1
    simp only [pairB, hd'] at this
    cases hin : inList d (opReads ops o) with
    | true =>
      -- it reads what it writes: the pair with itself forbids that
      have h5 := (key i o i o ho ho).2.1
      simp only [pairB, hd, hin, Bool.and_eq_true, Bool.or_eq_true] at h5
      rcases h5 with ⟨h5, -⟩ | ⟨⟨h5, -⟩, -⟩ <;> simp at h5
    | false =>
      rw [hin] at this
      have hq : Nat.beq k i = false := by
        cases hq : Nat.beq k i with
        | false => rfl
        | true => exact absurd (Nat.eq_of_beq_eq_true hq) hne
      rw [hq, hd] at this
      simp at this
  · have := (key i o k o' ho ho').2.2
    have hc : (isMem o && isMem o' && (isStore o || isStore o') && Nat.blt k i) = true := by
      simp only [Bool.and_eq_true, Bool.or_eq_true]
      exact ⟨⟨⟨h1, h2⟩, h3⟩, by simp; exact h4⟩
    simp only [memB, hc, Bool.or_eq_true] at this
    rw [hT]
    exact this
  · have := hl1 _ (mem k o ho)
    simp only [hd] at this
    rw [hT]
    split at this
    · rename_i l hq
      rw [hq, lblEq_elim this]
    · cases this
  · rw [hT] at hdl
    have := hl2 _ (lookL_mem hdl)
    simp only [List.any_eq_true] at this
    obtain ⟨o, ho, hq⟩ := this
    split at hq
    · rename_i d' hd'
      have := Nat.eq_of_beq_eq_true hq
      subst this
      obtain ⟨k, hk, rfl⟩ := List.mem_iff_getElem.1 ho
      exact ⟨k, ops.toList[k], by simp, hd'⟩
    · cases hq

theorem inList_mem {t : Nat} : ∀ {l : List Nat}, t ∈ l → inList t l = true
  | x :: r, h => by
    simp only [inList, Bool.or_eq_true]
    rcases List.mem_cons.1 h with rfl | h
    · exact .inl (by simp)
    · exact .inr (inList_mem h)

theorem tmpsOf_mem {t : Nat} : ∀ {l : List Operand}, .tmp t ∈ l → t ∈ tmpsOf l
  | .tmp x :: r, h => by
    rcases List.mem_cons.1 h with h | h
    · cases h; exact List.mem_cons_self
    · exact List.mem_cons_of_mem _ (tmpsOf_mem h)
  | .const v :: r, h => by simp only [tmpsOf]; exact tmpsOf_mem (by simpa using h)
  | .global v :: r, h => by simp only [tmpsOf]; exact tmpsOf_mem (by simpa using h)
  | .func v :: r, h => by simp only [tmpsOf]; exact tmpsOf_mem (by simpa using h)

theorem hasEdge_elim {o : Oper} {k : Nat} (h : hasEdge o k = true) : ∃ e ∈ o.after, Region.binds .any e = true ∧ e.on = k := by
  simp only [hasEdge, List.any_eq_true, Bool.and_eq_true] at h
  obtain ⟨e, he, hb, hk⟩ := h
  exact ⟨e, by simpa using he, hb, Nat.eq_of_beq_eq_true hk⟩

theorem isMem_of_store {o : Oper} (h : isStore o = true) : isMem o = true := by
  unfold isStore at h
  unfold isMem
  split at h <;> simp_all

/-- an operation put in among those that are done -/
theorem run_insert {L L' : Nat → Bool} {es : List (Oper × Eff)} {st : St} {i : Nat} {o : Oper} {e : Eff} (hi : es[i]? = some (o, e)) (hL' : ∀ j, L' j = (L j || decide (j = i)))
    (hdst : ∀ j o' e' d, es[j]? = some (o', e') → j ≠ i → o.dst = some d → o'.dst ≠ some d)
    (hbox : ∀ j o' e' id b b', es[j]? = some (o', e') → i < j → L j = true → boxOf e = some (id, b) → boxOf e' ≠ some (id, b')) :
    run L' es 0 st = (run L es 0 st).app o.dst e := by
  have hLi : L' (0 + i) = true := by rw [Nat.zero_add, hL']; simp
  refine St.ext' (fun t => ?_) (fun id => ?_) ?_
  · rw [app_tmps]
    by_cases hd : o.dst = some t
    · rw [if_pos hd]
      exact run_tmps_last es 0 st hi hLi hd fun j o' e' hj hlt _ => hdst j o' e' t hj (by omega) hd
    · rw [if_neg hd]
      refine run_tmps_congr es 0 st st (fun j o' e' hj hdj => ?_) rfl
      rw [Nat.zero_add, hL']
      have : j ≠ i := fun h => by subst h; rw [hi] at hj; cases hj; exact hd hdj
      simp [this]
  · rw [app_own]
    cases hb : boxOf e with
    | none =>
      simp only
      refine run_own_congr es 0 st st (fun j o' e' b hj hdj => ?_) rfl
      rw [Nat.zero_add, hL']
      have : j ≠ i := fun h => by subst h; rw [hi] at hj; cases hj; rw [hb] at hdj; cases hdj
      simp [this]
    | some p =>
      obtain ⟨id', b⟩ := p
      simp only
      by_cases hid : id = id'
      · subst hid
        rw [if_pos rfl]
        refine run_own_last es 0 st hi hLi hb fun j o' e' b' hj hlt hLj => hbox j o' e' id b b' hj hlt ?_ hb
        rw [Nat.zero_add, hL'] at hLj
        have : j ≠ i := by omega
        simpa [this] using hLj
      · rw [if_neg hid]
        refine run_own_congr es 0 st st (fun j o' e' b' hj hdj => ?_) rfl
        rw [Nat.zero_add, hL']
        have : j ≠ i := fun h => by
          subst h; rw [hi] at hj; cases hj; rw [hb] at hdj
          simp only [Option.some.injEq, Prod.mk.injEq] at hdj
          exact hid hdj.1.symm
        simp [this]
  · rw [run_nx, app_nx', run_nx]

section
variable {P : Program} {B : Nat} {S : Nat → Prop} {w0 : World} {m0 : M} {DF : List Deferred} {N n : Nat} {st : St} {m : M} {a : Act} {w : World} {ρ : Nat → Nat}

/-- one operation, its box's number given -/
theorem opK_wp' {o : Oper} {id n' : Nat} {K : Eff → Prop} (Z : SC B S m0 m st.own ρ) (T : TC DF N n st ρ a) (W : WC B S w0 m st.own ρ w) (hn : n ≤ n') (hid : id < n') (hd : ∀ d, o.dst = some d → d < N)
    (hown : ∀ i c, st.own i = some c → i ≠ id) (hslot : ∀ t i o, st.tmps t = .own i o → i ≠ id)
    (h : opK P o id st m K) {next : Act → World → Prop} {Q : Exit → Act → World → Prop}
    (hnext : ∀ e a' w', K e → (∀ x i off, e = .put x → x = .own i off → ∃ t o', st.tmps t = .own i o') → Rep B S w0 m0 DF N n' (st.app o.dst e) m a' w' → next a' w') : o.wp P a w next Q := by
  rcases opK_alt (B := B) (S := S) (w0 := w0) T h with ⟨x, v, hk, hx, hf, hq⟩ | ⟨b, hk, hr⟩ | ⟨i, b, b', hi, ht, hk, hr⟩
  · have hq := hq w W
    unfold Oper.quietAt at hq
    unfold Oper.wp
    have fin : ∀ w', WC B S w0 m st.own ρ w' → next (a.put o.dst v) w' := fun w' hw' =>
      hnext _ _ _ hk (fun x' i off e e' => by cases e; exact hf i off e') ⟨ρ, by simpa only [St.app, putO_own] using Z, (T.putO hd hx (fun i off e => by obtain ⟨t, o', h⟩ := hf i off e; exact T.fresh t i o' h)).mono hn, by simpa only [St.app, putO_own] using hw'⟩
    generalize (execOp a.eval o).run P w = r at *
    cases r with
    | ok nx w' =>
      cases nx <;> simp only [Oper.quietUpon] at hq <;> simp only [Oper.upon]
      case value u => obtain ⟨rfl, rfl⟩ := hq; exact fin _ W
      case skip => obtain ⟨rfl, rfl⟩ := hq; exact fin _ W
      case enter f args => obtain ⟨rfl, hq⟩ := hq; exact hq.mono fun e w'' ⟨he, hw''⟩ => by subst he; exact fin _ hw''
    | halt x w' => simp only [Oper.quietUpon] at hq
  · unfold Oper.wp
    rw [hr w]
    exact hnext _ _ _ hk (fun x i off e => by cases e) (Rep.box Z T W hd hown hslot hn hid b)
  · unfold Oper.wp
    rw [hr w W]
    obtain ⟨ρ', Z', T', W'⟩ := Rep.wr Z T W (dst := o.dst) hd hi ht
    exact hnext _ _ _ hk (fun x i off e => by cases e) ⟨ρ', Z', T'.mono hn, W'⟩

theorem below_drawn (w : World) : Below w.heap.size w { w with drawn := w.drawn + 1 } := ⟨rfl, rfl, rfl, Nat.le_refl _, fun _ _ => rfl⟩

theorem countP_lt {p q : Nat → Bool} : ∀ (l : List Nat) (x : Nat), (∀ y, q y = true → p y = true) → x ∈ l → p x = true → q x = false → l.countP q < l.countP p
  | y :: r, x, hpq, hx, hp, hq => by
    rcases List.mem_cons.1 hx with rfl | hx
    · rw [List.countP_cons_of_pos hp, List.countP_cons_of_neg (by simp [hq])]
      have := List.countP_mono_left (l := r) (p := q) (q := p) (fun y _ h => hpq y h)
      omega
    · have ih := countP_lt r x hpq hx hp hq
      simp only [List.countP_cons]
      cases h1 : q y with
      | true => rw [hpq y h1]; simp; exact ih
      | false => cases p y <;> simp <;> omega

theorem Goes.congr {ops : Array Oper} {st st' : St} {o : Oper} {g : Bool} (h : Goes ops st o g) (hs : ∀ t, inList t (opReads ops o) = true → st'.tmps t = st.tmps t) : Goes ops st' o g := by
  have key : ∀ j want d, o.guard = some (j, want) → (ops[j]?).bind (·.dst) = some d → st'.tmps d = st.tmps d := fun j want d hg hd => hs d (inList_mem (by simp [opReads, hg, hd]))
  cases h with
  | plain h => exact .plain h
  | slot j d want b h hd hv => exact .slot j d want b h hd (by rw [key j want d h hd]; exact hv)
  | other j d want v h hd hv hb => exact .other j d want v h hd (by rw [key j want d h hd]; exact hv) hb
  | nodst j want h hd => exact .nodst j want h hd

end
end Go.Vc
