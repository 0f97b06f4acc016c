/-
  Contracts of functions of this seat: what each hands back, and what it leaves of memory (deal20). Nothing here is trusted: Lean checks it.
-/
import Derived.Test.YtoilbbfidnhekaaDeal7
import Derived.Test.YtoilbbfidnhekaaXacc9
set_option linter.unusedVariables false
set_option linter.unusedSimpArgs false
namespace Go.Proofs.Ytoilbbfidnhekaa.Acc
open Go.Vc Go.RowKit Go.ChangeShapes Go.WideShapes Go.ChangeAt
set_option maxRecDepth 100000

theorem aTake_ok {x : Ac} {k : Lk} (h : (aTake x k).2 = 0) : rightB x = true ∧ keeperB k = true ∧ x.lk.cl = 0 ∧ x.hs = [] ∧ fitsB x k = true ∧ aTake x k = ({ x with lk := k }, 0) := by
  unfold aTake at h ⊢
  split at h
  · simp at h
  split at h
  · simp at h
  split at h
  · rename_i h3; exact absurd h h3
  split at h
  · simp at h
  rename_i h1 h2 h3 h4
  have h1 : rightB x = true := by simpa using h1
  have h3 : knownE x = 0 := Classical.byContradiction h3
  have ht : totB x = true := by
    cases ht : totB x
    · simp [knownE, h1, ht] at h3
    · rfl
  simp only [totB, Bool.and_eq_true, decide_eq_true_eq, List.isEmpty_iff] at ht
  have h2' : keeperB k = true := by simpa using h2
  have h4' : fitsB x k = true := by simpa using h4
  exact ⟨h1, h2', ht.1.2, ht.2, h4', by simp [h1, h2', h3, h4']⟩

theorem aTake_err {x : Ac} {k : Lk} (h : (aTake x k).2 ≠ 0) : aTake x k = (ac0, (aTake x k).2) := by
  unfold aTake at h ⊢
  repeat' split
  all_goals simp_all

theorem take_right {x : Ac} {k : Lk} (hx : x.wf) (hk : k.wf) (hr : rightB x = true) (h1 : keeperB k = true) (h2 : x.lk.cl = 0) (h3 : x.hs = []) (h4 : fitsB x k = true) : rightB { x with lk := k } = true ∧ ({ x with lk := k } : Ac).wf ∧ k.cl ≠ 0 := by
  have hp := (right_iff x).1 hr
  have hc : k.cl ≠ 0 := by simp [keeperB] at h1; omega
  refine ⟨(right_iff _).2 ⟨hp.key, hp.has, hp.round, hp.hold, hp.up, hp.dn, ?_⟩, ⟨hx.key, hx.lo, hx.hi, hx.base, hx.round, hx.hs, hx.len, hk⟩, hc⟩
  have hf : fitsB { x with lk := k } k = true := h4
  show (if k.cl = 0 then lkZ k else keeperB k && x.hs.isEmpty && fitsB { x with lk := k } k) = true
  rw [if_neg hc, h1, hf, h3]
  rfl

theorem lk0_wf : lk0.wf := ⟨by decide, by decide, by decide, by decide⟩

theorem free_right {x : Ac} {b : Bool} (hx : x.wf) (hr : rightB x = true) (hc : x.lk.cl ≠ 0) :
    rightB { x with base := if b then x.base + x.lk.n else x.base, lk := lk0 } = true ∧ ({ x with base := if b then x.base + x.lk.n else x.base, lk := lk0 } : Ac).wf := by
  have hp := (right_iff x).1 hr
  have hl := hp.lock
  simp only [lockB] at hl
  rw [if_neg hc] at hl
  simp only [Bool.and_eq_true, List.isEmpty_iff, fitsB, hasB, decide_eq_true_eq] at hl
  obtain ⟨⟨h1, h2⟩, h3⟩ := hl
  have hh := hp.has
  have hlo := hx.lo
  have hhi := hx.hi
  have hb : x.lo ≤ (if b then x.base + x.lk.n else x.base) ∧ (if b then x.base + x.lk.n else x.base) ≤ x.hi := by cases b <;> simp <;> omega
  refine ⟨(right_iff _).2 ⟨hp.key, hb, hp.round, hp.hold, ?_, ?_, ?_⟩, ⟨hx.key, hx.lo, hx.hi, ?_, hx.round, hx.hs, hx.len, lk0_wf⟩⟩
  · simp only [upsL, h2, List.map_nil, sumI_cons]; simp only [sumI, List.foldl_nil]; omega
  · simp only [dnsL, h2, List.map_nil, sumI_cons]; simp only [sumI, List.foldl_nil]; omega
  · simp [lockB, lk0, lkZ]
  · simp only; unfold In64 at *; omega

def kkD (n : Int) (j : Bool) : Int := if j then n else -n

def lkD (n : Int) (j : Bool) : Lk := ⟨3, 9, 1, kkD n j⟩

def upB {α : Type} (f : Bool → α) (j : Bool) (v : α) : Bool → α := fun i => if i = j then v else f i

theorem upB_same {α : Type} {f : Bool → α} {j : Bool} {v : α} : upB f j v j = v := by simp [upB]

theorem upB_ne {α : Type} {f : Bool → α} {i j : Bool} {v : α} (h : i ≠ j) : upB f j v i = f i := by simp [upB, h]

/-- an account freed again: changed, or not -/
def frD (O : Ac) (n : Int) (j : Bool) (ft : Int) : Ac := { O with base := if decide (ft = 1) then O.base + kkD n j else O.base }

structure CanD (O : Ac) (n : Int) (j : Bool) : Prop where
  cl : O.lk.cl = 0
  hs : O.hs = []
  fit : fitsB O (lkD n j) = true

def SideP (O : Ac) (n : Int) (j : Bool) (s : Int) (e : Bool) (X : Ac) (ft : Int) : Prop :=
  ((s = 0 ∨ s = 2) ∧ X = O) ∨ (s = 1 ∧ CanD O n j ∧ X = if e then frD O n j ft else { O with lk := lkD n j })

structure DwX where
  k : Nat
  s : Bool → Int
  e : Bool → Bool
  X : Bool → Ac
  a : Bool → Option Addr
  c : Bool → Nat
  d : Dl
  D : Dl
  aB : Option Addr
  cB : Nat
  b1 : Nat
  b2 : Nat
  b3 : Nat
  m : M

structure DwL (O : Bool → Ac) (n : Int) (y : DwX) : Prop where
  side : ∀ j, SideP (O j) n j (y.s j) (y.e j) (y.X j) y.D.ft
  mi : y.D.mi = 0 ∨ y.D.mi = y.s false
  th : y.D.th = 0 ∨ y.D.th = y.s true
  en : ∀ j, y.e j = true → y.D.ft ≠ 0
  bk : booksB [y.D] = true
  key : isD 3 9 y.D = true

structure OrigP (O : Bool → Ac) (n : Int) : Prop where
  right : ∀ j, rightB (O j) = true
  wf : ∀ j, (O j).wf
  n1 : 1 ≤ n
  n2 : In64 n

theorem OrigP.lk {O : Bool → Ac} {n : Int} (h : OrigP O n) (j : Bool) : (lkD n j).wf ∧ keeperB (lkD n j) = true := by
  have h1 := h.n1
  have h2 := h.n2
  refine ⟨⟨(by decide : In64 3), (by decide : In64 9), (by decide : In64 1), ?_⟩, by cases j <;> rfl⟩
  show In64 (kkD n j)
  unfold In64 at *
  unfold kkD
  cases j <;> simp <;> omega

theorem lk_zero {O : Ac} (hr : rightB O = true) (h : O.lk.cl = 0) : O.lk = lk0 := by
  have := ((right_iff O).1 hr).lock
  simp only [lockB, h, if_true, lkZ, Bool.and_eq_true, decide_eq_true_eq] at this
  obtain ⟨⟨⟨a, b⟩, c⟩, d⟩ := this
  obtain ⟨_, _, _, _, _, _, k1, k2, k3, k4⟩ := O
  obtain ⟨rfl, rfl, rfl, rfl⟩ : k1 = 0 ∧ k2 = 0 ∧ k3 = 0 ∧ k4 = 0 := ⟨h, b, c, d⟩
  rfl

theorem can_right {O : Ac} {n : Int} {j : Bool} (hr : rightB O = true) (hw : O.wf) (hl : (lkD n j).wf ∧ keeperB (lkD n j) = true) (h : CanD O n j) : rightB { O with lk := lkD n j } = true ∧ ({ O with lk := lkD n j } : Ac).wf := by
  have := take_right hw hl.1 hr hl.2 h.cl h.hs h.fit
  exact ⟨this.1, this.2.1⟩

theorem fr_eq {O : Ac} {n : Int} {j : Bool} {ft : Int} (hr : rightB O = true) (hw : O.wf) (hl : (lkD n j).wf ∧ keeperB (lkD n j) = true) (h : CanD O n j) :
    aFree { O with lk := lkD n j } (decide (ft = 1)) = (frD O n j ft, 0) ∧ rightB (frD O n j ft) = true ∧ (frD O n j ft).wf := by
  obtain ⟨h1, h2⟩ := can_right hr hw hl h
  have hc : ({ O with lk := lkD n j } : Ac).lk.cl ≠ 0 := by show (3 : Int) ≠ 0; decide
  have h3 := free_right (b := decide (ft = 1)) h2 h1 hc
  have e : ({ ({ O with lk := lkD n j } : Ac) with base := if decide (ft = 1) then ({ O with lk := lkD n j } : Ac).base + ({ O with lk := lkD n j } : Ac).lk.n else ({ O with lk := lkD n j } : Ac).base, lk := lk0 } : Ac) = frD O n j ft := by
    have := lk_zero hr h.cl
    unfold frD
    cases O
    simp only at this
    subst this
    rfl
  rw [e] at h3
  refine ⟨?_, h3⟩
  unfold aFree
  rw [h1, if_neg (by decide), if_neg hc, ← e]

theorem side_right {O : Ac} {n : Int} {j : Bool} {s : Int} {e : Bool} {X : Ac} {ft : Int} (hr : rightB O = true) (hw : O.wf) (hl : (lkD n j).wf ∧ keeperB (lkD n j) = true) (h : SideP O n j s e X ft) : rightB X = true ∧ X.wf := by
  rcases h with ⟨-, rfl⟩ | ⟨-, hc, rfl⟩
  · exact ⟨hr, hw⟩
  · cases e
    · exact can_right hr hw hl hc
    · exact (fr_eq hr hw hl hc).2

theorem side_hs {O : Ac} {n : Int} {j : Bool} {s : Int} {e : Bool} {X : Ac} {ft : Int} (h : SideP O n j s e X ft) : X.hs = O.hs ∨ X.hs = [] := by
  rcases h with ⟨-, rfl⟩ | ⟨-, hc, rfl⟩
  · exact .inl rfl
  · cases e <;> exact .inl rfl

theorem side_s {O : Ac} {n : Int} {j : Bool} {s : Int} {e : Bool} {X : Ac} {ft : Int} (h : SideP O n j s e X ft) : s = 0 ∨ s = 1 ∨ s = 2 := by
  rcases h with ⟨h | h, -⟩ | ⟨h, -⟩
  · exact .inl h
  · exact .inr (.inr h)
  · exact .inr (.inl h)

theorem fate_com {d : Dl} (h : mayB d = true) (hf : d.ft = 1) : d.mi = 1 ∧ d.th = 1 := by
  simp only [mayB, Bool.and_eq_true, Bool.or_eq_true, decide_eq_true_eq, hf] at h
  rcases h.2 with h | ⟨-, h⟩
  · unfold fateV at h
    split at h
    · simp at h
    · split at h
      · assumption
      · simp at h
  · simp at h

theorem DwL.may {O : Bool → Ac} {n : Int} {y : DwX} (h : DwL O n y) : mayB y.D = true := ((books_iff _).1 h.bk).2.1 _ (by simp)

theorem DwL.com {O : Bool → Ac} {n : Int} {y : DwX} (h : DwL O n y) (hf : y.D.ft = 1) : y.s false = 1 ∧ y.s true = 1 := by
  obtain ⟨h1, h2⟩ := fate_com h.may hf
  have := h.mi
  have := h.th
  omega

theorem DwL.find {O : Bool → Ac} {n : Int} {y : DwX} (h : DwL O n y) : [y.D].find? (isD 3 9) = some y.D := by simp [h.key]

theorem side_ft {O : Ac} {n : Int} {j : Bool} {s : Int} {e : Bool} {X : Ac} {ft ft' : Int} (h : SideP O n j s e X ft) (hk : e = true → ft' = ft) : SideP O n j s e X ft' := by
  rcases h with h | ⟨h1, h2, h3⟩
  · exact .inl h
  · refine .inr ⟨h1, h2, ?_⟩
    cases e
    · exact h3
    · rw [hk rfl]; exact h3

theorem law_took {O : Bool → Ac} {n : Int} {y : DwX} (P : OrigP O n) (h : DwL O n y) {j : Bool} (hs : y.s j = 0) (he : y.e j = false) (ht : (aTake (y.X j) (lkD n j)).2 = 0) :
    (aTake (y.X j) (lkD n j)).1 = { O j with lk := lkD n j } ∧ ∀ a c b1 b2 b3 m aB cB d k, DwL O n ⟨k, upB y.s j 1, y.e, upB y.X j { O j with lk := lkD n j }, a, c, d, y.D, aB, cB, b1, b2, b3, m⟩ := by
  have hX : y.X j = O j := by
    rcases h.side j with ⟨-, e⟩ | ⟨e, -⟩
    · exact e
    · omega
  obtain ⟨-, -, h3, h4, h5, h6⟩ := aTake_ok ht
  rw [hX] at h3 h4 h5 h6
  rw [hX, h6]
  refine ⟨rfl, fun a c b1 b2 b3 m aB cB d k => ⟨fun i => ?_, ?_, ?_, h.en, h.bk, h.key⟩⟩
  · by_cases hi : i = j
    · subst hi
      simp only [upB_same, he]
      exact .inr ⟨rfl, ⟨h3, h4, h5⟩, rfl⟩
    · simp only [upB_ne hi]; exact h.side i
  · have := h.mi
    cases j
    · left; show y.D.mi = 0; omega
    · rcases this with h | h
      · exact .inl h
      · exact .inr (by simpa [upB] using h)
  · have := h.th
    cases j
    · rcases this with h | h
      · exact .inl h
      · exact .inr (by simpa [upB] using h)
    · left; show y.D.th = 0; omega

theorem law_over {O : Bool → Ac} {n : Int} {y : DwX} (h : DwL O n y) {j : Bool} (hs : y.s j = 0) : ∀ a c b1 b2 b3 m aB cB d k, DwL O n ⟨k, upB y.s j 2, y.e, y.X, a, c, d, y.D, aB, cB, b1, b2, b3, m⟩ := by
  have hX : y.X j = O j := by
    rcases h.side j with ⟨-, e⟩ | ⟨e, -⟩
    · exact e
    · omega
  refine fun a c b1 b2 b3 m aB cB d k => ⟨fun i => ?_, ?_, ?_, h.en, h.bk, h.key⟩
  · by_cases hi : i = j
    · subst hi
      simp only [upB_same]
      exact .inl ⟨.inr rfl, hX⟩
    · simp only [upB_ne hi]; exact h.side i
  · have := h.mi
    cases j
    · left; show y.D.mi = 0; omega
    · rcases this with h | h
      · exact .inl h
      · exact .inr (by simpa [upB] using h)
  · have := h.th
    cases j
    · rcases this with h | h
      · exact .inl h
      · exact .inr (by simpa [upB] using h)
    · left; show y.D.th = 0; omega

/-- the deal changed, all else stays -/
theorem law_deal {O : Bool → Ac} {n : Int} {y : DwX} (h : DwL O n y) {D' : Dl} (hm : mayB D' = true) (hk : keyD D' = keyD y.D) (hf : y.D.ft ≠ 0 → D'.ft = y.D.ft) (h1 : D'.mi = 0 ∨ D'.mi = y.s false) (h2 : D'.th = 0 ∨ D'.th = y.s true) :
    ∀ a c b1 b2 b3 m aB cB d k, DwL O n ⟨k, y.s, y.e, y.X, a, c, d, D', aB, cB, b1, b2, b3, m⟩ := by
  refine fun a c b1 b2 b3 m aB cB d k => ⟨fun i => side_ft (h.side i) fun e => hf (h.en i e), h1, h2, fun i e => ?_, ?_, ?_⟩
  · rw [hf (h.en i e)]; exact h.en i e
  · have := books_set h.bk (k := 0) (by simp) hm (by simpa using hk)
    simpa using this
  · have := h.key
    rw [isD_iff] at this ⊢
    rw [hk]; exact this

theorem law_give {O : Bool → Ac} {n : Int} {y : DwX} (h : DwL O n y) : (giveD [y.D] 3 9).1 = [givenD y.D] ∧ ∀ a c b1 b2 b3 m aB cB d k, DwL O n ⟨k, y.s, y.e, y.X, a, c, d, givenD y.D, aB, cB, b1, b2, b3, m⟩ := by
  obtain ⟨h1, h2, h3, k, hk, h4, h5, h6⟩ := call_law h.bk h.find
  have hk0 : k = 0 := by simpa using hk
  subst hk0
  refine ⟨by simp [giveD, h1, h6, h4], law_deal h (may_given h2) (key_given _) (fun hf => by simp [givenD, hf]) ?_ ?_⟩
  · have := h.mi; unfold givenD; split <;> simpa using this
  · have := h.th; unfold givenD; split <;> simpa using this

theorem said_t (D : Dl) (is : Bool) : saidD D true is = if D.ft ≠ 0 ∨ D.mi ≠ 0 then D else { D with mi := wordD is, ft := fateV (wordD is) D.th } := rfl

theorem said_f (D : Dl) (is : Bool) : saidD D false is = if D.ft ≠ 0 ∨ D.th ≠ 0 then D else { D with th := wordD is, ft := fateV D.mi (wordD is) } := rfl

theorem law_say {O : Bool → Ac} {n : Int} {y : DwX} (h : DwL O n y) (j : Bool) (hs : y.s j ≠ 0) : (sayD [y.D] 3 9 (!j) (y.s j == 1)).1 = [saidD y.D (!j) (y.s j == 1)] ∧ ∀ a c b1 b2 b3 m aB cB d k, DwL O n ⟨k, y.s, y.e, y.X, a, c, d, saidD y.D (!j) (y.s j == 1), aB, cB, b1, b2, b3, m⟩ := by
  obtain ⟨h1, h2, h3, k, hk, h4, h5, h6⟩ := call_law h.bk h.find
  have hk0 : k = 0 := by simpa using hk
  subst hk0
  have hw : wordD (y.s j == 1) = y.s j := by
    rcases side_s (h.side j) with e | e | e
    · exact absurd e hs
    · rw [e]; rfl
    · rw [e]; rfl
  refine ⟨by simp [sayD, h1, h6, h4], law_deal h (may_said h2 _ _) (key_said _ _ _) (fun hf => by simp [saidD, hf]) ?_ ?_⟩
  · have := h.mi
    cases j
    · rw [Bool.not_false, said_t]
      split
      · exact this
      · exact .inr hw
    · rw [Bool.not_true, said_f]
      split
      · exact this
      · exact this
  · have := h.th
    cases j
    · rw [Bool.not_false, said_t]
      split
      · exact this
      · exact this
    · rw [Bool.not_true, said_f]
      split
      · exact this
      · exact .inr hw

theorem law_ended {O : Bool → Ac} {n : Int} {y : DwX} (h : DwL O n y) {j : Bool} (hs : y.s j ≠ 1) (hf : y.D.ft ≠ 0) : ∀ a c b1 b2 b3 m aB cB d k, DwL O n ⟨k, y.s, upB y.e j true, y.X, a, c, d, y.D, aB, cB, b1, b2, b3, m⟩ := by
  refine fun a c b1 b2 b3 m aB cB d k => ⟨fun i => ?_, h.mi, h.th, fun _ _ => hf, h.bk, h.key⟩
  by_cases hi : i = j
  · subst hi
    rcases h.side i with h | ⟨h, -⟩
    · exact .inl h
    · exact absurd h hs
  · simp only [upB_ne hi]; exact h.side i

theorem law_free {O : Bool → Ac} {n : Int} {y : DwX} (P : OrigP O n) (h : DwL O n y) {j : Bool} (hs : y.s j = 1) (he : y.e j = false) (hf : y.D.ft ≠ 0) :
    aFree (y.X j) (decide (y.D.ft = 1)) = (frD (O j) n j y.D.ft, 0) ∧ ∀ a c b1 b2 b3 m aB cB d k, DwL O n ⟨k, y.s, upB y.e j true, upB y.X j (frD (O j) n j y.D.ft), a, c, d, y.D, aB, cB, b1, b2, b3, m⟩ := by
  have hX : CanD (O j) n j ∧ y.X j = { O j with lk := lkD n j } := by
    rcases h.side j with ⟨e, -⟩ | ⟨-, h1, h2⟩
    · omega
    · rw [he] at h2; exact ⟨h1, h2⟩
  rw [hX.2]
  refine ⟨(fr_eq (P.right j) (P.wf j) (P.lk j) hX.1).1, fun a c b1 b2 b3 m aB cB d k => ⟨fun i => ?_, h.mi, h.th, fun _ _ => hf, h.bk, h.key⟩⟩
  by_cases hi : i = j
  · subst hi
    simp only [upB_same]
    exact .inr ⟨hs, hX.1, rfl⟩
  · simp only [upB_ne hi]; exact h.side i

/-- when both are free again: both have changed, or none -/
theorem law_end {O : Bool → Ac} {n : Int} {y : DwX} (h : DwL O n y) (j : Bool) (he : y.e j = true) : (y.X j).base = (O j).base + if y.D.ft = 1 then kkD n j else 0 := by
  rcases h.side j with ⟨e, h2⟩ | ⟨-, -, h2⟩
  · have : y.D.ft ≠ 1 := fun e2 => by
      have := h.com e2
      cases j <;> omega
    rw [h2, if_neg this]; omega
  · rw [h2, he]
    simp only [if_true, frD]
    by_cases hf : y.D.ft = 1 <;> simp [hf]

end Go.Proofs.Ytoilbbfidnhekaa.Acc
