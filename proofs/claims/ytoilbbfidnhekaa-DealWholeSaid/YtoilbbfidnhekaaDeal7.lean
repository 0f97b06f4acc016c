/-
  Contracts of functions of this seat: what each hands back, and what it leaves of memory (deal7). Nothing here is trusted: Lean checks it.
-/
import Derived.Test.YtoilbbfidnhekaaDeal6
set_option linter.unusedVariables false
set_option linter.unusedSimpArgs false
namespace Go.Proofs.Ytoilbbfidnhekaa
open Go.Vc Go.RowKit Go.ChangeShapes Go.WideShapes Go.ChangeAt
set_option maxRecDepth 100000

structure Wd where
  gv : Bool
  mi : Bool
  is : Bool

abbrev encW (w : Wd) : List Value := [.bool w.gv, .bool w.mi, .bool w.is]

abbrev wds (l : List Wd) : List Value := l.flatMap encW

theorem wd_k (w : Wd) : (encW w).length = 3 := rfl

theorem wd_len (l : List Wd) : (wds l).length = l.length * 3 := flat_len wd_k l

theorem wd_at {m : M} {b o i : Nat} {l : List Wd} (h : CellsAt m b o (wds l)) (hi : i < l.length) : CellsAt m b (o + i * 3) (encW l[i]) := CellsAt.elem wd_k l o i hi h

/-- the deal with other words and another fate -/
def dW (d : Dl) (mi th ft : Int) : Dl := { d with mi := mi, th := th, ft := ft }

def decV (ft : Int) : Int := if ft = 0 then 0 else 1

structure OnX where
  k : Nat
  mi : Int
  th : Int
  ft : Int
  dec : Int
  yes : Bool
  wd : Wd
  B : List Dl
  a : Option Addr
  c : Nat
  m : M

def OnX.mi2 (y : OnX) : Int := if y.ft = 0 ∧ y.wd.mi = true ∧ y.mi = 0 then wordD y.wd.is else y.mi

def OnX.th2 (y : OnX) : Int := if y.ft = 0 ∧ y.wd.mi = false ∧ y.th = 0 then wordD y.wd.is else y.th

def OnX.ft2 (y : OnX) : Int := if y.ft ≠ 0 then y.ft else fateV y.mi2 y.th2

structure OnB (d : Dl) (n : Nat) (m : M) (y : OnX) (mi th ft : Int) : Prop where
  right : booksB y.B = true
  len : y.B.length = n + 1
  fnd : y.B.find? (isD d.cl d.sq) = some (dW d mi th ft)
  row : Row y.m y.a (dls y.B)
  ag : Agree m.sz m y.m

def onceAnn (d : Dl) (l : List Dl) (a : Option Addr) (cp : Nat) (aw : Option Addr) (cw : Nat) (ws : List Wd) (m : M) : Nat → Ann
  | 21 => {
    A := OnX
    inv := fun y => y.k < ws.length ∧ y.dec = decV y.ft ∧ y.yes = decide (y.ft = 0 ∧ y.ft2 ≠ 0) ∧ OnB d l.length m y y.mi2 y.th2 y.ft2
    st := fun y => [(13, .val (I y.k)), (2, .val (.slice aw ws.length cw)), (7, .val (.slice y.a y.B.length y.c)), (4, .own 0 0), (0, .val (.slice a l.length cp)), (9, .val (I y.mi)), (10, .val (I y.th)), (11, .val (I y.ft)), (12, .val (I y.dec)), (15, .val (.bool y.yes)), (16, .val (I 0)), (14, .own 28 0), (17, .val (I (wordD y.wd.is)))]
    own := fun y => [(0, ⟨24, encDl d⟩), (28, ⟨42, encW y.wd⟩)]
    m := fun y => y.m
    μ := fun _ => 0
    cut := true
    link := some fun y ctx => ctx = [ws.length - y.k] }
  | 23 => {
    A := OnX
    inv := fun y => y.k < ws.length ∧ y.dec = decV y.ft ∧ y.yes = decide (y.ft = 0 ∧ y.ft2 ≠ 0) ∧ OnB d l.length m y y.mi2 y.th2 y.ft2
    st := fun y => [(13, .val (I y.k)), (2, .val (.slice aw ws.length cw)), (7, .val (.slice y.a y.B.length y.c)), (4, .own 0 0), (0, .val (.slice a l.length cp)), (9, .val (I y.mi2)), (10, .val (I y.th)), (11, .val (I y.ft)), (12, .val (I y.dec)), (15, .val (.bool y.yes)), (16, .val (I 0)), (14, .own 28 0), (17, .val (I (wordD y.wd.is)))]
    own := fun y => [(0, ⟨24, encDl d⟩), (28, ⟨42, encW y.wd⟩)]
    m := fun y => y.m
    μ := fun _ => 0
    cut := true
    link := some fun y ctx => ctx = [ws.length - y.k] }
  | 25 => {
    A := OnX
    inv := fun y => y.k < ws.length ∧ y.dec = decV y.ft ∧ y.yes = decide (y.ft = 0 ∧ y.ft2 ≠ 0) ∧ OnB d l.length m y y.mi2 y.th2 y.ft2
    st := fun y => [(13, .val (I y.k)), (2, .val (.slice aw ws.length cw)), (7, .val (.slice y.a y.B.length y.c)), (4, .own 0 0), (0, .val (.slice a l.length cp)), (9, .val (I y.mi2)), (10, .val (I y.th2)), (11, .val (I y.ft)), (12, .val (I y.dec)), (15, .val (.bool y.yes)), (16, .val (I 0))]
    own := fun y => [(0, ⟨24, encDl d⟩)]
    m := fun y => y.m
    μ := fun _ => 0
    cut := true
    link := some fun y ctx => ctx = [ws.length - y.k] }
  | 30 => {
    A := OnX
    inv := fun y => y.k < ws.length ∧ y.dec + (if y.yes then 1 else 0) = decV y.ft ∧ 0 ≤ y.dec ∧ OnB d l.length m y y.mi y.th y.ft
    st := fun y => [(13, .val (I y.k)), (2, .val (.slice aw ws.length cw)), (7, .val (.slice y.a y.B.length y.c)), (4, .own 0 0), (0, .val (.slice a l.length cp)), (9, .val (I y.mi)), (10, .val (I y.th)), (11, .val (I y.ft)), (12, .val (I y.dec)), (15, .val (.bool y.yes)), (16, .val (I 0))]
    own := fun y => [(0, ⟨24, encDl d⟩)]
    m := fun y => y.m
    μ := fun _ => 0
    cut := true
    link := some fun y ctx => ctx = [ws.length - y.k] }
  | 8 => {
    A := OnX
    inv := fun y => y.k ≤ ws.length ∧ OnB d l.length m y y.mi y.th y.ft
    st := fun y => [(13, .val (I y.k)), (2, .val (.slice aw ws.length cw)), (7, .val (.slice y.a y.B.length y.c)), (4, .own 0 0), (0, .val (.slice a l.length cp)), (9, .val (I y.mi)), (10, .val (I y.th)), (11, .val (I y.ft)), (12, .val (I (decV y.ft)))]
    own := fun y => [(0, ⟨24, encDl d⟩)]
    m := fun y => y.m
    μ := fun y => ws.length - y.k }
  | _ => noAnn 0

theorem call_law {B : List Dl} {c s : Int} {x : Dl} (hb : booksB B = true) (hf : B.find? (isD c s) = some x) : foundE B c s = 0 ∧ mayB x = true ∧ keyD x = (c, s) ∧ ∃ k, ∃ hk : k < B.length, placeD B c s = k ∧ B[k] = x ∧ atD B c s = x := by
  rcases place_find B c s with ⟨-, h⟩ | ⟨k, hk, e, h, e2⟩
  · rw [h] at hf; simp at hf
  · rw [h] at hf
    have hx : B[k] = x := by simpa using hf
    subst hx
    exact ⟨by simp [foundE, hb, e], ((books_iff B).1 hb).2.1 _ (List.getElem_mem hk), e2, k, hk, e, rfl, by simp [atD, e, List.getElem?_eq_getElem hk]⟩

theorem set_find {B : List Dl} (hb : booksB B = true) {k : Nat} (hk : k < B.length) {x : Dl} (hx : mayB x = true) (hkey : keyD x = keyD B[k]) {c s : Int} (hc : keyD B[k] = (c, s)) : (B.set k x).find? (isD c s) = some x := by
  have h1 := books_set hb hk hx hkey
  have hk2 : k < (B.set k x).length := by simpa using hk
  have := find_key ((books_iff _).1 h1).2.2 hk2
  have e : (B.set k x)[k] = x := List.getElem_set_self _
  rw [e] at this
  have e3 := hkey.trans hc
  simp only [keyD, Prod.mk.injEq] at e3
  rw [e3.1, e3.2] at this
  exact this

theorem give_law {B : List Dl} {c s : Int} {x : Dl} (hb : booksB B = true) (hf : B.find? (isD c s) = some x) :
    booksB (giveD B c s).1 = true ∧ (giveD B c s).1.length = B.length ∧ (giveD B c s).1.find? (isD c s) = some (givenD x) ∧ (giveD B c s).2 = (decide (x.ft = 0), 0) := by
  obtain ⟨h1, h2, h3, k, hk, h4, h5, h6⟩ := call_law hb hf
  have e : giveD B c s = (B.set k (givenD x), decide (x.ft = 0), 0) := by simp [giveD, h1, h6, h4]
  rw [e]
  have hg := may_given h2
  have hkey : keyD (givenD x) = keyD B[k] := by rw [key_given, h5]
  exact ⟨books_set hb hk hg hkey, by simp, set_find hb hk hg hkey (by rw [h5]; exact h3), rfl⟩

theorem say_law {B : List Dl} {c s : Int} {x : Dl} (hb : booksB B = true) (hf : B.find? (isD c s) = some x) (mine is : Bool) :
    booksB (sayD B c s mine is).1 = true ∧ (sayD B c s mine is).1.length = B.length ∧ (sayD B c s mine is).1.find? (isD c s) = some (saidD x mine is) ∧ (sayD B c s mine is).2 = (decide (x.ft = 0 ∧ (saidD x mine is).ft ≠ 0), 0) := by
  obtain ⟨h1, h2, h3, k, hk, h4, h5, h6⟩ := call_law hb hf
  have e : sayD B c s mine is = (B.set k (saidD x mine is), decide (x.ft = 0 ∧ (saidD x mine is).ft ≠ 0), 0) := by simp [sayD, h1, h6, h4]
  rw [e]
  have hg := may_said h2 mine is
  have hkey : keyD (saidD x mine is) = keyD B[k] := by rw [key_said, h5]
  exact ⟨books_set hb hk hg hkey, by simp, set_find hb hk hg hkey (by rw [h5]; exact h3), rfl⟩

theorem given_dW (d : Dl) (mi th ft : Int) : givenD (dW d mi th ft) = dW d mi th (if ft = 0 then 2 else ft) := by
  unfold givenD dW
  by_cases h : ft = 0 <;> simp [h]

theorem said_dW (d : Dl) (y : OnX) (h : mayB (dW d y.mi y.th y.ft) = true) : saidD (dW d y.mi y.th y.ft) y.wd.mi y.wd.is = dW d y.mi2 y.th2 y.ft2 := by
  by_cases h0 : y.ft = 0
  rotate_left
  · simp [saidD, dW, OnX.mi2, OnX.th2, OnX.ft2, h0]
  have hf : fateV y.mi y.th = 0 := by
    simp only [mayB, dW, Bool.and_eq_true, Bool.or_eq_true, decide_eq_true_eq, h0] at h
    rcases h.2 with h | h
    · exact h.symm
    · exact h.1
  cases hm : y.wd.mi
  · by_cases h1 : y.th = 0 <;> simp [saidD, dW, OnX.mi2, OnX.th2, OnX.ft2, h0, hm, h1, hf]
  · by_cases h1 : y.mi = 0 <;> simp [saidD, dW, OnX.mi2, OnX.th2, OnX.ft2, h0, hm, h1, hf]

theorem find_on {B : List Dl} {c s : Int} {x : Dl} (hb : booksB B = true) (hf : B.find? (isD c s) = some x) : findD B c s = (x, true) := by
  rw [findD_eq, if_pos hb, hf]; rfl

theorem open_on {l : List Dl} {d : Dl} (h : (openD l d).2 = 0) : openD l d = (l ++ [d], 0) ∧ booksB (l ++ [d]) = true ∧ (l ++ [d]).find? (isD d.cl d.sq) = some (dW d 0 0 0) := by
  unfold openD at h ⊢
  split at h
  · simp at h
  split at h
  · simp at h
  split at h
  · simp at h
  split at h
  · simp at h
  rename_i h1 h2 h3 h4
  rw [if_neg h1, if_neg h2, if_neg h3, if_neg h4]
  have hb : booksB l = true := by simpa using h1
  have hn : newD d = true := by simpa using h2
  simp only [newD, Bool.and_eq_true, decide_eq_true_eq] at hn
  have hp : l.find? (isD d.cl d.sq) = none := by
    rcases place_find l d.cl d.sq with ⟨-, h⟩ | ⟨k, hk, e, -, -⟩
    · exact h
    · omega
  have e : dW d 0 0 0 = d := by
    obtain ⟨⟨⟨-, g1⟩, g2⟩, g3⟩ := hn
    cases d; simp only [dW] at *; simp [g1, g2, g3]
  rw [e]
  obtain ⟨b1, b2, b3⟩ := (books_iff l).1 hb
  refine ⟨rfl, ?_, by simp [List.find?_append, hp, isD]⟩
  rw [books_iff]
  refine ⟨by simp; omega, fun x hx => ?_, ?_⟩
  · rcases List.mem_append.1 hx with hx | hx
    · exact b2 x hx
    · have : x = d := by simpa using hx
      subst this; exact hn.1.1.1
  · rw [List.map_append, List.nodup_append]
    refine ⟨b3, by simp, fun x hx z hz => ?_⟩
    rw [List.find?_eq_none] at hp
    obtain ⟨w, hw, rfl⟩ := List.mem_map.1 hx
    have hz : z = keyD d := by simpa using hz
    subst hz
    intro e
    exact hp w hw (isD_iff.2 e)

theorem open_off {l : List Dl} {d : Dl} (h : (openD l d).2 ≠ 0) : (openD l d).1 = [] := by
  unfold openD at h ⊢
  repeat' split
  all_goals simp_all

end Go.Proofs.Ytoilbbfidnhekaa
