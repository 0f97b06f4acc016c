/-
  Contracts of functions of this seat: what each hands back, and what it leaves of memory (wit7). Nothing here is trusted: Lean checks it.
-/
import Derived.Test.YtbhlhnkjmncloaaWit6
set_option linter.unusedVariables false
set_option linter.unusedSimpArgs false
namespace Go.Proofs.Ytbhlhnkjmncloaa
open Go.Vc Go.RowKit
set_option maxRecDepth 100000

/-- all totals together -/
def sumT (l : List Tt) : Int := sumI (l.map (·.va))

theorem sumT_append (a b : List Tt) : sumT (a ++ b) = sumT a + sumT b := by
  unfold sumT; rw [List.map_append, sumI_append]

theorem sumT_set {l : List Tt} {r : Tt} (h : totB none l = true) : sumT (setT l r) = sumT l - (fndT l r.ky).va + r.va := by
  have e := tot_split r h
  have e1 : sumT l = sumT (l.filter fun x => belT x r) + (sumT (ofT l r).toList + sumT (l.filter fun x => belT r x)) := by
    conv => lhs; rw [e]
    rw [sumT_append, sumT_append]
  have e2 : (fndT l r.ky).va = sumT (ofT l r).toList := by
    have : ofT l (zT r.ky) = ofT l r := rfl
    unfold fndT
    rw [this]
    cases ofT l r <;> simp [sumT, sumI, zT]
  have e3 : sumT (if plainT r = true then [] else [r]) = r.va := by
    by_cases hp : plainT r = true
    · rw [if_pos hp]
      simp [plainT] at hp
      simp [sumT, sumI, hp]
    · rw [if_neg hp]; simp [sumT, sumI]
  rw [e2]
  unfold setT
  rw [sumT_append, sumT_append, e3, e1]
  omega

theorem wf_set {l : List Tt} {r : Tt} (hl : ∀ x ∈ l, x.wf) (hr : r.wf) : ∀ x ∈ setT l r, x.wf := by
  intro x hx
  unfold setT at hx
  rcases List.mem_append.1 hx with h | h
  · exact hl x (List.mem_filter.1 h).1
  · rcases List.mem_append.1 h with h | h
    · by_cases hp : plainT r = true
      · simp [hp] at h
      · simp [hp] at h; rw [h]; exact hr
    · exact hl x (List.mem_filter.1 h).1

theorem wf_fndT {l : List Tt} {k : ByteArray} (hl : ∀ x ∈ l, x.wf) (hk : k.size ≤ 9223372036854775807) : (fndT l k).wf := by
  unfold fndT
  cases h : ofT l (zT k) with
  | none => exact ⟨hk, (by decide : In64 0), (by decide : In64 0), (by decide : In64 0)⟩
  | some x => exact hl x (ofT_some h).1

theorem wf_mov {x : Tt} {n : Int} (hx : x.wf) (h : movB x n = true) : (movT x n).wf := by
  simp only [movB, Bool.and_eq_true, decide_eq_true_eq] at h
  exact ⟨hx.1, hx.2.1, hx.2.2.1, h.1⟩

theorem fnd_set_ne {l : List Tt} {r : Tt} {k : ByteArray} (h : totB none l = true) (hk : r.ky ≠ k) : fndT (setT l r) k = fndT l k := by
  have : sameT r (zT k) = false := by simp [sameT, zT, hk]
  simp [fndT, setT_of h, this]

def addE2 (o : Oq) (l : List Tt) : Int := if (doT l o).2.er = 0 ∧ o.kd = 1 then o.n else if (doT l o).2.er = 0 ∧ o.kd = 2 then -o.n else 0

structure DoP (l : List Tt) (o : Oq) : Prop where
  right : totB none (doT l o).1 = true
  wf : ∀ x ∈ (doT l o).1, x.wf
  err : (doT l o).2.er ≠ 0 → (doT l o).1 = l
  sum : sumT (doT l o).1 = sumT l + addE2 o l

theorem do_p {l : List Tt} {o : Oq} (ht : totB none l = true) (hl : ∀ x ∈ l, x.wf) (ho : o.wf) : DoP l o := by
  have same : (doT l o).1 = l → addE2 o l = 0 → DoP l o := fun e e2 => ⟨by rw [e]; exact ht, by rw [e]; exact hl, fun _ => e, by rw [e, e2]; omega⟩
  cases hm : mayO o
  · have hd : doT l o = (l, eA 1) := by simp [doT, ht, hm]
    refine same (by rw [hd]) (by simp [addE2, hd, eA])
  have hd : doT l o = doX l o := by simp [doT, ht, hm]
  have hf := wf_fndT (k := o.ky) hl ho.2.1
  have hf2 := wf_fndT (k := o.ot) hl ho.2.2.1
  have ke := fnd_key l o.ky
  have ke2 := fnd_key l o.ot
  have hk := may_key hm
  by_cases k12 : o.kd = 1 ∨ o.kd = 2
  · cases hb : movB (fndT l o.ky) (if o.kd = 2 then -o.n else o.n)
    · have he : doT l o = (l, eA 150) := by rw [hd]; simp [doX, k12, hb]
      exact same (by rw [he]) (by simp [addE2, he, eA])
    · have he : doT l o = (setT l (movT (fndT l o.ky) (if o.kd = 2 then -o.n else o.n)), eA 0) := by rw [hd]; simp [doX, k12, hb]
      refine ⟨by rw [he]; exact setT_tot ht (mov_may (by rw [ke]; exact hk) hb), by rw [he]; exact wf_set hl (wf_mov hf hb), by rw [he]; intro h; simp [eA] at h, ?_⟩
      have es : (movT (fndT l o.ky) (if o.kd = 2 then -o.n else o.n)).ky = o.ky := ke
      rw [addE2, he]
      simp only [eA]
      rw [sumT_set ht, es]
      simp only [movT]
      rcases k12 with e | e <;> simp [e] <;> omega
  have k1 : ¬ o.kd = 1 := fun e => k12 (.inl e)
  have k2 : ¬ o.kd = 2 := fun e => k12 (.inr e)
  have ez : addE2 o l = 0 := by simp [addE2, k1, k2]
  by_cases k4 : o.kd = 4
  · exact same (by rw [hd]; simp [doX, k4]) ez
  by_cases k3 : o.kd = 3
  · exact same (by rw [hd]; simp [doX, k3]) ez
  by_cases k5 : o.kd = 5
  · cases hb : hasB o.lo o.hi (fndT l o.ky).va
    · exact same (by rw [hd]; simp [doX, k5, hb]) ez
    · have he : doT l o = (setT l { fndT l o.ky with sp_lo := o.lo, sp_hi := o.hi }, eA 0) := by rw [hd]; simp [doX, k5, hb]
      have es : ({ fndT l o.ky with sp_lo := o.lo, sp_hi := o.hi } : Tt).ky = o.ky := ke
      have h1 : plainT { fndT l o.ky with sp_lo := o.lo, sp_hi := o.hi } = true ∨ tmayB { fndT l o.ky with sp_lo := o.lo, sp_hi := o.hi } = true := by
        cases hp : plainT { fndT l o.ky with sp_lo := o.lo, sp_hi := o.hi }
        · refine .inr ?_
          have : hasT { fndT l o.ky with sp_lo := o.lo, sp_hi := o.hi } = true := hb
          simp only [tmayB, hp, this, Bool.not_false, Bool.and_true]; show keyB (fndT l o.ky).ky = true; rw [ke]; exact hk
        · exact .inl rfl
      refine ⟨by rw [he]; exact setT_tot ht h1, by rw [he]; exact wf_set hl ⟨hf.1, ho.2.2.2.2.1, ho.2.2.2.2.2, hf.2.2.2⟩, by rw [he]; intro h; simp [eA] at h, ?_⟩
      rw [ez, he]
      simp only
      rw [sumT_set ht, es]
      simp only
      omega
  by_cases k6 : o.kd = 6
  · cases hb : movB (fndT l o.ky) (-o.n)
    · exact same (by rw [hd]; simp [doX, k6, hb]) ez
    cases hb2 : movB (fndT l o.ot) o.n
    · exact same (by rw [hd]; simp [doX, k6, hb2]) ez
    have he : doT l o = (setT (setT l (movT (fndT l o.ky) (-o.n))) (movT (fndT l o.ot) o.n), eA 0) := by rw [hd]; simp [doX, k6, hb, hb2]
    obtain ⟨h1, h2⟩ := may_ot hm k6
    have ht1 := setT_tot ht (mov_may (n := -o.n) (by rw [ke]; exact hk) hb)
    have es : (movT (fndT l o.ky) (-o.n)).ky = o.ky := ke
    have es2 : (movT (fndT l o.ot) o.n).ky = o.ot := ke2
    refine ⟨by rw [he]; exact setT_tot ht1 (mov_may (by rw [ke2]; exact h1) hb2), by rw [he]; exact wf_set (wf_set hl (wf_mov hf hb)) (wf_mov hf2 hb2), by rw [he]; intro h; simp [eA] at h, ?_⟩
    rw [ez, he]
    simp only
    rw [sumT_set ht1, sumT_set ht, es, es2, fnd_set_ne ht (by rw [es]; exact fun e => h2 e.symm)]
    simp only [movT]
    omega
  · exact same (by rw [hd]; simp [doX, k1, k2, k3, k4, k5, k6]) ez

structure WbX where
  i : Nat
  k : Nat
  l : List Tt
  a : Option Addr
  c : Nat
  x : Option Addr
  d : Nat
  m : M

structure WbI (l0 : List Tt) (os : List Oq) (ao : Option Addr) (m : M) (y : WbX) : Prop where
  i : y.i ≤ os.length
  right : totB none y.l = true
  wf : ∀ x ∈ y.l, x.wf
  len : y.l.length ≤ l0.length + 2 * y.i
  row : Row y.m y.a (tts y.l)
  ops : Row y.m ao (oqs os)

structure WbJ (l0 : List Tt) (os : List Oq) (ao : Option Addr) (m : M) (y : WbX) (o : Oq) : Prop where
  i : WbI l0 os ao m y
  lt : y.i < os.length
  o_at : os[y.i]? = some o
  x : Row y.m y.x (tts (doT y.l o).1)

theorem WbI.k {l0 : List Tt} {os : List Oq} {ao : Option Addr} {m : M} {y : WbX} (h : WbI l0 os ao m y) (k : Nat) : WbI l0 os ao m { y with k := k } := ⟨h.i, h.right, h.wf, h.len, h.row, h.ops⟩

theorem WbJ.k {l0 : List Tt} {os : List Oq} {ao : Option Addr} {m : M} {y : WbX} {o : Oq} (h : WbJ l0 os ao m y o) (k : Nat) : WbJ l0 os ao m { y with k := k } o := ⟨h.i.k k, h.lt, h.o_at, h.x⟩

def opAt (os : List Oq) (i : Nat) : Oq := (os[i]?).getD o5

abbrev wcs (W : Int) : List Value := [I (wideHi W), U (wideLo W)]

def wbAnn (l0 : List Tt) (os : List Oq) (ao : Option Addr) (co : Nat) (m : M) : Nat → Ann
  | 6 => {
    A := WbX
    inv := WbI l0 os ao m
    st := fun y => [(5, .val (I y.i)), (1, .val (.slice ao os.length co)), (0, .val (.slice y.a y.l.length y.c))]
    own := fun _ => []
    m := fun y => y.m
    μ := fun y => os.length - y.i }
  | 12 => {
    A := WbX
    inv := fun y => WbJ l0 os ao m y (opAt os y.i)
    st := fun y => [(5, .val (I y.i)), (1, .val (.slice ao os.length co)), (0, .val (.slice y.a y.l.length y.c)), (7, .val (.slice y.x (doT y.l (opAt os y.i)).1.length y.d)), (6, .own 15 0), (8, .own 23 0)]
    own := fun y => [(15, ⟨24, encOq (opAt os y.i)⟩), (23, ⟨33, encAn (doT y.l (opAt os y.i)).2⟩)]
    m := fun y => y.m
    μ := fun _ => 0
    cut := true
    link := some fun y ctx => ctx = [os.length - y.i] }
  | 14 => {
    A := WbX
    inv := fun y => WbJ l0 os ao m y (opAt os y.i) ∧ y.k ≤ y.l.length
    st := fun y => [(5, .val (I y.i)), (1, .val (.slice ao os.length co)), (0, .val (.slice y.a y.l.length y.c)), (11, .val (I y.k)), (7, .val (.slice y.x (doT y.l (opAt os y.i)).1.length y.d)), (6, .own 15 0), (8, .own 23 0), (9, .own 43 0), (10, .own 44 0)]
    own := fun y => [(15, ⟨24, encOq (opAt os y.i)⟩), (23, ⟨33, encAn (doT y.l (opAt os y.i)).2⟩), (43, ⟨44, wcs (sumT (y.l.take y.k))⟩), (44, ⟨44, wcs 0⟩)]
    m := fun y => y.m
    μ := fun y => y.l.length - y.k
    link := some fun y ctx => ctx = [os.length - y.i] }
  | 18 => {
    A := WbX
    inv := fun y => WbJ l0 os ao m y (opAt os y.i) ∧ y.k ≤ (doT y.l (opAt os y.i)).1.length
    st := fun y => [(5, .val (I y.i)), (1, .val (.slice ao os.length co)), (12, .val (I y.k)), (7, .val (.slice y.x (doT y.l (opAt os y.i)).1.length y.d)), (6, .own 15 0), (8, .own 23 0), (9, .own 43 0), (10, .own 44 0)]
    own := fun y => [(15, ⟨24, encOq (opAt os y.i)⟩), (23, ⟨33, encAn (doT y.l (opAt os y.i)).2⟩), (43, ⟨44, wcs (sumT y.l)⟩), (44, ⟨44, wcs (sumT ((doT y.l (opAt os y.i)).1.take y.k))⟩)]
    m := fun y => y.m
    μ := fun y => (doT y.l (opAt os y.i)).1.length - y.k
    link := some fun y ctx => ctx = [os.length - y.i] }
  | _ => noAnn 0

theorem sumT_take {l : List Tt} {k : Nat} (h : k < l.length) : sumT (l.take (k + 1)) = sumT (l.take k) + l[k].va := by
  unfold sumT
  rw [List.map_take, List.map_take, sumI_take _ _ (by simpa using h)]
  simp

theorem of0 (m : M) : QSpec Try.prog 18 [.slice none 0 0] m (wide 0) := of_q none 0 [] (by simp) (by simp) m (.nil _)

theorem witnessbounds (a : Option Addr) (cp : Nat) (l : List Tt) (ao : Option Addr) (co : Nat) (os : List Oq) (hn : l.length ≤ 1048576) (hl : ∀ x ∈ l, x.wf) (hn2 : os.length ≤ 1048576) (hos : ∀ x ∈ os, x.wf) (m : M) (h : Row m a (tts l)) (ho : Row m ao (oqs os)) :
    QSpec Try.prog 4 [.slice a l.length cp, .slice ao os.length co] m (.bool true) := by
  refine QSpec.of_vc Try.func4 (ann := fun n => wbAnn l os ao co { m with sz := n }) fun N hN => ?_
  refine vc_by (X :=
      true = true ∧
      ∃ (b : Bool),
      QSpec Try.prog (14 : Nat) [] { π := m.π, sz := N, uf := m.uf : M } (Value.bool b) ∧
      ifB (!b) (Done (Value.bool false = Value.bool true))
      (∃ (b : Bool),
      QSpec Try.prog (11 : Nat) [Value.slice a l.length cp] { π := m.π, sz := N, uf := m.uf : M } (Value.bool b) ∧
      ifB (!b)
      (∃ (n : Int),
      QSpec Try.prog (15 : Nat) [Value.slice a l.length cp] { π := m.π, sz := N, uf := m.uf : M } (Value.int IntKind.i64 n) ∧
      Done (Value.bool (n == (21 : Int)) = Value.bool true))
      ((∃ (a_1 : WbX),
      WbI l os ao { π := m.π, sz := N, uf := m.uf : M } a_1 ∧
      { π := m.π, sz := N, uf := m.uf : M } = a_1.m ∧
      ((SV.val (Value.int IntKind.i64 (0 : Int)) = SV.val (Value.int IntKind.i64 (↑a_1.i : Int)) ∧ true = true) ∧
      (SV.val (Value.slice ao os.length co) = SV.val (Value.slice ao os.length co) ∧ true = true) ∧
      (SV.val (Value.slice a l.length cp) = SV.val (Value.slice a_1.a a_1.l.length a_1.c) ∧ true = true) ∧ True) ∧
      True) ∧
      ∀ (a : WbX),
      WbI l os ao { π := m.π, sz := N, uf := m.uf : M } a →
      ifB (decide ((↑a.i : Int) < (↑os.length : Int)))
      (∃ (b : Nat),
      ∃ (off : Nat),
      ao = some { block := b, off := off : Addr } ∧
      ((0 : Int) ≤ (↑a.i : Int) ∧ (↑a.i : Int) < (↑os.length : Int)) ∧
      ∃ (n : Int),
      ∃ (s : ByteArray),
      ∃ (s_1 : ByteArray),
      ∃ (n_1 : Int),
      ∃ (n_2 : Int),
      ∃ (n_3 : Int),
      CellsAt a.m b (off + (↑a.i : Int).toNat * (6 : Nat))
      [Value.int IntKind.i64 n, Value.string s, Value.string s_1, Value.int IntKind.i64 n_1, Value.int IntKind.i64 n_2,
      Value.int IntKind.i64 n_3] ∧
      ∃ (S' : Nat → Prop),
      (∀ (b : Nat), S' b → a.m.uf b ∧ (N ≤ b ∨ False)) ∧
      ∀ (n_4 : Nat),
      a.m.sz ≤ n_4 →
      SpecW Try.prog (12 : Nat)
      [Value.slice a.a a.l.length a.c,
      Value.agg
      #[Value.int IntKind.i64 n, Value.string s, Value.string s_1, Value.int IntKind.i64 n_1, Value.int IntKind.i64 n_2,
      Value.int IntKind.i64 n_3]]
      { π := a.m.π, sz := n_4, uf := a.m.uf : M } S' fun (v : Value) (m' : M) =>
      ∃ (a_3 : Option Addr),
      ∃ (n_5 : Nat),
      ∃ (c : Nat),
      ∃ (n_6 : Int),
      ∃ (n_7 : Int),
      ∃ (n_8 : Int),
      ∃ (n_9 : Int),
      v =
      Value.tuple
      #[Value.slice a_3 n_5 c,
      Value.agg
      #[Value.int IntKind.i64 n_6, Value.int IntKind.i64 n_7, Value.int IntKind.i64 n_8,
      Value.int IntKind.i64 n_9]] ∧
      (∃ (n_10 : Int),
      QSpec Try.prog (15 : Nat) [Value.slice a_3 n_5 c] m' (Value.int IntKind.i64 n_10) ∧
      ifB (n_10 != (0 : Int)) (Done (Value.bool false = Value.bool true))
      (ifB (n_6 != (0 : Int))
      (∃ (b : Bool),
      QSpec Try.prog (16 : Nat) [Value.slice a_3 n_5 c, Value.slice a.a a.l.length a.c] m'
      (Value.bool b) ∧
      ifB (!b) (Done (Value.bool false = Value.bool true))
      (∃ (x : WbX),
      (WbJ l os ao { π := m.π, sz := N, uf := m.uf : M } x (opAt os x.i) ∧
      m' = x.m ∧
      ((SV.val (Value.int IntKind.i64 (↑a.i : Int)) =
      SV.val (Value.int IntKind.i64 (↑x.i : Int)) ∧
      true = true) ∧
      (SV.val (Value.slice ao os.length co) = SV.val (Value.slice ao os.length co) ∧
      true = true) ∧
      (SV.val (Value.slice a.a a.l.length a.c) =
      SV.val (Value.slice x.a x.l.length x.c) ∧
      true = true) ∧
      (SV.val (Value.slice a_3 n_5 c) =
      SV.val (Value.slice x.x (doT x.l (opAt os x.i)).fst.length x.d) ∧
      true = true) ∧
      (SV.own
      ((0 : Nat) + (1 : Nat) + (2 : Nat) + (3 : Nat) + (1 : Nat) +
      (4 : Nat) +
      (4 : Nat))
      (0 : Nat) =
      SV.own (15 : Nat) (0 : Nat) ∧
      true = true) ∧
      (SV.own
      ((0 : Nat) + (1 : Nat) + (2 : Nat) + (3 : Nat) + (1 : Nat) +
      (4 : Nat) +
      (6 : Nat) +
      (6 : Nat))
      (0 : Nat) =
      SV.own (23 : Nat) (0 : Nat) ∧
      true = true) ∧
      True) ∧
      (some
      { ty := (24 : Nat), cs := [Value.int IntKind.i64 n, Value.string s, Value.string s_1, Value.int IntKind.i64 n_1, Value.int IntKind.i64 n_2, Value.int IntKind.i64 n_3] : Bx } =
      some
      { ty := (24 : TypeId), cs := [Value.int IntKind.i64 (opAt os x.i).kd, Value.string (opAt os x.i).ky, Value.string (opAt os x.i).ot, Value.int IntKind.i64 (opAt os x.i).n, Value.int IntKind.i64 (opAt os x.i).lo, Value.int IntKind.i64 (opAt os x.i).hi] : Bx } ∧
      true = true) ∧
      (some
      { ty := (33 : Nat), cs := [Value.int IntKind.i64 n_6, Value.int IntKind.i64 n_7, Value.int IntKind.i64 n_8, Value.int IntKind.i64 n_9] : Bx } =
      some
      { ty := (33 : TypeId), cs := [Value.int IntKind.i64 (doT x.l (opAt os x.i)).snd.er, Value.int IntKind.i64 (doT x.l (opAt os x.i)).snd.va, Value.int IntKind.i64 (doT x.l (opAt os x.i)).snd.le, Value.int IntKind.i64 (doT x.l (opAt os x.i)).snd.mo] : Bx } ∧
      true = true) ∧
      True) ∧
      [os.length - a.i] = [os.length - x.i]))
      (∃ (x : WbX),
      (WbJ l os ao { π := m.π, sz := N, uf := m.uf : M } x (opAt os x.i) ∧
      m' = x.m ∧
      ((SV.val (Value.int IntKind.i64 (↑a.i : Int)) =
      SV.val (Value.int IntKind.i64 (↑x.i : Int)) ∧
      true = true) ∧
      (SV.val (Value.slice ao os.length co) = SV.val (Value.slice ao os.length co) ∧
      true = true) ∧
      (SV.val (Value.slice a.a a.l.length a.c) = SV.val (Value.slice x.a x.l.length x.c) ∧
      true = true) ∧
      (SV.val (Value.slice a_3 n_5 c) =
      SV.val (Value.slice x.x (doT x.l (opAt os x.i)).fst.length x.d) ∧
      true = true) ∧
      (SV.own
      ((0 : Nat) + (1 : Nat) + (2 : Nat) + (3 : Nat) + (1 : Nat) + (4 : Nat) +
      (4 : Nat))
      (0 : Nat) =
      SV.own (15 : Nat) (0 : Nat) ∧
      true = true) ∧
      (SV.own
      ((0 : Nat) + (1 : Nat) + (2 : Nat) + (3 : Nat) + (1 : Nat) + (4 : Nat) +
      (6 : Nat) +
      (6 : Nat))
      (0 : Nat) =
      SV.own (23 : Nat) (0 : Nat) ∧
      true = true) ∧
      True) ∧
      (some
      { ty := (24 : Nat), cs := [Value.int IntKind.i64 n, Value.string s, Value.string s_1, Value.int IntKind.i64 n_1, Value.int IntKind.i64 n_2, Value.int IntKind.i64 n_3] : Bx } =
      some
      { ty := (24 : TypeId), cs := [Value.int IntKind.i64 (opAt os x.i).kd, Value.string (opAt os x.i).ky, Value.string (opAt os x.i).ot, Value.int IntKind.i64 (opAt os x.i).n, Value.int IntKind.i64 (opAt os x.i).lo, Value.int IntKind.i64 (opAt os x.i).hi] : Bx } ∧
      true = true) ∧
      (some
      { ty := (33 : Nat), cs := [Value.int IntKind.i64 n_6, Value.int IntKind.i64 n_7, Value.int IntKind.i64 n_8, Value.int IntKind.i64 n_9] : Bx } =
      some
      { ty := (33 : TypeId), cs := [Value.int IntKind.i64 (doT x.l (opAt os x.i)).snd.er, Value.int IntKind.i64 (doT x.l (opAt os x.i)).snd.va, Value.int IntKind.i64 (doT x.l (opAt os x.i)).snd.le, Value.int IntKind.i64 (doT x.l (opAt os x.i)).snd.mo] : Bx } ∧
      true = true) ∧
      True) ∧
      [os.length - a.i] = [os.length - x.i]))) ∧
      ∀ (x : WbX),
      WbJ l os ao { π := m.π, sz := N, uf := m.uf : M } x (opAt os x.i) ∧
      [os.length - a.i] = [os.length - x.i] →
      ∃ (n : Int),
      ∃ (n_10 : Int),
      QSpec Try.prog (18 : Nat) [Value.slice none (0 : Nat) (0 : Nat)] x.m
      (Value.agg #[Value.int IntKind.i64 n, Value.int IntKind.u64 n_10]) ∧
      ∃ (n_11 : Int),
      ∃ (n_12 : Int),
      QSpec Try.prog (18 : Nat) [Value.slice none (0 : Nat) (0 : Nat)] x.m
      (Value.agg #[Value.int IntKind.i64 n_11, Value.int IntKind.u64 n_12]) ∧
      (∃ (a_5 : WbX),
      ((WbJ l os ao { π := m.π, sz := N, uf := m.uf : M } a_5 (opAt os a_5.i) ∧
      a_5.k ≤ a_5.l.length) ∧
      x.m = a_5.m ∧
      ((SV.val (Value.int IntKind.i64 (↑x.i : Int)) =
      SV.val (Value.int IntKind.i64 (↑a_5.i : Int)) ∧
      true = true) ∧
      (SV.val (Value.slice ao os.length co) = SV.val (Value.slice ao os.length co) ∧
      true = true) ∧
      (SV.val (Value.slice x.a x.l.length x.c) =
      SV.val (Value.slice a_5.a a_5.l.length a_5.c) ∧
      true = true) ∧
      (SV.val (Value.int IntKind.i64 (0 : Int)) =
      SV.val (Value.int IntKind.i64 (↑a_5.k : Int)) ∧
      true = true) ∧
      (SV.val (Value.slice x.x (doT x.l (opAt os x.i)).fst.length x.d) =
      SV.val
      (Value.slice a_5.x (doT a_5.l (opAt os a_5.i)).fst.length
      a_5.d) ∧
      true = true) ∧
      (SV.own (15 : Nat) (0 : Nat) = SV.own (15 : Nat) (0 : Nat) ∧
      true = true) ∧
      (SV.own (23 : Nat) (0 : Nat) = SV.own (23 : Nat) (0 : Nat) ∧
      true = true) ∧
      (SV.own
      ((0 : Nat) + (1 : Nat) + (2 : Nat) + (3 : Nat) +
      (1 : Nat) +
      (4 : Nat) +
      (6 : Nat) +
      (9 : Nat) +
      (15 : Nat) +
      (2 : Nat))
      (0 : Nat) =
      SV.own (43 : Nat) (0 : Nat) ∧
      true = true) ∧
      (SV.own
      ((0 : Nat) + (1 : Nat) + (2 : Nat) + (3 : Nat) +
      (1 : Nat) +
      (4 : Nat) +
      (6 : Nat) +
      (9 : Nat) +
      (15 : Nat) +
      (3 : Nat))
      (0 : Nat) =
      SV.own (44 : Nat) (0 : Nat) ∧
      true = true) ∧
      True) ∧
      (some
      { ty := (24 : TypeId), cs := [Value.int IntKind.i64 (opAt os x.i).kd, Value.string (opAt os x.i).ky, Value.string (opAt os x.i).ot, Value.int IntKind.i64 (opAt os x.i).n, Value.int IntKind.i64 (opAt os x.i).lo, Value.int IntKind.i64 (opAt os x.i).hi] : Bx } =
      some
      { ty := (24 : TypeId), cs := [Value.int IntKind.i64 (opAt os a_5.i).kd, Value.string (opAt os a_5.i).ky, Value.string (opAt os a_5.i).ot, Value.int IntKind.i64 (opAt os a_5.i).n, Value.int IntKind.i64 (opAt os a_5.i).lo, Value.int IntKind.i64 (opAt os a_5.i).hi] : Bx } ∧
      true = true) ∧
      (some
      { ty := (33 : TypeId), cs := [Value.int IntKind.i64 (doT x.l (opAt os x.i)).snd.er, Value.int IntKind.i64 (doT x.l (opAt os x.i)).snd.va, Value.int IntKind.i64 (doT x.l (opAt os x.i)).snd.le, Value.int IntKind.i64 (doT x.l (opAt os x.i)).snd.mo] : Bx } =
      some
      { ty := (33 : TypeId), cs := [Value.int IntKind.i64 (doT a_5.l (opAt os a_5.i)).snd.er, Value.int IntKind.i64 (doT a_5.l (opAt os a_5.i)).snd.va, Value.int IntKind.i64 (doT a_5.l (opAt os a_5.i)).snd.le, Value.int IntKind.i64 (doT a_5.l (opAt os a_5.i)).snd.mo] : Bx } ∧
      true = true) ∧
      (some
      { ty := (44 : Nat), cs := [Value.int IntKind.i64 n, Value.int IntKind.u64 n_10] : Bx } =
      some
      { ty := (44 : TypeId), cs := [Value.int IntKind.i64 (wideHi (sumT (List.take a_5.k a_5.l))), Value.int IntKind.u64 (wideLo (sumT (List.take a_5.k a_5.l)))] : Bx } ∧
      true = true) ∧
      (some
      { ty := (44 : Nat), cs := [Value.int IntKind.i64 n_11, Value.int IntKind.u64 n_12] : Bx } =
      some
      { ty := (44 : TypeId), cs := [Value.int IntKind.i64 (wideHi (0 : Int)), Value.int IntKind.u64 (wideLo (0 : Int))] : Bx } ∧
      true = true) ∧
      True) ∧
      [os.length - a.i] = [os.length - a_5.i]) ∧
      ∀ (a_5 : WbX),
      (WbJ l os ao { π := m.π, sz := N, uf := m.uf : M } a_5 (opAt os a_5.i) ∧
      a_5.k ≤ a_5.l.length) ∧
      [os.length - a.i] = [os.length - a_5.i] →
      ifB (decide ((↑a_5.k : Int) < (↑a_5.l.length : Int)))
      (true = true ∧
      ∃ (b : Nat),
      ∃ (off : Nat),
      a_5.a = some { block := b, off := off : Addr } ∧
      ((0 : Int) ≤ (↑a_5.k : Int) ∧ (↑a_5.k : Int) < (↑a_5.l.length : Int)) ∧
      ∃ (n : Int),
      CellsAt a_5.m b (off + (↑a_5.k : Int).toNat * (4 : Nat) + (3 : Nat))
      [Value.int IntKind.i64 n] ∧
      ∃ (n_13 : Int),
      ∃ (n_14 : Int),
      QSpec Try.prog (19 : Nat)
      [Value.agg
      #[Value.int IntKind.i64
      (wideHi (sumT (List.take a_5.k a_5.l))),
      Value.int IntKind.u64
      (wideLo (sumT (List.take a_5.k a_5.l)))],
      Value.int IntKind.i64 n]
      a_5.m
      (Value.agg
      #[Value.int IntKind.i64 n_13, Value.int IntKind.u64 n_14]) ∧
      ∃ (a' : WbX),
      (((WbJ l os ao { π := m.π, sz := N, uf := m.uf : M } a'
      (opAt os a'.i) ∧
      a'.k ≤ a'.l.length) ∧
      a_5.m = a'.m ∧
      ((SV.val (Value.int IntKind.i64 (↑a_5.i : Int)) =
      SV.val (Value.int IntKind.i64 (↑a'.i : Int)) ∧
      true = true) ∧
      (SV.val (Value.slice ao os.length co) =
      SV.val (Value.slice ao os.length co) ∧
      true = true) ∧
      (SV.val (Value.slice a_5.a a_5.l.length a_5.c) =
      SV.val
      (Value.slice a'.a a'.l.length a'.c) ∧
      true = true) ∧
      (SV.val
      (Value.int IntKind.i64
      (IntKind.i64.wrap
      ((↑a_5.k : Int) + (1 : Int)))) =
      SV.val
      (Value.int IntKind.i64
      (↑a'.k : Int)) ∧
      true = true) ∧
      (SV.val
      (Value.slice a_5.x
      (doT a_5.l
      (opAt os a_5.i)).fst.length
      a_5.d) =
      SV.val
      (Value.slice a'.x
      (doT a'.l
      (opAt os a'.i)).fst.length
      a'.d) ∧
      true = true) ∧
      (SV.own (15 : Nat) (0 : Nat) =
      SV.own (15 : Nat) (0 : Nat) ∧
      true = true) ∧
      (SV.own (23 : Nat) (0 : Nat) =
      SV.own (23 : Nat) (0 : Nat) ∧
      true = true) ∧
      (SV.own (43 : Nat) (0 : Nat) =
      SV.own (43 : Nat) (0 : Nat) ∧
      true = true) ∧
      (SV.own (44 : Nat) (0 : Nat) =
      SV.own (44 : Nat) (0 : Nat) ∧
      true = true) ∧
      True) ∧
      (some
      { ty := (24 : TypeId), cs := [Value.int IntKind.i64 (opAt os a_5.i).kd, Value.string (opAt os a_5.i).ky, Value.string (opAt os a_5.i).ot, Value.int IntKind.i64 (opAt os a_5.i).n, Value.int IntKind.i64 (opAt os a_5.i).lo, Value.int IntKind.i64 (opAt os a_5.i).hi] : Bx } =
      some
      { ty := (24 : TypeId), cs := [Value.int IntKind.i64 (opAt os a'.i).kd, Value.string (opAt os a'.i).ky, Value.string (opAt os a'.i).ot, Value.int IntKind.i64 (opAt os a'.i).n, Value.int IntKind.i64 (opAt os a'.i).lo, Value.int IntKind.i64 (opAt os a'.i).hi] : Bx } ∧
      true = true) ∧
      (some
      { ty := (33 : TypeId), cs := [Value.int IntKind.i64 (doT a_5.l (opAt os a_5.i)).snd.er, Value.int IntKind.i64 (doT a_5.l (opAt os a_5.i)).snd.va, Value.int IntKind.i64 (doT a_5.l (opAt os a_5.i)).snd.le, Value.int IntKind.i64 (doT a_5.l (opAt os a_5.i)).snd.mo] : Bx } =
      some
      { ty := (33 : TypeId), cs := [Value.int IntKind.i64 (doT a'.l (opAt os a'.i)).snd.er, Value.int IntKind.i64 (doT a'.l (opAt os a'.i)).snd.va, Value.int IntKind.i64 (doT a'.l (opAt os a'.i)).snd.le, Value.int IntKind.i64 (doT a'.l (opAt os a'.i)).snd.mo] : Bx } ∧
      true = true) ∧
      (some
      { ty := (44 : TypeId), cs := [Value.int IntKind.i64 n_13, Value.int IntKind.u64 n_14] : Bx } =
      some
      { ty := (44 : TypeId), cs := [Value.int IntKind.i64 (wideHi (sumT (List.take a'.k a'.l))), Value.int IntKind.u64 (wideLo (sumT (List.take a'.k a'.l)))] : Bx } ∧
      true = true) ∧
      (some
      { ty := (44 : TypeId), cs := [Value.int IntKind.i64 (wideHi (0 : Int)), Value.int IntKind.u64 (wideLo (0 : Int))] : Bx } =
      some
      { ty := (44 : TypeId), cs := [Value.int IntKind.i64 (wideHi (0 : Int)), Value.int IntKind.u64 (wideLo (0 : Int))] : Bx } ∧
      true = true) ∧
      True) ∧
      [os.length - a.i] = [os.length - a'.i]) ∧
      a'.l.length - a'.k < a_5.l.length - a_5.k)
      ((∃ (a_7 : WbX),
      ((WbJ l os ao { π := m.π, sz := N, uf := m.uf : M } a_7 (opAt os a_7.i) ∧
      a_7.k ≤ (doT a_7.l (opAt os a_7.i)).fst.length) ∧
      a_5.m = a_7.m ∧
      ((SV.val (Value.int IntKind.i64 (↑a_5.i : Int)) =
      SV.val (Value.int IntKind.i64 (↑a_7.i : Int)) ∧
      true = true) ∧
      (SV.val (Value.slice ao os.length co) =
      SV.val (Value.slice ao os.length co) ∧
      true = true) ∧
      (SV.val (Value.int IntKind.i64 (0 : Int)) =
      SV.val (Value.int IntKind.i64 (↑a_7.k : Int)) ∧
      true = true) ∧
      (SV.val
      (Value.slice a_5.x (doT a_5.l (opAt os a_5.i)).fst.length
      a_5.d) =
      SV.val
      (Value.slice a_7.x (doT a_7.l (opAt os a_7.i)).fst.length
      a_7.d) ∧
      true = true) ∧
      (SV.own (15 : Nat) (0 : Nat) = SV.own (15 : Nat) (0 : Nat) ∧
      true = true) ∧
      (SV.own (23 : Nat) (0 : Nat) = SV.own (23 : Nat) (0 : Nat) ∧
      true = true) ∧
      (SV.own (43 : Nat) (0 : Nat) = SV.own (43 : Nat) (0 : Nat) ∧
      true = true) ∧
      (SV.own (44 : Nat) (0 : Nat) =
      SV.own (44 : Nat) (0 : Nat) ∧
      true = true) ∧
      True) ∧
      (some
      { ty := (24 : TypeId), cs := [Value.int IntKind.i64 (opAt os a_5.i).kd, Value.string (opAt os a_5.i).ky, Value.string (opAt os a_5.i).ot, Value.int IntKind.i64 (opAt os a_5.i).n, Value.int IntKind.i64 (opAt os a_5.i).lo, Value.int IntKind.i64 (opAt os a_5.i).hi] : Bx } =
      some
      { ty := (24 : TypeId), cs := [Value.int IntKind.i64 (opAt os a_7.i).kd, Value.string (opAt os a_7.i).ky, Value.string (opAt os a_7.i).ot, Value.int IntKind.i64 (opAt os a_7.i).n, Value.int IntKind.i64 (opAt os a_7.i).lo, Value.int IntKind.i64 (opAt os a_7.i).hi] : Bx } ∧
      true = true) ∧
      (some
      { ty := (33 : TypeId), cs := [Value.int IntKind.i64 (doT a_5.l (opAt os a_5.i)).snd.er, Value.int IntKind.i64 (doT a_5.l (opAt os a_5.i)).snd.va, Value.int IntKind.i64 (doT a_5.l (opAt os a_5.i)).snd.le, Value.int IntKind.i64 (doT a_5.l (opAt os a_5.i)).snd.mo] : Bx } =
      some
      { ty := (33 : TypeId), cs := [Value.int IntKind.i64 (doT a_7.l (opAt os a_7.i)).snd.er, Value.int IntKind.i64 (doT a_7.l (opAt os a_7.i)).snd.va, Value.int IntKind.i64 (doT a_7.l (opAt os a_7.i)).snd.le, Value.int IntKind.i64 (doT a_7.l (opAt os a_7.i)).snd.mo] : Bx } ∧
      true = true) ∧
      (some
      { ty := (44 : TypeId), cs := [Value.int IntKind.i64 (wideHi (sumT (List.take a_5.k a_5.l))), Value.int IntKind.u64 (wideLo (sumT (List.take a_5.k a_5.l)))] : Bx } =
      some
      { ty := (44 : TypeId), cs := [Value.int IntKind.i64 (wideHi (sumT a_7.l)), Value.int IntKind.u64 (wideLo (sumT a_7.l))] : Bx } ∧
      true = true) ∧
      (some
      { ty := (44 : TypeId), cs := [Value.int IntKind.i64 (wideHi (0 : Int)), Value.int IntKind.u64 (wideLo (0 : Int))] : Bx } =
      some
      { ty := (44 : TypeId), cs := [Value.int IntKind.i64 (wideHi (sumT (List.take a_7.k (doT a_7.l (opAt os a_7.i)).fst))), Value.int IntKind.u64 (wideLo (sumT (List.take a_7.k (doT a_7.l (opAt os a_7.i)).fst)))] : Bx } ∧
      true = true) ∧
      True) ∧
      [os.length - a.i] = [os.length - a_7.i]) ∧
      ∀ (a_7 : WbX),
      (WbJ l os ao { π := m.π, sz := N, uf := m.uf : M } a_7 (opAt os a_7.i) ∧
      a_7.k ≤ (doT a_7.l (opAt os a_7.i)).fst.length) ∧
      [os.length - a.i] = [os.length - a_7.i] →
      ifB
      (decide ((↑a_7.k : Int) < (↑(doT a_7.l (opAt os a_7.i)).fst.length : Int)))
      (true = true ∧
      ∃ (b : Nat),
      ∃ (off : Nat),
      a_7.x = some { block := b, off := off : Addr } ∧
      ((0 : Int) ≤ (↑a_7.k : Int) ∧
      (↑a_7.k : Int) <
      (↑(doT a_7.l (opAt os a_7.i)).fst.length : Int)) ∧
      ∃ (n : Int),
      CellsAt a_7.m b
      (off + (↑a_7.k : Int).toNat * (4 : Nat) + (3 : Nat))
      [Value.int IntKind.i64 n] ∧
      ∃ (n_13 : Int),
      ∃ (n_14 : Int),
      QSpec Try.prog (19 : Nat)
      [Value.agg
      #[Value.int IntKind.i64
      (wideHi
      (sumT
      (List.take a_7.k
      (doT a_7.l (opAt os a_7.i)).fst))),
      Value.int IntKind.u64
      (wideLo
      (sumT
      (List.take a_7.k
      (doT a_7.l (opAt os a_7.i)).fst)))],
      Value.int IntKind.i64 n]
      a_7.m
      (Value.agg
      #[Value.int IntKind.i64 n_13,
      Value.int IntKind.u64 n_14]) ∧
      true = true ∧
      ∃ (b : Nat),
      ∃ (off : Nat),
      a_7.x = some { block := b, off := off : Addr } ∧
      ((0 : Int) ≤ (↑a_7.k : Int) ∧
      (↑a_7.k : Int) <
      (↑(doT a_7.l (opAt os a_7.i)).fst.length :
      Int)) ∧
      ∃ (n : Int),
      CellsAt a_7.m b
      (off +
      (↑a_7.k : Int).toNat * (4 : Nat) +
      (3 : Nat))
      [Value.int IntKind.i64 n] ∧
      ∃ (b : Nat),
      ∃ (off : Nat),
      a_7.x =
      some
      { block := b, off := off : Addr } ∧
      ((0 : Int) ≤ (↑a_7.k : Int) ∧
      (↑a_7.k : Int) <
      (↑(doT a_7.l
      (opAt os
      a_7.i)).fst.length :
      Int)) ∧
      ∃ (n_15 : Int),
      CellsAt a_7.m b
      (off +
      (↑a_7.k : Int).toNat *
      (4 : Nat) +
      (1 : Nat) +
      (0 : Nat))
      [Value.int IntKind.i64
      n_15] ∧
      ifB (decide (n < n_15))
      (Done
      (Value.bool false =
      Value.bool true))
      (∃ (b : Nat),
      ∃ (off : Nat),
      a_7.x =
      some
      { block := b, off := off : Addr } ∧
      ((0 : Int) ≤
      (↑a_7.k : Int) ∧
      (↑a_7.k : Int) <
      (↑(doT a_7.l
      (opAt
      os
      a_7.i)).fst.length :
      Int)) ∧
      ∃ (n : Int),
      CellsAt a_7.m b
      (off +
      (↑a_7.k :
      Int).toNat *
      (4 :
      Nat) +
      (3 : Nat))
      [Value.int
      IntKind.i64
      n] ∧
      ∃ (b : Nat),
      ∃ (off : Nat),
      a_7.x =
      some
      { block := b, off := off : Addr } ∧
      ((0 :
      Int) ≤
      (↑a_7.k :
      Int) ∧
      (↑a_7.k :
      Int) <
      (↑(doT
      a_7.l
      (opAt
      os
      a_7.i)).fst.length :
      Int)) ∧
      ∃ (n_16
      :
      Int),
      CellsAt
      a_7.m
      b
      (off +
      (↑a_7.k :
      Int).toNat *
      (4 :
      Nat) +
      (1 :
      Nat) +
      (1 :
      Nat))
      [Value.int
      IntKind.i64
      n_16] ∧
      ifB
      (decide
      (n >
      n_16))
      (Done
      (Value.bool
      false =
      Value.bool
      true))
      (∃
      (a'
      :
      WbX),
      (((WbJ
      l
      os
      ao
      { π := m.π, sz := N, uf := m.uf : M }
      a'
      (opAt
      os
      a'.i) ∧
      a'.k ≤
      (doT
      a'.l
      (opAt
      os
      a'.i)).fst.length) ∧
      a_7.m =
      a'.m ∧
      ((SV.val
      (Value.int
      IntKind.i64
      (↑a_7.i :
      Int)) =
      SV.val
      (Value.int
      IntKind.i64
      (↑a'.i :
      Int)) ∧
      true =
      true) ∧
      (SV.val
      (Value.slice
      ao
      os.length
      co) =
      SV.val
      (Value.slice
      ao
      os.length
      co) ∧
      true =
      true) ∧
      (SV.val
      (Value.int
      IntKind.i64
      (IntKind.i64.wrap
      ((↑a_7.k :
      Int) +
      (1 :
      Int)))) =
      SV.val
      (Value.int
      IntKind.i64
      (↑a'.k :
      Int)) ∧
      true =
      true) ∧
      (SV.val
      (Value.slice
      a_7.x
      (doT
      a_7.l
      (opAt
      os
      a_7.i)).fst.length
      a_7.d) =
      SV.val
      (Value.slice
      a'.x
      (doT
      a'.l
      (opAt
      os
      a'.i)).fst.length
      a'.d) ∧
      true =
      true) ∧
      (SV.own
      (15 :
      Nat)
      (0 :
      Nat) =
      SV.own
      (15 :
      Nat)
      (0 :
      Nat) ∧
      true =
      true) ∧
      (SV.own
      (23 :
      Nat)
      (0 :
      Nat) =
      SV.own
      (23 :
      Nat)
      (0 :
      Nat) ∧
      true =
      true) ∧
      (SV.own
      (43 :
      Nat)
      (0 :
      Nat) =
      SV.own
      (43 :
      Nat)
      (0 :
      Nat) ∧
      true =
      true) ∧
      (SV.own
      (44 :
      Nat)
      (0 :
      Nat) =
      SV.own
      (44 :
      Nat)
      (0 :
      Nat) ∧
      true =
      true) ∧
      True) ∧
      (some
      { ty := (24 : TypeId), cs := [Value.int IntKind.i64 (opAt os a_7.i).kd, Value.string (opAt os a_7.i).ky, Value.string (opAt os a_7.i).ot, Value.int IntKind.i64 (opAt os a_7.i).n, Value.int IntKind.i64 (opAt os a_7.i).lo, Value.int IntKind.i64 (opAt os a_7.i).hi] : Bx } =
      some
      { ty := (24 : TypeId), cs := [Value.int IntKind.i64 (opAt os a'.i).kd, Value.string (opAt os a'.i).ky, Value.string (opAt os a'.i).ot, Value.int IntKind.i64 (opAt os a'.i).n, Value.int IntKind.i64 (opAt os a'.i).lo, Value.int IntKind.i64 (opAt os a'.i).hi] : Bx } ∧
      true =
      true) ∧
      (some
      { ty := (33 : TypeId), cs := [Value.int IntKind.i64 (doT a_7.l (opAt os a_7.i)).snd.er, Value.int IntKind.i64 (doT a_7.l (opAt os a_7.i)).snd.va, Value.int IntKind.i64 (doT a_7.l (opAt os a_7.i)).snd.le, Value.int IntKind.i64 (doT a_7.l (opAt os a_7.i)).snd.mo] : Bx } =
      some
      { ty := (33 : TypeId), cs := [Value.int IntKind.i64 (doT a'.l (opAt os a'.i)).snd.er, Value.int IntKind.i64 (doT a'.l (opAt os a'.i)).snd.va, Value.int IntKind.i64 (doT a'.l (opAt os a'.i)).snd.le, Value.int IntKind.i64 (doT a'.l (opAt os a'.i)).snd.mo] : Bx } ∧
      true =
      true) ∧
      (some
      { ty := (44 : TypeId), cs := [Value.int IntKind.i64 (wideHi (sumT a_7.l)), Value.int IntKind.u64 (wideLo (sumT a_7.l))] : Bx } =
      some
      { ty := (44 : TypeId), cs := [Value.int IntKind.i64 (wideHi (sumT a'.l)), Value.int IntKind.u64 (wideLo (sumT a'.l))] : Bx } ∧
      true =
      true) ∧
      (some
      { ty := (44 : TypeId), cs := [Value.int IntKind.i64 n_13, Value.int IntKind.u64 n_14] : Bx } =
      some
      { ty := (44 : TypeId), cs := [Value.int IntKind.i64 (wideHi (sumT (List.take a'.k (doT a'.l (opAt os a'.i)).fst))), Value.int IntKind.u64 (wideLo (sumT (List.take a'.k (doT a'.l (opAt os a'.i)).fst)))] : Bx } ∧
      true =
      true) ∧
      True) ∧
      [os.length -
      a.i] =
      [os.length -
      a'.i]) ∧
      (doT
      a'.l
      (opAt
      os
      a'.i)).fst.length -
      a'.k <
      (doT
      a_7.l
      (opAt
      os
      a_7.i)).fst.length -
      a_7.k)))
      (ifB ((doT a_7.l (opAt os a_7.i)).snd.er == (0 : Int))
      (ifB ((opAt os a_7.i).kd == (1 : Int))
      (∃ (n : Int),
      ∃ (n_13 : Int),
      QSpec Try.prog (19 : Nat)
      [Value.agg
      #[Value.int IntKind.i64 (wideHi (sumT a_7.l)),
      Value.int IntKind.u64 (wideLo (sumT a_7.l))],
      Value.int IntKind.i64 (opAt os a_7.i).n]
      a_7.m
      (Value.agg
      #[Value.int IntKind.i64 n, Value.int IntKind.u64 n_13]) ∧
      ifB ((doT a_7.l (opAt os a_7.i)).snd.er == (0 : Int))
      (ifB ((opAt os a_7.i).kd == (2 : Int))
      (∃ (n_14 : Int),
      ∃ (n_15 : Int),
      QSpec Try.prog (20 : Nat)
      [Value.agg
      #[Value.int IntKind.i64 n,
      Value.int IntKind.u64 n_13],
      Value.int IntKind.i64 (opAt os a_7.i).n]
      a_7.m
      (Value.agg
      #[Value.int IntKind.i64 n_14,
      Value.int IntKind.u64 n_15]) ∧
      ifB
      (!(wideHi
      (sumT
      (List.take a_7.k
      (doT a_7.l (opAt os a_7.i)).fst)) ==
      n_14 &&
      (wideLo
      (sumT
      (List.take a_7.k
      (doT a_7.l (opAt os a_7.i)).fst)) ==
      n_15 &&
      true)))
      (Done (Value.bool false = Value.bool true))
      (∃ (a' : WbX),
      (WbI l os ao { π := m.π, sz := N, uf := m.uf : M }
      a' ∧
      a_7.m = a'.m ∧
      ((SV.val
      (Value.int IntKind.i64
      (IntKind.i64.wrap
      ((↑a_7.i : Int) + (1 : Int)))) =
      SV.val
      (Value.int IntKind.i64
      (↑a'.i : Int)) ∧
      true = true) ∧
      (SV.val (Value.slice ao os.length co) =
      SV.val
      (Value.slice ao os.length co) ∧
      true = true) ∧
      (SV.val
      (Value.slice a_7.x
      (doT a_7.l
      (opAt os
      a_7.i)).fst.length
      a_7.d) =
      SV.val
      (Value.slice a'.a a'.l.length
      a'.c) ∧
      true = true) ∧
      True) ∧
      True) ∧
      os.length - a'.i < os.length - a.i))
      (ifB
      (!(wideHi
      (sumT
      (List.take a_7.k
      (doT a_7.l (opAt os a_7.i)).fst)) ==
      n &&
      (wideLo
      (sumT
      (List.take a_7.k
      (doT a_7.l (opAt os a_7.i)).fst)) ==
      n_13 &&
      true)))
      (Done (Value.bool false = Value.bool true))
      (∃ (a' : WbX),
      (WbI l os ao { π := m.π, sz := N, uf := m.uf : M } a' ∧
      a_7.m = a'.m ∧
      ((SV.val
      (Value.int IntKind.i64
      (IntKind.i64.wrap
      ((↑a_7.i : Int) + (1 : Int)))) =
      SV.val
      (Value.int IntKind.i64 (↑a'.i : Int)) ∧
      true = true) ∧
      (SV.val (Value.slice ao os.length co) =
      SV.val (Value.slice ao os.length co) ∧
      true = true) ∧
      (SV.val
      (Value.slice a_7.x
      (doT a_7.l
      (opAt os a_7.i)).fst.length
      a_7.d) =
      SV.val
      (Value.slice a'.a a'.l.length a'.c) ∧
      true = true) ∧
      True) ∧
      True) ∧
      os.length - a'.i < os.length - a.i)))
      (ifB
      (!(wideHi
      (sumT
      (List.take a_7.k
      (doT a_7.l (opAt os a_7.i)).fst)) ==
      n &&
      (wideLo
      (sumT
      (List.take a_7.k
      (doT a_7.l (opAt os a_7.i)).fst)) ==
      n_13 &&
      true)))
      (Done (Value.bool false = Value.bool true))
      (∃ (a' : WbX),
      (WbI l os ao { π := m.π, sz := N, uf := m.uf : M } a' ∧
      a_7.m = a'.m ∧
      ((SV.val
      (Value.int IntKind.i64
      (IntKind.i64.wrap
      ((↑a_7.i : Int) + (1 : Int)))) =
      SV.val (Value.int IntKind.i64 (↑a'.i : Int)) ∧
      true = true) ∧
      (SV.val (Value.slice ao os.length co) =
      SV.val (Value.slice ao os.length co) ∧
      true = true) ∧
      (SV.val
      (Value.slice a_7.x
      (doT a_7.l (opAt os a_7.i)).fst.length
      a_7.d) =
      SV.val
      (Value.slice a'.a a'.l.length a'.c) ∧
      true = true) ∧
      True) ∧
      True) ∧
      os.length - a'.i < os.length - a.i)))
      (ifB ((doT a_7.l (opAt os a_7.i)).snd.er == (0 : Int))
      (ifB ((opAt os a_7.i).kd == (2 : Int))
      (∃ (n : Int),
      ∃ (n_13 : Int),
      QSpec Try.prog (20 : Nat)
      [Value.agg
      #[Value.int IntKind.i64 (wideHi (sumT a_7.l)),
      Value.int IntKind.u64 (wideLo (sumT a_7.l))],
      Value.int IntKind.i64 (opAt os a_7.i).n]
      a_7.m
      (Value.agg
      #[Value.int IntKind.i64 n, Value.int IntKind.u64 n_13]) ∧
      ifB
      (!(wideHi
      (sumT
      (List.take a_7.k
      (doT a_7.l (opAt os a_7.i)).fst)) ==
      n &&
      (wideLo
      (sumT
      (List.take a_7.k
      (doT a_7.l (opAt os a_7.i)).fst)) ==
      n_13 &&
      true)))
      (Done (Value.bool false = Value.bool true))
      (∃ (a' : WbX),
      (WbI l os ao { π := m.π, sz := N, uf := m.uf : M } a' ∧
      a_7.m = a'.m ∧
      ((SV.val
      (Value.int IntKind.i64
      (IntKind.i64.wrap
      ((↑a_7.i : Int) + (1 : Int)))) =
      SV.val
      (Value.int IntKind.i64 (↑a'.i : Int)) ∧
      true = true) ∧
      (SV.val (Value.slice ao os.length co) =
      SV.val (Value.slice ao os.length co) ∧
      true = true) ∧
      (SV.val
      (Value.slice a_7.x
      (doT a_7.l
      (opAt os a_7.i)).fst.length
      a_7.d) =
      SV.val
      (Value.slice a'.a a'.l.length a'.c) ∧
      true = true) ∧
      True) ∧
      True) ∧
      os.length - a'.i < os.length - a.i))
      (ifB
      (!(wideHi
      (sumT
      (List.take a_7.k (doT a_7.l (opAt os a_7.i)).fst)) ==
      wideHi (sumT a_7.l) &&
      (wideLo
      (sumT
      (List.take a_7.k (doT a_7.l (opAt os a_7.i)).fst)) ==
      wideLo (sumT a_7.l) &&
      true)))
      (Done (Value.bool false = Value.bool true))
      (∃ (a' : WbX),
      (WbI l os ao { π := m.π, sz := N, uf := m.uf : M } a' ∧
      a_7.m = a'.m ∧
      ((SV.val
      (Value.int IntKind.i64
      (IntKind.i64.wrap
      ((↑a_7.i : Int) + (1 : Int)))) =
      SV.val (Value.int IntKind.i64 (↑a'.i : Int)) ∧
      true = true) ∧
      (SV.val (Value.slice ao os.length co) =
      SV.val (Value.slice ao os.length co) ∧
      true = true) ∧
      (SV.val
      (Value.slice a_7.x
      (doT a_7.l (opAt os a_7.i)).fst.length
      a_7.d) =
      SV.val (Value.slice a'.a a'.l.length a'.c) ∧
      true = true) ∧
      True) ∧
      True) ∧
      os.length - a'.i < os.length - a.i)))
      (ifB
      (!(wideHi
      (sumT (List.take a_7.k (doT a_7.l (opAt os a_7.i)).fst)) ==
      wideHi (sumT a_7.l) &&
      (wideLo
      (sumT
      (List.take a_7.k (doT a_7.l (opAt os a_7.i)).fst)) ==
      wideLo (sumT a_7.l) &&
      true)))
      (Done (Value.bool false = Value.bool true))
      (∃ (a' : WbX),
      (WbI l os ao { π := m.π, sz := N, uf := m.uf : M } a' ∧
      a_7.m = a'.m ∧
      ((SV.val
      (Value.int IntKind.i64
      (IntKind.i64.wrap
      ((↑a_7.i : Int) + (1 : Int)))) =
      SV.val (Value.int IntKind.i64 (↑a'.i : Int)) ∧
      true = true) ∧
      (SV.val (Value.slice ao os.length co) =
      SV.val (Value.slice ao os.length co) ∧
      true = true) ∧
      (SV.val
      (Value.slice a_7.x
      (doT a_7.l (opAt os a_7.i)).fst.length
      a_7.d) =
      SV.val (Value.slice a'.a a'.l.length a'.c) ∧
      true = true) ∧
      True) ∧
      True) ∧
      os.length - a'.i < os.length - a.i))))
      (ifB ((doT a_7.l (opAt os a_7.i)).snd.er == (0 : Int))
      (ifB ((opAt os a_7.i).kd == (2 : Int))
      (∃ (n : Int),
      ∃ (n_13 : Int),
      QSpec Try.prog (20 : Nat)
      [Value.agg
      #[Value.int IntKind.i64 (wideHi (sumT a_7.l)),
      Value.int IntKind.u64 (wideLo (sumT a_7.l))],
      Value.int IntKind.i64 (opAt os a_7.i).n]
      a_7.m
      (Value.agg
      #[Value.int IntKind.i64 n, Value.int IntKind.u64 n_13]) ∧
      ifB
      (!(wideHi
      (sumT
      (List.take a_7.k
      (doT a_7.l (opAt os a_7.i)).fst)) ==
      n &&
      (wideLo
      (sumT
      (List.take a_7.k
      (doT a_7.l (opAt os a_7.i)).fst)) ==
      n_13 &&
      true)))
      (Done (Value.bool false = Value.bool true))
      (∃ (a' : WbX),
      (WbI l os ao { π := m.π, sz := N, uf := m.uf : M } a' ∧
      a_7.m = a'.m ∧
      ((SV.val
      (Value.int IntKind.i64
      (IntKind.i64.wrap
      ((↑a_7.i : Int) + (1 : Int)))) =
      SV.val (Value.int IntKind.i64 (↑a'.i : Int)) ∧
      true = true) ∧
      (SV.val (Value.slice ao os.length co) =
      SV.val (Value.slice ao os.length co) ∧
      true = true) ∧
      (SV.val
      (Value.slice a_7.x
      (doT a_7.l (opAt os a_7.i)).fst.length
      a_7.d) =
      SV.val
      (Value.slice a'.a a'.l.length a'.c) ∧
      true = true) ∧
      True) ∧
      True) ∧
      os.length - a'.i < os.length - a.i))
      (ifB
      (!(wideHi
      (sumT (List.take a_7.k (doT a_7.l (opAt os a_7.i)).fst)) ==
      wideHi (sumT a_7.l) &&
      (wideLo
      (sumT
      (List.take a_7.k (doT a_7.l (opAt os a_7.i)).fst)) ==
      wideLo (sumT a_7.l) &&
      true)))
      (Done (Value.bool false = Value.bool true))
      (∃ (a' : WbX),
      (WbI l os ao { π := m.π, sz := N, uf := m.uf : M } a' ∧
      a_7.m = a'.m ∧
      ((SV.val
      (Value.int IntKind.i64
      (IntKind.i64.wrap
      ((↑a_7.i : Int) + (1 : Int)))) =
      SV.val (Value.int IntKind.i64 (↑a'.i : Int)) ∧
      true = true) ∧
      (SV.val (Value.slice ao os.length co) =
      SV.val (Value.slice ao os.length co) ∧
      true = true) ∧
      (SV.val
      (Value.slice a_7.x
      (doT a_7.l (opAt os a_7.i)).fst.length
      a_7.d) =
      SV.val (Value.slice a'.a a'.l.length a'.c) ∧
      true = true) ∧
      True) ∧
      True) ∧
      os.length - a'.i < os.length - a.i)))
      (ifB
      (!(wideHi (sumT (List.take a_7.k (doT a_7.l (opAt os a_7.i)).fst)) ==
      wideHi (sumT a_7.l) &&
      (wideLo
      (sumT (List.take a_7.k (doT a_7.l (opAt os a_7.i)).fst)) ==
      wideLo (sumT a_7.l) &&
      true)))
      (Done (Value.bool false = Value.bool true))
      (∃ (a' : WbX),
      (WbI l os ao { π := m.π, sz := N, uf := m.uf : M } a' ∧
      a_7.m = a'.m ∧
      ((SV.val
      (Value.int IntKind.i64
      (IntKind.i64.wrap ((↑a_7.i : Int) + (1 : Int)))) =
      SV.val (Value.int IntKind.i64 (↑a'.i : Int)) ∧
      true = true) ∧
      (SV.val (Value.slice ao os.length co) =
      SV.val (Value.slice ao os.length co) ∧
      true = true) ∧
      (SV.val
      (Value.slice a_7.x
      (doT a_7.l (opAt os a_7.i)).fst.length
      a_7.d) =
      SV.val (Value.slice a'.a a'.l.length a'.c) ∧
      true = true) ∧
      True) ∧
      True) ∧
      os.length - a'.i < os.length - a.i))))))
      (Done (Value.bool true = Value.bool true))))) (by kernel_rfl) ?_
  refine ⟨rfl, _, wawake_q _, ifB_false ⟨_, rtright_q a cp l (by omega) _ (h.sz hN), ?_⟩⟩
  cases ht : totB none l
  · exact ifB_true ⟨_, wcheck_q a cp l (by omega) _ (h.sz hN), ⟨by rw [ht]; rfl⟩⟩
  refine ifB_false ⟨⟨⟨0, 0, l, a, cp, none, 0, _⟩, ⟨Nat.zero_le _, ht, hl, by simp, h.sz hN, ho.sz hN⟩, rfl, by simp⟩, fun y Y => ifB_intro (fun hb => ?_) (fun hb => ⟨rfl⟩)⟩
  have hi : y.i < os.length := by simpa using hb
  have ho1 : opAt os y.i = os[y.i] := by simp [opAt, List.getElem?_eq_getElem hi]
  have hof : ∀ j, (opAt os j).wf := fun j => by
    by_cases hj : j < os.length
    · rw [show opAt os j = os[j] by simp [opAt, List.getElem?_eq_getElem hj]]; exact hos _ (List.getElem_mem hj)
    · rw [show opAt os j = o5 by simp [opAt, List.getElem?_eq_none (Nat.le_of_not_lt hj)]]
      exact ⟨by decide, by decide, by decide, by decide, by decide, by decide⟩
  have hlen := Y.len
  obtain ⟨b, o, rfl, hc⟩ := Y.ops.cells (by rw [oq_len]; omega)
  refine ⟨b, o, rfl, by omega, os[y.i].kd, os[y.i].ky, os[y.i].ot, os[y.i].n, os[y.i].lo, os[y.i].hi, by simpa using oq_at hc hi, ?_⟩
  rw [← ho1]
  have R : Rs y.m [(y.a, tts y.l), (some ⟨b, o, none⟩, oqs os)] := ⟨Y.row, Y.ops, trivial⟩
  refine ⟨_, noS, fun N1 hN1 => (wdo_s y.a y.c y.l (opAt os y.i) (by omega) Y.wf (hof _) _ ((R.sz hN1).1)).monoW fun v1 m1 ag1 q1 => ?_⟩
  obtain ⟨x1, d1, e1, r1⟩ := q1
  have R1 := Rs.cons r1 (Rs.step R hN1 ag1)
  have P := do_p Y.right Y.wf (hof y.i)
  have dl := do_len y.l (opAt os y.i)
  refine ⟨_, _, _, _, _, _, _, e1, ⟨_, wcheck_q _ _ _ (by omega) _ R1.1, ?_⟩, fun z ⟨Z, Zc⟩ => ⟨_, _, of0 _, _, _, of0 _, ⟨{ z with k := 0 }, ⟨⟨Z.k _, Nat.zero_le _⟩, rfl, by simp, ⟨rfl, rfl⟩, ⟨rfl, rfl⟩, ⟨by simp [sumT, sumI], rfl⟩, ⟨rfl, rfl⟩, trivial⟩, Zc⟩, fun z ⟨⟨Z, Zk⟩, Zc⟩ => ifB_intro (fun hb => ?_) (fun hb => ⟨?_, fun z ⟨⟨Z, Zk⟩, Zc⟩ => ifB_intro (fun hb => ?_) (fun hb => ?_)⟩)⟩⟩
  · rw [P.right]
    have hx : WbJ l os (some ⟨b, o, none⟩) { m with sz := N } ⟨y.i, 0, y.l, y.a, y.c, x1, d1, m1⟩ (opAt os y.i) := ⟨⟨Y.i, Y.right, Y.wf, Y.len, R1.2.1, R1.2.2.1⟩, hi, by simp [ho1, List.getElem?_eq_getElem hi], R1.1⟩
    refine ifB_false (ifB_intro (fun h1 => ?_) (fun h1 => ⟨⟨y.i, 0, y.l, y.a, y.c, x1, d1, m1⟩, ⟨hx, rfl, by simp, ⟨rfl, rfl⟩, ⟨rfl, rfl⟩, trivial⟩, rfl⟩))
    have he := P.err (by simpa using h1)
    have hpl := tt_plain x1 y.a d1 y.c (doT y.l (opAt os y.i)).1 y.l (by omega) m1 R1.1 R1.2.1
    rw [decide_eq_true he] at hpl
    exact ⟨_, hpl, ifB_false ⟨⟨y.i, 0, y.l, y.a, y.c, x1, d1, m1⟩, ⟨hx, rfl, by simp, ⟨rfl, rfl⟩, ⟨rfl, rfl⟩, trivial⟩, rfl⟩⟩
  · have hk : z.k < z.l.length := by simpa using hb
    obtain ⟨b2, o2, e2, hc2⟩ := Z.i.row.cells (by rw [tt_len]; omega)
    have w1 : IntKind.i64.wrap ((z.k : Int) + 1) = ((z.k + 1 : Nat) : Int) := by have := Z.i.len; have := Z.i.i; simp [IntKind.wrap_i64]; omega
    have c3 := CellsAt.field tt_k hc2 hk (p := [.string z.l[z.k].ky, I z.l[z.k].sp_lo, I z.l[z.k].sp_hi]) (old := [I z.l[z.k].va]) (q := []) rfl
    have hv := (Z.i.wf _ (List.getElem_mem hk)).2.2.2
    refine ⟨rfl, b2, o2, e2, by omega, _, by simpa using c3, _, _, plus_q _ _ hv _, ⟨{ z with k := z.k + 1 }, ⟨⟨⟨Z.k _, hk⟩, rfl, by simp [w1], ⟨rfl, rfl⟩, ⟨rfl, rfl⟩, ⟨?_, rfl⟩, ⟨rfl, rfl⟩, trivial⟩, Zc⟩, by simp only; omega⟩⟩
    simp only [sumT_take hk]
  · have hk : z.k = z.l.length := by simp at hb; omega
    refine ⟨{ z with k := 0 }, ⟨⟨Z.k _, Nat.zero_le _⟩, rfl, by simp, ⟨rfl, rfl⟩, ⟨rfl, rfl⟩, ⟨by simp [hk], rfl⟩, ⟨by simp [sumT, sumI], rfl⟩, trivial⟩, Zc⟩
  · have hk : z.k < (doT z.l (opAt os z.i)).1.length := by simpa using hb
    obtain ⟨b2, o2, e2, hc2⟩ := Z.x.cells (by rw [tt_len]; omega)
    have P := do_p Z.i.right Z.i.wf (hof z.i)
    have dl := do_len z.l (opAt os z.i)
    have zl := Z.i.len
    have w1 : IntKind.i64.wrap ((z.k : Int) + 1) = ((z.k + 1 : Nat) : Int) := by have := Z.i.i; simp [IntKind.wrap_i64]; omega
    have hm := (tot_mem P.right _ (List.getElem_mem hk)).2
    have hv := (P.wf _ (List.getElem_mem hk)).2.2.2
    generalize hx : (doT z.l (opAt os z.i)).1[z.k] = x at *
    have c0 := CellsAt.field tt_k hc2 hk (p := [.string x.ky]) (old := [I x.sp_lo]) (q := [I x.sp_hi, I x.va]) (by rw [hx]; rfl)
    have c1 := CellsAt.field tt_k hc2 hk (p := [.string x.ky, I x.sp_lo]) (old := [I x.sp_hi]) (q := [I x.va]) (by rw [hx]; rfl)
    have c3 := CellsAt.field tt_k hc2 hk (p := [.string x.ky, I x.sp_lo, I x.sp_hi]) (old := [I x.va]) (q := []) (by rw [hx]; rfl)
    have hh : x.sp_lo ≤ x.va ∧ x.va ≤ x.sp_hi := by simp [tmayB, hasT] at hm; omega
    refine ⟨rfl, b2, o2, e2, by omega, _, by simpa using c3, _, _, plus_q _ _ hv _, rfl, b2, o2, e2, by omega, _, by simpa using c3, b2, o2, e2, by omega, _, by simpa using c0, ?_⟩
    rw [show decide (x.va < x.sp_lo) = false by simp; omega]
    refine ifB_false ⟨b2, o2, e2, by omega, _, by simpa using c3, b2, o2, e2, by omega, _, by simpa using c1, ?_⟩
    rw [show decide (x.va > x.sp_hi) = false by simp; omega]
    refine ifB_false ⟨{ z with k := z.k + 1 }, ⟨⟨⟨Z.k _, hk⟩, rfl, by simp [w1], ⟨rfl, rfl⟩, ⟨rfl, rfl⟩, ⟨rfl, rfl⟩, ⟨?_, rfl⟩, trivial⟩, Zc⟩, by simp only; omega⟩
    simp only [sumT_take hk, hx]
  · have hk : z.k = (doT z.l (opAt os z.i)).1.length := by simp at hb; omega
    have P := do_p Z.i.right Z.i.wf (hof z.i)
    have dl := do_len z.l (opAt os z.i)
    have zl := Z.i.len
    have zi : z.i = y.i := by have := Z.lt; simp at Zc; omega
    have w1 : IntKind.i64.wrap ((z.i : Int) + 1) = ((z.i + 1 : Nat) : Int) := by have := Z.i.i; simp [IntKind.wrap_i64]; omega
    have inv' : WbI l os (some ⟨b, o, none⟩) { m with sz := N } ⟨z.i + 1, 0, (doT z.l (opAt os z.i)).1, z.x, z.d, none, 0, z.m⟩ := ⟨Z.lt, P.right, P.wf, by simp only; omega, Z.x, Z.i.ops⟩
    have hs := P.sum
    rw [hk, List.take_length, hs]
    have hn64 := (hof z.i).2.2.2.1
    have eqT : ∀ W V : Int, W = V → (!(wideHi W == wideHi V && (wideLo W == wideLo V && true))) = false := fun W V e => by rw [e]; simp
    by_cases he : (doT z.l (opAt os z.i)).2.er = 0
    · rw [show ((doT z.l (opAt os z.i)).2.er == 0) = true by simpa using he]
      by_cases k1 : (opAt os z.i).kd = 1
      · rw [show ((opAt os z.i).kd == 1) = true by simpa using k1, show ((opAt os z.i).kd == 2) = false by simp [k1]]
        refine ifB_true (ifB_true ⟨_, _, plus_q _ _ hn64 _, ifB_true (ifB_false ?_)⟩)
        rw [eqT _ _ (by simp [addE2, he, k1])]
        exact ifB_false ⟨_, ⟨inv', rfl, by simp [w1], trivial⟩, by simp only; omega⟩
      · rw [show ((opAt os z.i).kd == 1) = false by simpa using k1]
        by_cases k2 : (opAt os z.i).kd = 2
        · rw [show ((opAt os z.i).kd == 2) = true by simpa using k2]
          refine ifB_true (ifB_false (ifB_true (ifB_true ⟨_, _, less_q _ _ hn64 _, ?_⟩)))
          rw [eqT _ _ (by simp [addE2, he, k2]; rfl)]
          exact ifB_false ⟨_, ⟨inv', rfl, by simp [w1], trivial⟩, by simp only; omega⟩
        · rw [show ((opAt os z.i).kd == 2) = false by simpa using k2]
          refine ifB_true (ifB_false (ifB_true (ifB_false ?_)))
          rw [eqT _ _ (by simp [addE2, k1, k2])]
          exact ifB_false ⟨_, ⟨inv', rfl, by simp [w1], trivial⟩, by simp only; omega⟩
    · rw [show ((doT z.l (opAt os z.i)).2.er == 0) = false by simpa using he]
      refine ifB_false (ifB_false ?_)
      rw [eqT _ _ (by simp [addE2, he])]
      exact ifB_false ⟨_, ⟨inv', rfl, by simp [w1], trivial⟩, by simp only; omega⟩

end Go.Proofs.Ytbhlhnkjmncloaa
