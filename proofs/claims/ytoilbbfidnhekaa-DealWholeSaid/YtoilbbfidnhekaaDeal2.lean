/-
  Contracts of functions of this seat: what each hands back, and what it leaves of memory (deal2). Nothing here is trusted: Lean checks it.
-/
import Derived.Test.YtoilbbfidnhekaaDeal1
set_option linter.unusedVariables false
set_option linter.unusedSimpArgs false
namespace Go.Proofs.Ytoilbbfidnhekaa
open Go.Vc Go.RowKit
set_option maxRecDepth 100000

def d0 : Dl := ⟨0, 0, .empty, .empty, 0, 0, 0, 0⟩

def findD (l : List Dl) (c s : Int) : Dl × Bool := if booksB l && decide (0 ≤ placeD l c s) then ((l[(placeD l c s).toNat]?).getD d0, true) else (d0, false)

def newD (d : Dl) : Bool := mayB d && decide (d.mi = 0) && decide (d.th = 0) && decide (d.ft = 0)

def openD (l : List Dl) (d : Dl) : List Dl × Int :=
  if booksB l = false then ([], 21) else if newD d = false then ([], 1) else if 0 ≤ placeD l d.cl d.sq then ([], 171) else if 4 ≤ l.length then ([], 3) else (l ++ [d], 0)

def foundE (l : List Dl) (c s : Int) : Int := if booksB l = false then 21 else if placeD l c s < 0 then 60 else 0

def foundI (l : List Dl) (c s : Int) : Int := if foundE l c s = 0 then placeD l c s else 0

def atD (l : List Dl) (c s : Int) : Dl := (l[(placeD l c s).toNat]?).getD d0

def forgetD (l : List Dl) (c s : Int) : List Dl × Int :=
  if foundE l c s ≠ 0 then ([], foundE l c s) else if (atD l c s).ft = 0 then ([], 60) else (l.take (placeD l c s).toNat ++ l.drop ((placeD l c s).toNat + 1), 0)

def givenD (d : Dl) : Dl := if d.ft = 0 then { d with ft := 2 } else d

def giveD (l : List Dl) (c s : Int) : List Dl × Bool × Int :=
  if foundE l c s ≠ 0 then ([], false, foundE l c s) else (l.set (placeD l c s).toNat (givenD (atD l c s)), decide ((atD l c s).ft = 0), 0)

def wordD (is : Bool) : Int := if is then 1 else 2

def saidD (d : Dl) (mine is : Bool) : Dl :=
  if d.ft ≠ 0 ∨ (if mine then d.mi else d.th) ≠ 0 then d else
  let d := if mine then { d with mi := wordD is } else { d with th := wordD is }
  { d with ft := fateV d.mi d.th }

def sayD (l : List Dl) (c s : Int) (mine is : Bool) : List Dl × Bool × Int :=
  if foundE l c s ≠ 0 then ([], false, foundE l c s) else (l.set (placeD l c s).toNat (saidD (atD l c s) mine is), decide ((atD l c s).ft = 0 ∧ (saidD (atD l c s) mine is).ft ≠ 0), 0)

/-- a list of its own, and an Errno -/
structure LsR (m : M) (y : List Dl × Int) (v : Value) (m' : M) : Prop where
  out : ∃ a' c', v = .tuple #[.slice a' y.1.length c', I y.2] ∧ NewR m.sz (fun _ => False) m' 8 a' y.1.length c' (dls y.1)

structure LbR (m : M) (y : List Dl × Bool × Int) (v : Value) (m' : M) : Prop where
  out : ∃ a' c', v = .tuple #[.slice a' y.1.length c', .bool y.2.1, I y.2.2] ∧ NewR m.sz (fun _ => False) m' 8 a' y.1.length c' (dls y.1)

theorem ls_fail {m m' : M} {y : List Dl × Int} {e : Int} (h : y = ([], e)) : Done (LsR m y (.tuple #[.slice none 0 0, I e]) m') := ⟨by subst h; exact ⟨none, 0, rfl, .nil _⟩⟩

theorem ls_ok {m m' : M} {y : List Dl × Int} {z : List Dl} {a' : Option Addr} {len c' n : Nat} (h : y = (z, 0)) (hl : len = z.length) (hr : NewR n (fun _ => False) m' 8 a' len c' (dls z)) (hn : m.sz ≤ n) : Done (LsR m y (.tuple #[.slice a' len c', I 0]) m') := ⟨by subst h; subst hl; exact ⟨a', c', rfl, hr.lower hn⟩⟩

theorem lb_fail {m m' : M} {y : List Dl × Bool × Int} {e : Int} (h : y = ([], false, e)) : Done (LbR m y (.tuple #[.slice none 0 0, .bool false, I e]) m') := ⟨by subst h; exact ⟨none, 0, rfl, .nil _⟩⟩

theorem lb_ok {m m' : M} {y : List Dl × Bool × Int} {z : List Dl} {b : Bool} {a' : Option Addr} {len c' n : Nat} (h : y = (z, b, 0)) (hl : len = z.length) (hr : NewR n (fun _ => False) m' 8 a' len c' (dls z)) (hn : m.sz ≤ n) : Done (LbR m y (.tuple #[.slice a' len c', .bool b, I 0]) m') := ⟨by subst h; subst hl; exact ⟨a', c', rfl, hr.lower hn⟩⟩

theorem place_cases (l : List Dl) (c s : Int) : (placeD l c s = -1 ∧ ∀ d ∈ l, isD c s d = false) ∨ ∃ k, ∃ hk : k < l.length, placeD l c s = k ∧ isD c s l[k] = true ∧ ∀ d ∈ l.take k, isD c s d = false := idxF_cases _ _

theorem find_q (a : Option Addr) (cp : Nat) (l : List Dl) (c s : Int) (hn : l.length ≤ 9223372036854775807) (m : M) (h : Row m a (dls l)) : QSpec Try.prog 11 [.slice a l.length cp, I c, I s] m (.tuple #[dlv (findD l c s).1, .bool (findD l c s).2]) := by
  refine QSpec.of_vc Try.func11 (ann := fun _ => noAnn) fun n hn' => ?_
  refine vc_by (X :=
      true = true ∧
      ∃ (n_1 : Int),
      QSpec Try.prog (43 : Nat) [Value.slice a l.length cp, Value.int IntKind.i64 c, Value.int IntKind.i64 s] { π := m.π, sz := n, uf := m.uf : M } (Value.int IntKind.i64 n_1) ∧
      ifB (decide (n_1 < (0 : Int)))
      (Done
      (Value.tuple
      #[Value.agg
      #[Value.int IntKind.i64 (0 : Int), Value.int IntKind.i64 (0 : Int), Value.string { data := #[] : ByteArray }, Value.string { data := #[] : ByteArray },
      Value.int IntKind.i64 (0 : Int), Value.int IntKind.i64 (0 : Int), Value.int IntKind.i64 (0 : Int), Value.int IntKind.i64 (0 : Int)],
      Value.bool false] =
      Value.tuple
      #[Value.agg
      #[Value.int IntKind.i64 (findD l c s).fst.cl, Value.int IntKind.i64 (findD l c s).fst.sq, Value.string (findD l c s).fst.ky, Value.string (findD l c s).fst.ot,
      Value.int IntKind.i64 (findD l c s).fst.n, Value.int IntKind.i64 (findD l c s).fst.mi, Value.int IntKind.i64 (findD l c s).fst.th,
      Value.int IntKind.i64 (findD l c s).fst.ft],
      Value.bool (findD l c s).snd]))
      (∃ (n_2 : Int),
      QSpec Try.prog (16 : Nat) [Value.slice a l.length cp] { π := m.π, sz := n, uf := m.uf : M } (Value.int IntKind.i64 n_2) ∧
      ifB (n_2 != (0 : Int))
      (Done
      (Value.tuple
      #[Value.agg
      #[Value.int IntKind.i64 (0 : Int), Value.int IntKind.i64 (0 : Int), Value.string { data := #[] : ByteArray }, Value.string { data := #[] : ByteArray },
      Value.int IntKind.i64 (0 : Int), Value.int IntKind.i64 (0 : Int), Value.int IntKind.i64 (0 : Int), Value.int IntKind.i64 (0 : Int)],
      Value.bool false] =
      Value.tuple
      #[Value.agg
      #[Value.int IntKind.i64 (findD l c s).fst.cl, Value.int IntKind.i64 (findD l c s).fst.sq, Value.string (findD l c s).fst.ky,
      Value.string (findD l c s).fst.ot, Value.int IntKind.i64 (findD l c s).fst.n, Value.int IntKind.i64 (findD l c s).fst.mi,
      Value.int IntKind.i64 (findD l c s).fst.th, Value.int IntKind.i64 (findD l c s).fst.ft],
      Value.bool (findD l c s).snd]))
      (∃ (b : Nat),
      ∃ (off : Nat),
      a = some { block := b, off := off : Addr } ∧
      ((0 : Int) ≤ n_1 ∧ n_1 < (↑l.length : Int)) ∧
      ∃ (n_3 : Int),
      ∃ (n_4 : Int),
      ∃ (s_1 : ByteArray),
      ∃ (s_2 : ByteArray),
      ∃ (n_5 : Int),
      ∃ (n_6 : Int),
      ∃ (n_7 : Int),
      ∃ (n_8 : Int),
      CellsAt { π := m.π, sz := n, uf := m.uf : M } b (off + n_1.toNat * (8 : Nat))
      [Value.int IntKind.i64 n_3, Value.int IntKind.i64 n_4, Value.string s_1, Value.string s_2, Value.int IntKind.i64 n_5,
      Value.int IntKind.i64 n_6, Value.int IntKind.i64 n_7, Value.int IntKind.i64 n_8] ∧
      Done
      (Value.tuple
      #[Value.agg
      #[Value.int IntKind.i64 n_3, Value.int IntKind.i64 n_4, Value.string s_1, Value.string s_2, Value.int IntKind.i64 n_5,
      Value.int IntKind.i64 n_6, Value.int IntKind.i64 n_7, Value.int IntKind.i64 n_8],
      Value.bool true] =
      Value.tuple
      #[Value.agg
      #[Value.int IntKind.i64 (findD l c s).fst.cl, Value.int IntKind.i64 (findD l c s).fst.sq, Value.string (findD l c s).fst.ky,
      Value.string (findD l c s).fst.ot, Value.int IntKind.i64 (findD l c s).fst.n, Value.int IntKind.i64 (findD l c s).fst.mi,
      Value.int IntKind.i64 (findD l c s).fst.th, Value.int IntKind.i64 (findD l c s).fst.ft],
      Value.bool (findD l c s).snd])))) (by kernel_rfl) ?_
  have h' := h.sz hn'
  refine ⟨rfl, _, place_q a cp l c s hn _ h', ?_⟩
  rcases place_cases l c s with ⟨e, -⟩ | ⟨k, hk, e, -, -⟩
  · rw [e]
    exact ifB_true ⟨by simp [findD, e, d0]; rfl⟩
  · rw [e]
    refine ifB_intro (fun hb => by simp at hb; omega) (fun _ => ⟨_, check_q a cp l hn _ h', ?_⟩)
    cases hb : booksB l
    · exact ifB_true ⟨by simp [findD, hb, d0]; rfl⟩
    · obtain ⟨b, o, rfl, hc⟩ := h'.cells (by rw [dl_len]; omega)
      refine ifB_false ⟨b, o, rfl, by omega, _, _, _, _, _, _, _, _, by simpa using dl_at hc hk, ⟨?_⟩⟩
      simp [findD, hb, e, List.getElem?_eq_getElem hk]

theorem found_q (a : Option Addr) (cp : Nat) (l : List Dl) (c s : Int) (hn : l.length ≤ 9223372036854775807) (m : M) (h : Row m a (dls l)) : QSpec Try.prog 46 [.slice a l.length cp, I c, I s] m (.tuple #[I (foundI l c s), I (foundE l c s)]) := by
  refine QSpec.of_vc Try.func46 (ann := fun _ => noAnn) fun n hn' => ?_
  refine vc_by (X :=
      true = true ∧
      ∃ (n_1 : Int),
      QSpec Try.prog (16 : Nat) [Value.slice a l.length cp] { π := m.π, sz := n, uf := m.uf : M } (Value.int IntKind.i64 n_1) ∧
      ifB (n_1 != (0 : Int))
      (Done
      (Value.tuple #[Value.int IntKind.i64 (0 : Int), Value.int IntKind.i64 (21 : Int)] =
      Value.tuple #[Value.int IntKind.i64 (foundI l c s), Value.int IntKind.i64 (foundE l c s)]))
      (∃ (n_2 : Int),
      QSpec Try.prog (43 : Nat) [Value.slice a l.length cp, Value.int IntKind.i64 c, Value.int IntKind.i64 s] { π := m.π, sz := n, uf := m.uf : M }
      (Value.int IntKind.i64 n_2) ∧
      ifB (decide (n_2 < (0 : Int)))
      (Done
      (Value.tuple #[Value.int IntKind.i64 (0 : Int), Value.int IntKind.i64 (60 : Int)] =
      Value.tuple #[Value.int IntKind.i64 (foundI l c s), Value.int IntKind.i64 (foundE l c s)]))
      (Done
      (Value.tuple #[Value.int IntKind.i64 n_2, Value.int IntKind.i64 (0 : Int)] =
      Value.tuple #[Value.int IntKind.i64 (foundI l c s), Value.int IntKind.i64 (foundE l c s)])))) (by kernel_rfl) ?_
  have h' := h.sz hn'
  refine ⟨rfl, _, check_q a cp l hn _ h', ?_⟩
  cases hb : booksB l
  · exact ifB_true ⟨by simp [foundI, foundE, hb]⟩
  refine ifB_false ⟨_, place_q a cp l c s hn _ h', ifB_intro (fun h1 => ⟨?_⟩) (fun h1 => ⟨?_⟩)⟩
  · simp at h1; simp [foundI, foundE, hb, h1]
  · have h1 : ¬ placeD l c s < 0 := by simpa using h1
    simp [foundI, foundE, hb, h1]

theorem found_ok {l : List Dl} {c s : Int} (h : foundE l c s = 0) : booksB l = true ∧ l.length ≤ 4 ∧ ∃ k, ∃ hk : k < l.length, placeD l c s = k ∧ foundI l c s = k ∧ isD c s l[k] = true ∧ atD l c s = l[k] := by
  have hb : booksB l = true := by
    cases hb : booksB l with
    | true => rfl
    | false => simp [foundE, hb] at h
  have h4 : l.length ≤ 4 := by simp [booksB] at hb; exact hb.1
  refine ⟨hb, h4, ?_⟩
  rcases place_cases l c s with ⟨e, -⟩ | ⟨k, hk, e, e2, -⟩
  · simp [foundE, hb, e] at h
  · exact ⟨k, hk, e, by simp [foundI, h, e], e2, by simp [atD, e, List.getElem?_eq_getElem hk]⟩

theorem dopen_s (a : Option Addr) (cp : Nat) (l : List Dl) (d : Dl) (hn : l.length ≤ 9223372036854775807) (h0 : a = none → l = []) (m : M) (h : Row m a (dls l)) : Vc.Spec Try.prog 13 [.slice a l.length cp, dlv d] m (LsR m (openD l d)) := by
  refine Vc.Spec.of_vc Try.func13 (ann := noAnn) ?_
  refine vc_by (X :=
      true = true ∧
      ∃ (n : Int),
      QSpec Try.prog (16 : Nat) [Value.slice a l.length cp] m (Value.int IntKind.i64 n) ∧
      ifB (n != (0 : Int)) (Done (LsR m (openD l d) (Value.tuple #[Value.slice none (0 : Nat) (0 : Nat), Value.int IntKind.i64 (21 : Int)]) m))
      (∃ (b : Bool),
      QSpec Try.prog (44 : Nat)
      [Value.agg
      #[Value.int IntKind.i64 d.cl, Value.int IntKind.i64 d.sq, Value.string d.ky, Value.string d.ot, Value.int IntKind.i64 d.n, Value.int IntKind.i64 d.mi,
      Value.int IntKind.i64 d.th, Value.int IntKind.i64 d.ft]]
      m (Value.bool b) ∧
      ifB (!b) (Done (LsR m (openD l d) (Value.tuple #[Value.slice none (0 : Nat) (0 : Nat), Value.int IntKind.i64 (1 : Int)]) m))
      (ifB (d.mi != (0 : Int)) (Done (LsR m (openD l d) (Value.tuple #[Value.slice none (0 : Nat) (0 : Nat), Value.int IntKind.i64 (1 : Int)]) m))
      (ifB (d.th != (0 : Int)) (Done (LsR m (openD l d) (Value.tuple #[Value.slice none (0 : Nat) (0 : Nat), Value.int IntKind.i64 (1 : Int)]) m))
      (ifB (d.ft != (0 : Int)) (Done (LsR m (openD l d) (Value.tuple #[Value.slice none (0 : Nat) (0 : Nat), Value.int IntKind.i64 (1 : Int)]) m))
      (∃ (n : Int),
      QSpec Try.prog (43 : Nat) [Value.slice a l.length cp, Value.int IntKind.i64 d.cl, Value.int IntKind.i64 d.sq] m (Value.int IntKind.i64 n) ∧
      ifB (decide (n ≥ (0 : Int))) (Done (LsR m (openD l d) (Value.tuple #[Value.slice none (0 : Nat) (0 : Nat), Value.int IntKind.i64 (171 : Int)]) m))
      (ifB (decide ((↑l.length : Int) ≥ (4 : Int)))
      (Done (LsR m (openD l d) (Value.tuple #[Value.slice none (0 : Nat) (0 : Nat), Value.int IntKind.i64 (3 : Int)]) m))
      (true = true ∧
      (∃ (S' : Nat → Prop),
      (∀ (b : Nat), S' b → m.uf b ∧ (m.sz ≤ b ∨ False)) ∧
      ∀ (n : Nat),
      m.sz ≤ n →
      SpecW Try.prog (45 : Nat) [Value.slice a l.length cp] { π := m.π, sz := n, uf := m.uf : M } S' fun (v : Value) (m' : M) =>
      ∃ (a : Option Addr),
      ∃ (n : Nat),
      ∃ (c : Nat),
      v = Value.slice a n c ∧
      MLe m m' ∧
      (true = true ∧
      ∀ (b : Nat),
      m'.sz ≤ b →
      MLe m'
      (m'.newBlock b
      [Value.int IntKind.i64 d.cl, Value.int IntKind.i64 d.sq, Value.string d.ky, Value.string d.ot,
      Value.int IntKind.i64 d.n, Value.int IntKind.i64 d.mi, Value.int IntKind.i64 d.th,
      Value.int IntKind.i64 d.ft]) ∧
      (∃ (old : List Value),
      ∃ (src : List Value),
      AppPre m.sz (fun (x : Nat) => False)
      (m'.newBlock b
      [Value.int IntKind.i64 d.cl, Value.int IntKind.i64 d.sq, Value.string d.ky, Value.string d.ot,
      Value.int IntKind.i64 d.n, Value.int IntKind.i64 d.mi, Value.int IntKind.i64 d.th,
      Value.int IntKind.i64 d.ft])
      (8 : Nat) (80 : Nat) a n c (some { block := b, off := (0 : Nat) : Addr }) (1 : Nat) old src ∧
      ∀ (a' : Option Addr) (c' : Nat) (m'_1 : M),
      AppPost Try.prog (24 : Nat)
      (m'.newBlock b
      [Value.int IntKind.i64 d.cl, Value.int IntKind.i64 d.sq, Value.string d.ky, Value.string d.ot,
      Value.int IntKind.i64 d.n, Value.int IntKind.i64 d.mi, Value.int IntKind.i64 d.th,
      Value.int IntKind.i64 d.ft])
      (8 : Nat) a n c (1 : Nat) old src a' c' m'_1 →
      Done
      (LsR m (openD l d) (Value.tuple #[Value.slice a' (n + (1 : Nat)) c', Value.int IntKind.i64 (0 : Int)])
      m'_1)) ∧
      True) ∧
      True) ∧
      (true = true ∧
      ∀ (b : Nat),
      m.sz ≤ b →
      MLe m
      (m.newBlock b
      [Value.int IntKind.i64 d.cl, Value.int IntKind.i64 d.sq, Value.string d.ky, Value.string d.ot, Value.int IntKind.i64 d.n,
      Value.int IntKind.i64 d.mi, Value.int IntKind.i64 d.th, Value.int IntKind.i64 d.ft]) ∧
      (∃ (S' : Nat → Prop),
      (∀ (b_1 : Nat),
      S' b_1 →
      (m.newBlock b
      [Value.int IntKind.i64 d.cl, Value.int IntKind.i64 d.sq, Value.string d.ky, Value.string d.ot,
      Value.int IntKind.i64 d.n, Value.int IntKind.i64 d.mi, Value.int IntKind.i64 d.th, Value.int IntKind.i64 d.ft]).uf
      b_1 ∧
      (m.sz ≤ b_1 ∨ False)) ∧
      ∀ (n : Nat),
      max m.sz (b + (1 : Nat)) ≤ n →
      SpecW Try.prog (45 : Nat) [Value.slice a l.length cp]
      { π := (m.newBlock b [Value.int IntKind.i64 d.cl, Value.int IntKind.i64 d.sq, Value.string d.ky, Value.string d.ot, Value.int IntKind.i64 d.n, Value.int IntKind.i64 d.mi, Value.int IntKind.i64 d.th, Value.int IntKind.i64 d.ft]).π, sz := n, uf := (m.newBlock b [Value.int IntKind.i64 d.cl, Value.int IntKind.i64 d.sq, Value.string d.ky, Value.string d.ot, Value.int IntKind.i64 d.n, Value.int IntKind.i64 d.mi, Value.int IntKind.i64 d.th, Value.int IntKind.i64 d.ft]).uf : M }
      S' fun (v : Value) (m' : M) =>
      ∃ (a : Option Addr),
      ∃ (n : Nat),
      ∃ (c : Nat),
      v = Value.slice a n c ∧
      MLe
      (m.newBlock b
      [Value.int IntKind.i64 d.cl, Value.int IntKind.i64 d.sq, Value.string d.ky, Value.string d.ot,
      Value.int IntKind.i64 d.n, Value.int IntKind.i64 d.mi, Value.int IntKind.i64 d.th,
      Value.int IntKind.i64 d.ft])
      m' ∧
      (∃ (old : List Value),
      ∃ (src : List Value),
      AppPre m.sz (fun (x : Nat) => False) m' (8 : Nat) (80 : Nat) a n c
      (some { block := b, off := (0 : Nat) : Addr }) (1 : Nat) old src ∧
      ∀ (a' : Option Addr) (c' : Nat) (m'_1 : M),
      AppPost Try.prog (24 : Nat) m' (8 : Nat) a n c (1 : Nat) old src a' c' m'_1 →
      Done
      (LsR m (openD l d) (Value.tuple #[Value.slice a' (n + (1 : Nat)) c', Value.int IntKind.i64 (0 : Int)])
      m'_1)) ∧
      True) ∧
      True) ∧
      True)))))))) (by kernel_rfl) ?_
  refine ⟨rfl, _, check_q a cp l hn _ h, ?_⟩
  cases hb : booksB l
  · exact ifB_true (ls_fail (by simp [openD, hb]))
  have h4 : l.length ≤ 4 := by simp [booksB] at hb; exact hb.1
  refine ifB_false ⟨_, may_q d _, ifB_intro (fun h1 => ls_fail ?_) (fun h1 => ifB_intro (fun h2 => ls_fail ?_) (fun h2 => ifB_intro (fun h3 => ls_fail ?_) (fun h3 => ifB_intro (fun h5 => ls_fail ?_) (fun h5 => ⟨_, place_q a cp l d.cl d.sq hn _ h, ifB_intro (fun h6 => ls_fail ?_) (fun h6 => ifB_intro (fun h7 => ls_fail ?_) (fun h7 => ?_))⟩))))⟩
  · simp at h1; simp [openD, hb, newD, h1]
  · simp at h2; simp [openD, hb, newD, h2]
  · simp at h3; simp [openD, hb, newD, h3]
  · simp at h5; simp [openD, hb, newD, h5]
  all_goals
    have hnw : newD d = true := by simp at h1 h2 h3 h5; simp [newD, h1, h2, h3, h5]
  · simp at h6; simp [openD, hb, hnw, h6]
  · have h6 : ¬ 0 ≤ placeD l d.cl d.sq := by simpa using h6
    have h7 : 4 ≤ l.length := by simp at h7; omega
    simp [openD, hb, hnw, h6, h7]
  have h6 : ¬ 0 ≤ placeD l d.cl d.sq := by simpa using h6
  have h7 : ¬ 4 ≤ l.length := by simp at h7; omega
  have hres : openD l d = (l ++ [d], 0) := by simp [openD, hb, hnw, h6, h7]
  have efl : dls (l ++ [d]) = dls l ++ encDl d := by simp [dls]
  have fin : ∀ (m1 : M) (b : Nat) (a1 : Option Addr) (c1 : Nat), m.sz ≤ m1.sz → CellsAt m1 b 0 (encDl d) → b < m1.sz → NewR m.sz (fun _ => False) m1 8 a1 l.length c1 (dls l) →
      ∃ old src, AppPre m.sz (fun _ => False) m1 8 80 a1 l.length c1 (some ⟨b, 0, none⟩) 1 old src ∧ ∀ a' c' m', AppPost Try.prog 24 m1 8 a1 l.length c1 1 old src a' c' m' → Done (LsR m (openD l d) (.tuple #[.slice a' (l.length + 1) c', I 0]) m') := fun m1 b a1 c1 hm hc hb1 hr => by
    refine ⟨_, _, hr.appPre (.at b 0 _ hb1 hc) rfl rfl (by omega), fun a' c' m' hp => ?_⟩
    have := hr.append hp rfl dl_zr hm
    rw [← efl] at this
    exact ls_ok (n := m.sz) (z := l ++ [d]) hres (by simp) this (Nat.le_refl _)
  refine ⟨rfl, ⟨_, noS, fun N hN => (dl_clone l a cp (by omega) h0 _ (h.sz hN)).monoW fun v m1 hag ⟨a1, c1, hv, hr⟩ => ⟨a1, _, c1, hv, MLe.ofAgree hN hag, ⟨rfl, fun b hb' => ⟨MLe.newBlock hb', fin _ b a1 c1 ?_ cellsAt_new (by simp only [M.newBlock]; omega) ((hr.lower hN).newBlock hb'), trivial⟩⟩, trivial⟩⟩, ⟨rfl, fun b hb' => ⟨MLe.newBlock hb', ⟨_, noS, fun N hN => (dl_clone l a cp (by omega) h0 _ ((h.newBlock hb').sz hN)).monoW fun v m1 hag ⟨a1, c1, hv, hr⟩ => ⟨a1, _, c1, hv, MLe.ofAgree hN hag, fin m1 b a1 c1 ?_ ?_ ?_ (hr.lower ?_), trivial⟩⟩, trivial⟩⟩, trivial⟩
  · have := hag.2.2; simp only [M.newBlock] at this ⊢; omega
  · have := hag.2.2; simp only [M.newBlock] at this hN ⊢; omega
  · refine (cellsAt_new (m := m) (b := b) (cs := encDl d)).of ?_
    exact hag.1 b (by simp only [M.newBlock] at hN ⊢; omega)
  · have := hag.2.2; simp only [M.newBlock] at this hN ⊢; omega
  · simp only [M.newBlock] at hN ⊢; omega

theorem forget_s (a : Option Addr) (cp : Nat) (l : List Dl) (c s : Int) (hn : l.length ≤ 9223372036854775807) (h0 : a = none → l = []) (m : M) (h : Row m a (dls l)) : Vc.Spec Try.prog 22 [.slice a l.length cp, I c, I s] m (LsR m (forgetD l c s)) := by
  refine Vc.Spec.of_vc Try.func22 (ann := noAnn) ?_
  refine vc_by (X :=
      true = true ∧
      ∃ (n : Int),
      ∃ (n_1 : Int),
      QSpec Try.prog (46 : Nat) [Value.slice a l.length cp, Value.int IntKind.i64 c, Value.int IntKind.i64 s] m
      (Value.tuple #[Value.int IntKind.i64 n, Value.int IntKind.i64 n_1]) ∧
      ifB (n_1 != (0 : Int)) (Done (LsR m (forgetD l c s) (Value.tuple #[Value.slice none (0 : Nat) (0 : Nat), Value.int IntKind.i64 n_1]) m))
      (∃ (b : Nat),
      ∃ (off : Nat),
      a = some { block := b, off := off : Addr } ∧
      ((0 : Int) ≤ n ∧ n < (↑l.length : Int)) ∧
      ∃ (n_2 : Int),
      CellsAt m b (off + n.toNat * (8 : Nat) + (7 : Nat)) [Value.int IntKind.i64 n_2] ∧
      ifB (n_2 == (0 : Int)) (Done (LsR m (forgetD l c s) (Value.tuple #[Value.slice none (0 : Nat) (0 : Nat), Value.int IntKind.i64 (60 : Int)]) m))
      (∃ (S' : Nat → Prop),
      (∀ (b : Nat), S' b → m.uf b ∧ (m.sz ≤ b ∨ False)) ∧
      ∀ (n_3 : Nat),
      m.sz ≤ n_3 →
      SpecW Try.prog (45 : Nat) [Value.slice a l.length cp] { π := m.π, sz := n_3, uf := m.uf : M } S' fun (v : Value) (m' : M) =>
      ∃ (a : Option Addr),
      ∃ (n_4 : Nat),
      ∃ (c_1 : Nat),
      v = Value.slice a n_4 c_1 ∧
      ∃ (S' : Nat → Prop),
      (∀ (b : Nat), S' b → m'.uf b ∧ (m.sz ≤ b ∨ False)) ∧
      ∀ (n_5 : Nat),
      m'.sz ≤ n_5 →
      SpecW Try.prog (50 : Nat)
      [Value.slice a n_4 c_1, Value.int IntKind.i64 n, Value.int IntKind.i64 (IntKind.i64.wrap (n + (1 : Int)))]
      { π := m'.π, sz := n_5, uf := m'.uf : M } S' fun (v : Value) (m' : M) =>
      ∃ (a : Option Addr),
      ∃ (n : Nat),
      ∃ (c_2 : Nat),
      v = Value.slice a n c_2 ∧
      Done (LsR m (forgetD l c s) (Value.tuple #[Value.slice a n c_2, Value.int IntKind.i64 (0 : Int)]) m')))) (by kernel_rfl) ?_
  refine ⟨rfl, _, _, found_q a cp l c s hn _ h, ifB_intro (fun h1 => ls_fail ?_) (fun h1 => ?_)⟩
  · simp at h1; simp [forgetD, h1]
  have h1 : foundE l c s = 0 := by simpa using h1
  obtain ⟨hb, h4, k, hk, e1, e2, -, e3⟩ := found_ok h1
  have hf : forgetD l c s = if l[k].ft = 0 then ([], 60) else (l.take k ++ l.drop (k + 1), 0) := by simp [forgetD, h1, e3, e1]
  rw [e2]
  simp only [Int.toNat_natCast]
  obtain ⟨b, o, rfl, hc⟩ := h.cells (by rw [dl_len]; omega)
  have w1 : IntKind.i64.wrap ((k : Int) + 1) = ((k + 1 : Nat) : Int) := by simp [IntKind.wrap_i64]; omega
  refine ⟨b, o, rfl, by omega, l[k].ft, CellsAt.field dl_k hc hk (p := [I l[k].cl, I l[k].sq, .string l[k].ky, .string l[k].ot, I l[k].n, I l[k].mi, I l[k].th]) (q := []) rfl, ifB_intro (fun h2 => ls_fail ?_) (fun h2 => ⟨_, noS, fun N hN => (dl_clone l _ cp (by omega) h0 _ (h.sz hN)).monoW fun v m1 hag ⟨a1, c1, hv, hr⟩ => ⟨a1, _, c1, hv, ?_⟩⟩)⟩
  · rw [hf]; simp at h2; simp [h2]
  have h2 : l[k].ft ≠ 0 := by simpa using h2
  have ho := hr.toOwn (by omega)
  have hlo : ∀ b' o', a1 = some ⟨b', o', none⟩ → m.sz ≤ b' := fun b' o' e => by
    rcases ho.lo e with h | h
    · simp only at h; omega
    · exact h.elim
  rw [w1]
  refine ⟨fun b' => ∃ o', a1 = some ⟨b', o', none⟩, fun b' ⟨o', e⟩ => ⟨ho.uf e, .inl (hlo b' o' e)⟩, fun N2 hN2 => (dl_delete a1 c1 l k _ (by omega) hk _ ((ho.sz hN2).re fun b' o' e => .inr ⟨o', e⟩)).mono fun v2 m2 hag2 ⟨hv2, ho2⟩ => ⟨_, _, _, hv2, ?_⟩⟩
  refine ls_ok (n := m.sz) (z := l.take k ++ l.drop (k + 1)) (by rw [hf, if_neg h2]) (by simp; omega) (.own (ho2.re fun b' o' e => .inl (hlo b' o' e))) (Nat.le_refl _)

theorem give_s (a : Option Addr) (cp : Nat) (l : List Dl) (c s : Int) (hn : l.length ≤ 9223372036854775807) (h0 : a = none → l = []) (m : M) (h : Row m a (dls l)) : Vc.Spec Try.prog 20 [.slice a l.length cp, I c, I s] m (LbR m (giveD l c s)) := by
  refine Vc.Spec.of_vc Try.func20 (ann := noAnn) ?_
  refine vc_by (X :=
      true = true ∧
      ∃ (n : Int),
      ∃ (n_1 : Int),
      QSpec Try.prog (46 : Nat) [Value.slice a l.length cp, Value.int IntKind.i64 c, Value.int IntKind.i64 s] m
      (Value.tuple #[Value.int IntKind.i64 n, Value.int IntKind.i64 n_1]) ∧
      ifB (n_1 != (0 : Int)) (Done (LbR m (giveD l c s) (Value.tuple #[Value.slice none (0 : Nat) (0 : Nat), Value.bool false, Value.int IntKind.i64 n_1]) m))
      (∃ (S' : Nat → Prop),
      (∀ (b : Nat), S' b → m.uf b ∧ (m.sz ≤ b ∨ False)) ∧
      ∀ (n_2 : Nat),
      m.sz ≤ n_2 →
      SpecW Try.prog (45 : Nat) [Value.slice a l.length cp] { π := m.π, sz := n_2, uf := m.uf : M } S' fun (v : Value) (m' : M) =>
      ∃ (a : Option Addr),
      ∃ (n_3 : Nat),
      ∃ (c_1 : Nat),
      v = Value.slice a n_3 c_1 ∧
      ∃ (b : Nat),
      ∃ (off : Nat),
      a = some { block := b, off := off : Addr } ∧
      ((0 : Int) ≤ n ∧ n < (↑n_3 : Int)) ∧
      ∃ (n_4 : Int),
      CellsAt m' b (off + n.toNat * (8 : Nat) + (7 : Nat)) [Value.int IntKind.i64 n_4] ∧
      ifB (n_4 == (0 : Int))
      (∃ (b : Nat),
      ∃ (off : Nat),
      a = some { block := b, off := off : Addr } ∧
      ((0 : Int) ≤ n ∧ n < (↑n_3 : Int)) ∧
      Wr m.sz (fun (x : Nat) => False) m' b (off + n.toNat * (8 : Nat) + (7 : Nat)) (1 : Nat) ∧
      Done
      (LbR m (giveD l c s) (Value.tuple #[Value.slice a n_3 c_1, Value.bool (n_4 == (0 : Int)), Value.int IntKind.i64 (0 : Int)])
      (m'.setCells b (off + n.toNat * (8 : Nat) + (7 : Nat)) [Value.int IntKind.i64 (2 : Int)])))
      (Done (LbR m (giveD l c s) (Value.tuple #[Value.slice a n_3 c_1, Value.bool (n_4 == (0 : Int)), Value.int IntKind.i64 (0 : Int)]) m')))) (by kernel_rfl) ?_
  refine ⟨rfl, _, _, found_q a cp l c s hn _ h, ifB_intro (fun h1 => lb_fail ?_) (fun h1 => ?_)⟩
  · simp at h1; simp [giveD, h1]
  have h1 : foundE l c s = 0 := by simpa using h1
  obtain ⟨hb, h4, k, hk, e1, e2, -, e3⟩ := found_ok h1
  have hf : giveD l c s = (l.set k (givenD l[k]), decide (l[k].ft = 0), 0) := by simp [giveD, h1, e3, e1]
  rw [e2]
  refine ⟨_, noS, fun N hN => (dl_clone l _ cp (by omega) h0 _ (h.sz hN)).monoW fun v m1 hag ⟨a1, c1, hv, hr⟩ => ⟨a1, _, c1, hv, ?_⟩⟩
  simp only [Int.toNat_natCast]
  have ho := (hr.toOwn (by omega)).lower hN
  obtain ⟨b, o, rfl, hc⟩ := ho.row.cells (by rw [dl_len]; omega)
  refine ⟨b, o, rfl, by omega, l[k].ft, CellsAt.field dl_k hc hk (p := [I l[k].cl, I l[k].sq, .string l[k].ky, .string l[k].ot, I l[k].n, I l[k].mi, I l[k].th]) (q := []) rfl, ifB_intro (fun h2 => ?_) (fun h2 => ?_)⟩
  · have h2 : l[k].ft = 0 := by simpa using h2
    obtain ⟨g1, g2⟩ := OwnB.setField dl_k ho hk { l[k] with ft := 2 } (p := [I l[k].cl, I l[k].sq, .string l[k].ky, .string l[k].ot, I l[k].n, I l[k].mi, I l[k].th]) (old := [I l[k].ft]) (new := [I 2]) (q := []) rfl rfl rfl
    refine ⟨b, o, rfl, by omega, g1, lb_ok (n := m.sz) (z := l.set k (givenD l[k])) ?_ (by simp) (.own ?_) (Nat.le_refl _)⟩
    · rw [hf]; simp [h2]
    · rw [show givenD l[k] = { l[k] with ft := 2 } by simp [givenD, h2]]
      exact g2
  · have h2 : l[k].ft ≠ 0 := by simpa using h2
    have hg : l.set k (givenD l[k]) = l := by rw [show givenD l[k] = l[k] by simp [givenD, h2]]; exact List.set_getElem_self hk
    refine lb_ok (n := m.sz) (z := l.set k (givenD l[k])) ?_ (by simp) (.own ?_) (Nat.le_refl _)
    · rw [hf]; simp [h2]
    · rw [hg]; exact ho

theorem say_s (b o : Nat) (w : Int) (is : Bool) (S : Nat → Prop) (m : M) (hS : S b) (hu : m.uf b) (hc : CellsAt m b o [I w]) : SpecW Try.prog 47 [.pointer (some ⟨b, o, none⟩), .bool is] m S fun v m' => v = .bool (decide (w = 0)) ∧ m' = if w = 0 then m.setCells b o [I (wordD is)] else m := by
  refine SpecW.of_vc Try.func47 (ann := noAnn) ?_
  refine vc_by (X :=
      true = true ∧
      ∃ (n : Int),
      CellsAt m b o [Value.int IntKind.i64 n] ∧
      ifB (n != (0 : Int)) (Done (Value.bool false = Value.bool (decide (w = (0 : Int))) ∧ m = if w = (0 : Int) then m.setCells b o [Value.int IntKind.i64 (wordD is)] else m))
      (Wr m.sz S m b o (1 : Nat) ∧
      ifB is
      (Wr m.sz S (m.setCells b o [Value.int IntKind.i64 (2 : Int)]) b o (1 : Nat) ∧
      Done
      (Value.bool true = Value.bool (decide (w = (0 : Int))) ∧
      (m.setCells b o [Value.int IntKind.i64 (2 : Int)]).setCells b o [Value.int IntKind.i64 (1 : Int)] =
      if w = (0 : Int) then m.setCells b o [Value.int IntKind.i64 (wordD is)] else m))
      (Done
      (Value.bool true = Value.bool (decide (w = (0 : Int))) ∧
      m.setCells b o [Value.int IntKind.i64 (2 : Int)] = if w = (0 : Int) then m.setCells b o [Value.int IntKind.i64 (wordD is)] else m)))) (by kernel_rfl) ?_
  have hw : Wr m.sz S m b o 1 := ⟨.inr hS, hu, fun j hj => by
    have e : j = 0 := by omega
    subst e
    exact ⟨I w, by have := hc.out 0 (by simp); simpa using this⟩⟩
  have hw2 : Wr m.sz S (m.setCells b o [I 2]) b o 1 := ⟨.inr hS, hu, fun j hj => by
    have e : j = 0 := by omega
    subst e
    exact ⟨I 2, by have := (setCells_in (m := m) (b := b) (o := o) (cs := [I 2])).out 0 (by simp); simpa using this⟩⟩
  refine ⟨rfl, w, hc, ifB_intro (fun h1 => ⟨?_⟩) (fun h1 => ⟨hw, ifB_intro (fun h2 => ⟨hw2, ⟨?_⟩⟩) (fun h2 => ⟨?_⟩)⟩)⟩
  · have h1 : w ≠ 0 := by simpa using h1
    simp [h1]
  · have h1 : w = 0 := by simpa using h1
    subst h2
    simp [h1, setCells_twice, wordD]
  · have h1 : w = 0 := by simpa using h1
    subst h2
    simp [h1, wordD]

theorem saying_s (a : Option Addr) (cp : Nat) (l : List Dl) (c s : Int) (mine is : Bool) (hn : l.length ≤ 9223372036854775807) (h0 : a = none → l = []) (m : M) (h : Row m a (dls l)) : Vc.Spec Try.prog 18 [.slice a l.length cp, I c, I s, .bool mine, .bool is] m (LbR m (sayD l c s mine is)) := by
  refine Vc.Spec.of_vc Try.func18 (ann := noAnn) ?_
  refine vc_by (X :=
      true = true ∧
      ∃ (n : Int),
      ∃ (n_1 : Int),
      QSpec Try.prog (46 : Nat) [Value.slice a l.length cp, Value.int IntKind.i64 c, Value.int IntKind.i64 s] m
      (Value.tuple #[Value.int IntKind.i64 n, Value.int IntKind.i64 n_1]) ∧
      ifB (n_1 != (0 : Int)) (Done (LbR m (sayD l c s mine is) (Value.tuple #[Value.slice none (0 : Nat) (0 : Nat), Value.bool false, Value.int IntKind.i64 n_1]) m))
      (∃ (S' : Nat → Prop),
      (∀ (b : Nat), S' b → m.uf b ∧ (m.sz ≤ b ∨ False)) ∧
      ∀ (n_2 : Nat),
      m.sz ≤ n_2 →
      SpecW Try.prog (45 : Nat) [Value.slice a l.length cp] { π := m.π, sz := n_2, uf := m.uf : M } S' fun (v : Value) (m' : M) =>
      ∃ (a : Option Addr),
      ∃ (n_3 : Nat),
      ∃ (c_1 : Nat),
      v = Value.slice a n_3 c_1 ∧
      ∃ (b : Nat),
      ∃ (off : Nat),
      a = some { block := b, off := off : Addr } ∧
      ((0 : Int) ≤ n ∧ n < (↑n_3 : Int)) ∧
      ifB mine
      (∃ (n_4 : Int),
      CellsAt m' b (off + n.toNat * (8 : Nat) + (7 : Nat)) [Value.int IntKind.i64 n_4] ∧
      ifB (n_4 != (0 : Int))
      (Done (LbR m (sayD l c s mine is) (Value.tuple #[Value.slice a n_3 c_1, Value.bool false, Value.int IntKind.i64 (0 : Int)]) m'))
      (∃ (S' : Nat → Prop),
      (∀ (b : Nat), S' b → m'.uf b ∧ (m.sz ≤ b ∨ False)) ∧
      ∀ (n_5 : Nat),
      m'.sz ≤ n_5 →
      SpecW Try.prog (47 : Nat)
      [Value.pointer (some { block := b, off := off + n.toNat * (8 : Nat) + (5 : Nat) : Addr }), Value.bool is]
      { π := m'.π, sz := n_5, uf := m'.uf : M } S' fun (v : Value) (m' : M) =>
      ∃ (b_1 : Bool),
      v = Value.bool b_1 ∧
      ifB (!b_1)
      (Done
      (LbR m (sayD l c s mine is) (Value.tuple #[Value.slice a n_3 c_1, Value.bool false, Value.int IntKind.i64 (0 : Int)])
      m'))
      (true = true ∧
      ∃ (n_6 : Int),
      CellsAt m' b (off + n.toNat * (8 : Nat) + (5 : Nat)) [Value.int IntKind.i64 n_6] ∧
      ∃ (n_7 : Int),
      CellsAt m' b (off + n.toNat * (8 : Nat) + (6 : Nat)) [Value.int IntKind.i64 n_7] ∧
      ∃ (n_8 : Int),
      QSpec Try.prog (48 : Nat) [Value.int IntKind.i64 n_6, Value.int IntKind.i64 n_7] m'
      (Value.int IntKind.i64 n_8) ∧
      (Wr m.sz (fun (x : Nat) => False) m' b (off + n.toNat * (8 : Nat) + (7 : Nat))
      #[Value.int IntKind.i64 n_8].size ∧
      true = true ∧
      ∃ (n_9 : Int),
      CellsAt (m'.setCells b (off + n.toNat * (8 : Nat) + (7 : Nat)) [Value.int IntKind.i64 n_8]) b
      (off + n.toNat * (8 : Nat) + (7 : Nat)) [Value.int IntKind.i64 n_9] ∧
      Done
      (LbR m (sayD l c s mine is)
      (Value.tuple
      #[Value.slice a n_3 c_1, Value.bool (n_9 != (0 : Int)), Value.int IntKind.i64 (0 : Int)])
      (m'.setCells b (off + n.toNat * (8 : Nat) + (7 : Nat)) [Value.int IntKind.i64 n_8]))) ∧
      True)))
      (∃ (n_4 : Int),
      CellsAt m' b (off + n.toNat * (8 : Nat) + (7 : Nat)) [Value.int IntKind.i64 n_4] ∧
      ifB (n_4 != (0 : Int))
      (Done (LbR m (sayD l c s mine is) (Value.tuple #[Value.slice a n_3 c_1, Value.bool false, Value.int IntKind.i64 (0 : Int)]) m'))
      (∃ (S' : Nat → Prop),
      (∀ (b : Nat), S' b → m'.uf b ∧ (m.sz ≤ b ∨ False)) ∧
      ∀ (n_5 : Nat),
      m'.sz ≤ n_5 →
      SpecW Try.prog (47 : Nat)
      [Value.pointer (some { block := b, off := off + n.toNat * (8 : Nat) + (6 : Nat) : Addr }), Value.bool is]
      { π := m'.π, sz := n_5, uf := m'.uf : M } S' fun (v : Value) (m' : M) =>
      ∃ (b_1 : Bool),
      v = Value.bool b_1 ∧
      ifB (!b_1)
      (Done
      (LbR m (sayD l c s mine is) (Value.tuple #[Value.slice a n_3 c_1, Value.bool false, Value.int IntKind.i64 (0 : Int)])
      m'))
      (true = true ∧
      ∃ (n_6 : Int),
      CellsAt m' b (off + n.toNat * (8 : Nat) + (5 : Nat)) [Value.int IntKind.i64 n_6] ∧
      ∃ (n_7 : Int),
      CellsAt m' b (off + n.toNat * (8 : Nat) + (6 : Nat)) [Value.int IntKind.i64 n_7] ∧
      ∃ (n_8 : Int),
      QSpec Try.prog (48 : Nat) [Value.int IntKind.i64 n_6, Value.int IntKind.i64 n_7] m'
      (Value.int IntKind.i64 n_8) ∧
      (Wr m.sz (fun (x : Nat) => False) m' b (off + n.toNat * (8 : Nat) + (7 : Nat))
      #[Value.int IntKind.i64 n_8].size ∧
      true = true ∧
      ∃ (n_9 : Int),
      CellsAt (m'.setCells b (off + n.toNat * (8 : Nat) + (7 : Nat)) [Value.int IntKind.i64 n_8]) b
      (off + n.toNat * (8 : Nat) + (7 : Nat)) [Value.int IntKind.i64 n_9] ∧
      Done
      (LbR m (sayD l c s mine is)
      (Value.tuple
      #[Value.slice a n_3 c_1, Value.bool (n_9 != (0 : Int)), Value.int IntKind.i64 (0 : Int)])
      (m'.setCells b (off + n.toNat * (8 : Nat) + (7 : Nat)) [Value.int IntKind.i64 n_8]))) ∧
      True))))) (by kernel_rfl) ?_
  refine ⟨rfl, _, _, found_q a cp l c s hn _ h, ifB_intro (fun h1 => lb_fail ?_) (fun h1 => ?_)⟩
  · simp at h1; simp [sayD, h1]
  have h1 : foundE l c s = 0 := by simpa using h1
  obtain ⟨hb, h4, k, hk, e1, e2, -, e3⟩ := found_ok h1
  have hf : sayD l c s mine is = (l.set k (saidD l[k] mine is), decide (l[k].ft = 0 ∧ (saidD l[k] mine is).ft ≠ 0), 0) := by simp [sayD, h1, e3, e1]
  rw [e2]
  refine ⟨_, noS, fun N hN => (dl_clone l _ cp (by omega) h0 _ (h.sz hN)).monoW fun v m1 hag ⟨a1, c1, hv, hr⟩ => ⟨a1, _, c1, hv, ?_⟩⟩
  simp only [Int.toNat_natCast]
  have ho := (hr.toOwn (by omega)).lower hN
  obtain ⟨b, o, rfl, hc⟩ := ho.row.cells (by rw [dl_len]; omega)
  refine ⟨b, o, rfl, by omega, ?_⟩
  cases mine
  · refine ifB_false ?_
    have c7 := CellsAt.field dl_k hc hk (p := [I l[k].cl, I l[k].sq, .string l[k].ky, .string l[k].ot, I l[k].n, I l[k].mi, I l[k].th]) (old := [I l[k].ft]) (q := []) rfl
    have cw := CellsAt.field dl_k hc hk (p := [I l[k].cl, I l[k].sq, .string l[k].ky, .string l[k].ot, I l[k].n, I l[k].mi]) (old := [I l[k].th]) (q := [I l[k].ft]) rfl
    refine ⟨l[k].ft, c7, ifB_intro (fun h2 => ?_) (fun h2 => ?_)⟩
    · have h2 : l[k].ft ≠ 0 := by simpa using h2
      have hs : saidD l[k] false is = l[k] := by simp [saidD, h2]
      refine lb_ok (n := m.sz) (z := l.set k (saidD l[k] false is)) (by rw [hf]; simp [h2]) (by simp) (.own ?_) (Nat.le_refl _)
      rw [hs, List.set_getElem_self hk]; exact ho
    have h2 : l[k].ft = 0 := by simpa using h2
    refine ⟨fun b' => b' = b, fun b' e => by subst e; exact ⟨ho.uf rfl, .inl (by rcases ho.lo rfl with h | h; exact h; exact h.elim)⟩, fun N2 hN2 => (say_s b (o + k * 8 + 6) l[k].th is (fun b' => b' = b) { m1 with sz := N2 } rfl (ho.uf rfl) ⟨cw.out⟩).mono fun v2 m2 hag2 ⟨hv2, hm2⟩ => ⟨_, hv2, ?_⟩⟩
    by_cases hw : l[k].th = 0
    rotate_left
    · rw [if_neg hw] at hm2
      subst hm2
      have hs : saidD l[k] false is = l[k] := by simp [saidD, hw]
      rw [show (decide (l[k].th = 0)) = false by simpa using hw]
      refine ifB_true (lb_ok (n := m.sz) (z := l.set k (saidD l[k] false is)) (by rw [hf, hs]; simp) (by simp) (.own ?_) (Nat.le_refl _))
      rw [hs, List.set_getElem_self hk]; exact ho.sz hN2
    rw [if_pos hw] at hm2
    subst hm2
    rw [show (decide (l[k].th = 0)) = true by simpa using hw]
    obtain ⟨g1, g2⟩ := OwnB.setField dl_k (ho.sz hN2) hk { l[k] with th := wordD is } (p := [I l[k].cl, I l[k].sq, .string l[k].ky, .string l[k].ot, I l[k].n, I l[k].mi]) (old := [I l[k].th]) (new := [I (wordD is)]) (q := [I l[k].ft]) rfl rfl rfl
    have hk2 : k < (l.set k { l[k] with th := wordD is }).length := by simpa using hk
    have hel : (l.set k { l[k] with th := wordD is })[k] = { l[k] with th := wordD is } := List.getElem_set_self _
    obtain ⟨b3, o3, e3', hc3⟩ := g2.row.cells (by rw [flat_len dl_k]; simp; omega)
    cases e3'
    have c5 := CellsAt.field dl_k hc3 hk2 (p := [I l[k].cl, I l[k].sq, .string l[k].ky, .string l[k].ot, I l[k].n]) (old := [I l[k].mi]) (q := [I (wordD is), I l[k].ft]) (by rw [hel]; rfl)
    have c6 := CellsAt.field dl_k hc3 hk2 (p := [I l[k].cl, I l[k].sq, .string l[k].ky, .string l[k].ot, I l[k].n, I l[k].mi]) (old := [I (wordD is)]) (q := [I l[k].ft]) (by rw [hel]; rfl)
    obtain ⟨g3, g4⟩ := OwnB.setField dl_k g2 hk2 { l[k] with th := wordD is, ft := fateV l[k].mi (wordD is) } (p := [I l[k].cl, I l[k].sq, .string l[k].ky, .string l[k].ot, I l[k].n, I l[k].mi, I (wordD is)]) (old := [I l[k].ft]) (new := [I (fateV l[k].mi (wordD is))]) (q := []) (by rw [hel]; rfl) rfl rfl
    have hs : saidD l[k] false is = { l[k] with th := wordD is, ft := fateV l[k].mi (wordD is) } := by simp [saidD, h2, hw]
    refine ifB_false ⟨trivial, _, c5, _, c6, _, fate_q _ _ _, ⟨g3, trivial, _, setCells_in, lb_ok (n := m.sz) (z := l.set k (saidD l[k] false is)) ?_ (by simp) (.own ?_) (Nat.le_refl _)⟩, trivial⟩
    · rw [hf, hs]; simp [h2, bne, Bool.beq_eq_decide_eq]
    · rw [hs]
      rw [List.set_set] at g4
      exact g4
  · refine ifB_true ?_
    have c7 := CellsAt.field dl_k hc hk (p := [I l[k].cl, I l[k].sq, .string l[k].ky, .string l[k].ot, I l[k].n, I l[k].mi, I l[k].th]) (old := [I l[k].ft]) (q := []) rfl
    have cw := CellsAt.field dl_k hc hk (p := [I l[k].cl, I l[k].sq, .string l[k].ky, .string l[k].ot, I l[k].n]) (old := [I l[k].mi]) (q := [I l[k].th, I l[k].ft]) rfl
    refine ⟨l[k].ft, c7, ifB_intro (fun h2 => ?_) (fun h2 => ?_)⟩
    · have h2 : l[k].ft ≠ 0 := by simpa using h2
      have hs : saidD l[k] true is = l[k] := by simp [saidD, h2]
      refine lb_ok (n := m.sz) (z := l.set k (saidD l[k] true is)) (by rw [hf]; simp [h2]) (by simp) (.own ?_) (Nat.le_refl _)
      rw [hs, List.set_getElem_self hk]; exact ho
    have h2 : l[k].ft = 0 := by simpa using h2
    refine ⟨fun b' => b' = b, fun b' e => by subst e; exact ⟨ho.uf rfl, .inl (by rcases ho.lo rfl with h | h; exact h; exact h.elim)⟩, fun N2 hN2 => (say_s b (o + k * 8 + 5) l[k].mi is (fun b' => b' = b) { m1 with sz := N2 } rfl (ho.uf rfl) ⟨cw.out⟩).mono fun v2 m2 hag2 ⟨hv2, hm2⟩ => ⟨_, hv2, ?_⟩⟩
    by_cases hw : l[k].mi = 0
    rotate_left
    · rw [if_neg hw] at hm2
      subst hm2
      have hs : saidD l[k] true is = l[k] := by simp [saidD, hw]
      rw [show (decide (l[k].mi = 0)) = false by simpa using hw]
      refine ifB_true (lb_ok (n := m.sz) (z := l.set k (saidD l[k] true is)) (by rw [hf, hs]; simp) (by simp) (.own ?_) (Nat.le_refl _))
      rw [hs, List.set_getElem_self hk]; exact ho.sz hN2
    rw [if_pos hw] at hm2
    subst hm2
    rw [show (decide (l[k].mi = 0)) = true by simpa using hw]
    obtain ⟨g1, g2⟩ := OwnB.setField dl_k (ho.sz hN2) hk { l[k] with mi := wordD is } (p := [I l[k].cl, I l[k].sq, .string l[k].ky, .string l[k].ot, I l[k].n]) (old := [I l[k].mi]) (new := [I (wordD is)]) (q := [I l[k].th, I l[k].ft]) rfl rfl rfl
    have hk2 : k < (l.set k { l[k] with mi := wordD is }).length := by simpa using hk
    have hel : (l.set k { l[k] with mi := wordD is })[k] = { l[k] with mi := wordD is } := List.getElem_set_self _
    obtain ⟨b3, o3, e3', hc3⟩ := g2.row.cells (by rw [flat_len dl_k]; simp; omega)
    cases e3'
    have c5 := CellsAt.field dl_k hc3 hk2 (p := [I l[k].cl, I l[k].sq, .string l[k].ky, .string l[k].ot, I l[k].n]) (old := [I (wordD is)]) (q := [I l[k].th, I l[k].ft]) (by rw [hel]; rfl)
    have c6 := CellsAt.field dl_k hc3 hk2 (p := [I l[k].cl, I l[k].sq, .string l[k].ky, .string l[k].ot, I l[k].n, I (wordD is)]) (old := [I l[k].th]) (q := [I l[k].ft]) (by rw [hel]; rfl)
    obtain ⟨g3, g4⟩ := OwnB.setField dl_k g2 hk2 { l[k] with mi := wordD is, ft := fateV (wordD is) l[k].th } (p := [I l[k].cl, I l[k].sq, .string l[k].ky, .string l[k].ot, I l[k].n, I (wordD is), I l[k].th]) (old := [I l[k].ft]) (new := [I (fateV (wordD is) l[k].th)]) (q := []) (by rw [hel]; rfl) rfl rfl
    have hs : saidD l[k] true is = { l[k] with mi := wordD is, ft := fateV (wordD is) l[k].th } := by simp [saidD, h2, hw]
    refine ifB_false ⟨trivial, _, c5, _, c6, _, fate_q _ _ _, ⟨g3, trivial, _, setCells_in, lb_ok (n := m.sz) (z := l.set k (saidD l[k] true is)) ?_ (by simp) (.own ?_) (Nat.le_refl _)⟩, trivial⟩
    · rw [hf, hs]; simp [h2, bne, Bool.beq_eq_decide_eq]
    · rw [hs]
      rw [List.set_set] at g4
      exact g4

end Go.Proofs.Ytoilbbfidnhekaa
