/-
  Contracts of functions of this seat: what each hands back, and what it leaves of memory (n14, opn, l_mk, l_an, ses1, bs_mk, ins_mk, ses2, ses3, ses4, ses5, ses6). Nothing here is trusted: Lean checks it.
-/
import Derived.Test.YtpfiodchlbofmaaVcLem
import Derived.Test.YtpfiodchlbofmaaVcOwned
import Derived.Test.YtpfiodchlbofmaaRows
import Derived.Test.YtpfiodchlbofmaaVcOpen
import Derived.Test.YtpfiodchlbofmaaVcOver
import Derived.Test.YtpfiodchlbofmaaVcList
set_option linter.unusedVariables false
set_option linter.unusedSimpArgs false
namespace Go.Proofs.Ytpfiodchlbofmaa
open Go.Vc Go.RowKit
set_option maxRecDepth 100000

abbrev I (n : Int) : Value := .int .i64 n

abbrev U (n : Int) : Value := .int .u64 n

abbrev sp (lo hi : Int) : Value := .agg #[.int .i64 lo, .int .i64 hi]

def In64 (n : Int) : Prop := -9223372036854775808 ≤ n ∧ n ≤ 9223372036854775807

instance (n : Int) : Decidable (In64 n) := by unfold In64; infer_instance

def InU (n : Int) : Prop := 0 ≤ n ∧ n ≤ 18446744073709551615

def addV (a b : Int) : Int := if In64 (a + b) then a + b else 0

def addE (a b : Int) : Int := if In64 (a + b) then 0 else 10

def subV (a b : Int) : Int := if In64 (a - b) then a - b else 0

def subE (a b : Int) : Int := if In64 (a - b) then 0 else 10

def hasB (lo hi v : Int) : Bool := decide (lo ≤ v) && decide (v ≤ hi)

def roomD (lo hi v : Int) : Int := if hasB lo hi v then v - lo else 0

def roomU (lo hi v : Int) : Int := if hasB lo hi v then hi - v else 0

def meetOk (a b c d : Int) : Bool := decide (a ≤ b) && (decide (c ≤ d) && decide (max a c ≤ min b d))

def meetLo (a b c d : Int) : Int := if meetOk a b c d then max a c else 0

def meetHi (a b c d : Int) : Int := if meetOk a b c d then min b d else 0

def shiftE (a b k : Int) : Int := if b < a then 1 else if In64 (a + k) ∧ In64 (b + k) then 0 else 10

def shiftLo (a b k : Int) : Int := if b < a then 0 else if In64 (a + k) ∧ In64 (b + k) then a + k else 0

def shiftHi (a b k : Int) : Int := if b < a then 0 else if In64 (a + k) ∧ In64 (b + k) then b + k else 0

def shareV (n p i : Int) : Int := if p < 1 ∨ i < 0 ∨ p ≤ i then 0 else if i < n % p then n / p + 1 else n / p

def fitV (n : Int) : Int := min n 9223372036854775807

theorem add_ok (a b : Int) : addE a b = 0 ↔ In64 (a + b) := by unfold addE; split <;> simp [*]

theorem div_facts (a b : Int) (ha : 0 ≤ a) (hb : 1 ≤ b) : 0 ≤ a / b ∧ a / b ≤ a ∧ 0 ≤ a % b ∧ a % b < b ∧ a / b * b = a - a % b ∧ a / b ≤ a - a % b := by
  have h1 := Int.ediv_nonneg ha (by omega : 0 ≤ b)
  have h2 := Int.emod_nonneg a (by omega : b ≠ 0)
  have h3 := Int.emod_lt_of_pos a (by omega : 0 < b)
  have h4 := Int.mul_ediv_add_emod a b
  have h5 := Int.ediv_le_self b ha
  have h6 : a / b * 1 ≤ a / b * b := Int.mul_le_mul_of_nonneg_left hb h1
  have h7 : a / b * b = a - a % b := by rw [Int.mul_comm]; omega
  exact ⟨h1, h5, h2, h3, h7, by omega⟩

def wideHi (W : Int) : Int := IntKind.i64.wrap (W / 18446744073709551616)

def wideLo (W : Int) : Int := W % 18446744073709551616

abbrev wide (W : Int) : Value := .agg #[I (wideHi W), U (wideLo W)]

theorem not_int (k : Int) (hk : In64 k) : IntKind.i64.wrap ((BitVec.ofInt IntKind.i64.bits (-1) ^^^ BitVec.ofInt IntKind.i64.bits k).toNat : Int) = -k - 1 := by
  have e1 : BitVec.ofInt IntKind.i64.bits (-1) = BitVec.allOnes 64 := rfl
  have e2 : (BitVec.allOnes 64 ^^^ BitVec.ofInt 64 k) = ~~~ (BitVec.ofInt 64 k) := by rw [BitVec.xor_comm]; exact BitVec.xor_allOnes
  rw [e1]
  show IntKind.i64.wrap ((BitVec.allOnes 64 ^^^ BitVec.ofInt 64 k).toNat : Int) = -k - 1
  rw [e2, BitVec.toNat_not, BitVec.toNat_ofInt]
  unfold In64 at hk
  simp [IntKind.wrap_i64]
  omega

/-- the sum of many, in order -/
def sumI (l : List Int) : Int := l.foldl (· + ·) 0

theorem foldl_add (l : List Int) (a : Int) : l.foldl (· + ·) a = a + l.foldl (· + ·) 0 := by
  induction l generalizing a with
  | nil => simp
  | cons x r ih => simp only [List.foldl_cons]; rw [ih, ih (0 + x)]; omega

theorem sumI_take (l : List Int) (k : Nat) (h : k < l.length) : sumI (l.take (k + 1)) = sumI (l.take k) + l[k] := by
  unfold sumI
  rw [List.take_succ_eq_append_getElem h, List.foldl_append]
  simp

theorem sumI_bound (l : List Int) (h : ∀ x ∈ l, In64 x) : -9223372036854775808 * (l.length : Int) ≤ sumI l ∧ sumI l ≤ 9223372036854775807 * (l.length : Int) := by
  induction l with
  | nil => simp [sumI]
  | cons x r ih =>
    have := ih (fun y hy => h y (by simp [hy]))
    have hx := h x (by simp)
    unfold In64 at hx
    have e : sumI (x :: r) = x + sumI r := by simp only [sumI, List.foldl_cons]; rw [foldl_add]; simp
    rw [e]
    simp only [List.length_cons, Int.natCast_add]
    omega

abbrev ints (l : List Int) : List Value := l.flatMap fun x => [I x]

theorem ints_len (l : List Int) : (ints l).length = l.length := by
  induction l with
  | nil => rfl
  | cons x r ih => simp only [ints, List.flatMap_cons, List.length_append, List.length_cons, List.length_nil] at *; omega

theorem ints_at {m : M} {b o i : Nat} {l : List Int} (h : CellsAt m b o (ints l)) (hi : i < l.length) : CellsAt m b (o + i) [I l[i]] := by
  have := CellsAt.elem (k := 1) (enc := fun x => [I x]) (fun _ => rfl) l o i hi h
  simpa using this

theorem row2 {m : M} {b : Nat} (a c : Int) : Row (m.newBlock b [I a, I c]) (some ⟨b, 0, none⟩) (ints [a, c]) := .at _ _ _ (by simp only [M.newBlock]; omega) cellsAt_new

theorem row1 {m : M} {b : Nat} (a : Int) : Row (m.newBlock b [I a]) (some ⟨b, 0, none⟩) (ints [a]) := .at _ _ _ (by simp only [M.newBlock]; omega) cellsAt_new

theorem ofNat63 (n : Int) : n.fdiv (2 ^ 63) = n / 9223372036854775808 := by rw [Int.fdiv_eq_ediv_of_nonneg _ (by decide)]; rfl

/-- what the first k parts have together -/
def shareS (a b : Int) (k : Nat) : Int := k * (a / b) + min (k : Int) (a % b)

theorem share_at (a b : Int) (k : Nat) (h1 : 1 ≤ b) (h2 : (k : Int) < b) : shareV a b k = a / b + (if (k : Int) < a % b then 1 else 0) := by
  have : ¬ (b < 1 ∨ (k : Int) < 0 ∨ b ≤ k) := by omega
  unfold shareV
  rw [if_neg this]
  split <;> simp

theorem share_step (a b : Int) (k : Nat) (h1 : 1 ≤ b) (h2 : (k : Int) < b) : shareS a b (k + 1) = shareS a b k + shareV a b k := by
  rw [share_at a b k h1 h2]
  unfold shareS
  push_cast
  rw [Int.add_mul, Int.one_mul]
  split <;> omega

theorem sumI_append (a b : List Int) : sumI (a ++ b) = sumI a + sumI b := by
  unfold sumI
  rw [List.foldl_append, foldl_add]

theorem sumI_reverse (l : List Int) : sumI l.reverse = sumI l := by
  induction l with
  | nil => rfl
  | cons x r ih =>
    rw [List.reverse_cons, sumI_append, ih, show x :: r = [x] ++ r from rfl, sumI_append]
    omega

structure OrdX where
  j : Nat
  a : Option Addr
  c : Nat
  m : M

def ordAnn (a : Option Addr) (c : Nat) (l : List Int) (k : Int) (m : M) : Ann where
  A := OrdX
  inv x := x.j ≤ l.length ∧ OwnB m.sz (fun _ => False) x.m 1 x.a x.j x.c (ints (l.reverse.take x.j)) ∧ Agree m.sz m x.m
  st x := [(6, .val (I ((l.length : Int) - 1 - x.j))), (5, .val (.slice x.a x.j x.c)), (0, .val (.slice a l.length c)), (1, .val (I k))]
  own _ := []
  m x := x.m
  μ x := l.length - x.j

end Go.Proofs.Ytpfiodchlbofmaa
set_option linter.unusedVariables false
set_option linter.unusedSimpArgs false
namespace Go.Proofs.Ytpfiodchlbofmaa
open Go.Vc Go.RowKit Go.ChangeShapes Go.WideShapes Go.ChangeAt
set_option maxRecDepth 100000

theorem bulk_mem {H : Type} {d : DataW H} : ∀ {l : List (DataW H)}, d ∈ l → Rows.uptoBulk d ≤ Rows.uptoBulkAll l
  | x :: r, h => by
    simp only [Rows.uptoBulkAll]
    rcases List.mem_cons.1 h with e | e
    · subst e; omega
    · have := bulk_mem e; omega

theorem bulk_pos {H : Type} (d : DataW H) : 1 ≤ Rows.uptoBulk d := by
  cases d with
  | lit l => cases l <;> simp [Rows.uptoBulk]
  | _ => simp [Rows.uptoBulk]

theorem bulk_len {H : Type} : ∀ (l : List (DataW H)), l.length ≤ Rows.uptoBulkAll l
  | [] => by simp
  | x :: r => by have := bulk_pos x; have := bulk_len r; simp only [Rows.uptoBulkAll, List.length_cons]; omega

theorem bound_upto (H : Type) : Bound (H := H) 1048576 (fun d => Rows.uptoBulk d ≤ 1048576) where
  str l h _ := by simp [Rows.uptoBulk] at h; omega
  sl el sp h := by
    simp only [Rows.uptoBulk] at h
    have h1 := bulk_len el
    have h2 := bulk_len sp
    refine ⟨fun _ => by omega, fun x hx => ?_⟩
    rcases hx with hx | hx
    · have := bulk_mem hx; omega
    · have := bulk_mem hx; omega
  agg ps h x hx := by simp only [Rows.uptoBulk] at h; have := bulk_mem hx; omega

theorem bound_any (H : Type) : Bound (H := H) 9223372036854775807 (fun _ => True) where
  str l _ h := h
  sl el sp _ := ⟨fun h => h, fun _ _ => trivial⟩
  agg ps _ x _ := trivial

variable {H : Type} {enc : TypeId × Value → H} {W : World} {r : Reach} {b0 : Nat} {v : Value} {d : DataW H} {p : List MemPlace} {N : Nat} {Bd : DataW H → Prop}

theorem in64_of {n : Int} (h : IntKind.min .i64 ≤ n ∧ n ≤ IntKind.max .i64) : In64 n := by
  simpa [In64, IntKind.min, IntKind.max, IntKind.signed, IntKind.bits] using h

theorem open_i (hv : Value.okWide Try.prog W r b0 3 v) (h : DataW.Trod enc Try.prog W 0 (fun _ => true) true 3 v d p) : ∃ n : Int, v = I n ∧ In64 n := by
  obtain ⟨n, rfl⟩ := okWide_int Try.underlying3 hv
  obtain ⟨fuel, hf⟩ := h
  obtain ⟨n', hn, -, hw⟩ := DataW.trod_int Try.underlying3 hf
  cases hn
  exact ⟨n, rfl, in64_of (by simpa [Lit.wf] using hw)⟩

theorem open_b (hv : Value.okWide Try.prog W r b0 4 v) : ∃ b : Bool, v = .bool b := okWide_bool Try.underlying4 hv

theorem open_s (B : Bound N Bd) (hv : Value.okWide Try.prog W r b0 9 v) (h : DataW.Trod enc Try.prog W 0 (fun _ => true) true 9 v d p) (hb : Bd d) : ∃ s : ByteArray, v = .string s ∧ s.size ≤ N := by
  obtain ⟨s, rfl⟩ := okWide_string Try.underlying9 hv
  obtain ⟨fuel, hf⟩ := h
  have hr := rd_of_trod B 1 fuel 9 _ _ hf hb
  have e := Try.underlying9
  simp only [Rd, e] at hr
  obtain ⟨s', hs, hl⟩ := hr
  simp [Value.cells] at hs
  subst hs
  exact ⟨s, rfl, hl⟩

/-- a struct's cells -/
theorem open_agg {fs : Array Field} {t : TypeId} {k : Nat} (ht : Try.prog.underlying t = some (.struct fs)) (hk : Try.prog.cellsOf t = k) (hv : Value.okWide Try.prog W r b0 t v) : ∃ cs : List Value, v = .agg cs.toArray ∧ cs.length = k := by
  obtain ⟨cs, rfl, hs⟩ := okWide_struct ht hv
  exact ⟨cs.toList, by simp, by simpa using hs.trans hk⟩

/-- the rows of a list, one by one -/
theorem rows_list {α : Type} {e : α → List Value} {p : α → Prop} : ∀ (rows : List (List Value)), (∀ r ∈ rows, ∃ x : α, r = e x ∧ p x) → ∃ z : List α, z.length = rows.length ∧ rows.flatten = z.flatMap e ∧ ∀ x ∈ z, p x
  | [], _ => ⟨[], rfl, rfl, fun x hx => by simp at hx⟩
  | r :: rs, h => by
    obtain ⟨z, h1, h2, h3⟩ := rows_list rs fun r hr => h r (by simp [hr])
    obtain ⟨n, rfl, hn⟩ := h r (by simp)
    refine ⟨n :: z, by simp [h1], by simp only [List.flatten_cons, h2, List.flatMap_cons], fun x hx => ?_⟩
    rcases List.mem_cons.1 hx with e | e
    · subst e; exact hn
    · exact h3 x e

end Go.Proofs.Ytpfiodchlbofmaa
set_option linter.unusedVariables false
set_option linter.unusedSimpArgs false
namespace Go.Proofs.Ytpfiodchlbofmaa
open Go.Vc Go.RowKit Go.ChangeShapes Go.WideShapes Go.ChangeAt
set_option maxRecDepth 100000

structure Mk where
  cl : Int
  sq : Int
  op : Bool
  an_er : Int
  an_va : Int
  an_le : Int
  an_mo : Int

def Mk.wf (x : Mk) : Prop := In64 x.cl ∧ In64 x.sq ∧ In64 x.an_er ∧ In64 x.an_va ∧ In64 x.an_le ∧ In64 x.an_mo

abbrev encMk (x : Mk) : List Value := [I x.cl, I x.sq, .bool x.op, I x.an_er, I x.an_va, I x.an_le, I x.an_mo]

abbrev mkv (x : Mk) : Value := .agg #[I x.cl, I x.sq, .bool x.op, I x.an_er, I x.an_va, I x.an_le, I x.an_mo]

abbrev mks (l : List Mk) : List Value := l.flatMap encMk

theorem mk_k (x : Mk) : (encMk x).length = 7 := rfl

theorem mk_len (l : List Mk) : (mks l).length = l.length * 7 := flat_len mk_k l

theorem mk_at {m : M} {b o i : Nat} {l : List Mk} (h : CellsAt m b o (mks l)) (hi : i < l.length) : CellsAt m b (o + i * 7) (encMk l[i]) := CellsAt.elem mk_k l o i hi h

theorem mk_ext {a b : Mk} : a = b ↔ a.cl = b.cl ∧ a.sq = b.sq ∧ a.op = b.op ∧ a.an_er = b.an_er ∧ a.an_va = b.an_va ∧ a.an_le = b.an_le ∧ a.an_mo = b.an_mo := by
  cases a; cases b; simp

instance : DecidableEq Mk := fun _ _ => decidable_of_iff' _ mk_ext

theorem mk_one (l : List Mk) : oneCells (mks l) = true := by
  rw [oneCells_iff]; intro v hv
  obtain ⟨w, -, hw⟩ := List.mem_flatMap.1 hv
  exact oneCells_iff.1 (rfl : oneCells (encMk w) = true) v hw

theorem mk_zr (k : Nat) : (zeroRow Try.prog 32 k).length = k * 7 := zrLen (by kernel_rfl) k

theorem mk_cells : Try.prog.cellsOf 32 = 7 := by kernel_rfl

theorem mk_rd {m : M} {N d : Nat} {cs : List Value} (h : Rd Try.prog m N (d + 3) 32 cs) (hN : N ≤ 9223372036854775807) : ∃ x : Mk, cs = encMk x ∧ x.wf := by
  have hc1 := (by kernel_rfl : Try.prog.cellsOf 4 = 1)
  have hc2 := (by kernel_rfl : Try.prog.cellsOf 3 = 1)
  have hc3 := (by kernel_rfl : Try.prog.cellsOf 24 = 1)
  have hc4 := (by kernel_rfl : Try.prog.cellsOf 30 = 4)
  simp only [Rd, Try.underlying32, Try.underlying4, Try.underlying3, Try.underlying24, Try.underlying30, fieldsD, mk_cells, hc1, hc2, hc3, hc4] at h
  obtain ⟨hl, ⟨k1, e1, w1⟩, ⟨k2, e2, w2⟩, ⟨k3, e3⟩, ⟨-, ⟨k4, e4, w4⟩, ⟨k5, e5, w5⟩, ⟨k6, e6, w6⟩, ⟨k7, e7, w7⟩, -⟩, -⟩ := h
  obtain ⟨c1, c2, c3, c4, c5, c6, c7, rfl⟩ : ∃ c1 c2 c3 c4 c5 c6 c7, cs = [c1, c2, c3, c4, c5, c6, c7] := by
    match cs, hl with
    | [c1, c2, c3, c4, c5, c6, c7], _ => exact ⟨_, _, _, _, _, _, _, rfl⟩
  simp at e1 e2 e3 e4 e5 e6 e7
  subst e1 e2 e3 e4 e5 e6 e7
  exact ⟨⟨k1, k2, k3, k4, k5, k6, k7⟩, rfl, in64_of w1, in64_of w2, in64_of w4, in64_of w5, in64_of w6, in64_of w7⟩

theorem open_mk {H : Type} {enc : TypeId × Value → H} {W : World} {r : Reach} {b0 : Nat} {v : Value} {d : DataW H} {p : List MemPlace} {N : Nat} {Bd : DataW H → Prop} (B : Bound N Bd) (hN : N ≤ 9223372036854775807) (hv : Value.okWide Try.prog W r b0 32 v) (h : DataW.Trod enc Try.prog W 0 (fun _ => true) true 32 v d p) (hb : Bd d) : ∃ x : Mk, v = mkv x ∧ x.wf := by
  obtain ⟨cs, rfl, hl⟩ := open_agg Try.underlying32 mk_cells hv
  obtain ⟨fuel, hf⟩ := h
  have hr := rd_of_trod B 3 fuel 32 _ _ hf hb
  simp only [Value.cells] at hr
  obtain ⟨x, he, hw⟩ := mk_rd (d := 0) hr hN
  exact ⟨x, by rw [show cs = encMk x from he], hw⟩

theorem open_mks {H : Type} {enc : TypeId × Value → H} {W : World} {r : Reach} {b0 : Nat} {v : Value} {d : DataW H} {p : List MemPlace} {N : Nat} {Bd : DataW H → Prop} (B : Bound N Bd) (hN : N ≤ 9223372036854775807) (hv : Value.okWide Try.prog W r b0 22 v) (h : DataW.Trod enc Try.prog W 0 (fun _ => true) true 22 v d p) (hb : Bd d) :
    ∃ (a : Option Addr) (c : Nat) (z : List Mk), v = .slice a z.length c ∧ z.length ≤ N ∧ (∀ x ∈ z, x.wf) ∧ (a = none → z = []) ∧ Row (M.all W) a (mks z) := by
  obtain ⟨a, len, cap, rfl⟩ := okWide_slice Try.underlying22 hv
  obtain ⟨fuel, hf⟩ := h
  have hr := rd_of_trod B 4 fuel 22 _ _ hf hb
  rw [Rd] at hr
  simp only [Try.underlying22] at hr
  obtain ⟨a', cap', rows, hcs, h1, h2, h3, h4, h5⟩ := hr
  obtain ⟨z, hz, he, hi⟩ := rows_list (α := Mk) (e := encMk) (p := Mk.wf) rows fun r hr => mk_rd (d := 0) (h4 r hr).2 hN
  simp [Value.cells] at hcs
  obtain ⟨rfl, rfl, rfl⟩ := hcs
  rw [he] at h5
  exact ⟨a, cap, z, by rw [hz], by omega, hi, fun e => List.eq_nil_of_length_eq_zero (by have := h3 e; omega), h5⟩

theorem mk_plain (a a2 : Option Addr) (c c2 : Nat) (l l2 : List Mk) (hn1 : l.length ≤ 9223372036854775807) (m : M) (h : Row m a (mks l)) (h2 : Row m a2 (mks l2)) :
    QSpec Try.prog 14 [.slice a l.length c, .slice a2 l2.length c2] m (.bool (decide (l = l2))) := by
  refine QSpec.of_vc Try.func14 (ann := fun n _ => { A := Nat, inv := fun k => k ≤ l.length ∧ l.take k = l2.take k, st := fun k => [(5, .val (I k)), (0, .val (.slice a l.length c)), (1, .val (.slice a2 l2.length c2))], own := fun _ => [], m := fun _ => { m with sz := n }, μ := fun k => (l.length - k) }) fun n hn => ?_
  refine vc_by (X :=
      true = true ∧
      ifB ((↑l.length : Int) != (↑l2.length : Int)) (Done (Value.bool false = Value.bool (decide (l = l2))))
      ((∃ (a_1 : Nat),
      (a_1 ≤ l.length ∧ List.take a_1 l = List.take a_1 l2) ∧
      { π := m.π, sz := n, uf := m.uf : M } = { π := m.π, sz := n, uf := m.uf : M } ∧
      ((SV.val (Value.int IntKind.i64 (0 : Int)) = SV.val (Value.int IntKind.i64 (↑a_1 : Int)) ∧ true = true) ∧
      (SV.val (Value.slice a l.length c) = SV.val (Value.slice a l.length c) ∧ true = true) ∧
      (SV.val (Value.slice a2 l2.length c2) = SV.val (Value.slice a2 l2.length c2) ∧ true = true) ∧ True) ∧
      True) ∧
      ∀ (a_1 : Nat),
      a_1 ≤ l.length ∧ List.take a_1 l = List.take a_1 l2 →
      ifB (decide ((↑a_1 : Int) < (↑l.length : Int)))
      (true = true ∧
      ∃ (b : Nat),
      ∃ (off : Nat),
      a = some { block := b, off := off : Addr } ∧
      ((0 : Int) ≤ (↑a_1 : Int) ∧ (↑a_1 : Int) < (↑l.length : Int)) ∧
      ∃ (n_1 : Int),
      ∃ (n_2 : Int),
      ∃ (b_1 : Bool),
      ∃ (n_3 : Int),
      ∃ (n_4 : Int),
      ∃ (n_5 : Int),
      ∃ (n_6 : Int),
      CellsAt { π := m.π, sz := n, uf := m.uf : M } b (off + (↑a_1 : Int).toNat * (7 : Nat))
      [Value.int IntKind.i64 n_1, Value.int IntKind.i64 n_2, Value.bool b_1, Value.int IntKind.i64 n_3, Value.int IntKind.i64 n_4,
      Value.int IntKind.i64 n_5, Value.int IntKind.i64 n_6] ∧
      ∃ (b : Nat),
      ∃ (off : Nat),
      a2 = some { block := b, off := off : Addr } ∧
      ((0 : Int) ≤ (↑a_1 : Int) ∧ (↑a_1 : Int) < (↑l2.length : Int)) ∧
      ∃ (n_7 : Int),
      ∃ (n_8 : Int),
      ∃ (b_2 : Bool),
      ∃ (n_9 : Int),
      ∃ (n_10 : Int),
      ∃ (n_11 : Int),
      ∃ (n_12 : Int),
      CellsAt { π := m.π, sz := n, uf := m.uf : M } b (off + (↑a_1 : Int).toNat * (7 : Nat))
      [Value.int IntKind.i64 n_7, Value.int IntKind.i64 n_8, Value.bool b_2, Value.int IntKind.i64 n_9,
      Value.int IntKind.i64 n_10, Value.int IntKind.i64 n_11, Value.int IntKind.i64 n_12] ∧
      ifB
      (!(n_1 == n_7 &&
      (n_2 == n_8 &&
      (b_1 == b_2 && (n_3 == n_9 && (n_4 == n_10 && (n_5 == n_11 && (n_6 == n_12 && true))) && true)))))
      (Done (Value.bool false = Value.bool (decide (l = l2))))
      (∃ (a' : Nat),
      ((a' ≤ l.length ∧ List.take a' l = List.take a' l2) ∧
      { π := m.π, sz := n, uf := m.uf : M } = { π := m.π, sz := n, uf := m.uf : M } ∧
      ((SV.val (Value.int IntKind.i64 (IntKind.i64.wrap ((↑a_1 : Int) + (1 : Int)))) =
      SV.val (Value.int IntKind.i64 (↑a' : Int)) ∧
      true = true) ∧
      (SV.val (Value.slice a l.length c) = SV.val (Value.slice a l.length c) ∧ true = true) ∧
      (SV.val (Value.slice a2 l2.length c2) = SV.val (Value.slice a2 l2.length c2) ∧ true = true) ∧ True) ∧
      True) ∧
      l.length - a' < l.length - a_1))
      (Done (Value.bool true = Value.bool (decide (l = l2)))))) (by kernel_rfl) ?_
  have h' := h.sz hn
  have h2' := h2.sz hn
  refine ⟨rfl, ifB_intro (fun hb => ⟨?_⟩) (fun hb => ⟨⟨0, by simp⟩, fun k hk => ifB_intro (fun hb2 => ?_) (fun hb2 => ⟨?_⟩)⟩)⟩
  · have : l ≠ l2 := fun e => by subst e; simp at hb
    simp [this]
  · have hlen : l.length = l2.length := by simp at hb; omega
    have hk2 : k < l.length := by simpa using hb2
    obtain ⟨b, o, rfl, hc⟩ := h'.cells (by rw [mk_len]; omega)
    obtain ⟨b2, o2, rfl, hc2⟩ := h2'.cells (by rw [mk_len]; omega)
    have w1 : IntKind.i64.wrap ((k : Int) + 1) = ((k + 1 : Nat) : Int) := by simp [IntKind.wrap_i64]; omega
    refine ⟨rfl, b, o, rfl, by omega, _, _, _, _, _, _, _, by simpa using mk_at hc hk2, b2, o2, rfl, by omega, _, _, _, _, _, _, _, by simpa using mk_at hc2 (by omega : k < l2.length), ifB_intro (fun h3 => ⟨?_⟩) (fun h3 => ⟨k + 1, ⟨⟨hk2, ?_⟩, by simp [w1]⟩, by omega⟩)⟩
    · have : l ≠ l2 := fun e => by subst e; simp at h3
      simp [this]
    · have h3 : l[k] = l2[k] := by rw [mk_ext]; simpa using h3
      rw [List.take_succ_eq_append_getElem hk2, List.take_succ_eq_append_getElem (by omega : k < l2.length), hk.2, h3]
  · have hlen : l.length = l2.length := by simp at hb; omega
    have : k = l.length := by simp at hb2; omega
    have e := hk.2
    rw [this, List.take_length, hlen, List.take_length] at e
    simp [e]

theorem mk_clone (l : List Mk) (a : Option Addr) (c : Nat) (hn : l.length ≤ 2513169434860) (h0 : a = none → l = []) (m : M) (h : Row m a (mks l)) : Vc.Spec Try.prog 27 [.slice a l.length c] m (fun v m' => ∃ a' c', v = .slice a' l.length c' ∧ NewR m.sz (fun _ => False) m' 7 a' l.length c' (mks l)) := by
  refine Vc.Spec.of_vc Try.func27 (ann := noAnn) ?_
  refine vc_by (X :=
      true = true ∧
      ifB a.isNone
      (Done
      (∃ (a' : Option Addr),
      ∃ (c' : Nat), Value.slice none (0 : Nat) (0 : Nat) = Value.slice a' l.length c' ∧ NewR m.sz (fun (x : Nat) => False) m (7 : Nat) a' l.length c' (mks l)))
      (true = true ∧
      ∀ (b : Nat),
      m.sz ≤ b →
      ∃ (old : List Value),
      ∃ (src : List Value),
      AppPre m.sz (fun (x : Nat) => False) (m.newBlock b []) (7 : Nat) (56 : Nat) (some { block := b, off := (0 : Nat) : Addr }) (0 : Nat) (0 : Nat) a l.length old src ∧
      ∀ (a' : Option Addr) (c' : Nat) (m' : M),
      AppPost Try.prog (32 : Nat) (m.newBlock b []) (7 : Nat) (some { block := b, off := (0 : Nat) : Addr }) (0 : Nat) (0 : Nat) l.length old src a' c' m' →
      Done
      (∃ (a'_1 : Option Addr),
      ∃ (c'_1 : Nat),
      Value.slice a' ((0 : Nat) + l.length) c' = Value.slice a'_1 l.length c'_1 ∧ NewR m.sz (fun (x : Nat) => False) m' (7 : Nat) a'_1 l.length c'_1 (mks l)))) (by kernel_rfl) ?_
  refine ⟨rfl, ifB_intro (fun h1 => ⟨?_⟩) (fun h1 => ⟨rfl, fun b hb => ?_⟩)⟩
  · have : l = [] := h0 (by simpa using h1)
    subst this
    exact ⟨_, _, rfl, .nil _⟩
  · have ho : OwnB m.sz (fun _ => False) (m.newBlock b []) 7 (some ⟨b, 0, none⟩) 0 0 [] := OwnB.fresh hb rfl
    have hr : Row (m.newBlock b []) a (mks l) := h.newBlock hb
    refine ⟨_, _, ho.appPre hr (mk_len l) (mk_one l) (by omega), fun a' c' m' hp => ⟨a', c', by simp, .own ?_⟩⟩
    have := ho.append hp (mk_len l) mk_zr (by simp only [M.newBlock]; omega)
    simpa using this

theorem mk_own (a : Option Addr) (c : Nat) (l : List Mk) (mk : Mk) (hn : l.length ≤ 2513169434860) (m : M) (h : Row m a (mks l)) :
    Vc.Spec Try.prog 26 [.slice a l.length c, mkv mk] m (Owned m (mks l) (encMk mk ++ encMk mk) l.length (l.length + 2)) := by
  refine Vc.Spec.of_vc Try.func26 (ann := noAnn) ?_
  refine vc_by (X :=
      true = true ∧
      ((0 : Int) ≤ (0 : Int) ∧
      (0 : Int) ≤ IntKind.i64.wrap ((↑l.length : Int) + (2 : Int)) ∧
      (↑(56 : Nat) : Int) * IntKind.i64.wrap ((↑l.length : Int) + (2 : Int)) ≤ (281474976710656 : Int) ∧
      IntKind.i64.wrap ((↑l.length : Int) + (2 : Int)) ≤ (9223372036854775807 : Int)) ∧
      ∀ (b : Nat),
      m.sz ≤ b →
      ∃ (old : List Value),
      ∃ (src : List Value),
      AppPre m.sz (fun (x : Nat) => False)
      (m.newBlock b
      (madeCells
      #[Value.int IntKind.i64 (0 : Int), Value.int IntKind.i64 (0 : Int), Value.bool false, Value.int IntKind.i64 (0 : Int), Value.int IntKind.i64 (0 : Int),
      Value.int IntKind.i64 (0 : Int), Value.int IntKind.i64 (0 : Int)]
      ((IntKind.i64.wrap ((↑l.length : Int) + (2 : Int))).toNat * (7 : Nat))).toList)
      (7 : Nat) (56 : Nat) (some { block := b, off := (0 : Nat) : Addr }) (0 : Nat) (IntKind.i64.wrap ((↑l.length : Int) + (2 : Int))).toNat a l.length old src ∧
      ∀ (a' : Option Addr) (c' : Nat) (m' : M),
      AppPost Try.prog (32 : Nat)
      (m.newBlock b
      (madeCells
      #[Value.int IntKind.i64 (0 : Int), Value.int IntKind.i64 (0 : Int), Value.bool false, Value.int IntKind.i64 (0 : Int), Value.int IntKind.i64 (0 : Int),
      Value.int IntKind.i64 (0 : Int), Value.int IntKind.i64 (0 : Int)]
      ((IntKind.i64.wrap ((↑l.length : Int) + (2 : Int))).toNat * (7 : Nat))).toList)
      (7 : Nat) (some { block := b, off := (0 : Nat) : Addr }) (0 : Nat) (IntKind.i64.wrap ((↑l.length : Int) + (2 : Int))).toNat l.length old src a' c' m' →
      true = true ∧
      ∀ (b : Nat),
      m'.sz ≤ b →
      ∃ (old : List Value),
      ∃ (src : List Value),
      AppPre m.sz (fun (x : Nat) => False)
      (m'.newBlock b
      [Value.int IntKind.i64 mk.cl, Value.int IntKind.i64 mk.sq, Value.bool mk.op, Value.int IntKind.i64 mk.an_er, Value.int IntKind.i64 mk.an_va,
      Value.int IntKind.i64 mk.an_le, Value.int IntKind.i64 mk.an_mo, Value.int IntKind.i64 mk.cl, Value.int IntKind.i64 mk.sq, Value.bool mk.op,
      Value.int IntKind.i64 mk.an_er, Value.int IntKind.i64 mk.an_va, Value.int IntKind.i64 mk.an_le, Value.int IntKind.i64 mk.an_mo])
      (7 : Nat) (56 : Nat) a' ((0 : Nat) + l.length) c' (some { block := b, off := (0 : Nat) : Addr }) (2 : Nat) old src ∧
      ∀ (a'_1 : Option Addr) (c'_1 : Nat) (m'_1 : M),
      AppPost Try.prog (32 : Nat)
      (m'.newBlock b
      [Value.int IntKind.i64 mk.cl, Value.int IntKind.i64 mk.sq, Value.bool mk.op, Value.int IntKind.i64 mk.an_er, Value.int IntKind.i64 mk.an_va,
      Value.int IntKind.i64 mk.an_le, Value.int IntKind.i64 mk.an_mo, Value.int IntKind.i64 mk.cl, Value.int IntKind.i64 mk.sq, Value.bool mk.op,
      Value.int IntKind.i64 mk.an_er, Value.int IntKind.i64 mk.an_va, Value.int IntKind.i64 mk.an_le, Value.int IntKind.i64 mk.an_mo])
      (7 : Nat) a' ((0 : Nat) + l.length) c' (2 : Nat) old src a'_1 c'_1 m'_1 →
      (true = true ∧ (0 : Int) ≤ (0 : Int) ∧ (0 : Int) ≤ (↑l.length : Int) ∧ (↑l.length : Int) ≤ (↑c'_1 : Int) ∧ True) ∧
      Done
      (Owned m (mks l)
      [Value.int IntKind.i64 mk.cl, Value.int IntKind.i64 mk.sq, Value.bool mk.op, Value.int IntKind.i64 mk.an_er, Value.int IntKind.i64 mk.an_va,
      Value.int IntKind.i64 mk.an_le, Value.int IntKind.i64 mk.an_mo, Value.int IntKind.i64 mk.cl, Value.int IntKind.i64 mk.sq,
      Value.bool mk.op, Value.int IntKind.i64 mk.an_er, Value.int IntKind.i64 mk.an_va, Value.int IntKind.i64 mk.an_le,
      Value.int IntKind.i64 mk.an_mo]
      l.length (l.length + (2 : Nat))
      (Value.slice (if (↑c'_1 : Int).toNat = (0 : Nat) then a'_1 else Option.map (fun (x : Addr) => x) a'_1) ((↑l.length : Int).toNat - (0 : Nat))
      ((↑c'_1 : Int).toNat - (0 : Nat)))
      m'_1)) (by kernel_rfl) ?_
  have e : IntKind.i64.wrap ((l.length : Int) + 2) = ((l.length + 2 : Nat) : Int) := by simp [IntKind.wrap_i64]; omega
  rw [e]
  simp only [Int.toNat_natCast]
  refine ⟨trivial, by omega, fun b hb => ?_⟩
  obtain ⟨p1, p2⟩ := owned_calc (P := Try.prog) (e := 32) (size := 7) (bytes := 56) (len := l.length) (m := m) (b := b) (z := (madeCells #[I 0, I 0, .bool false, I 0, I 0, I 0, I 0] ((l.length + 2) * 7)).toList) (cs := mks l) (marks := encMk mk ++ encMk mk) hb h (mk_len l) (mk_one l) rfl rfl mk_zr (by simp [madeCells]) (by omega)
  refine ⟨[], mks l, p1, fun a' c' m' hp => ⟨trivial, fun b2 hb2 => ?_⟩⟩
  obtain ⟨p3, p4⟩ := p2 a' c' m' hp b2 hb2
  refine ⟨mks l, encMk mk ++ encMk mk, p3, fun a'' c'' m'' hp2 => ?_⟩
  obtain ⟨rfl, rfl, q3, q5, q4⟩ := p4 a'' c'' m'' hp2
  exact ⟨⟨trivial, by omega, by omega, by omega, trivial⟩, ⟨⟨b, by simp, hb, q3, q5, q4⟩⟩⟩

theorem mk_kept (b : Nat) (l : List Mk) (a2 : Option Addr) (c2 : Nat) (mk : Mk) (hn : l.length ≤ 2513169434860) (m : M) (hb : b < m.sz) (h : CellsAt m b 0 (mks l ++ (encMk mk ++ encMk mk))) (h2 : Row m a2 (mks l)) :
    QSpec Try.prog 29 [.slice (some ⟨b, 0, none⟩) l.length (l.length + 2), .slice a2 l.length c2, mkv mk] m (.bool true) := by
  refine QSpec.of_vc Try.func29 (ann := fun _ => noAnn) fun n hn => ?_
  refine vc_by (X :=
      true = true ∧
      ifB ((↑l.length : Int) != (↑l.length : Int)) (Done (Value.bool false = Value.bool true))
      (ifB (decide ((↑(l.length + (2 : Nat)) : Int) < IntKind.i64.wrap ((↑l.length : Int) + (2 : Int)))) (Done (Value.bool false = Value.bool true))
      ((true = true ∧
      (0 : Int) ≤ (0 : Int) ∧
      (0 : Int) ≤ IntKind.i64.wrap ((↑l.length : Int) + (2 : Int)) ∧ IntKind.i64.wrap ((↑l.length : Int) + (2 : Int)) ≤ (↑(l.length + (2 : Nat)) : Int) ∧ True) ∧
      true = true ∧
      ∃ (b_1 : Bool),
      QSpec Try.prog (14 : Nat) [Value.slice (some { block := b, off := (0 : Nat) : Addr }) l.length (l.length + (2 : Nat)), Value.slice a2 l.length c2]
      { π := m.π, sz := n, uf := m.uf : M } (Value.bool b_1) ∧
      ifB b_1
      (∃ (b_2 : Nat),
      ∃ (off : Nat),
      some { block := b, off := (0 : Nat) : Addr } = some { block := b_2, off := off : Addr } ∧
      ((0 : Int) ≤ (↑l.length : Int) ∧ (↑l.length : Int) < (↑((IntKind.i64.wrap ((↑l.length : Int) + (2 : Int))).toNat - (0 : Nat)) : Int)) ∧
      ∃ (n_1 : Int),
      ∃ (n_2 : Int),
      ∃ (b_3 : Bool),
      ∃ (n_3 : Int),
      ∃ (n_4 : Int),
      ∃ (n_5 : Int),
      ∃ (n_6 : Int),
      CellsAt { π := m.π, sz := n, uf := m.uf : M } b_2 (off + (↑l.length : Int).toNat * (7 : Nat))
      [Value.int IntKind.i64 n_1, Value.int IntKind.i64 n_2, Value.bool b_3, Value.int IntKind.i64 n_3, Value.int IntKind.i64 n_4,
      Value.int IntKind.i64 n_5, Value.int IntKind.i64 n_6] ∧
      ifB
      (n_1 == mk.cl &&
      (n_2 == mk.sq && (b_3 == mk.op && (n_3 == mk.an_er && (n_4 == mk.an_va && (n_5 == mk.an_le && (n_6 == mk.an_mo && true))) && true))))
      (∃ (b_4 : Nat),
      ∃ (off : Nat),
      some { block := b, off := (0 : Nat) : Addr } = some { block := b_4, off := off : Addr } ∧
      ((0 : Int) ≤ IntKind.i64.wrap ((↑l.length : Int) + (1 : Int)) ∧
      IntKind.i64.wrap ((↑l.length : Int) + (1 : Int)) <
      (↑((IntKind.i64.wrap ((↑l.length : Int) + (2 : Int))).toNat - (0 : Nat)) : Int)) ∧
      ∃ (n_7 : Int),
      ∃ (n_8 : Int),
      ∃ (b : Bool),
      ∃ (n_9 : Int),
      ∃ (n_10 : Int),
      ∃ (n_11 : Int),
      ∃ (n_12 : Int),
      CellsAt { π := m.π, sz := n, uf := m.uf : M } b_4
      (off + (IntKind.i64.wrap ((↑l.length : Int) + (1 : Int))).toNat * (7 : Nat))
      [Value.int IntKind.i64 n_7, Value.int IntKind.i64 n_8, Value.bool b, Value.int IntKind.i64 n_9,
      Value.int IntKind.i64 n_10, Value.int IntKind.i64 n_11, Value.int IntKind.i64 n_12] ∧
      Done
      (Value.bool
      (n_7 == mk.cl &&
      (n_8 == mk.sq &&
      (b == mk.op &&
      (n_9 == mk.an_er && (n_10 == mk.an_va && (n_11 == mk.an_le && (n_12 == mk.an_mo && true))) &&
      true)))) =
      Value.bool true))
      (Done (Value.bool false = Value.bool true)))
      (Done (Value.bool false = Value.bool true))))) (by kernel_rfl) ?_
  have e : IntKind.i64.wrap ((l.length : Int) + 2) = ((l.length + 2 : Nat) : Int) := by simp [IntKind.wrap_i64]; omega
  have e1 : IntKind.i64.wrap ((l.length : Int) + 1) = ((l.length + 1 : Nat) : Int) := by simp [IntKind.wrap_i64]; omega
  rw [e, e1]
  simp only [Int.toNat_natCast]
  have hk := h.drop
  rw [mk_len] at hk
  have k1 : CellsAt m b (0 + l.length * 7) (encMk mk) := hk.take
  have k2 : CellsAt m b (0 + (l.length + 1) * 7) (encMk mk) := by
    have := hk.drop (cs := encMk mk)
    rw [show 0 + (l.length + 1) * 7 = 0 + l.length * 7 + (encMk mk).length by rw [mk_k]; omega]
    exact this
  have hq := mk_plain (some ⟨b, 0, none⟩) a2 (l.length + 2) c2 l l (by omega) { m with sz := n } (.at _ _ _ (Nat.lt_of_lt_of_le hb hn) ⟨h.take.out⟩) (h2.sz hn)
  refine ⟨trivial, ifB_intro (fun h3 => by simp at h3) (fun h3 => ifB_intro (fun h4 => by simp at h4) (fun h4 => ⟨⟨trivial, by omega, by omega, by omega, trivial⟩, trivial, _, hq, ?_⟩))⟩
  have et : decide (l = l) = true := by simp
  rw [et]
  refine ifB_true ⟨b, 0, rfl, by constructor <;> simp <;> omega, _, _, _, _, _, _, _, ⟨k1.out⟩, ifB_intro (fun h5 => ⟨b, 0, rfl, by constructor <;> simp <;> omega, _, _, _, _, _, _, _, ⟨k2.out⟩, ⟨by simp⟩⟩) (fun h5 => by simp at h5)⟩

theorem mk_keptr (b : Nat) (l : List Mk) (a2 : Option Addr) (c2 : Nat) (mk : Mk) (hn : l.length ≤ 2513169434860) (m : M) (h : Row m (some ⟨b, 0, none⟩) (mks l ++ (encMk mk ++ encMk mk))) (h2 : Row m a2 (mks l)) :
    QSpec Try.prog 29 [.slice (some ⟨b, 0, none⟩) l.length (l.length + 2), .slice a2 l.length c2, mkv mk] m (.bool true) := by
  obtain ⟨b', o, e, hc⟩ := h.cells (by simp)
  cases e
  exact mk_kept b l a2 c2 mk hn m (h.lt (by simp) rfl) hc h2

end Go.Proofs.Ytpfiodchlbofmaa
set_option linter.unusedVariables false
set_option linter.unusedSimpArgs false
namespace Go.Proofs.Ytpfiodchlbofmaa
open Go.Vc Go.RowKit Go.ChangeShapes Go.WideShapes Go.ChangeAt
set_option maxRecDepth 100000

structure An where
  er : Int
  va : Int
  le : Int
  mo : Int

def An.wf (x : An) : Prop := In64 x.er ∧ In64 x.va ∧ In64 x.le ∧ In64 x.mo

abbrev encAn (x : An) : List Value := [I x.er, I x.va, I x.le, I x.mo]

abbrev anv (x : An) : Value := .agg #[I x.er, I x.va, I x.le, I x.mo]

abbrev ans (l : List An) : List Value := l.flatMap encAn

theorem an_k (x : An) : (encAn x).length = 4 := rfl

theorem an_len (l : List An) : (ans l).length = l.length * 4 := flat_len an_k l

theorem an_at {m : M} {b o i : Nat} {l : List An} (h : CellsAt m b o (ans l)) (hi : i < l.length) : CellsAt m b (o + i * 4) (encAn l[i]) := CellsAt.elem an_k l o i hi h

theorem an_ext {a b : An} : a = b ↔ a.er = b.er ∧ a.va = b.va ∧ a.le = b.le ∧ a.mo = b.mo := by
  cases a; cases b; simp

instance : DecidableEq An := fun _ _ => decidable_of_iff' _ an_ext

theorem an_one (l : List An) : oneCells (ans l) = true := by
  rw [oneCells_iff]; intro v hv
  obtain ⟨w, -, hw⟩ := List.mem_flatMap.1 hv
  exact oneCells_iff.1 (rfl : oneCells (encAn w) = true) v hw

theorem an_zr (k : Nat) : (zeroRow Try.prog 30 k).length = k * 4 := zrLen (by kernel_rfl) k

theorem an_cells : Try.prog.cellsOf 30 = 4 := by kernel_rfl

theorem an_rd {m : M} {N d : Nat} {cs : List Value} (h : Rd Try.prog m N (d + 2) 30 cs) (hN : N ≤ 9223372036854775807) : ∃ x : An, cs = encAn x ∧ x.wf := by
  have hc1 := (by kernel_rfl : Try.prog.cellsOf 3 = 1)
  have hc2 := (by kernel_rfl : Try.prog.cellsOf 24 = 1)
  simp only [Rd, Try.underlying30, Try.underlying3, Try.underlying24, fieldsD, an_cells, hc1, hc2] at h
  obtain ⟨hl, ⟨k1, e1, w1⟩, ⟨k2, e2, w2⟩, ⟨k3, e3, w3⟩, ⟨k4, e4, w4⟩, -⟩ := h
  obtain ⟨c1, c2, c3, c4, rfl⟩ : ∃ c1 c2 c3 c4, cs = [c1, c2, c3, c4] := by
    match cs, hl with
    | [c1, c2, c3, c4], _ => exact ⟨_, _, _, _, rfl⟩
  simp at e1 e2 e3 e4
  subst e1 e2 e3 e4
  exact ⟨⟨k1, k2, k3, k4⟩, rfl, in64_of w1, in64_of w2, in64_of w3, in64_of w4⟩

theorem open_an {H : Type} {enc : TypeId × Value → H} {W : World} {r : Reach} {b0 : Nat} {v : Value} {d : DataW H} {p : List MemPlace} {N : Nat} {Bd : DataW H → Prop} (B : Bound N Bd) (hN : N ≤ 9223372036854775807) (hv : Value.okWide Try.prog W r b0 30 v) (h : DataW.Trod enc Try.prog W 0 (fun _ => true) true 30 v d p) (hb : Bd d) : ∃ x : An, v = anv x ∧ x.wf := by
  obtain ⟨cs, rfl, hl⟩ := open_agg Try.underlying30 an_cells hv
  obtain ⟨fuel, hf⟩ := h
  have hr := rd_of_trod B 2 fuel 30 _ _ hf hb
  simp only [Value.cells] at hr
  obtain ⟨x, he, hw⟩ := an_rd (d := 0) hr hN
  exact ⟨x, by rw [show cs = encAn x from he], hw⟩

end Go.Proofs.Ytpfiodchlbofmaa
set_option linter.unusedVariables false
set_option linter.unusedSimpArgs false
namespace Go.Proofs.Ytpfiodchlbofmaa
open Go.Vc Go.RowKit
set_option maxRecDepth 100000

def ans0B (m : Mk) : Bool := decide (m.an_er = 0) && decide (m.an_va = 0) && decide (m.an_le = 0) && decide (m.an_mo = 0)

def mkB (m : Mk) : Bool := decide (m.cl ≤ 8) && decide (0 ≤ m.sq) && decide (m.sq ≤ 4611686018427387904) && (!m.op || (decide (1 ≤ m.sq) && ans0B m))

/-- is it a table, behind the client 'last'? -/
def tabB : Int → List Mk → Bool
  | _, [] => true
  | last, x :: xs => decide (last < x.cl) && mkB x && tabB x.cl xs

/-- the client's mark -/
def ofM : List Mk → Int → Option Mk
  | [], _ => none
  | x :: xs, c => if x.cl = c then some x else ofM xs c

/-- where a client's mark stands, or would stand -/
def mkP : List Mk → Int → Nat
  | [], _ => 0
  | x :: xs, c => if c ≤ x.cl then 0 else mkP xs c + 1

def insM : List Mk → Mk → List Mk
  | [], m => [m]
  | x :: xs, m => if x.cl < m.cl then x :: insM xs m else if x.cl = m.cl then m :: xs else m :: x :: xs

theorem tab_cons {last : Int} {x : Mk} {xs : List Mk} : tabB last (x :: xs) = true ↔ last < x.cl ∧ mkB x = true ∧ tabB x.cl xs = true := by
  simp only [tabB, Bool.and_eq_true, decide_eq_true_eq, and_assoc]

theorem tab_mem : ∀ {l : List Mk} {last : Int}, tabB last l = true → ∀ x ∈ l, last < x.cl ∧ mkB x = true
  | [], _, _, x, hx => by simp at hx
  | y :: ys, last, h, x, hx => by
    obtain ⟨h1, h2, h3⟩ := tab_cons.1 h
    rcases List.mem_cons.1 hx with rfl | hx
    · exact ⟨h1, h2⟩
    · have := tab_mem h3 x hx; exact ⟨by omega, this.2⟩

theorem tab_weak : ∀ {l : List Mk} {last b : Int}, b ≤ last → tabB last l = true → tabB b l = true
  | [], _, _, _, _ => rfl
  | x :: xs, _, _, hb, h => by
    obtain ⟨h1, h2, h3⟩ := tab_cons.1 h
    exact tab_cons.2 ⟨by omega, h2, h3⟩

theorem ofM_lt : ∀ {l : List Mk} {last c : Int}, tabB last l = true → c ≤ last → ofM l c = none
  | [], _, _, _, _ => rfl
  | x :: xs, last, c, h, hc => by
    obtain ⟨h1, h2, h3⟩ := tab_cons.1 h
    simp only [ofM, if_neg (show ¬ x.cl = c by omega)]
    exact ofM_lt h3 (by omega)

theorem ofM_some : ∀ {l : List Mk} {c : Int} {m : Mk}, ofM l c = some m → m ∈ l ∧ m.cl = c
  | [], _, _, h => by simp [ofM] at h
  | x :: xs, c, m, h => by
    simp only [ofM] at h
    split at h
    · rename_i e; cases h; exact ⟨by simp, e⟩
    · have := ofM_some h; exact ⟨by simp [this.1], this.2⟩

theorem ofM_ok {l : List Mk} {last c : Int} {m : Mk} (h : tabB last l = true) (e : ofM l c = some m) : last < c ∧ mkB m = true ∧ m.cl = c := by
  obtain ⟨h1, h2⟩ := ofM_some e
  obtain ⟨h3, h4⟩ := tab_mem h m h1
  exact ⟨by omega, h4, h2⟩

theorem mem_ofM : ∀ {l : List Mk} {last : Int}, tabB last l = true → ∀ x ∈ l, ofM l x.cl = some x
  | [], _, _, x, hx => by simp at hx
  | y :: ys, last, h, x, hx => by
    obtain ⟨h1, h2, h3⟩ := tab_cons.1 h
    rcases List.mem_cons.1 hx with rfl | hx
    · simp [ofM]
    · have := (tab_mem h3 x hx).1
      simp only [ofM, if_neg (show ¬ y.cl = x.cl by omega)]
      exact mem_ofM h3 x hx

theorem tab_ext : ∀ {a b : List Mk} {last : Int}, tabB last a = true → tabB last b = true → (∀ c, ofM a c = ofM b c) → a = b
  | [], [], _, _, _, _ => rfl
  | [], y :: ys, _, _, _, h => by have := h y.cl; simp [ofM] at this
  | x :: xs, [], _, _, _, h => by have := h x.cl; simp [ofM] at this
  | x :: xs, y :: ys, last, ha, hb, h => by
    obtain ⟨a1, a2, a3⟩ := tab_cons.1 ha
    obtain ⟨b1, b2, b3⟩ := tab_cons.1 hb
    have hx := h x.cl
    have hy := h y.cl
    have e : x = y := by
      by_cases e1 : y.cl = x.cl
      · simp [ofM, e1] at hx; exact hx
      · simp only [ofM, if_true, if_neg e1] at hx hy
        rw [if_neg (fun e => e1 e.symm)] at hy
        have h1 := (ofM_ok b3 hx.symm).1
        have h2 := (ofM_ok a3 hy).1
        omega
    subst e
    congr 1
    refine tab_ext a3 b3 fun c => ?_
    by_cases e1 : x.cl = c
    · rw [ofM_lt a3 (by omega), ofM_lt b3 (by omega)]
    · have := h c; simpa [ofM, e1] using this

theorem ins_tab {m : Mk} (hm : mkB m = true) : ∀ {l : List Mk} {last : Int}, last < m.cl → tabB last l = true → tabB last (insM l m) = true
  | [], last, hl, _ => by simp [insM, tabB, hl, hm]
  | x :: xs, last, hl, h => by
    obtain ⟨h1, h2, h3⟩ := tab_cons.1 h
    simp only [insM]
    split
    · rename_i e; exact tab_cons.2 ⟨h1, h2, ins_tab hm e h3⟩
    · split
      · rename_i e1 e2; exact tab_cons.2 ⟨hl, hm, by rw [← e2]; exact h3⟩
      · exact tab_cons.2 ⟨hl, hm, tab_cons.2 ⟨by omega, h2, h3⟩⟩

theorem ins_of {m : Mk} : ∀ {l : List Mk} {last : Int} (c : Int), tabB last l = true → ofM (insM l m) c = if m.cl = c then some m else ofM l c
  | [], last, c, _ => by simp [insM, ofM]
  | x :: xs, last, c, h => by
    obtain ⟨h1, h2, h3⟩ := tab_cons.1 h
    simp only [insM]
    split
    · rename_i e
      simp only [ofM, ins_of c h3]
      by_cases e1 : x.cl = c
      · rw [if_pos e1, if_pos e1, if_neg (by omega)]
      · rw [if_neg e1, if_neg e1]
    · split
      · rename_i e1 e2
        simp only [ofM]
        by_cases e3 : m.cl = c
        · rw [if_pos e3, if_pos e3]
        · rw [if_neg e3, if_neg e3, if_neg (by omega)]
      · rename_i e1 e2
        simp only [ofM]

theorem mins_len (m : Mk) : ∀ l : List Mk, (insM l m).length ≤ l.length + 1
  | [] => by simp [insM]
  | x :: xs => by
    have := mins_len m xs
    simp only [insM]; split
    · simp; omega
    · split <;> simp

theorem tab_len : ∀ {l : List Mk} {last : Int}, 0 ≤ last → tabB last l = true → l = [] ∨ (l.length : Int) + last ≤ 8
  | [], _, _, _ => .inl rfl
  | x :: xs, last, hl, h => by
    obtain ⟨h1, h2, h3⟩ := tab_cons.1 h
    have h8 : x.cl ≤ 8 := by simp [mkB] at h2; omega
    rcases tab_len (by omega : 0 ≤ x.cl) h3 with e | e
    · subst e; simp; omega
    · simp; omega

theorem tab8 {l : List Mk} (h : tabB 0 l = true) : l.length ≤ 8 := by
  rcases tab_len (Int.le_refl 0) h with e | e
  · subst e; simp
  · omega

theorem mkP_le (c : Int) : ∀ l : List Mk, mkP l c ≤ l.length
  | [] => Nat.le_refl _
  | x :: xs => by have := mkP_le c xs; simp only [mkP, List.length_cons]; split <;> omega

theorem mkP_lt {c : Int} : ∀ {l : List Mk} {last : Int}, tabB last l = true → ∀ k (hk : k < l.length), k < mkP l c → l[k].cl < c
  | [], _, _, k, hk, _ => by simp at hk
  | x :: xs, last, h, k, hk, hp => by
    obtain ⟨h1, h2, h3⟩ := tab_cons.1 h
    simp only [mkP] at hp
    split at hp
    · omega
    · cases k with
      | zero => simp; omega
      | succ k => simpa using mkP_lt h3 k (by simpa using hk) (by omega)

theorem mkP_ge {c : Int} : ∀ {l : List Mk} {last : Int}, tabB last l = true → ∀ k (hk : k < l.length), mkP l c ≤ k → c ≤ l[k].cl
  | [], _, _, k, hk, _ => by simp at hk
  | x :: xs, last, h, k, hk, hp => by
    obtain ⟨h1, h2, h3⟩ := tab_cons.1 h
    simp only [mkP] at hp
    split at hp
    · cases k with
      | zero => simpa
      | succ k =>
        have hk2 : k < xs.length := by simpa using hk
        have := (tab_mem h3 xs[k] (List.getElem_mem hk2)).1
        simp; omega
    · cases k with
      | zero => omega
      | succ k => simpa using mkP_ge h3 k (by simpa using hk) (by omega)

theorem mkP_of {c : Int} : ∀ {l : List Mk} {last : Int}, tabB last l = true → ofM l c = match l[mkP l c]? with | some x => if x.cl = c then some x else none | none => none
  | [], _, _ => by simp [ofM]
  | x :: xs, last, h => by
    obtain ⟨h1, h2, h3⟩ := tab_cons.1 h
    by_cases e : c ≤ x.cl
    · simp only [mkP, if_pos e, ofM, List.getElem?_cons_zero]
      by_cases e2 : x.cl = c
      · simp [e2]
      · simp only [if_neg e2]; exact ofM_lt h3 (by omega)
    · simp only [mkP, if_neg e, ofM, List.getElem?_cons_succ, if_neg (show ¬ x.cl = c by omega)]
      exact mkP_of h3

theorem ins_set {m : Mk} : ∀ {l : List Mk} {last : Int}, tabB last l = true → (ofM l m.cl).isSome = true → insM l m = l.set (mkP l m.cl) m
  | [], _, _, h => by simp [ofM] at h
  | x :: xs, last, h, hs => by
    obtain ⟨h1, h2, h3⟩ := tab_cons.1 h
    by_cases e : m.cl ≤ x.cl
    · by_cases e2 : x.cl = m.cl
      · simp [insM, mkP, e, e2]
      · rw [ofM, if_neg e2, ofM_lt h3 (by omega)] at hs; simp at hs
    · rw [ofM, if_neg (by omega)] at hs
      simp only [insM, mkP, if_neg e, if_pos (show x.cl < m.cl by omega), List.set_cons_succ, ins_set h3 hs]

theorem ins_put {m : Mk} : ∀ {l : List Mk} {last : Int}, tabB last l = true → ofM l m.cl = none → insM l m = l.take (mkP l m.cl) ++ m :: l.drop (mkP l m.cl)
  | [], _, _, h => by simp [insM]
  | x :: xs, last, h, hs => by
    obtain ⟨h1, h2, h3⟩ := tab_cons.1 h
    by_cases e2 : x.cl = m.cl
    · simp [ofM, e2] at hs
    rw [ofM, if_neg e2] at hs
    by_cases e : m.cl ≤ x.cl
    · simp [insM, mkP, e, e2, show ¬ x.cl < m.cl by omega]
    · simp only [insM, mkP, if_neg e, if_pos (show x.cl < m.cl by omega), List.take_succ_cons, List.drop_succ_cons, List.cons_append, ins_put h3 hs]

/-- the marks of the clients from c on, n of them, by f -/
def listM (f : Int → Option Mk) : Nat → Int → List Mk
  | 0, _ => []
  | n + 1, c => (f c).toList ++ listM f n (c + 1)

theorem listM_congr {f g : Int → Option Mk} : ∀ (n : Nat) (c : Int), (∀ k, c ≤ k → f k = g k) → listM f n c = listM g n c
  | 0, _, _ => rfl
  | n + 1, c, h => by simp only [listM, h c (Int.le_refl _), listM_congr n (c + 1) fun k hk => h k (by omega)]

theorem listM_succ (f : Int → Option Mk) : ∀ (n : Nat) (c : Int), listM f (n + 1) c = listM f n c ++ (f (c + n)).toList
  | 0, c => by simp [listM]
  | n + 1, c => by
    have ih := listM_succ f n (c + 1)
    have e : c + 1 + (n : Int) = c + ((n + 1 : Nat) : Int) := by omega
    rw [e] at ih
    rw [listM, ih, listM, List.append_assoc]

theorem listM_len (f : Int → Option Mk) : ∀ (n : Nat) (c : Int), (listM f n c).length ≤ n
  | 0, _ => Nat.le_refl _
  | n + 1, c => by
    have ih := listM_len f n (c + 1)
    simp only [listM, List.length_append]
    cases f c <;> simp <;> omega

/-- a table is what its clients' marks tell -/
theorem list_of : ∀ (n : Nat) {c : Int} {l : List Mk}, (n : Int) + c = 9 → tabB (c - 1) l = true → listM (ofM l) n c = l
  | 0, c, l, h9, h => by
    rcases l with _ | ⟨x, xs⟩
    · rfl
    · obtain ⟨h1, h2, h3⟩ := tab_cons.1 h
      have h8 : x.cl ≤ 8 := by simp [mkB] at h2; omega
      omega
  | n + 1, c, [], h9, h => by
    have ih := list_of n (c := c + 1) (l := []) (by omega) rfl
    simp only [listM, ofM, Option.toList, List.nil_append]
    rw [show (ofM [] : Int → Option Mk) = fun _ => none from rfl] at ih
    exact ih
  | n + 1, c, x :: xs, h9, h => by
    obtain ⟨h1, h2, h3⟩ := tab_cons.1 h
    by_cases e : x.cl = c
    · have ih := list_of n (c := c + 1) (l := xs) (by omega) (by rw [show c + 1 - 1 = x.cl by omega]; exact h3)
      have hc : listM (ofM (x :: xs)) n (c + 1) = listM (ofM xs) n (c + 1) := listM_congr n _ fun k hk => by simp only [ofM]; rw [if_neg (by omega)]
      have h0 : ofM (x :: xs) c = some x := by simp [ofM, e]
      simp only [listM, h0, hc, ih, Option.toList, List.cons_append, List.nil_append]
    · have h0 : ofM (x :: xs) c = none := by
        simp only [ofM, if_neg e]; exact ofM_lt h3 (by omega)
      have ih := list_of n (c := c + 1) (l := x :: xs) (by omega) (tab_cons.2 ⟨by omega, h2, h3⟩)
      simp only [listM, h0, Option.toList, List.nil_append]
      exact ih

def withF (l : List Mk) (m : Mk) (c : Int) : Option Mk := if m.cl = c then some m else ofM l c

theorem with_list {l : List Mk} {m : Mk} (h : tabB 0 l = true) (hm : mkB m = true) (hc : 0 < m.cl) : insM l m = listM (withF l m) 8 1 := by
  rw [← list_of 8 (c := 1) (l := insM l m) (by omega) (ins_tab hm hc h)]
  exact listM_congr 8 1 fun k _ => ins_of k h

/-- the mark that a Join keeps -/
def joinO : Option Mk → Option Mk → Option Mk
  | x, none => x
  | none, some y => some y
  | some x, some y => if x.sq < y.sq ∨ x.sq = y.sq ∧ x.op = true ∧ y.op = false then some y else some x

def stepM (l : List Mk) (x : Mk) : List Mk := match ofM l x.cl with | none => insM l x | some o => if o.sq < x.sq ∨ o.sq = x.sq ∧ o.op = true ∧ x.op = false then insM l x else l

def foldM (a b : List Mk) : List Mk := b.foldl stepM a

theorem step_tab {l : List Mk} {x : Mk} (h : tabB 0 l = true) (hx : mkB x = true) (hc : 0 < x.cl) : tabB 0 (stepM l x) = true := by
  unfold stepM
  split
  · exact ins_tab hx hc h
  · split
    · exact ins_tab hx hc h
    · exact h

theorem step_of {l : List Mk} {x : Mk} (h : tabB 0 l = true) (c : Int) : ofM (stepM l x) c = if x.cl = c then joinO (ofM l c) (some x) else ofM l c := by
  unfold stepM
  split
  · rename_i e
    rw [ins_of c h]
    split
    · rename_i e2; rw [← e2, e]; rfl
    · rfl
  · rename_i o e
    split
    · rename_i e3
      rw [ins_of c h]
      split
      · rename_i e2; rw [← e2, e, joinO, if_pos e3]
      · rfl
    · rename_i e3
      split
      · rename_i e2; rw [← e2, e, joinO, if_neg e3]
      · rfl

theorem fold_tab : ∀ {b a : List Mk} {last : Int}, 0 ≤ last → tabB 0 a = true → tabB last b = true → tabB 0 (foldM a b) = true
  | [], _, _, _, ha, _ => ha
  | x :: xs, a, last, hl, ha, h => by
    obtain ⟨h1, h2, h3⟩ := tab_cons.1 h
    exact fold_tab (b := xs) (a := stepM a x) (by omega) (step_tab ha h2 (by omega)) h3

theorem fold_of : ∀ {b a : List Mk} {last : Int} (c : Int), 0 ≤ last → tabB 0 a = true → tabB last b = true → ofM (foldM a b) c = joinO (ofM a c) (ofM b c)
  | [], a, _, c, _, _, _ => by cases h : ofM a c <;> simp [foldM, joinO, ofM, h]
  | x :: xs, a, last, c, hl, ha, h => by
    obtain ⟨h1, h2, h3⟩ := tab_cons.1 h
    have ih := fold_of (b := xs) (a := stepM a x) c (by omega : 0 ≤ x.cl) (step_tab ha h2 (by omega)) h3
    show ofM (foldM (stepM a x) xs) c = _
    rw [ih, step_of ha]
    by_cases e : x.cl = c
    · rw [if_pos e, ofM_lt h3 (by omega)]
      simp only [ofM, if_pos e]
      cases joinO (ofM a c) (some x) <;> rfl
    · simp only [ofM, if_neg e]

theorem fold_list {a b : List Mk} (ha : tabB 0 a = true) (hb : tabB 0 b = true) : foldM a b = listM (fun c => joinO (ofM a c) (ofM b c)) 8 1 := by
  rw [← list_of 8 (c := 1) (l := foldM a b) (by omega) (fold_tab (Int.le_refl 0) ha hb)]
  exact listM_congr 8 1 fun k _ => fold_of k (Int.le_refl 0) ha hb

theorem fold_ok {a b : List Mk} (ha : tabB 0 a = true) (hb : tabB 0 b = true) : tabB 0 (foldM a b) = true := fold_tab (Int.le_refl 0) ha hb

theorem fold_at {a b : List Mk} (ha : tabB 0 a = true) (hb : tabB 0 b = true) (c : Int) : ofM (foldM a b) c = joinO (ofM a c) (ofM b c) := fold_of c (Int.le_refl 0) ha hb

theorem joinO_self (x : Option Mk) : joinO x x = x := by cases x <;> simp [joinO]

theorem joinO_none (x : Option Mk) : joinO none x = x := by cases x <;> rfl

theorem joinO_assoc (x y z : Option Mk) : joinO (joinO x y) z = joinO x (joinO y z) := by
  cases z with
  | none => cases x <;> cases y <;> simp [joinO]
  | some z =>
    cases y with
    | none => cases x <;> simp [joinO]
    | some y =>
      cases x with
      | none => rw [joinO_none, joinO_none]
      | some x =>
        simp only [joinO]
        by_cases h1 : x.sq < y.sq ∨ x.sq = y.sq ∧ x.op = true ∧ y.op = false
        · by_cases h2 : y.sq < z.sq ∨ y.sq = z.sq ∧ y.op = true ∧ z.op = false
          · have h3 : x.sq < z.sq ∨ x.sq = z.sq ∧ x.op = true ∧ z.op = false := by
              rcases h1 with h1 | ⟨a1, a2, a3⟩ <;> rcases h2 with h2 | ⟨b1, b2, b3⟩
              · exact .inl (by omega)
              · exact .inl (by omega)
              · exact .inl (by omega)
              · simp [a3] at b2
            simp [joinO, if_pos h1, if_pos h2, if_pos h3]
          · simp [joinO, if_pos h1, if_neg h2]
        · by_cases h2 : y.sq < z.sq ∨ y.sq = z.sq ∧ y.op = true ∧ z.op = false
          · simp [joinO, if_neg h1, if_pos h2]
          · have h3 : ¬ (x.sq < z.sq ∨ x.sq = z.sq ∧ x.op = true ∧ z.op = false) := by
              rintro (h3 | ⟨c1, c2, c3⟩)
              · have : ¬ x.sq < y.sq := fun h => h1 (.inl h)
                have : ¬ y.sq < z.sq := fun h => h2 (.inl h)
                omega
              · have n1 : ¬ x.sq < y.sq := fun h => h1 (.inl h)
                have n2 : ¬ y.sq < z.sq := fun h => h2 (.inl h)
                have e1 : x.sq = y.sq := by omega
                have e2 : y.sq = z.sq := by omega
                cases hy : y.op
                · exact h1 (.inr ⟨e1, c2, hy⟩)
                · exact h2 (.inr ⟨e2, hy, c3⟩)
            simp [joinO, if_neg h1, if_neg h2, if_neg h3]

theorem joinO_comm {x y : Mk} (h : ¬ (x.sq = y.sq ∧ x.op = false ∧ y.op = false)) (hx : x.op = true → ans0B x = true) (hy : y.op = true → ans0B y = true) (hc : x.cl = y.cl) : joinO (some x) (some y) = joinO (some y) (some x) := by
  simp only [joinO]
  by_cases e : x.sq = y.sq
  · cases h1 : x.op <;> cases h2 : y.op
    · exact absurd ⟨e, h1, h2⟩ h
    · simp [e]
    · simp [e]
    · have a := hx h1
      have b := hy h2
      have : x = y := by
        simp [ans0B] at a b
        rw [mk_ext]; simp [e, hc, h1, h2, a, b]
      subst this; rfl
  · by_cases h1 : x.sq < y.sq
    · simp [h1, show ¬ y.sq < x.sq by omega, e, show ¬ y.sq = x.sq by omega]
    · simp [h1, show y.sq < x.sq by omega, e]

end Go.Proofs.Ytpfiodchlbofmaa
set_option linter.unusedVariables false
set_option linter.unusedSimpArgs false
namespace Go.Proofs.Ytpfiodchlbofmaa
open Go.Vc Go.RowKit
set_option maxRecDepth 100000

structure mkBsX where
  i : Nat
  j : Nat

theorem mk_bsearch (a : Option Addr) (c : Nat) (l : List Mk) (nd : Int) (f : Mk → Int) (p : Nat) (hn : l.length ≤ 2513169434860) (m : M) (h : Row m a (l.flatMap encMk))
    (hf : ∀ x ∈ l, ∀ m', QSpec Try.prog 38 [.agg (encMk x).toArray, I nd] m' (I (f x))) (hp : p ≤ l.length) (h1 : ∀ k (hk : k < l.length), k < p → f l[k] < 0) (h2 : ∀ k (hk : k < l.length), p ≤ k → 0 ≤ f l[k]) :
    QSpec Try.prog 37 [.slice a l.length c, I nd, .func (.func 38) #[] #[]] m (.tuple #[I p, .bool ((l[p]?).any fun x => decide (f x = 0))]) := by
  refine QSpec.of_vc Try.func37 (ann := fun n _ => { A := mkBsX, inv := fun y => y.i ≤ p ∧ p ≤ y.j ∧ y.j ≤ l.length, st := fun y => [(9, .val (I y.i)), (10, .val (I y.j)), (8, .val (I l.length)), (0, .val (.slice a l.length c)), (1, .val (I nd)), (2, .val (.func (.func 38) #[] #[]))], own := fun _ => [], m := fun _ => { m with sz := n }, μ := fun y => y.j - y.i }) fun n hn' => ?_
  refine vc_by (X :=
      true = true ∧
      (∃ (a_1 : mkBsX),
      (a_1.i ≤ p ∧ p ≤ a_1.j ∧ a_1.j ≤ l.length) ∧
      { π := m.π, sz := n, uf := m.uf : M } = { π := m.π, sz := n, uf := m.uf : M } ∧
      ((SV.val (Value.int IntKind.i64 (0 : Int)) = SV.val (Value.int IntKind.i64 (↑a_1.i : Int)) ∧ true = true) ∧
      (SV.val (Value.int IntKind.i64 (↑l.length : Int)) = SV.val (Value.int IntKind.i64 (↑a_1.j : Int)) ∧ true = true) ∧
      (SV.val (Value.int IntKind.i64 (↑l.length : Int)) = SV.val (Value.int IntKind.i64 (↑l.length : Int)) ∧ true = true) ∧
      (SV.val (Value.slice a l.length c) = SV.val (Value.slice a l.length c) ∧ true = true) ∧
      (SV.val (Value.int IntKind.i64 nd) = SV.val (Value.int IntKind.i64 nd) ∧ true = true) ∧
      (SV.val (Value.func (Fn.func (38 : FuncId)) #[] #[]) = SV.val (Value.func (Fn.func (38 : FuncId)) #[] #[]) ∧ true = true) ∧ True) ∧
      True) ∧
      ∀ (a_1 : mkBsX),
      a_1.i ≤ p ∧ p ≤ a_1.j ∧ a_1.j ≤ l.length →
      ifB (decide ((↑a_1.i : Int) < (↑a_1.j : Int)))
      (∃ (b : Nat),
      ∃ (off : Nat),
      a = some { block := b, off := off : Addr } ∧
      ((0 : Int) ≤ IntKind.i64.wrap ((IntKind.u64.wrap (IntKind.i64.wrap ((↑a_1.i : Int) + (↑a_1.j : Int)))).fdiv ((2 : Int) ^ (1 : Nat))) ∧
      IntKind.i64.wrap ((IntKind.u64.wrap (IntKind.i64.wrap ((↑a_1.i : Int) + (↑a_1.j : Int)))).fdiv ((2 : Int) ^ (1 : Nat))) < (↑l.length : Int)) ∧
      ∃ (n_1 : Int),
      ∃ (n_2 : Int),
      ∃ (b_1 : Bool),
      ∃ (n_3 : Int),
      ∃ (n_4 : Int),
      ∃ (n_5 : Int),
      ∃ (n_6 : Int),
      CellsAt { π := m.π, sz := n, uf := m.uf : M } b
      (off +
      (IntKind.i64.wrap ((IntKind.u64.wrap (IntKind.i64.wrap ((↑a_1.i : Int) + (↑a_1.j : Int)))).fdiv ((2 : Int) ^ (1 : Nat)))).toNat * (7 : Nat))
      [Value.int IntKind.i64 n_1, Value.int IntKind.i64 n_2, Value.bool b_1, Value.int IntKind.i64 n_3, Value.int IntKind.i64 n_4,
      Value.int IntKind.i64 n_5, Value.int IntKind.i64 n_6] ∧
      ∃ (n_7 : Int),
      QSpec Try.prog (38 : FuncId)
      [Value.agg
      #[Value.int IntKind.i64 n_1, Value.int IntKind.i64 n_2, Value.bool b_1, Value.int IntKind.i64 n_3, Value.int IntKind.i64 n_4,
      Value.int IntKind.i64 n_5, Value.int IntKind.i64 n_6],
      Value.int IntKind.i64 nd]
      { π := m.π, sz := n, uf := m.uf : M } (Value.int IntKind.i64 n_7) ∧
      ifB (decide (n_7 < (0 : Int)))
      (∃ (a' : mkBsX),
      ((a'.i ≤ p ∧ p ≤ a'.j ∧ a'.j ≤ l.length) ∧
      { π := m.π, sz := n, uf := m.uf : M } = { π := m.π, sz := n, uf := m.uf : M } ∧
      ((SV.val
      (Value.int IntKind.i64
      (IntKind.i64.wrap
      (IntKind.i64.wrap
      ((IntKind.u64.wrap (IntKind.i64.wrap ((↑a_1.i : Int) + (↑a_1.j : Int)))).fdiv ((2 : Int) ^ (1 : Nat))) +
      (1 : Int)))) =
      SV.val (Value.int IntKind.i64 (↑a'.i : Int)) ∧
      true = true) ∧
      (SV.val (Value.int IntKind.i64 (↑a_1.j : Int)) = SV.val (Value.int IntKind.i64 (↑a'.j : Int)) ∧ true = true) ∧
      (SV.val (Value.int IntKind.i64 (↑l.length : Int)) = SV.val (Value.int IntKind.i64 (↑l.length : Int)) ∧ true = true) ∧
      (SV.val (Value.slice a l.length c) = SV.val (Value.slice a l.length c) ∧ true = true) ∧
      (SV.val (Value.int IntKind.i64 nd) = SV.val (Value.int IntKind.i64 nd) ∧ true = true) ∧
      (SV.val (Value.func (Fn.func (38 : FuncId)) #[] #[]) = SV.val (Value.func (Fn.func (38 : FuncId)) #[] #[]) ∧
      true = true) ∧
      True) ∧
      True) ∧
      a'.j - a'.i < a_1.j - a_1.i)
      (∃ (a' : mkBsX),
      ((a'.i ≤ p ∧ p ≤ a'.j ∧ a'.j ≤ l.length) ∧
      { π := m.π, sz := n, uf := m.uf : M } = { π := m.π, sz := n, uf := m.uf : M } ∧
      ((SV.val (Value.int IntKind.i64 (↑a_1.i : Int)) = SV.val (Value.int IntKind.i64 (↑a'.i : Int)) ∧ true = true) ∧
      (SV.val
      (Value.int IntKind.i64
      (IntKind.i64.wrap
      ((IntKind.u64.wrap (IntKind.i64.wrap ((↑a_1.i : Int) + (↑a_1.j : Int)))).fdiv ((2 : Int) ^ (1 : Nat))))) =
      SV.val (Value.int IntKind.i64 (↑a'.j : Int)) ∧
      true = true) ∧
      (SV.val (Value.int IntKind.i64 (↑l.length : Int)) = SV.val (Value.int IntKind.i64 (↑l.length : Int)) ∧ true = true) ∧
      (SV.val (Value.slice a l.length c) = SV.val (Value.slice a l.length c) ∧ true = true) ∧
      (SV.val (Value.int IntKind.i64 nd) = SV.val (Value.int IntKind.i64 nd) ∧ true = true) ∧
      (SV.val (Value.func (Fn.func (38 : FuncId)) #[] #[]) = SV.val (Value.func (Fn.func (38 : FuncId)) #[] #[]) ∧
      true = true) ∧
      True) ∧
      True) ∧
      a'.j - a'.i < a_1.j - a_1.i))
      (ifB (decide ((↑a_1.i : Int) < (↑l.length : Int)))
      (∃ (b : Nat),
      ∃ (off : Nat),
      a = some { block := b, off := off : Addr } ∧
      ((0 : Int) ≤ (↑a_1.i : Int) ∧ (↑a_1.i : Int) < (↑l.length : Int)) ∧
      ∃ (n_1 : Int),
      ∃ (n_2 : Int),
      ∃ (b_1 : Bool),
      ∃ (n_3 : Int),
      ∃ (n_4 : Int),
      ∃ (n_5 : Int),
      ∃ (n_6 : Int),
      CellsAt { π := m.π, sz := n, uf := m.uf : M } b (off + (↑a_1.i : Int).toNat * (7 : Nat))
      [Value.int IntKind.i64 n_1, Value.int IntKind.i64 n_2, Value.bool b_1, Value.int IntKind.i64 n_3, Value.int IntKind.i64 n_4,
      Value.int IntKind.i64 n_5, Value.int IntKind.i64 n_6] ∧
      ∃ (n_7 : Int),
      QSpec Try.prog (38 : FuncId)
      [Value.agg
      #[Value.int IntKind.i64 n_1, Value.int IntKind.i64 n_2, Value.bool b_1, Value.int IntKind.i64 n_3, Value.int IntKind.i64 n_4,
      Value.int IntKind.i64 n_5, Value.int IntKind.i64 n_6],
      Value.int IntKind.i64 nd]
      { π := m.π, sz := n, uf := m.uf : M } (Value.int IntKind.i64 n_7) ∧
      Done
      (Value.tuple #[Value.int IntKind.i64 (↑a_1.i : Int), Value.bool (n_7 == (0 : Int))] =
      Value.tuple #[Value.int IntKind.i64 (↑p : Int), Value.bool (Option.any (fun (x : Mk) => decide (f x = (0 : Int))) l[p]?)]))
      (Done
      (Value.tuple #[Value.int IntKind.i64 (↑a_1.i : Int), Value.bool false] =
      Value.tuple #[Value.int IntKind.i64 (↑p : Int), Value.bool (Option.any (fun (x : Mk) => decide (f x = (0 : Int))) l[p]?)])))) (by kernel_rfl) ?_
  have h' := h.sz hn'
  have hk : ∀ x, (encMk x).length = 7 := fun _ => rfl
  have hcell : ∀ k (hlt : k < l.length), ∃ b o, a = some ⟨b, o, none⟩ ∧ CellsAt { m with sz := n } b (o + k * 7) (encMk l[k]) := fun k hlt => by
    obtain ⟨b, o, e, hc⟩ := h'.cells (by rw [flat_len hk]; omega)
    exact ⟨b, o, e, CellsAt.elem hk l o k hlt hc⟩
  refine ⟨rfl, ⟨⟨0, l.length⟩, ⟨Nat.zero_le _, hp, Nat.le_refl _⟩, by simp⟩, fun y ⟨g1, g2, g3⟩ => ifB_intro (fun hb => ?_) (fun hb => ?_)⟩
  · have hij : y.i < y.j := by simp at hb; omega
    have wm : IntKind.i64.wrap ((IntKind.u64.wrap (IntKind.i64.wrap ((y.i : Int) + (y.j : Int)))).fdiv (2 ^ 1)) = (((y.i + y.j) / 2 : Nat) : Int) := by
      rw [Int.fdiv_eq_ediv_of_nonneg _ (by decide)]
      simp [IntKind.wrap_i64, IntKind.wrap_u64]; omega
    have hm : (y.i + y.j) / 2 < l.length := by omega
    obtain ⟨b, o, rfl, hc⟩ := hcell _ hm
    have w1 : IntKind.i64.wrap ((((y.i + y.j) / 2 : Nat) : Int) + 1) = (((y.i + y.j) / 2 + 1 : Nat) : Int) := by simp [IntKind.wrap_i64]; omega
    rw [wm, w1]
    simp only [Int.toNat_natCast]
    refine ⟨b, o, rfl, by omega, _,_,_,_,_,_,_, hc, _, hf _ (List.getElem_mem hm) _, ifB_intro (fun hb2 => ?_) (fun hb2 => ?_)⟩
    · have hlt : f l[(y.i + y.j) / 2] < 0 := by simpa using hb2
      have : (y.i + y.j) / 2 < p := by
        rcases Nat.lt_or_ge ((y.i + y.j) / 2) p with h | h
        · exact h
        · have := h2 _ hm h; omega
      exact ⟨⟨(y.i + y.j) / 2 + 1, y.j⟩, ⟨⟨by simp only; omega, g2, g3⟩, by simp⟩, by simp only; omega⟩
    · have hlt : ¬ f l[(y.i + y.j) / 2] < 0 := by simpa using hb2
      have : p ≤ (y.i + y.j) / 2 := by
        rcases Nat.lt_or_ge ((y.i + y.j) / 2) p with h | h
        · exact absurd (h1 _ hm h) hlt
        · exact h
      exact ⟨⟨y.i, (y.i + y.j) / 2⟩, ⟨⟨g1, by simp only; omega, by simp only; omega⟩, by simp⟩, by simp only; omega⟩
  · have hij : y.i = p := by simp at hb; omega
    rw [hij]
    refine ifB_intro (fun hb2 => ?_) (fun hb2 => ⟨?_⟩)
    · have hlt : p < l.length := by simp at hb2; omega
      obtain ⟨b, o, rfl, hc⟩ := hcell p hlt
      refine ⟨b, o, rfl, by omega, _,_,_,_,_,_,_, by simpa using hc, _, hf _ (List.getElem_mem hlt) _, ⟨?_⟩⟩
      rw [List.getElem?_eq_getElem hlt]
      rfl
    · have hlt : l.length ≤ p := by simp at hb2; omega
      rw [List.getElem?_eq_none hlt]
      rfl

end Go.Proofs.Ytpfiodchlbofmaa
set_option linter.unusedVariables false
set_option linter.unusedSimpArgs false
namespace Go.Proofs.Ytpfiodchlbofmaa
open Go.Vc Go.RowKit
set_option maxRecDepth 100000

theorem mk_insert (a : Option Addr) (c : Nat) (l : List Mk) (i vb vo vc : Nat) (x : Mk) (S : Nat → Prop) (hn : l.length ≤ 2513169434860) (hi : i ≤ l.length) (m : M) (h : NewR m.sz S m 7 a l.length c (l.flatMap encMk)) (hS : l ≠ [] → ∀ b o, a = some ⟨b, o, none⟩ → b ≠ vb) (hvlt : vb < m.sz) (hu : m.uf vb) (hv : CellsAt m vb vo (encMk x)) :
    SpecW Try.prog 36 [.slice a l.length c, I i, .slice (some ⟨vb, vo, none⟩) 1 vc] m S fun v m' => ∃ a' c', v = .slice a' (l.length + 1) c' ∧ NewR m.sz S m' 7 a' (l.length + 1) c' ((l.take i ++ x :: l.drop i).flatMap encMk) := by
  refine SpecW.of_vc Try.func36 (ann := noAnn) ?_
  refine vc_by (X :=
      true = true ∧
      (true = true ∧ (0 : Int) ≤ (↑i : Int) ∧ (↑i : Int) ≤ (↑l.length : Int) ∧ True ∧ True) ∧
      ifB ((↑i : Int) == (↑l.length : Int))
      (∃ (old : List Value),
      ∃ (src : List Value),
      AppPre m.sz S m (7 : Nat) (56 : Nat) a l.length c (some { block := vb, off := vo : Addr }) (1 : Nat) old src ∧
      ∀ (a' : Option Addr) (c' : Nat) (m' : M),
      AppPost Try.prog (32 : Nat) m (7 : Nat) a l.length c (1 : Nat) old src a' c' m' →
      Done
      (∃ (a'_1 : Option Addr),
      ∃ (c'_1 : Nat),
      Value.slice a' (l.length + (1 : Nat)) c' = Value.slice a'_1 (l.length + (1 : Nat)) c'_1 ∧
      NewR m.sz S m' (7 : Nat) a'_1 (l.length + (1 : Nat)) c'_1 (List.flatMap encMk (List.take i l ++ x :: List.drop i l))))
      (ifB (decide (IntKind.i64.wrap ((↑l.length : Int) + (↑(1 : Nat) : Int)) > (↑c : Int)))
      ((true = true ∧ (0 : Int) ≤ (0 : Int) ∧ (0 : Int) ≤ (↑i : Int) ∧ (↑i : Int) ≤ (↑c : Int) ∧ True) ∧
      ∃ (old : List Value),
      ((0 : Int) ≤ IntKind.i64.wrap (IntKind.i64.wrap ((↑l.length : Int) + (↑(1 : Nat) : Int)) - (↑i : Int)) ∧
      AppPreZ Try.prog (32 : Nat) m.sz S m (7 : Nat) (56 : Nat) (if (↑c : Int).toNat = (0 : Nat) then a else Option.map (fun (x : Addr) => x) a)
      ((↑i : Int).toNat - (0 : Nat)) ((↑c : Int).toNat - (0 : Nat)) (IntKind.i64.wrap (IntKind.i64.wrap ((↑l.length : Int) + (↑(1 : Nat) : Int)) - (↑i : Int))).toNat
      old) ∧
      ∀ (a' : Option Addr) (c' : Nat) (m' : M),
      AppPost Try.prog (32 : Nat) m (7 : Nat) (if (↑c : Int).toNat = (0 : Nat) then a else Option.map (fun (x : Addr) => x) a) ((↑i : Int).toNat - (0 : Nat))
      ((↑c : Int).toNat - (0 : Nat)) (IntKind.i64.wrap (IntKind.i64.wrap ((↑l.length : Int) + (↑(1 : Nat) : Int)) - (↑i : Int))).toNat old
      (zeroRow Try.prog (32 : Nat) (IntKind.i64.wrap (IntKind.i64.wrap ((↑l.length : Int) + (↑(1 : Nat) : Int)) - (↑i : Int))).toNat) a' c' m' →
      (true = true ∧
      (0 : Int) ≤ (↑i : Int) ∧
      (↑i : Int) ≤ (↑((↑i : Int).toNat - (0 : Nat) + (IntKind.i64.wrap (IntKind.i64.wrap ((↑l.length : Int) + (↑(1 : Nat) : Int)) - (↑i : Int))).toNat) : Int) ∧
      True ∧ True) ∧
      ∃ (src : List Value),
      CopyPre m.sz S m' (7 : Nat)
      (if (↑c' : Int).toNat = (↑i : Int).toNat then a' else Option.map (fun (x : Addr) => x.add ((↑i : Int).toNat * Try.prog.types[(32 : Nat)].size)) a')
      ((↑((↑i : Int).toNat - (0 : Nat) + (IntKind.i64.wrap (IntKind.i64.wrap ((↑l.length : Int) + (↑(1 : Nat) : Int)) - (↑i : Int))).toNat) : Int).toNat -
      (↑i : Int).toNat)
      (some { block := vb, off := vo : Addr }) (1 : Nat) src ∧
      ∀ (m'_1 : M),
      CopyPost m'
      (if (↑c' : Int).toNat = (↑i : Int).toNat then a' else Option.map (fun (x : Addr) => x.add ((↑i : Int).toNat * Try.prog.types[(32 : Nat)].size)) a')
      src m'_1 →
      true = true ∧
      (true = true ∧
      (0 : Int) ≤ IntKind.i64.wrap ((↑i : Int) + (↑(1 : Nat) : Int)) ∧
      IntKind.i64.wrap ((↑i : Int) + (↑(1 : Nat) : Int)) ≤
      (↑((↑i : Int).toNat - (0 : Nat) + (IntKind.i64.wrap (IntKind.i64.wrap ((↑l.length : Int) + (↑(1 : Nat) : Int)) - (↑i : Int))).toNat) :
      Int) ∧
      True ∧ True) ∧
      (true = true ∧ (0 : Int) ≤ (↑i : Int) ∧ (↑i : Int) ≤ (↑l.length : Int) ∧ True ∧ True) ∧
      (∃ (src : List Value),
      CopyPre m.sz S m'_1 (7 : Nat)
      (if (↑c' : Int).toNat = (IntKind.i64.wrap ((↑i : Int) + (↑(1 : Nat) : Int))).toNat then a'
      else
      Option.map (fun (x : Addr) => x.add ((IntKind.i64.wrap ((↑i : Int) + (↑(1 : Nat) : Int))).toNat * Try.prog.types[(32 : Nat)].size)) a')
      ((↑((↑i : Int).toNat - (0 : Nat) + (IntKind.i64.wrap (IntKind.i64.wrap ((↑l.length : Int) + (↑(1 : Nat) : Int)) - (↑i : Int))).toNat) :
      Int).toNat -
      (IntKind.i64.wrap ((↑i : Int) + (↑(1 : Nat) : Int))).toNat)
      (if (↑c : Int).toNat = (↑i : Int).toNat then a
      else Option.map (fun (x : Addr) => x.add ((↑i : Int).toNat * Try.prog.types[(32 : Nat)].size)) a)
      ((↑l.length : Int).toNat - (↑i : Int).toNat) src ∧
      ∀ (m' : M),
      CopyPost m'_1
      (if (↑c' : Int).toNat = (IntKind.i64.wrap ((↑i : Int) + (↑(1 : Nat) : Int))).toNat then a'
      else
      Option.map (fun (x : Addr) => x.add ((IntKind.i64.wrap ((↑i : Int) + (↑(1 : Nat) : Int))).toNat * Try.prog.types[(32 : Nat)].size))
      a')
      src m' →
      Done
      (∃ (a'_1 : Option Addr),
      ∃ (c'_1 : Nat),
      Value.slice a'
      ((↑i : Int).toNat - (0 : Nat) +
      (IntKind.i64.wrap (IntKind.i64.wrap ((↑l.length : Int) + (↑(1 : Nat) : Int)) - (↑i : Int))).toNat)
      c' =
      Value.slice a'_1 (l.length + (1 : Nat)) c'_1 ∧
      NewR m.sz S m' (7 : Nat) a'_1 (l.length + (1 : Nat)) c'_1 (List.flatMap encMk (List.take i l ++ x :: List.drop i l)))) ∧
      True)
      ((true = true ∧
      (0 : Int) ≤ (0 : Int) ∧
      (0 : Int) ≤ IntKind.i64.wrap ((↑l.length : Int) + (↑(1 : Nat) : Int)) ∧ IntKind.i64.wrap ((↑l.length : Int) + (↑(1 : Nat) : Int)) ≤ (↑c : Int) ∧ True) ∧
      (true = true ∧
      (0 : Int) ≤ IntKind.i64.wrap ((↑i : Int) + (↑(1 : Nat) : Int)) ∧
      IntKind.i64.wrap ((↑i : Int) + (↑(1 : Nat) : Int)) ≤ (↑((IntKind.i64.wrap ((↑l.length : Int) + (↑(1 : Nat) : Int))).toNat - (0 : Nat)) : Int) ∧ True ∧ True) ∧
      ∃ (b : Bool),
      RunV Try.prog (39 : Nat)
      [Value.slice (some { block := vb, off := vo : Addr }) (1 : Nat) vc,
      Value.slice
      (if (↑((↑c : Int).toNat - (0 : Nat)) : Int).toNat = (IntKind.i64.wrap ((↑i : Int) + (↑(1 : Nat) : Int))).toNat then
      if (↑c : Int).toNat = (0 : Nat) then a else Option.map (fun (x : Addr) => x) a
      else
      Option.map (fun (x : Addr) => x.add ((IntKind.i64.wrap ((↑i : Int) + (↑(1 : Nat) : Int))).toNat * Try.prog.types[(32 : Nat)].size))
      (if (↑c : Int).toNat = (0 : Nat) then a else Option.map (fun (x : Addr) => x) a))
      ((↑((IntKind.i64.wrap ((↑l.length : Int) + (↑(1 : Nat) : Int))).toNat - (0 : Nat)) : Int).toNat - (IntKind.i64.wrap ((↑i : Int) + (↑(1 : Nat) : Int))).toNat)
      ((↑((↑c : Int).toNat - (0 : Nat)) : Int).toNat - (IntKind.i64.wrap ((↑i : Int) + (↑(1 : Nat) : Int))).toNat)]
      m (Value.bool b) ∧
      ifB (!b)
      (true = true ∧
      (true = true ∧
      (0 : Int) ≤ IntKind.i64.wrap ((↑i : Int) + (↑(1 : Nat) : Int)) ∧
      IntKind.i64.wrap ((↑i : Int) + (↑(1 : Nat) : Int)) ≤ (↑((IntKind.i64.wrap ((↑l.length : Int) + (↑(1 : Nat) : Int))).toNat - (0 : Nat)) : Int) ∧
      True ∧ True) ∧
      (true = true ∧ (0 : Int) ≤ (↑i : Int) ∧ (↑i : Int) ≤ (↑((IntKind.i64.wrap ((↑l.length : Int) + (↑(1 : Nat) : Int))).toNat - (0 : Nat)) : Int) ∧ True ∧ True) ∧
      (∃ (src : List Value),
      CopyPre m.sz S m (7 : Nat)
      (if (↑((↑c : Int).toNat - (0 : Nat)) : Int).toNat = (IntKind.i64.wrap ((↑i : Int) + (↑(1 : Nat) : Int))).toNat then
      if (↑c : Int).toNat = (0 : Nat) then a else Option.map (fun (x : Addr) => x) a
      else
      Option.map (fun (x : Addr) => x.add ((IntKind.i64.wrap ((↑i : Int) + (↑(1 : Nat) : Int))).toNat * Try.prog.types[(32 : Nat)].size))
      (if (↑c : Int).toNat = (0 : Nat) then a else Option.map (fun (x : Addr) => x) a))
      ((↑((IntKind.i64.wrap ((↑l.length : Int) + (↑(1 : Nat) : Int))).toNat - (0 : Nat)) : Int).toNat -
      (IntKind.i64.wrap ((↑i : Int) + (↑(1 : Nat) : Int))).toNat)
      (if (↑((↑c : Int).toNat - (0 : Nat)) : Int).toNat = (↑i : Int).toNat then
      if (↑c : Int).toNat = (0 : Nat) then a else Option.map (fun (x : Addr) => x) a
      else
      Option.map (fun (x : Addr) => x.add ((↑i : Int).toNat * Try.prog.types[(32 : Nat)].size))
      (if (↑c : Int).toNat = (0 : Nat) then a else Option.map (fun (x : Addr) => x) a))
      ((↑((IntKind.i64.wrap ((↑l.length : Int) + (↑(1 : Nat) : Int))).toNat - (0 : Nat)) : Int).toNat - (↑i : Int).toNat) src ∧
      ∀ (m' : M),
      CopyPost m
      (if (↑((↑c : Int).toNat - (0 : Nat)) : Int).toNat = (IntKind.i64.wrap ((↑i : Int) + (↑(1 : Nat) : Int))).toNat then
      if (↑c : Int).toNat = (0 : Nat) then a else Option.map (fun (x : Addr) => x) a
      else
      Option.map (fun (x : Addr) => x.add ((IntKind.i64.wrap ((↑i : Int) + (↑(1 : Nat) : Int))).toNat * Try.prog.types[(32 : Nat)].size))
      (if (↑c : Int).toNat = (0 : Nat) then a else Option.map (fun (x : Addr) => x) a))
      src m' →
      (true = true ∧
      (0 : Int) ≤ (↑i : Int) ∧
      (↑i : Int) ≤ (↑((IntKind.i64.wrap ((↑l.length : Int) + (↑(1 : Nat) : Int))).toNat - (0 : Nat)) : Int) ∧ True ∧ True) ∧
      ∃ (src : List Value),
      CopyPre m.sz S m' (7 : Nat)
      (if (↑((↑c : Int).toNat - (0 : Nat)) : Int).toNat = (↑i : Int).toNat then
      if (↑c : Int).toNat = (0 : Nat) then a else Option.map (fun (x : Addr) => x) a
      else
      Option.map (fun (x : Addr) => x.add ((↑i : Int).toNat * Try.prog.types[(32 : Nat)].size))
      (if (↑c : Int).toNat = (0 : Nat) then a else Option.map (fun (x : Addr) => x) a))
      ((↑((IntKind.i64.wrap ((↑l.length : Int) + (↑(1 : Nat) : Int))).toNat - (0 : Nat)) : Int).toNat - (↑i : Int).toNat)
      (some { block := vb, off := vo : Addr }) (1 : Nat) src ∧
      ∀ (m'_1 : M),
      CopyPost m'
      (if (↑((↑c : Int).toNat - (0 : Nat)) : Int).toNat = (↑i : Int).toNat then
      if (↑c : Int).toNat = (0 : Nat) then a else Option.map (fun (x : Addr) => x) a
      else
      Option.map (fun (x : Addr) => x.add ((↑i : Int).toNat * Try.prog.types[(32 : Nat)].size))
      (if (↑c : Int).toNat = (0 : Nat) then a else Option.map (fun (x : Addr) => x) a))
      src m'_1 →
      Done
      (∃ (a' : Option Addr),
      ∃ (c' : Nat),
      Value.slice (if (↑c : Int).toNat = (0 : Nat) then a else Option.map (fun (x : Addr) => x) a)
      ((IntKind.i64.wrap ((↑l.length : Int) + (↑(1 : Nat) : Int))).toNat - (0 : Nat)) ((↑c : Int).toNat - (0 : Nat)) =
      Value.slice a' (l.length + (1 : Nat)) c' ∧
      NewR m.sz S m'_1 (7 : Nat) a' (l.length + (1 : Nat)) c' (List.flatMap encMk (List.take i l ++ x :: List.drop i l)))) ∧
      True)
      ((true = true ∧
      (0 : Int) ≤ (↑l.length : Int) ∧ (↑l.length : Int) ≤ (↑((IntKind.i64.wrap ((↑l.length : Int) + (↑(1 : Nat) : Int))).toNat - (0 : Nat)) : Int) ∧ True ∧ True) ∧
      ∃ (src : List Value),
      CopyPre m.sz S m (7 : Nat)
      (if (↑((↑c : Int).toNat - (0 : Nat)) : Int).toNat = (↑l.length : Int).toNat then
      if (↑c : Int).toNat = (0 : Nat) then a else Option.map (fun (x : Addr) => x) a
      else
      Option.map (fun (x : Addr) => x.add ((↑l.length : Int).toNat * Try.prog.types[(32 : Nat)].size))
      (if (↑c : Int).toNat = (0 : Nat) then a else Option.map (fun (x : Addr) => x) a))
      ((↑((IntKind.i64.wrap ((↑l.length : Int) + (↑(1 : Nat) : Int))).toNat - (0 : Nat)) : Int).toNat - (↑l.length : Int).toNat)
      (some { block := vb, off := vo : Addr }) (1 : Nat) src ∧
      ∀ (m' : M),
      CopyPost m
      (if (↑((↑c : Int).toNat - (0 : Nat)) : Int).toNat = (↑l.length : Int).toNat then
      if (↑c : Int).toNat = (0 : Nat) then a else Option.map (fun (x : Addr) => x) a
      else
      Option.map (fun (x : Addr) => x.add ((↑l.length : Int).toNat * Try.prog.types[(32 : Nat)].size))
      (if (↑c : Int).toNat = (0 : Nat) then a else Option.map (fun (x : Addr) => x) a))
      src m' →
      (true = true ∧
      (0 : Int) ≤ (↑i : Int) ∧ (↑i : Int) ≤ (↑((IntKind.i64.wrap ((↑l.length : Int) + (↑(1 : Nat) : Int))).toNat - (0 : Nat)) : Int) ∧ True ∧ True) ∧
      ∃ (S' : Nat → Prop),
      (∀ (b : Nat), S' b → m'.uf b ∧ (m.sz ≤ b ∨ S b)) ∧
      ∀ (n : Nat),
      m'.sz ≤ n →
      SpecW Try.prog (40 : Nat)
      [Value.slice
      (if (↑((↑c : Int).toNat - (0 : Nat)) : Int).toNat = (↑i : Int).toNat then
      if (↑c : Int).toNat = (0 : Nat) then a else Option.map (fun (x : Addr) => x) a
      else
      Option.map (fun (x : Addr) => x.add ((↑i : Int).toNat * Try.prog.types[(32 : Nat)].size))
      (if (↑c : Int).toNat = (0 : Nat) then a else Option.map (fun (x : Addr) => x) a))
      ((↑((IntKind.i64.wrap ((↑l.length : Int) + (↑(1 : Nat) : Int))).toNat - (0 : Nat)) : Int).toNat - (↑i : Int).toNat)
      ((↑((↑c : Int).toNat - (0 : Nat)) : Int).toNat - (↑i : Int).toNat),
      Value.int IntKind.i64 (↑(1 : Nat) : Int)]
      { π := m'.π, sz := n, uf := m'.uf : M } S' fun (v : Value) (m' : M) =>
      v = Value.tuple #[] ∧
      Done
      (∃ (a' : Option Addr),
      ∃ (c' : Nat),
      Value.slice (if (↑c : Int).toNat = (0 : Nat) then a else Option.map (fun (x : Addr) => x) a)
      ((IntKind.i64.wrap ((↑l.length : Int) + (↑(1 : Nat) : Int))).toNat - (0 : Nat)) ((↑c : Int).toNat - (0 : Nat)) =
      Value.slice a' (l.length + (1 : Nat)) c' ∧
      NewR m.sz S m' (7 : Nat) a' (l.length + (1 : Nat)) c' (List.flatMap encMk (List.take i l ++ x :: List.drop i l))))))) (by kernel_rfl) ?_
  have hk : ∀ x, (encMk x).length = 7 := fun _ => rfl
  have w1 : IntKind.i64.wrap ((l.length : Int) + ((1 : Nat) : Int)) = ((l.length + 1 : Nat) : Int) := by simp [IntKind.wrap_i64]; omega
  have w2 : IntKind.i64.wrap (((l.length + 1 : Nat) : Int) - (i : Int)) = ((l.length + 1 - i : Nat) : Int) := by simp [IntKind.wrap_i64]; omega
  have w3 : IntKind.i64.wrap ((i : Int) + ((1 : Nat) : Int)) = ((i + 1 : Nat) : Int) := by simp [IntKind.wrap_i64]; omega
  have es : Try.prog.types[32].size = 7 := by kernel_rfl
  simp only [w1, w2, w3, es, Int.toNat_natCast, Nat.sub_zero, Option.map_id_fun', id_eq, ite_self]
  have zl : ∀ k, (zeroRow Try.prog 32 k).length = k * 7 := zrLen (by kernel_rfl)
  have z1 : ∀ k, oneCells (zeroRow Try.prog 32 k) = true := zrOne (by kernel_rfl)
  have o1 : ∀ y : List Mk, oneCells (y.flatMap encMk) = true := fun y => by
    rw [oneCells_iff]; intro v hv
    obtain ⟨w, -, hw⟩ := List.mem_flatMap.1 hv
    exact oneCells_iff.1 (rfl : oneCells (encMk w) = true) v hw
  have hvr : Row m (some ⟨vb, vo, none⟩) (encMk x) := .at _ _ _ hvlt hv
  have eres : (l.take i ++ x :: l.drop i).flatMap encMk = (l.take i).flatMap encMk ++ (encMk x ++ (l.drop i).flatMap encMk) := by
    rw [List.flatMap_append, List.flatMap_cons]
  rw [eres]
  refine ⟨trivial, ⟨trivial, by omega, by omega, trivial, trivial⟩, ifB_intro (fun hb => ?_) (fun hb => ?_)⟩
  · have hil : i = l.length := by simp at hb; omega
    subst hil
    refine ⟨_, _, h.appPre hvr (hk x) rfl (by omega), fun a' c' m' hp => ⟨⟨a', c', rfl, ?_⟩⟩⟩
    have := h.append hp (hk x) zl (Nat.le_refl _)
    rw [List.take_length, List.drop_length, List.flatMap_nil, List.append_nil]
    exact this
  have hil : i < l.length := by simp at hb; omega
  have ho := h.toOwn (by omega)
  obtain ⟨b, o, rfl, -⟩ := ho.row.cells (by rw [flat_len hk]; omega)
  have hcl := ho.capLe
  have hbv := hS (fun e => by subst e; simp at hil) b o rfl
  have hTl : ((l.take i).flatMap encMk).length = i * 7 := by rw [flat_len hk, List.length_take]; congr 1; omega
  have hDl : ((l.drop i).flatMap encMk).length = (l.length - i) * 7 := by rw [flat_len hk, List.length_drop]
  have hne : some (⟨b, o, none⟩ : Addr) ≠ none := by simp
  have hci : c ≠ i := by omega
  rw [flat_cut l i] at ho
  generalize hT : (l.take i).flatMap encMk = T at *
  generalize hD : (l.drop i).flatMap encMk = D at *
  refine ifB_intro (fun hc => ?_) (fun hc => ?_)
  · have hcl2 : c = l.length := by simp at hc; omega
    refine ⟨⟨trivial, by omega, by omega, by omega, trivial⟩, T, ⟨by omega, ⟨ho.row.take.rowAt, hTl, zl _, z1 _, by decide, by omega, (fun e => by cases e), fun _ hr => by omega⟩⟩, fun a' c' m' hp => ⟨⟨trivial, by omega, by omega, trivial, trivial⟩, ?_⟩⟩
    rcases hp with ⟨hr, -⟩ | ⟨-, b', hb', hc', rfl, rfl⟩
    · omega
    have hbb : b ≠ b' := by have := ho.lt rfl; omega
    have hvb : vb ≠ b' := by omega
    have e1 : i + (l.length + 1 - i) = l.length + 1 := by omega
    generalize hz : zeroRow Try.prog 32 (l.length + 1 - i) = z at *
    have hzl : z.length = (l.length + 1 - i) * 7 := by rw [← hz, zl]
    have zs : z = z.take 7 ++ z.drop 7 := (List.take_append_drop _ _).symm
    have zt : (z.take 7).length = 7 := by rw [List.length_take, hzl]; omega
    have zd : (z.drop 7).length = (l.length - i) * 7 := by rw [List.length_drop, hzl]; omega
    have q1 : OwnB m.sz S (m.newBlock b' (T ++ z ++ zeroRow Try.prog 32 (c' - (i + (l.length + 1 - i))))) 7 (some ⟨b', 0, none⟩) (l.length + 1) c' (T ++ (z.take 7 ++ z.drop 7)) := by
      rw [← zs]
      exact OwnB.new hb' (by rw [List.length_append, hTl, hzl]; omega) (by rw [zl]; congr 1; omega) (by omega)
    obtain ⟨g1, q2⟩ := q1.set (new := encMk x) (by rw [zt]; exact hk x)
    rw [hTl] at g1 q2
    have q2' : OwnB m.sz S ((m.newBlock b' (T ++ z ++ zeroRow Try.prog 32 (c' - (i + (l.length + 1 - i))))).setCells b' (0 + i * 7) (encMk x)) 7 (some ⟨b', 0, none⟩) (l.length + 1) c' ((T ++ encMk x) ++ (z.drop 7 ++ [])) := by
      rw [show (T ++ encMk x) ++ (z.drop 7 ++ []) = T ++ (encMk x ++ z.drop 7) by rw [List.append_nil, List.append_assoc]]; exact q2
    obtain ⟨g2, q3⟩ := q2'.set (new := D) (by rw [zd, hDl])
    have el : (T ++ encMk x).length = (i + 1) * 7 := by rw [List.length_append, hTl, hk]; omega
    rw [el] at g2 q3
    refine ⟨encMk x, copyPre (sub_addr (by omega)) (hvr.newBlock hb').rowAt (by rw [hk]; omega) rfl g1 (by simp), fun m1 hp1 => ?_⟩
    have hm1 := hp1.atc (sub_addr (by omega))
    subst hm1
    have hDr : Row ((m.newBlock b' (T ++ z ++ zeroRow Try.prog 32 (c' - (i + (l.length + 1 - i))))).setCells b' (0 + i * 7) (encMk x)) (some ⟨b, o + i * 7, none⟩) D := by
      have h1 := ho.row.drop hTl
      rw [show (some (⟨b, o, none⟩ : Addr)).map (fun x => x.add (i * 7)) = some ⟨b, o + i * 7, none⟩ from by show some (Addr.add _ _) = _; rw [add_none]] at h1
      exact (h1.newBlock hb').of (Nat.le_refl _) fun b2 o2 e2 _ => setCells_other (by cases e2; exact hbb)
    refine ⟨trivial, ⟨trivial, by omega, by omega, trivial, trivial⟩, ⟨trivial, by omega, by omega, trivial, trivial⟩, ⟨D, copyPre (sub_addr (by omega)) (by rw [sub_addr hci]; exact hDr.rowAt) (by rw [hDl]; congr 1; omega) (by rw [← hD]; exact o1 _) g2 (by rw [sub_addr hci]; simp), fun m2 hp2 => ?_⟩, trivial⟩
    have hm2 := hp2.atc (sub_addr (by omega))
    subst hm2
    refine ⟨⟨_, c', by rw [e1], .own ?_⟩⟩
    rw [show (T ++ encMk x) ++ (D ++ []) = T ++ (encMk x ++ D) by rw [List.append_nil, List.append_assoc]] at q3
    exact q3
  · have hcl2 : l.length + 1 ≤ c := by simp at hc; omega
    have hi1 : c ≠ i + 1 := by omega
    have hov : RunV Try.prog 39 [.slice (some ⟨vb, vo, none⟩) 1 vc, .slice (some ⟨b, o + (i + 1) * 7, none⟩) (l.length + 1 - (i + 1)) (c - (i + 1))] m (.bool false) :=
      over_run Try.func39 (by kernel_rfl) (by kernel_rfl) (by kernel_rfl) (t := 22) (tR := 4) (by kernel_rfl) Try.underlying22 (i := Try.prog.types[32]) (by kernel_rfl) (Ne.symm hbv) hu (ho.uf rfl) (by
        obtain ⟨b2, o2, e2, hcell⟩ := ho.row.cells (by rw [List.length_append, hTl, hDl]; omega)
        cases e2
        have h0 := hcell.out 0 (by rw [List.length_append, hTl, hDl]; omega)
        rw [List.getElem?_eq_getElem (by rw [List.length_append, hTl, hDl]; omega)] at h0
        exact ⟨_, _, h0⟩)
    cases ho with
    | «at» b o len cap cs rest lo lt uf hcells hl hr hc' =>
    have rs : rest = rest.take 7 ++ rest.drop 7 := (List.take_append_drop _ _).symm
    have rt : (rest.take 7).length = 7 := by rw [List.length_take, hr]; omega
    have rd : (rest.drop 7).length = (c - (l.length + 1)) * 7 := by rw [List.length_drop, hr]; omega
    have ds : D = D.take 7 ++ D.drop 7 := (List.take_append_drop _ _).symm
    have dt : (D.take 7).length = 7 := by rw [List.length_take, hDl]; omega
    have dd : (D.drop 7).length = (l.length - (i + 1)) * 7 := by rw [List.length_drop, hDl]; omega
    have q1 : OwnB m.sz S m 7 (some ⟨b, o, none⟩) (l.length + 1) c ((T ++ D.take 7) ++ ((D.drop 7 ++ rest.take 7) ++ [])) := by
      refine .at b o _ _ _ (rest.drop 7) lo lt uf ?_ (by simp only [List.length_append, List.length_nil, hTl, dt, dd, rt]; omega) rd hcl2
      have e1 : T ++ D.take 7 ++ ((D.drop 7 ++ rest.take 7) ++ []) ++ rest.drop 7 = T ++ D ++ rest := by
        conv => rhs; rw [ds, rs]
        simp only [List.append_assoc, List.append_nil]
      rw [e1]; exact hcells
    obtain ⟨g1, q2⟩ := q1.set (new := D) (by rw [List.length_append, dd, rt, hDl]; omega)
    have el : (T ++ D.take 7).length = (i + 1) * 7 := by rw [List.length_append, hTl, dt]; omega
    rw [el] at g1 q2
    rw [show (T ++ D.take 7) ++ (D ++ []) = T ++ (D.take 7 ++ D) by rw [List.append_nil, List.append_assoc]] at q2
    obtain ⟨g2, q3⟩ := q2.set (new := encMk x) (by rw [dt]; exact hk x)
    rw [hTl] at g2 q3
    have hDr : RowAt m (some ⟨b, o + i * 7, none⟩) D := by
      have := hcells.take.drop
      rw [hTl] at this
      exact .inr ⟨b, _, rfl, this⟩
    refine ⟨⟨trivial, by omega, by omega, by omega, trivial⟩, ⟨trivial, by omega, by omega, trivial, trivial⟩, false, by rw [sub_addr hi1]; exact hov, ifB_true ⟨trivial, ⟨trivial, by omega, by omega, trivial, trivial⟩, ⟨trivial, by omega, by omega, trivial, trivial⟩, ⟨D, copyPre (sub_addr hi1) (by rw [sub_addr hci]; exact hDr) (by rw [hDl]; congr 1; omega) (by rw [← hD]; exact o1 _) g1 (by rw [sub_addr hci]; simp), fun m1 hp1 => ?_⟩, trivial⟩⟩
    have hm1 := hp1.atc (sub_addr hi1)
    subst hm1
    refine ⟨⟨trivial, by omega, by omega, trivial, trivial⟩, encMk x, copyPre (sub_addr hci) (Row.of (m' := m.setCells b (o + (i + 1) * 7) D) hvr (Nat.le_refl _) fun b2 o2 e2 _ => setCells_other (by cases e2; exact Ne.symm hbv)).rowAt (by rw [hk]; omega) rfl g2 (by simp), fun m2 hp2 => ?_⟩
    have hm2 := hp2.atc (sub_addr hci)
    subst hm2
    exact ⟨⟨_, c, rfl, .own q3⟩⟩

end Go.Proofs.Ytpfiodchlbofmaa
set_option linter.unusedVariables false
set_option linter.unusedSimpArgs false
namespace Go.Proofs.Ytpfiodchlbofmaa
open Go.Vc Go.RowKit
set_option maxRecDepth 100000

theorem mk_none {B : List Mk} {a : Option Addr} {m : M} (h : Row m a (mks B)) (e : a = none) : B = [] := by
  cases B with
  | nil => rfl
  | cons x xs =>
    obtain ⟨b, o, e2, -⟩ := h.cells (by rw [mk_len]; simp)
    rw [e] at e2; simp at e2

theorem scheck_q (a : Option Addr) (cp : Nat) (l : List Mk) (hn : l.length ≤ 9223372036854775807) (m : M) (h : Row m a (mks l)) : QSpec Try.prog 25 [.slice a l.length cp] m (I (if tabB 0 l then 0 else 21)) := by
  refine QSpec.of_vc Try.func25 (ann := fun n _ => { A := Nat × Int, inv := fun y => y.1 ≤ l.length ∧ tabB 0 l = tabB y.2 (l.drop y.1) ∧ 0 ≤ y.2, st := fun y => [(8, .val (I y.1)), (7, .val (I l.length)), (6, .val (.slice a l.length cp)), (3, .val (I y.2))], own := fun _ => [], m := fun _ => { m with sz := n }, μ := fun y => l.length - y.1 }) fun n hn' => ?_
  refine vc_by (X :=
      true = true ∧
      (∃ (a_1 : Nat × Int),
      (a_1.fst ≤ l.length ∧ tabB (0 : Int) l = tabB a_1.snd (List.drop a_1.fst l) ∧ (0 : Int) ≤ a_1.snd) ∧
      { π := m.π, sz := n, uf := m.uf : M } = { π := m.π, sz := n, uf := m.uf : M } ∧
      ((SV.val (Value.int IntKind.i64 (0 : Int)) = SV.val (Value.int IntKind.i64 (↑a_1.fst : Int)) ∧ true = true) ∧
      (SV.val (Value.int IntKind.i64 (↑l.length : Int)) = SV.val (Value.int IntKind.i64 (↑l.length : Int)) ∧ true = true) ∧
      (SV.val (Value.slice a l.length cp) = SV.val (Value.slice a l.length cp) ∧ true = true) ∧
      (SV.val (Value.int IntKind.i64 (0 : Int)) = SV.val (Value.int IntKind.i64 a_1.snd) ∧ true = true) ∧ True) ∧
      True) ∧
      ∀ (a_1 : Nat × Int),
      a_1.fst ≤ l.length ∧ tabB (0 : Int) l = tabB a_1.snd (List.drop a_1.fst l) ∧ (0 : Int) ≤ a_1.snd →
      ifB (decide ((↑a_1.fst : Int) < (↑l.length : Int)))
      (∃ (b : Nat),
      ∃ (off : Nat),
      a = some { block := b, off := off : Addr } ∧
      ((0 : Int) ≤ (↑a_1.fst : Int) ∧ (↑a_1.fst : Int) < (↑l.length : Int)) ∧
      ∃ (n_1 : Int),
      ∃ (n_2 : Int),
      ∃ (b_1 : Bool),
      ∃ (n_3 : Int),
      ∃ (n_4 : Int),
      ∃ (n_5 : Int),
      ∃ (n_6 : Int),
      CellsAt { π := m.π, sz := n, uf := m.uf : M } b (off + (↑a_1.fst : Int).toNat * (7 : Nat))
      [Value.int IntKind.i64 n_1, Value.int IntKind.i64 n_2, Value.bool b_1, Value.int IntKind.i64 n_3, Value.int IntKind.i64 n_4,
      Value.int IntKind.i64 n_5, Value.int IntKind.i64 n_6] ∧
      ifB (decide (n_1 ≤ a_1.snd))
      (Done (Value.int IntKind.i64 (21 : Int) = Value.int IntKind.i64 (if tabB (0 : Int) l = true then (0 : Int) else (21 : Int))))
      (ifB (decide (n_1 > (8 : Int)))
      (Done (Value.int IntKind.i64 (21 : Int) = Value.int IntKind.i64 (if tabB (0 : Int) l = true then (0 : Int) else (21 : Int))))
      (ifB (decide (n_2 < (0 : Int)))
      (Done (Value.int IntKind.i64 (21 : Int) = Value.int IntKind.i64 (if tabB (0 : Int) l = true then (0 : Int) else (21 : Int))))
      (ifB (decide (n_2 > (4611686018427387904 : Int)))
      (Done (Value.int IntKind.i64 (21 : Int) = Value.int IntKind.i64 (if tabB (0 : Int) l = true then (0 : Int) else (21 : Int))))
      (ifB b_1
      (ifB (n_2 == (0 : Int))
      (Done (Value.int IntKind.i64 (21 : Int) = Value.int IntKind.i64 (if tabB (0 : Int) l = true then (0 : Int) else (21 : Int))))
      (ifB (!(n_3 == (0 : Int) && (n_4 == (0 : Int) && (n_5 == (0 : Int) && (n_6 == (0 : Int) && true)))))
      (Done (Value.int IntKind.i64 (21 : Int) = Value.int IntKind.i64 (if tabB (0 : Int) l = true then (0 : Int) else (21 : Int))))
      (∃ (a' : Nat × Int),
      ((a'.fst ≤ l.length ∧ tabB (0 : Int) l = tabB a'.snd (List.drop a'.fst l) ∧ (0 : Int) ≤ a'.snd) ∧
      { π := m.π, sz := n, uf := m.uf : M } = { π := m.π, sz := n, uf := m.uf : M } ∧
      ((SV.val (Value.int IntKind.i64 (IntKind.i64.wrap ((↑a_1.fst : Int) + (1 : Int)))) =
      SV.val (Value.int IntKind.i64 (↑a'.fst : Int)) ∧
      true = true) ∧
      (SV.val (Value.int IntKind.i64 (↑l.length : Int)) = SV.val (Value.int IntKind.i64 (↑l.length : Int)) ∧ true = true) ∧
      (SV.val (Value.slice a l.length cp) = SV.val (Value.slice a l.length cp) ∧ true = true) ∧
      (SV.val (Value.int IntKind.i64 n_1) = SV.val (Value.int IntKind.i64 a'.snd) ∧ true = true) ∧ True) ∧
      True) ∧
      l.length - a'.fst < l.length - a_1.fst)))
      (∃ (a' : Nat × Int),
      ((a'.fst ≤ l.length ∧ tabB (0 : Int) l = tabB a'.snd (List.drop a'.fst l) ∧ (0 : Int) ≤ a'.snd) ∧
      { π := m.π, sz := n, uf := m.uf : M } = { π := m.π, sz := n, uf := m.uf : M } ∧
      ((SV.val (Value.int IntKind.i64 (IntKind.i64.wrap ((↑a_1.fst : Int) + (1 : Int)))) =
      SV.val (Value.int IntKind.i64 (↑a'.fst : Int)) ∧
      true = true) ∧
      (SV.val (Value.int IntKind.i64 (↑l.length : Int)) = SV.val (Value.int IntKind.i64 (↑l.length : Int)) ∧ true = true) ∧
      (SV.val (Value.slice a l.length cp) = SV.val (Value.slice a l.length cp) ∧ true = true) ∧
      (SV.val (Value.int IntKind.i64 n_1) = SV.val (Value.int IntKind.i64 a'.snd) ∧ true = true) ∧ True) ∧
      True) ∧
      l.length - a'.fst < l.length - a_1.fst))))))
      (Done (Value.int IntKind.i64 (0 : Int) = Value.int IntKind.i64 (if tabB (0 : Int) l = true then (0 : Int) else (21 : Int))))) (by kernel_rfl) ?_
  have h' := h.sz hn'
  refine ⟨rfl, ⟨⟨0, 0⟩, by simp⟩, fun y ⟨hk, hq, hz⟩ => ifB_intro (fun hb => ?_) (fun hb => ⟨?_⟩)⟩
  · have hk2 : y.1 < l.length := by simpa using hb
    obtain ⟨b, o, rfl, hc⟩ := h'.cells (by rw [mk_len]; omega)
    have w1 : IntKind.i64.wrap ((y.1 : Int) + 1) = ((y.1 + 1 : Nat) : Int) := by simp [IntKind.wrap_i64]; omega
    rw [List.drop_eq_getElem_cons hk2, tabB] at hq
    have bad : (decide (y.2 < l[y.1].cl) && mkB l[y.1]) = false → Done (I 21 = I (if tabB 0 l = true then 0 else 21)) := fun e => by
      rw [e, Bool.false_and] at hq
      exact ⟨by simp [hq]⟩
    have nx : ∀ (_ : (decide (y.2 < l[y.1].cl) && mkB l[y.1]) = true), (y.1 + 1 ≤ l.length ∧ tabB 0 l = tabB l[y.1].cl (l.drop (y.1 + 1)) ∧ 0 ≤ l[y.1].cl) := fun e => by
      rw [e, Bool.true_and] at hq
      simp only [Bool.and_eq_true, decide_eq_true_eq] at e
      exact ⟨hk2, hq, by omega⟩
    refine ⟨b, o, rfl, by omega, _, _, _, _, _, _, _, by simpa using mk_at hc hk2, ifB_intro (fun h1 => bad ?_) (fun h1 => ifB_intro (fun h2 => bad ?_) (fun h2 => ifB_intro (fun h3 => bad ?_) (fun h3 => ifB_intro (fun h4 => bad ?_) (fun h4 => ifB_intro (fun h5 => ifB_intro (fun h6 => bad ?_) (fun h6 => ifB_intro (fun h7 => bad ?_) (fun h7 => ⟨⟨y.1 + 1, l[y.1].cl⟩, ⟨nx ?_, rfl, by simp [w1]⟩, by simp only; omega⟩))) (fun h5 => ⟨⟨y.1 + 1, l[y.1].cl⟩, ⟨nx ?_, rfl, by simp [w1]⟩, by simp only; omega⟩)))))⟩
    · simp at h1; simp; intro h; omega
    · simp at h2; simp [mkB]; omega
    · simp at h3; simp [mkB]; omega
    · simp at h4; simp [mkB]; omega
    · simp at h6; simp [mkB, h5]; omega
    · have e : ans0B l[y.1] = false := by
        simp only [Bool.not_eq_true', Bool.beq_eq_decide_eq, Bool.and_true] at h7
        simpa [ans0B, Bool.and_assoc] using h7
      simp [mkB, h5, e]
    · simp at h1 h2 h3 h4 h6
      have e : ans0B l[y.1] = true := by
        simp at h7
        simp [ans0B, h7]
      simp [mkB, h5, e]; omega
    · simp at h1 h2 h3 h4; simp [mkB, h5]; omega
  · have : y.1 = l.length := by simp at hb; omega
    rw [this] at hq
    simp [hq, tabB]

theorem cmp_q (x : Mk) (c : Int) (m : M) : QSpec Try.prog 38 [.agg (encMk x).toArray, I c] m (I (if x.cl < c then -1 else if c < x.cl then 1 else 0)) := by
  refine QSpec.of_vc Try.func38 (ann := fun _ => noAnn) fun N hN => ?_
  refine vc_by (X :=
      true = true ∧
      ifB (decide (x.cl < c)) (Done (Value.int IntKind.i64 (-1 : Int) = Value.int IntKind.i64 (if x.cl < c then (-1 : Int) else if c < x.cl then (1 : Int) else (0 : Int))))
      (ifB (decide (x.cl > c)) (Done (Value.int IntKind.i64 (1 : Int) = Value.int IntKind.i64 (if x.cl < c then (-1 : Int) else if c < x.cl then (1 : Int) else (0 : Int))))
      (Done (Value.int IntKind.i64 (0 : Int) = Value.int IntKind.i64 (if x.cl < c then (-1 : Int) else if c < x.cl then (1 : Int) else (0 : Int)))))) (by kernel_rfl) ?_
  refine ⟨rfl, ifB_intro (fun h => ⟨?_⟩) (fun h => ifB_intro (fun h2 => ⟨?_⟩) (fun h2 => ⟨?_⟩))⟩
  · simp at h; simp [h]
  · simp at h h2; simp [h2, show ¬ x.cl < c by omega]
  · simp at h h2; simp [show ¬ x.cl < c by omega, show ¬ c < x.cl by omega]

theorem place_q (a : Option Addr) (cp : Nat) (l : List Mk) (c : Int) (ht : tabB 0 l = true) (m : M) (h : Row m a (mks l)) : QSpec Try.prog 30 [.slice a l.length cp, I c] m (.tuple #[I (mkP l c), .bool (ofM l c).isSome]) := by
  have h8 := tab8 ht
  have e : ((l[mkP l c]?).any fun x => decide ((if x.cl < c then (-1 : Int) else if c < x.cl then 1 else 0) = 0)) = (ofM l c).isSome := by
    rw [mkP_of (c := c) ht]
    cases l[mkP l c]? with
    | none => rfl
    | some x =>
      simp only [Option.any_some]
      by_cases e1 : x.cl = c
      · simp [e1]
      · by_cases e2 : x.cl < c
        · simp [e1, e2]
        · simp [e1, e2, show c < x.cl by omega]
  rw [← e]
  refine QSpec.of_vc Try.func30 (ann := fun _ => noAnn) fun n hn' => ?_
  refine vc_by (X :=
      true = true ∧
      ∃ (n_1 : Int),
      ∃ (b : Bool),
      QSpec Try.prog (37 : Nat) [Value.slice a l.length cp, Value.int IntKind.i64 c, Value.func (Fn.func (38 : Nat)) #[] #[]] { π := m.π, sz := n, uf := m.uf : M }
      (Value.tuple #[Value.int IntKind.i64 n_1, Value.bool b]) ∧
      Done
      (Value.tuple #[Value.int IntKind.i64 n_1, Value.bool b] =
      Value.tuple
      #[Value.int IntKind.i64 (↑(mkP l c) : Int),
      Value.bool (Option.any (fun (x : Mk) => decide ((if x.cl < c then (-1 : Int) else if c < x.cl then (1 : Int) else (0 : Int)) = (0 : Int))) l[mkP l c]?)])) (by kernel_rfl) ?_
  refine ⟨rfl, _, _, mk_bsearch a cp l c (fun x => if x.cl < c then -1 else if c < x.cl then 1 else 0) (mkP l c) (by omega) _ (h.sz hn') (fun x _ m' => cmp_q x c m') (mkP_le c l) (fun k hk hp => ?_) (fun k hk hp => ?_), ⟨rfl⟩⟩
  · have := mkP_lt ht k hk hp; simp [this]
  · have := mkP_ge ht k hk hp
    show (0 : Int) ≤ if l[k].cl < c then -1 else if c < l[k].cl then 1 else 0
    rw [if_neg (by omega)]; split <;> omega

def m0 : Mk := ⟨0, 0, false, 0, 0, 0, 0⟩

def findO (l : List Mk) (c : Int) : Option Mk := if tabB 0 l then ofM l c else none

theorem find_q (a : Option Addr) (cp : Nat) (l : List Mk) (c : Int) (hn : l.length ≤ 9223372036854775807) (m : M) (h : Row m a (mks l)) : QSpec Try.prog 17 [.slice a l.length cp, I c] m (.tuple #[mkv ((findO l c).getD m0), .bool (findO l c).isSome]) := by
  refine QSpec.of_vc Try.func17 (ann := fun _ => noAnn) fun n hn' => ?_
  refine vc_by (X :=
      true = true ∧
      ∃ (n_1 : Int),
      QSpec Try.prog (25 : Nat) [Value.slice a l.length cp] { π := m.π, sz := n, uf := m.uf : M } (Value.int IntKind.i64 n_1) ∧
      ifB (n_1 != (0 : Int))
      (Done
      (Value.tuple
      #[Value.agg
      #[Value.int IntKind.i64 (0 : Int), Value.int IntKind.i64 (0 : Int), Value.bool false, Value.int IntKind.i64 (0 : Int), Value.int IntKind.i64 (0 : Int),
      Value.int IntKind.i64 (0 : Int), Value.int IntKind.i64 (0 : Int)],
      Value.bool false] =
      Value.tuple
      #[Value.agg
      #[Value.int IntKind.i64 ((findO l c).getD m0).cl, Value.int IntKind.i64 ((findO l c).getD m0).sq, Value.bool ((findO l c).getD m0).op,
      Value.int IntKind.i64 ((findO l c).getD m0).an_er, Value.int IntKind.i64 ((findO l c).getD m0).an_va, Value.int IntKind.i64 ((findO l c).getD m0).an_le,
      Value.int IntKind.i64 ((findO l c).getD m0).an_mo],
      Value.bool (findO l c).isSome]))
      (∃ (n_2 : Int),
      ∃ (b : Bool),
      QSpec Try.prog (30 : Nat) [Value.slice a l.length cp, Value.int IntKind.i64 c] { π := m.π, sz := n, uf := m.uf : M }
      (Value.tuple #[Value.int IntKind.i64 n_2, Value.bool b]) ∧
      ifB (!b)
      (Done
      (Value.tuple
      #[Value.agg
      #[Value.int IntKind.i64 (0 : Int), Value.int IntKind.i64 (0 : Int), Value.bool false, Value.int IntKind.i64 (0 : Int), Value.int IntKind.i64 (0 : Int),
      Value.int IntKind.i64 (0 : Int), Value.int IntKind.i64 (0 : Int)],
      Value.bool false] =
      Value.tuple
      #[Value.agg
      #[Value.int IntKind.i64 ((findO l c).getD m0).cl, Value.int IntKind.i64 ((findO l c).getD m0).sq, Value.bool ((findO l c).getD m0).op,
      Value.int IntKind.i64 ((findO l c).getD m0).an_er, Value.int IntKind.i64 ((findO l c).getD m0).an_va, Value.int IntKind.i64 ((findO l c).getD m0).an_le,
      Value.int IntKind.i64 ((findO l c).getD m0).an_mo],
      Value.bool (findO l c).isSome]))
      (∃ (b : Nat),
      ∃ (off : Nat),
      a = some { block := b, off := off : Addr } ∧
      ((0 : Int) ≤ n_2 ∧ n_2 < (↑l.length : Int)) ∧
      ∃ (n_3 : Int),
      ∃ (n_4 : Int),
      ∃ (b_1 : Bool),
      ∃ (n_5 : Int),
      ∃ (n_6 : Int),
      ∃ (n_7 : Int),
      ∃ (n_8 : Int),
      CellsAt { π := m.π, sz := n, uf := m.uf : M } b (off + n_2.toNat * (7 : Nat))
      [Value.int IntKind.i64 n_3, Value.int IntKind.i64 n_4, Value.bool b_1, Value.int IntKind.i64 n_5, Value.int IntKind.i64 n_6,
      Value.int IntKind.i64 n_7, Value.int IntKind.i64 n_8] ∧
      Done
      (Value.tuple
      #[Value.agg
      #[Value.int IntKind.i64 n_3, Value.int IntKind.i64 n_4, Value.bool b_1, Value.int IntKind.i64 n_5, Value.int IntKind.i64 n_6,
      Value.int IntKind.i64 n_7, Value.int IntKind.i64 n_8],
      Value.bool true] =
      Value.tuple
      #[Value.agg
      #[Value.int IntKind.i64 ((findO l c).getD m0).cl, Value.int IntKind.i64 ((findO l c).getD m0).sq,
      Value.bool ((findO l c).getD m0).op, Value.int IntKind.i64 ((findO l c).getD m0).an_er,
      Value.int IntKind.i64 ((findO l c).getD m0).an_va, Value.int IntKind.i64 ((findO l c).getD m0).an_le,
      Value.int IntKind.i64 ((findO l c).getD m0).an_mo],
      Value.bool (findO l c).isSome])))) (by kernel_rfl) ?_
  have h' := h.sz hn'
  refine ⟨rfl, _, scheck_q a cp l hn _ h', ?_⟩
  cases ht : tabB 0 l
  · exact ifB_true ⟨by simp [findO, ht, m0]⟩
  refine ifB_false ⟨_, _, place_q a cp l c ht _ h', ?_⟩
  have e := mkP_of (c := c) ht
  cases ho : ofM l c with
  | none => exact ifB_true ⟨by simp [findO, ht, ho, m0]⟩
  | some x =>
    rw [ho] at e
    have hp : ∃ hk : mkP l c < l.length, l[mkP l c] = x := by
      cases hg : l[mkP l c]? with
      | none => rw [hg] at e; simp at e
      | some z =>
        rw [hg] at e
        obtain ⟨hk, hx⟩ := List.getElem?_eq_some_iff.1 hg
        refine ⟨hk, ?_⟩
        rw [hx]
        simp only at e
        split at e
        · exact (Option.some.inj e).symm
        · simp at e
    obtain ⟨hk, hx⟩ := hp
    obtain ⟨b, o, rfl, hc⟩ := h'.cells (by rw [mk_len]; omega)
    have hcc := mk_at hc hk
    rw [hx] at hcc
    refine ifB_false ⟨b, o, rfl, by omega, _, _, _, _, _, _, _, by simpa using hcc, ⟨?_⟩⟩
    simp [findO, ht, ho]

/-- a list that can be read -/
structure SlR (y : List Mk) (v : Value) (m' : M) : Prop where
  out : ∃ a' c', v = .slice a' y.length c' ∧ Row m' a' (mks y)

theorem with_s (a : Option Addr) (cp : Nat) (l : List Mk) (x : Mk) (ht : tabB 0 l = true) (m : M) (h : Row m a (mks l)) : Vc.Spec Try.prog 28 [.slice a l.length cp, mkv x] m (SlR (insM l x)) := by
  refine Vc.Spec.of_vc Try.func28 (ann := noAnn) ?_
  refine vc_by (X :=
      true = true ∧
      ∃ (S' : Nat → Prop),
      (∀ (b : Nat), S' b → m.uf b ∧ (m.sz ≤ b ∨ False)) ∧
      ∀ (n : Nat),
      m.sz ≤ n →
      SpecW Try.prog (27 : Nat) [Value.slice a l.length cp] { π := m.π, sz := n, uf := m.uf : M } S' fun (v : Value) (m' : M) =>
      ∃ (a : Option Addr),
      ∃ (n : Nat),
      ∃ (c : Nat),
      v = Value.slice a n c ∧
      ∃ (n_1 : Int),
      ∃ (b : Bool),
      QSpec Try.prog (30 : Nat) [Value.slice a n c, Value.int IntKind.i64 x.cl] m' (Value.tuple #[Value.int IntKind.i64 n_1, Value.bool b]) ∧
      ifB b
      (∃ (b : Nat),
      ∃ (off : Nat),
      a = some { block := b, off := off : Addr } ∧
      ((0 : Int) ≤ n_1 ∧ n_1 < (↑n : Int)) ∧
      Wr m.sz (fun (x : Nat) => False) m' b (off + n_1.toNat * (7 : Nat))
      #[Value.int IntKind.i64 x.cl, Value.int IntKind.i64 x.sq, Value.bool x.op, Value.int IntKind.i64 x.an_er, Value.int IntKind.i64 x.an_va,
      Value.int IntKind.i64 x.an_le, Value.int IntKind.i64 x.an_mo].size ∧
      Done
      (SlR (insM l x) (Value.slice a n c)
      (m'.setCells b (off + n_1.toNat * (7 : Nat))
      [Value.int IntKind.i64 x.cl, Value.int IntKind.i64 x.sq, Value.bool x.op, Value.int IntKind.i64 x.an_er, Value.int IntKind.i64 x.an_va,
      Value.int IntKind.i64 x.an_le, Value.int IntKind.i64 x.an_mo])))
      (true = true ∧
      ∀ (b : Nat),
      m'.sz ≤ b →
      ∃ (S' : Nat → Prop),
      (∀ (b_1 : Nat),
      S' b_1 →
      (m'.newBlock b
      [Value.int IntKind.i64 x.cl, Value.int IntKind.i64 x.sq, Value.bool x.op, Value.int IntKind.i64 x.an_er,
      Value.int IntKind.i64 x.an_va, Value.int IntKind.i64 x.an_le, Value.int IntKind.i64 x.an_mo]).uf
      b_1 ∧
      (m.sz ≤ b_1 ∨ False)) ∧
      ∀ (n_2 : Nat),
      max m'.sz (b + (1 : Nat)) ≤ n_2 →
      SpecW Try.prog (36 : Nat)
      [Value.slice a n c, Value.int IntKind.i64 n_1, Value.slice (some { block := b, off := (0 : Nat) : Addr }) (1 : Nat) (1 : Nat)]
      { π := (m'.newBlock b [Value.int IntKind.i64 x.cl, Value.int IntKind.i64 x.sq, Value.bool x.op, Value.int IntKind.i64 x.an_er, Value.int IntKind.i64 x.an_va, Value.int IntKind.i64 x.an_le, Value.int IntKind.i64 x.an_mo]).π, sz := n_2, uf := (m'.newBlock b [Value.int IntKind.i64 x.cl, Value.int IntKind.i64 x.sq, Value.bool x.op, Value.int IntKind.i64 x.an_er, Value.int IntKind.i64 x.an_va, Value.int IntKind.i64 x.an_le, Value.int IntKind.i64 x.an_mo]).uf : M }
      S' fun (v : Value) (m' : M) =>
      ∃ (a : Option Addr), ∃ (n : Nat), ∃ (c : Nat), v = Value.slice a n c ∧ Done (SlR (insM l x) (Value.slice a n c) m'))) (by kernel_rfl) ?_
  have h8 := tab8 ht
  have hple := mkP_le x.cl l
  refine ⟨rfl, _, noS, fun N hN => (mk_clone l a cp (by omega) (mk_none h) _ (h.sz hN)).monoW fun v m' hag ⟨a', c', hv, hr'⟩ => ⟨a', _, c', hv, _, _, place_q a' c' l x.cl ht _ hr'.row, ?_⟩⟩
  cases ho : ofM l x.cl with
  | none =>
    have e := ins_put (m := x) ht ho
    refine ifB_false ⟨rfl, fun b hb => ?_⟩
    have hrN := hr'.newBlock (ds := encMk x) hb
    have hs := mk_insert a' c' l (mkP l x.cl) b 0 1 x (fun b' => ∃ o, a' = some ⟨b', o, none⟩ ∧ (m'.newBlock b (encMk x)).uf b' ∧ m.sz ≤ b') (by omega) hple
    refine ⟨fun b' => ∃ o, a' = some ⟨b', o, none⟩ ∧ (m'.newBlock b (encMk x)).uf b' ∧ m.sz ≤ b', fun b' ⟨o, e, hu, hlo⟩ => ⟨hu, .inl hlo⟩, fun n hn => ?_⟩
    refine (hs { m'.newBlock b (encMk x) with sz := n } ((hrN.sz hn).re fun b' o e hu hlo => .inr ⟨o, e, hu, by rcases hlo with h | h; simp only at h; omega; exact h.elim⟩)
      (fun hne b' o e => ?_) (by simp only; omega) (.inl rfl) ⟨(cellsAt_new (m := m') (b := b) (cs := encMk x)).out⟩).mono fun v3 m3 hag3 ⟨a3, c3, hv3, hr3⟩ => ⟨a3, _, c3, hv3, ⟨⟨a3, c3, ?_, ?_⟩⟩⟩
    · have := (hr'.toOwn (fun e => hne (List.eq_nil_of_length_eq_zero e))).lt e
      omega
    · rw [e]; simp; omega
    · rw [e]; exact hr3.row
  | some z =>
    have e := ins_set (m := x) ht (by rw [ho]; rfl)
    have hk : mkP l x.cl < l.length := by
      have e2 := mkP_of (c := x.cl) ht
      rw [ho] at e2
      rcases Nat.lt_or_ge (mkP l x.cl) l.length with hk | hk
      · exact hk
      · rw [List.getElem?_eq_none hk] at e2; simp at e2
    have hown := (hr'.toOwn (by omega)).lower hN
    obtain ⟨b, o, rfl, hc⟩ := hown.row.cells (by rw [mk_len]; omega)
    obtain ⟨g1, g2⟩ := OwnB.setAt mk_k hown hk x
    refine ifB_true ⟨b, o, rfl, by omega, g1, ⟨⟨some ⟨b, o, none⟩, c', ?_, ?_⟩⟩⟩
    · rw [e]; simp
    · rw [e]; exact g2.row

end Go.Proofs.Ytpfiodchlbofmaa
set_option linter.unusedVariables false
set_option linter.unusedSimpArgs false
namespace Go.Proofs.Ytpfiodchlbofmaa
open Go.Vc Go.RowKit
set_option maxRecDepth 100000

/-- a list that can be read, and an Errno -/
structure MeR (y : List Mk × Int) (v : Value) (m' : M) : Prop where
  out : ∃ a' c', v = .tuple #[.slice a' y.1.length c', I y.2] ∧ Row m' a' (mks y.1)

structure MbR (y : List Mk × Bool × Int) (v : Value) (m' : M) : Prop where
  out : ∃ a' c', v = .tuple #[.slice a' y.1.length c', .bool y.2.1, I y.2.2] ∧ Row m' a' (mks y.1)

theorem me_fail {m' : M} {y : List Mk × Int} {e : Int} (h : y = ([], e)) : Done (MeR y (.tuple #[.slice none 0 0, I e]) m') := ⟨by subst h; exact ⟨none, 0, rfl, .nil _⟩⟩

theorem mb_fail {m' : M} {y : List Mk × Bool × Int} {e : Int} (h : y = ([], false, e)) : Done (MbR y (.tuple #[.slice none 0 0, .bool false, I e]) m') := ⟨by subst h; exact ⟨none, 0, rfl, .nil _⟩⟩

theorem me_ok {m' : M} {y : List Mk × Int} {z : List Mk} {a' : Option Addr} {len c' : Nat} (h : y = (z, 0)) (hl : len = z.length) (hr : Row m' a' (mks z)) : Done (MeR y (.tuple #[.slice a' len c', I 0]) m') := ⟨by subst h; subst hl; exact ⟨a', c', rfl, hr⟩⟩

theorem mb_ok {m' : M} {y : List Mk × Bool × Int} {z : List Mk} {b : Bool} {a' : Option Addr} {len c' : Nat} (h : y = (z, b, 0)) (hl : len = z.length) (hr : Row m' a' (mks z)) : Done (MbR y (.tuple #[.slice a' len c', .bool b, I 0]) m') := ⟨by subst h; subst hl; exact ⟨a', c', rfl, hr⟩⟩

def argB (c s : Int) : Bool := decide (1 ≤ c) && decide (c ≤ 8) && decide (1 ≤ s) && decide (s ≤ 4611686018427387904)

def opM (c s : Int) : Mk := ⟨c, s, true, 0, 0, 0, 0⟩

def beginM (l : List Mk) (c s : Int) : List Mk × Bool × Int :=
  if tabB 0 l = false then ([], false, 21) else if argB c s = false then ([], false, 1) else
  match ofM l c with
  | none => (insM l (opM c s), true, 0)
  | some x => if s < x.sq then ([], false, 80) else if x.sq = s then (l, false, 0) else (insM l (opM c s), true, 0)

def openE (l : List Mk) (c s : Int) : Int := if tabB 0 l = false then 21 else match ofM l c with | none => 60 | some x => if x.sq = s ∧ x.op = true then 0 else 60

def edM (c s : Int) (a : An) : Mk := ⟨c, s, false, a.er, a.va, a.le, a.mo⟩

def loM (c s : Int) : Mk := ⟨c, s - 1, false, 80, 0, 0, 0⟩

def endM (l : List Mk) (c s : Int) (a : An) : List Mk × Int := if openE l c s ≠ 0 then ([], openE l c s) else (insM l (edM c s a), 0)

def loseM (l : List Mk) (c s : Int) : List Mk × Int := if openE l c s ≠ 0 then ([], openE l c s) else (insM l (loM c s), 0)

def joinM (a b : List Mk) : List Mk × Int := if tabB 0 a = false ∨ tabB 0 b = false then ([], 21) else (foldM a b, 0)

theorem sbegin_s (a : Option Addr) (cp : Nat) (l : List Mk) (c s : Int) (hn : l.length ≤ 9223372036854775807) (m : M) (h : Row m a (mks l)) : Vc.Spec Try.prog 18 [.slice a l.length cp, I c, I s] m (MbR (beginM l c s)) := by
  refine Vc.Spec.of_vc Try.func18 (ann := noAnn) ?_
  refine vc_by (X :=
      true = true ∧
      ∃ (n : Int),
      QSpec Try.prog (25 : Nat) [Value.slice a l.length cp] m (Value.int IntKind.i64 n) ∧
      ifB (n != (0 : Int)) (Done (MbR (beginM l c s) (Value.tuple #[Value.slice none (0 : Nat) (0 : Nat), Value.bool false, Value.int IntKind.i64 (21 : Int)]) m))
      (ifB (decide (c < (1 : Int))) (Done (MbR (beginM l c s) (Value.tuple #[Value.slice none (0 : Nat) (0 : Nat), Value.bool false, Value.int IntKind.i64 (1 : Int)]) m))
      (ifB (decide (c > (8 : Int))) (Done (MbR (beginM l c s) (Value.tuple #[Value.slice none (0 : Nat) (0 : Nat), Value.bool false, Value.int IntKind.i64 (1 : Int)]) m))
      (ifB (decide (s < (1 : Int))) (Done (MbR (beginM l c s) (Value.tuple #[Value.slice none (0 : Nat) (0 : Nat), Value.bool false, Value.int IntKind.i64 (1 : Int)]) m))
      (ifB (decide (s > (4611686018427387904 : Int)))
      (Done (MbR (beginM l c s) (Value.tuple #[Value.slice none (0 : Nat) (0 : Nat), Value.bool false, Value.int IntKind.i64 (1 : Int)]) m))
      (∃ (n : Int),
      ∃ (n_1 : Int),
      ∃ (b : Bool),
      ∃ (n_2 : Int),
      ∃ (n_3 : Int),
      ∃ (n_4 : Int),
      ∃ (n_5 : Int),
      ∃ (b_1 : Bool),
      QSpec Try.prog (17 : Nat) [Value.slice a l.length cp, Value.int IntKind.i64 c] m
      (Value.tuple
      #[Value.agg
      #[Value.int IntKind.i64 n, Value.int IntKind.i64 n_1, Value.bool b, Value.int IntKind.i64 n_2, Value.int IntKind.i64 n_3,
      Value.int IntKind.i64 n_4, Value.int IntKind.i64 n_5],
      Value.bool b_1]) ∧
      ifB b_1
      (ifB (decide (n_1 > s))
      (Done (MbR (beginM l c s) (Value.tuple #[Value.slice none (0 : Nat) (0 : Nat), Value.bool false, Value.int IntKind.i64 (80 : Int)]) m))
      (ifB b_1
      (ifB (n_1 == s)
      (∃ (S' : Nat → Prop),
      (∀ (b : Nat), S' b → m.uf b ∧ (m.sz ≤ b ∨ False)) ∧
      ∀ (n : Nat),
      m.sz ≤ n →
      SpecW Try.prog (27 : Nat) [Value.slice a l.length cp] { π := m.π, sz := n, uf := m.uf : M } S' fun (v : Value) (m' : M) =>
      ∃ (a : Option Addr),
      ∃ (n : Nat),
      ∃ (c_1 : Nat),
      v = Value.slice a n c_1 ∧
      Done (MbR (beginM l c s) (Value.tuple #[Value.slice a n c_1, Value.bool false, Value.int IntKind.i64 (0 : Int)]) m'))
      (∃ (S' : Nat → Prop),
      (∀ (b : Nat), S' b → m.uf b ∧ (m.sz ≤ b ∨ False)) ∧
      ∀ (n : Nat),
      m.sz ≤ n →
      SpecW Try.prog (28 : Nat)
      [Value.slice a l.length cp,
      Value.agg
      #[Value.int IntKind.i64 c, Value.int IntKind.i64 s, Value.bool true, Value.int IntKind.i64 (0 : Int),
      Value.int IntKind.i64 (0 : Int), Value.int IntKind.i64 (0 : Int), Value.int IntKind.i64 (0 : Int)]]
      { π := m.π, sz := n, uf := m.uf : M } S' fun (v : Value) (m' : M) =>
      ∃ (a : Option Addr),
      ∃ (n : Nat),
      ∃ (c_1 : Nat),
      v = Value.slice a n c_1 ∧
      Done (MbR (beginM l c s) (Value.tuple #[Value.slice a n c_1, Value.bool true, Value.int IntKind.i64 (0 : Int)]) m')))
      (∃ (S' : Nat → Prop),
      (∀ (b : Nat), S' b → m.uf b ∧ (m.sz ≤ b ∨ False)) ∧
      ∀ (n : Nat),
      m.sz ≤ n →
      SpecW Try.prog (28 : Nat)
      [Value.slice a l.length cp,
      Value.agg
      #[Value.int IntKind.i64 c, Value.int IntKind.i64 s, Value.bool true, Value.int IntKind.i64 (0 : Int),
      Value.int IntKind.i64 (0 : Int), Value.int IntKind.i64 (0 : Int), Value.int IntKind.i64 (0 : Int)]]
      { π := m.π, sz := n, uf := m.uf : M } S' fun (v : Value) (m' : M) =>
      ∃ (a : Option Addr),
      ∃ (n : Nat),
      ∃ (c_1 : Nat),
      v = Value.slice a n c_1 ∧
      Done (MbR (beginM l c s) (Value.tuple #[Value.slice a n c_1, Value.bool true, Value.int IntKind.i64 (0 : Int)]) m'))))
      (ifB b_1
      (ifB (n_1 == s)
      (∃ (S' : Nat → Prop),
      (∀ (b : Nat), S' b → m.uf b ∧ (m.sz ≤ b ∨ False)) ∧
      ∀ (n : Nat),
      m.sz ≤ n →
      SpecW Try.prog (27 : Nat) [Value.slice a l.length cp] { π := m.π, sz := n, uf := m.uf : M } S' fun (v : Value) (m' : M) =>
      ∃ (a : Option Addr),
      ∃ (n : Nat),
      ∃ (c_1 : Nat),
      v = Value.slice a n c_1 ∧
      Done (MbR (beginM l c s) (Value.tuple #[Value.slice a n c_1, Value.bool false, Value.int IntKind.i64 (0 : Int)]) m'))
      (∃ (S' : Nat → Prop),
      (∀ (b : Nat), S' b → m.uf b ∧ (m.sz ≤ b ∨ False)) ∧
      ∀ (n : Nat),
      m.sz ≤ n →
      SpecW Try.prog (28 : Nat)
      [Value.slice a l.length cp,
      Value.agg
      #[Value.int IntKind.i64 c, Value.int IntKind.i64 s, Value.bool true, Value.int IntKind.i64 (0 : Int),
      Value.int IntKind.i64 (0 : Int), Value.int IntKind.i64 (0 : Int), Value.int IntKind.i64 (0 : Int)]]
      { π := m.π, sz := n, uf := m.uf : M } S' fun (v : Value) (m' : M) =>
      ∃ (a : Option Addr),
      ∃ (n : Nat),
      ∃ (c_1 : Nat),
      v = Value.slice a n c_1 ∧
      Done (MbR (beginM l c s) (Value.tuple #[Value.slice a n c_1, Value.bool true, Value.int IntKind.i64 (0 : Int)]) m')))
      (∃ (S' : Nat → Prop),
      (∀ (b : Nat), S' b → m.uf b ∧ (m.sz ≤ b ∨ False)) ∧
      ∀ (n : Nat),
      m.sz ≤ n →
      SpecW Try.prog (28 : Nat)
      [Value.slice a l.length cp,
      Value.agg
      #[Value.int IntKind.i64 c, Value.int IntKind.i64 s, Value.bool true, Value.int IntKind.i64 (0 : Int),
      Value.int IntKind.i64 (0 : Int), Value.int IntKind.i64 (0 : Int), Value.int IntKind.i64 (0 : Int)]]
      { π := m.π, sz := n, uf := m.uf : M } S' fun (v : Value) (m' : M) =>
      ∃ (a : Option Addr),
      ∃ (n : Nat),
      ∃ (c_1 : Nat),
      v = Value.slice a n c_1 ∧
      Done (MbR (beginM l c s) (Value.tuple #[Value.slice a n c_1, Value.bool true, Value.int IntKind.i64 (0 : Int)]) m'))))))))) (by kernel_rfl) ?_
  refine ⟨rfl, _, scheck_q a cp l hn _ h, ?_⟩
  cases ht : tabB 0 l
  · exact ifB_true (mb_fail (by simp [beginM, ht]))
  have h8 := tab8 ht
  refine ifB_false (ifB_intro (fun h1 => mb_fail ?_) (fun h1 => ifB_intro (fun h2 => mb_fail ?_) (fun h2 => ifB_intro (fun h3 => mb_fail ?_) (fun h3 => ifB_intro (fun h4 => mb_fail ?_) (fun h4 => ?_)))))
  · have : argB c s = false := by simp at h1; simp [argB]; omega
    simp [beginM, ht, this]
  · have : argB c s = false := by simp at h2; simp [argB]; omega
    simp [beginM, ht, this]
  · have : argB c s = false := by simp at h3; simp [argB]; omega
    simp [beginM, ht, this]
  · have : argB c s = false := by simp at h4; simp [argB]; omega
    simp [beginM, ht, this]
  have ha : argB c s = true := by simp at h1 h2 h3 h4; simp [argB]; omega
  have hf : findO l c = ofM l c := by simp [findO, ht]
  refine ⟨_, _, _, _, _, _, _, _, find_q a cp l c hn _ h, ?_⟩
  rw [hf]
  cases ho : ofM l c with
  | none =>
    have hres : beginM l c s = (insM l (opM c s), true, 0) := by simp [beginM, ht, ha, ho]
    refine ifB_false (ifB_false ⟨_, noS, fun N hN => (with_s a cp l (opM c s) ht _ (h.sz hN)).monoW fun v m' hag hq => ?_⟩)
    obtain ⟨a', c', hv, hr⟩ := hq
    exact ⟨a', _, c', hv, mb_ok hres rfl hr⟩
  | some x =>
    refine ifB_true (ifB_intro (fun h5 => mb_fail ?_) (fun h5 => ifB_true (ifB_intro (fun h6 => ⟨_, noS, fun N hN => (mk_clone l a cp (by omega) (mk_none h) _ (h.sz hN)).monoW fun v m' hag hq => ?_⟩) (fun h6 => ⟨_, noS, fun N hN => (with_s a cp l (opM c s) ht _ (h.sz hN)).monoW fun v m' hag hq => ?_⟩))))
    · have h5 : s < x.sq := by simpa using h5
      simp [beginM, ht, ha, ho, h5]
    all_goals have h5 : ¬ s < x.sq := by simpa using h5
    · have h6 : x.sq = s := by simpa using h6
      obtain ⟨a', c', hv, hr⟩ := hq
      exact ⟨a', _, c', hv, mb_ok (by simp [beginM, ht, ha, ho, h6]) rfl hr.row⟩
    · have h6 : ¬ x.sq = s := by simpa using h6
      obtain ⟨a', c', hv, hr⟩ := hq
      exact ⟨a', _, c', hv, mb_ok (by simp [beginM, ht, ha, ho, h5, h6]) rfl hr⟩

theorem sopen_q (a : Option Addr) (cp : Nat) (l : List Mk) (c s : Int) (hn : l.length ≤ 9223372036854775807) (m : M) (h : Row m a (mks l)) : QSpec Try.prog 31 [.slice a l.length cp, I c, I s] m (I (openE l c s)) := by
  refine QSpec.of_vc Try.func31 (ann := fun _ => noAnn) fun n hn' => ?_
  refine vc_by (X :=
      true = true ∧
      ∃ (n_1 : Int),
      QSpec Try.prog (25 : Nat) [Value.slice a l.length cp] { π := m.π, sz := n, uf := m.uf : M } (Value.int IntKind.i64 n_1) ∧
      ifB (n_1 != (0 : Int)) (Done (Value.int IntKind.i64 (21 : Int) = Value.int IntKind.i64 (openE l c s)))
      (∃ (n_2 : Int),
      ∃ (n_3 : Int),
      ∃ (b : Bool),
      ∃ (n_4 : Int),
      ∃ (n_5 : Int),
      ∃ (n_6 : Int),
      ∃ (n_7 : Int),
      ∃ (b_1 : Bool),
      QSpec Try.prog (17 : Nat) [Value.slice a l.length cp, Value.int IntKind.i64 c] { π := m.π, sz := n, uf := m.uf : M }
      (Value.tuple
      #[Value.agg
      #[Value.int IntKind.i64 n_2, Value.int IntKind.i64 n_3, Value.bool b, Value.int IntKind.i64 n_4, Value.int IntKind.i64 n_5,
      Value.int IntKind.i64 n_6, Value.int IntKind.i64 n_7],
      Value.bool b_1]) ∧
      ifB (!b_1) (Done (Value.int IntKind.i64 (60 : Int) = Value.int IntKind.i64 (openE l c s)))
      (ifB (n_3 != s) (Done (Value.int IntKind.i64 (60 : Int) = Value.int IntKind.i64 (openE l c s)))
      (ifB (!b) (Done (Value.int IntKind.i64 (60 : Int) = Value.int IntKind.i64 (openE l c s)))
      (Done (Value.int IntKind.i64 (0 : Int) = Value.int IntKind.i64 (openE l c s))))))) (by kernel_rfl) ?_
  have h' := h.sz hn'
  refine ⟨rfl, _, scheck_q a cp l hn _ h', ?_⟩
  cases ht : tabB 0 l
  · exact ifB_true ⟨by simp [openE, ht]⟩
  refine ifB_false ⟨_, _, _, _, _, _, _, _, find_q a cp l c hn _ h', ?_⟩
  rw [show findO l c = ofM l c by simp [findO, ht]]
  cases ho : ofM l c with
  | none => exact ifB_true ⟨by simp [openE, ht, ho]⟩
  | some x =>
    refine ifB_false (ifB_intro (fun h1 => ⟨?_⟩) (fun h1 => ifB_intro (fun h2 => ⟨?_⟩) (fun h2 => ⟨?_⟩)))
    · have h1 : ¬ x.sq = s := by simpa using h1
      simp [openE, ht, ho, h1]
    · have h2 : x.op = false := by simpa using h2
      simp [openE, ht, ho, h2]
    · have h1 : x.sq = s := by simpa using h1
      have h2 : x.op = true := by simpa using h2
      simp [openE, ht, ho, h1, h2]

theorem openE_zero {l : List Mk} {c s : Int} (h : openE l c s = 0) : tabB 0 l = true ∧ ∃ x, ofM l c = some x ∧ x.sq = s ∧ x.op = true ∧ 0 < c ∧ c ≤ 8 ∧ 1 ≤ s ∧ s ≤ 4611686018427387904 := by
  unfold openE at h
  cases ht : tabB 0 l
  · rw [ht] at h; simp at h
  rw [ht] at h
  simp only [Bool.true_eq_false, if_false] at h
  cases ho : ofM l c with
  | none => rw [ho] at h; simp at h
  | some x =>
    rw [ho] at h
    simp only at h
    split at h
    · rename_i e
      obtain ⟨g1, g2, g3⟩ := ofM_ok ht ho
      simp [mkB, e.2] at g2
      exact ⟨rfl, x, rfl, e.1, e.2, g1, by omega, by omega, by omega⟩
    · simp at h

theorem send_s (a : Option Addr) (cp : Nat) (l : List Mk) (c s : Int) (an : An) (hn : l.length ≤ 9223372036854775807) (m : M) (h : Row m a (mks l)) : Vc.Spec Try.prog 20 [.slice a l.length cp, I c, I s, anv an] m (MeR (endM l c s an)) := by
  refine Vc.Spec.of_vc Try.func20 (ann := noAnn) ?_
  refine vc_by (X :=
      true = true ∧
      ∃ (n : Int),
      QSpec Try.prog (31 : Nat) [Value.slice a l.length cp, Value.int IntKind.i64 c, Value.int IntKind.i64 s] m (Value.int IntKind.i64 n) ∧
      ifB (n != (0 : Int)) (Done (MeR (endM l c s an) (Value.tuple #[Value.slice none (0 : Nat) (0 : Nat), Value.int IntKind.i64 n]) m))
      (∃ (S' : Nat → Prop),
      (∀ (b : Nat), S' b → m.uf b ∧ (m.sz ≤ b ∨ False)) ∧
      ∀ (n : Nat),
      m.sz ≤ n →
      SpecW Try.prog (28 : Nat)
      [Value.slice a l.length cp,
      Value.agg
      #[Value.int IntKind.i64 c, Value.int IntKind.i64 s, Value.bool false, Value.int IntKind.i64 an.er, Value.int IntKind.i64 an.va, Value.int IntKind.i64 an.le,
      Value.int IntKind.i64 an.mo]]
      { π := m.π, sz := n, uf := m.uf : M } S' fun (v : Value) (m' : M) =>
      ∃ (a : Option Addr),
      ∃ (n : Nat), ∃ (c_1 : Nat), v = Value.slice a n c_1 ∧ Done (MeR (endM l c s an) (Value.tuple #[Value.slice a n c_1, Value.int IntKind.i64 (0 : Int)]) m'))) (by kernel_rfl) ?_
  refine ⟨rfl, _, sopen_q a cp l c s hn _ h, ifB_intro (fun h1 => me_fail ?_) (fun h1 => ?_)⟩
  · simp at h1; simp [endM, h1]
  have h1 : openE l c s = 0 := by simpa using h1
  obtain ⟨ht, -⟩ := openE_zero h1
  refine ⟨_, noS, fun N hN => (with_s a cp l (edM c s an) ht _ (h.sz hN)).monoW fun v m' hag hq => ?_⟩
  obtain ⟨a', c', hv, hr⟩ := hq
  exact ⟨a', _, c', hv, me_ok (by simp [endM, h1]) rfl hr⟩

theorem slose_s (a : Option Addr) (cp : Nat) (l : List Mk) (c s : Int) (hn : l.length ≤ 9223372036854775807) (m : M) (h : Row m a (mks l)) : Vc.Spec Try.prog 19 [.slice a l.length cp, I c, I s] m (MeR (loseM l c s)) := by
  refine Vc.Spec.of_vc Try.func19 (ann := noAnn) ?_
  refine vc_by (X :=
      true = true ∧
      ∃ (n : Int),
      QSpec Try.prog (31 : Nat) [Value.slice a l.length cp, Value.int IntKind.i64 c, Value.int IntKind.i64 s] m (Value.int IntKind.i64 n) ∧
      ifB (n != (0 : Int)) (Done (MeR (loseM l c s) (Value.tuple #[Value.slice none (0 : Nat) (0 : Nat), Value.int IntKind.i64 n]) m))
      (∃ (S' : Nat → Prop),
      (∀ (b : Nat), S' b → m.uf b ∧ (m.sz ≤ b ∨ False)) ∧
      ∀ (n : Nat),
      m.sz ≤ n →
      SpecW Try.prog (28 : Nat)
      [Value.slice a l.length cp,
      Value.agg
      #[Value.int IntKind.i64 c, Value.int IntKind.i64 (IntKind.i64.wrap (s - (1 : Int))), Value.bool false, Value.int IntKind.i64 (80 : Int),
      Value.int IntKind.i64 (0 : Int), Value.int IntKind.i64 (0 : Int), Value.int IntKind.i64 (0 : Int)]]
      { π := m.π, sz := n, uf := m.uf : M } S' fun (v : Value) (m' : M) =>
      ∃ (a : Option Addr),
      ∃ (n : Nat), ∃ (c_1 : Nat), v = Value.slice a n c_1 ∧ Done (MeR (loseM l c s) (Value.tuple #[Value.slice a n c_1, Value.int IntKind.i64 (0 : Int)]) m'))) (by kernel_rfl) ?_
  refine ⟨rfl, _, sopen_q a cp l c s hn _ h, ifB_intro (fun h1 => me_fail ?_) (fun h1 => ?_)⟩
  · simp at h1; simp [loseM, h1]
  have h1 : openE l c s = 0 := by simpa using h1
  obtain ⟨ht, x, -, -, -, -, -, g1, g2⟩ := openE_zero h1
  have w1 : IntKind.i64.wrap (s - 1) = s - 1 := by simp [IntKind.wrap_i64]; omega
  rw [w1]
  refine ⟨_, noS, fun N hN => (with_s a cp l (loM c s) ht _ (h.sz hN)).monoW fun v m' hag hq => ?_⟩
  obtain ⟨a', c', hv, hr⟩ := hq
  exact ⟨a', _, c', hv, me_ok (by simp [loseM, h1]) rfl hr⟩

end Go.Proofs.Ytpfiodchlbofmaa
set_option linter.unusedVariables false
set_option linter.unusedSimpArgs false
namespace Go.Proofs.Ytpfiodchlbofmaa
open Go.Vc Go.RowKit
set_option maxRecDepth 100000

structure JoX where
  k : Nat
  a : Option Addr
  c : Nat
  m : M

structure JoI (m : M) (cur : List Mk) (y : JoX) : Prop where
  right : tabB 0 cur = true
  row : Row y.m y.a (mks cur)
  ag : Agree m.sz m y.m

theorem foldM_succ (l b : List Mk) (k : Nat) (hk : k < b.length) : foldM l (b.take (k + 1)) = stepM (foldM l (b.take k)) b[k] := by
  rw [List.take_succ_eq_append_getElem hk]
  unfold foldM
  rw [List.foldl_append]; rfl

set_option maxHeartbeats 1000000 in
theorem sjoin_s (a ab : Option Addr) (cp cb : Nat) (l b : List Mk) (hn : l.length ≤ 9223372036854775807) (hb : b.length ≤ 9223372036854775807) (m : M) (h : Row m a (mks l)) (h2 : Row m ab (mks b)) : Vc.Spec Try.prog 11 [.slice a l.length cp, .slice ab b.length cb] m (MeR (joinM l b)) := by
  refine Vc.Spec.of_vc Try.func11 (ann := fun _ => { A := JoX, inv := fun y => y.k ≤ b.length ∧ JoI m (foldM l (b.take y.k)) y, st := fun y => [(23, .val (I y.k)), (22, .val (I b.length)), (21, .val (.slice ab b.length cb)), (6, .val (.slice y.a (foldM l (b.take y.k)).length y.c))], own := fun _ => [], m := fun y => y.m, μ := fun y => b.length - y.k }) ?_
  refine vc_by (X :=
      true = true ∧
      ∃ (n : Int),
      QSpec Try.prog (25 : Nat) [Value.slice a l.length cp] m (Value.int IntKind.i64 n) ∧
      ifB (n != (0 : Int)) (Done (MeR (joinM l b) (Value.tuple #[Value.slice none (0 : Nat) (0 : Nat), Value.int IntKind.i64 (21 : Int)]) m))
      (∃ (n : Int),
      QSpec Try.prog (25 : Nat) [Value.slice ab b.length cb] m (Value.int IntKind.i64 n) ∧
      ifB (n != (0 : Int)) (Done (MeR (joinM l b) (Value.tuple #[Value.slice none (0 : Nat) (0 : Nat), Value.int IntKind.i64 (21 : Int)]) m))
      (∃ (S' : Nat → Prop),
      (∀ (b : Nat), S' b → m.uf b ∧ (m.sz ≤ b ∨ False)) ∧
      ∀ (n : Nat),
      m.sz ≤ n →
      SpecW Try.prog (27 : Nat) [Value.slice a l.length cp] { π := m.π, sz := n, uf := m.uf : M } S' fun (v : Value) (m' : M) =>
      ∃ (a : Option Addr),
      ∃ (n : Nat),
      ∃ (c : Nat),
      v = Value.slice a n c ∧
      (∃ (a_2 : JoX),
      (a_2.k ≤ b.length ∧ JoI m (foldM l (List.take a_2.k b)) a_2) ∧
      m' = a_2.m ∧
      ((SV.val (Value.int IntKind.i64 (0 : Int)) = SV.val (Value.int IntKind.i64 (↑a_2.k : Int)) ∧ true = true) ∧
      (SV.val (Value.int IntKind.i64 (↑b.length : Int)) = SV.val (Value.int IntKind.i64 (↑b.length : Int)) ∧ true = true) ∧
      (SV.val (Value.slice ab b.length cb) = SV.val (Value.slice ab b.length cb) ∧ true = true) ∧
      (SV.val (Value.slice a n c) = SV.val (Value.slice a_2.a (foldM l (List.take a_2.k b)).length a_2.c) ∧ true = true) ∧ True) ∧
      True) ∧
      ∀ (a : JoX),
      a.k ≤ b.length ∧ JoI m (foldM l (List.take a.k b)) a →
      ifB (decide ((↑a.k : Int) < (↑b.length : Int)))
      (∃ (b_1 : Nat),
      ∃ (off : Nat),
      ab = some { block := b_1, off := off : Addr } ∧
      ((0 : Int) ≤ (↑a.k : Int) ∧ (↑a.k : Int) < (↑b.length : Int)) ∧
      ∃ (n : Int),
      ∃ (n_1 : Int),
      ∃ (b_2 : Bool),
      ∃ (n_2 : Int),
      ∃ (n_3 : Int),
      ∃ (n_4 : Int),
      ∃ (n_5 : Int),
      CellsAt a.m b_1 (off + (↑a.k : Int).toNat * (7 : Nat))
      [Value.int IntKind.i64 n, Value.int IntKind.i64 n_1, Value.bool b_2, Value.int IntKind.i64 n_2,
      Value.int IntKind.i64 n_3, Value.int IntKind.i64 n_4, Value.int IntKind.i64 n_5] ∧
      ∃ (n_6 : Int),
      ∃ (n_7 : Int),
      ∃ (b_3 : Bool),
      ∃ (n_8 : Int),
      ∃ (n_9 : Int),
      ∃ (n_10 : Int),
      ∃ (n_11 : Int),
      ∃ (b_4 : Bool),
      QSpec Try.prog (17 : Nat)
      [Value.slice a.a (foldM l (List.take a.k b)).length a.c, Value.int IntKind.i64 n] a.m
      (Value.tuple
      #[Value.agg
      #[Value.int IntKind.i64 n_6, Value.int IntKind.i64 n_7, Value.bool b_3,
      Value.int IntKind.i64 n_8, Value.int IntKind.i64 n_9, Value.int IntKind.i64 n_10,
      Value.int IntKind.i64 n_11],
      Value.bool b_4]) ∧
      ifB (!b_4)
      (∃ (S' : Nat → Prop),
      (∀ (b : Nat), S' b → a.m.uf b ∧ (m.sz ≤ b ∨ False)) ∧
      ∀ (n_12 : Nat),
      a.m.sz ≤ n_12 →
      SpecW Try.prog (28 : Nat)
      [Value.slice a.a (foldM l (List.take a.k b)).length a.c,
      Value.agg
      #[Value.int IntKind.i64 n, Value.int IntKind.i64 n_1, Value.bool b_2,
      Value.int IntKind.i64 n_2, Value.int IntKind.i64 n_3, Value.int IntKind.i64 n_4,
      Value.int IntKind.i64 n_5]]
      { π := a.m.π, sz := n_12, uf := a.m.uf : M } S' fun (v : Value) (m' : M) =>
      ∃ (a_4 : Option Addr),
      ∃ (n : Nat),
      ∃ (c : Nat),
      v = Value.slice a_4 n c ∧
      ∃ (a' : JoX),
      ((a'.k ≤ b.length ∧ JoI m (foldM l (List.take a'.k b)) a') ∧
      m' = a'.m ∧
      ((SV.val
      (Value.int IntKind.i64
      (IntKind.i64.wrap ((↑a.k : Int) + (1 : Int)))) =
      SV.val (Value.int IntKind.i64 (↑a'.k : Int)) ∧
      true = true) ∧
      (SV.val (Value.int IntKind.i64 (↑b.length : Int)) =
      SV.val (Value.int IntKind.i64 (↑b.length : Int)) ∧
      true = true) ∧
      (SV.val (Value.slice ab b.length cb) =
      SV.val (Value.slice ab b.length cb) ∧
      true = true) ∧
      (SV.val (Value.slice a_4 n c) =
      SV.val
      (Value.slice a'.a (foldM l (List.take a'.k b)).length
      a'.c) ∧
      true = true) ∧
      True) ∧
      True) ∧
      b.length - a'.k < b.length - a.k)
      (ifB (decide (n_1 > n_7))
      (∃ (S' : Nat → Prop),
      (∀ (b : Nat), S' b → a.m.uf b ∧ (m.sz ≤ b ∨ False)) ∧
      ∀ (n_12 : Nat),
      a.m.sz ≤ n_12 →
      SpecW Try.prog (28 : Nat)
      [Value.slice a.a (foldM l (List.take a.k b)).length a.c,
      Value.agg
      #[Value.int IntKind.i64 n, Value.int IntKind.i64 n_1, Value.bool b_2,
      Value.int IntKind.i64 n_2, Value.int IntKind.i64 n_3,
      Value.int IntKind.i64 n_4, Value.int IntKind.i64 n_5]]
      { π := a.m.π, sz := n_12, uf := a.m.uf : M } S' fun (v : Value) (m' : M) =>
      ∃ (a_4 : Option Addr),
      ∃ (n : Nat),
      ∃ (c : Nat),
      v = Value.slice a_4 n c ∧
      ∃ (a' : JoX),
      ((a'.k ≤ b.length ∧ JoI m (foldM l (List.take a'.k b)) a') ∧
      m' = a'.m ∧
      ((SV.val
      (Value.int IntKind.i64
      (IntKind.i64.wrap ((↑a.k : Int) + (1 : Int)))) =
      SV.val (Value.int IntKind.i64 (↑a'.k : Int)) ∧
      true = true) ∧
      (SV.val (Value.int IntKind.i64 (↑b.length : Int)) =
      SV.val (Value.int IntKind.i64 (↑b.length : Int)) ∧
      true = true) ∧
      (SV.val (Value.slice ab b.length cb) =
      SV.val (Value.slice ab b.length cb) ∧
      true = true) ∧
      (SV.val (Value.slice a_4 n c) =
      SV.val
      (Value.slice a'.a
      (foldM l (List.take a'.k b)).length a'.c) ∧
      true = true) ∧
      True) ∧
      True) ∧
      b.length - a'.k < b.length - a.k)
      (ifB (n_1 == n_7)
      (ifB b_3
      (ifB (!b_2)
      (∃ (S' : Nat → Prop),
      (∀ (b : Nat), S' b → a.m.uf b ∧ (m.sz ≤ b ∨ False)) ∧
      ∀ (n_12 : Nat),
      a.m.sz ≤ n_12 →
      SpecW Try.prog (28 : Nat)
      [Value.slice a.a (foldM l (List.take a.k b)).length a.c,
      Value.agg
      #[Value.int IntKind.i64 n, Value.int IntKind.i64 n_1, Value.bool b_2,
      Value.int IntKind.i64 n_2, Value.int IntKind.i64 n_3,
      Value.int IntKind.i64 n_4, Value.int IntKind.i64 n_5]]
      { π := a.m.π, sz := n_12, uf := a.m.uf : M } S' fun (v : Value) (m' : M) =>
      ∃ (a_4 : Option Addr),
      ∃ (n : Nat),
      ∃ (c : Nat),
      v = Value.slice a_4 n c ∧
      ∃ (a' : JoX),
      ((a'.k ≤ b.length ∧ JoI m (foldM l (List.take a'.k b)) a') ∧
      m' = a'.m ∧
      ((SV.val
      (Value.int IntKind.i64
      (IntKind.i64.wrap ((↑a.k : Int) + (1 : Int)))) =
      SV.val (Value.int IntKind.i64 (↑a'.k : Int)) ∧
      true = true) ∧
      (SV.val (Value.int IntKind.i64 (↑b.length : Int)) =
      SV.val (Value.int IntKind.i64 (↑b.length : Int)) ∧
      true = true) ∧
      (SV.val (Value.slice ab b.length cb) =
      SV.val (Value.slice ab b.length cb) ∧
      true = true) ∧
      (SV.val (Value.slice a_4 n c) =
      SV.val
      (Value.slice a'.a
      (foldM l (List.take a'.k b)).length a'.c) ∧
      true = true) ∧
      True) ∧
      True) ∧
      b.length - a'.k < b.length - a.k)
      (∃ (a' : JoX),
      ((a'.k ≤ b.length ∧ JoI m (foldM l (List.take a'.k b)) a') ∧
      a.m = a'.m ∧
      ((SV.val (Value.int IntKind.i64 (IntKind.i64.wrap ((↑a.k : Int) + (1 : Int)))) =
      SV.val (Value.int IntKind.i64 (↑a'.k : Int)) ∧
      true = true) ∧
      (SV.val (Value.int IntKind.i64 (↑b.length : Int)) =
      SV.val (Value.int IntKind.i64 (↑b.length : Int)) ∧
      true = true) ∧
      (SV.val (Value.slice ab b.length cb) =
      SV.val (Value.slice ab b.length cb) ∧
      true = true) ∧
      (SV.val (Value.slice a.a (foldM l (List.take a.k b)).length a.c) =
      SV.val
      (Value.slice a'.a (foldM l (List.take a'.k b)).length a'.c) ∧
      true = true) ∧
      True) ∧
      True) ∧
      b.length - a'.k < b.length - a.k))
      (∃ (a' : JoX),
      ((a'.k ≤ b.length ∧ JoI m (foldM l (List.take a'.k b)) a') ∧
      a.m = a'.m ∧
      ((SV.val (Value.int IntKind.i64 (IntKind.i64.wrap ((↑a.k : Int) + (1 : Int)))) =
      SV.val (Value.int IntKind.i64 (↑a'.k : Int)) ∧
      true = true) ∧
      (SV.val (Value.int IntKind.i64 (↑b.length : Int)) =
      SV.val (Value.int IntKind.i64 (↑b.length : Int)) ∧
      true = true) ∧
      (SV.val (Value.slice ab b.length cb) = SV.val (Value.slice ab b.length cb) ∧
      true = true) ∧
      (SV.val (Value.slice a.a (foldM l (List.take a.k b)).length a.c) =
      SV.val (Value.slice a'.a (foldM l (List.take a'.k b)).length a'.c) ∧
      true = true) ∧
      True) ∧
      True) ∧
      b.length - a'.k < b.length - a.k))
      (∃ (a' : JoX),
      ((a'.k ≤ b.length ∧ JoI m (foldM l (List.take a'.k b)) a') ∧
      a.m = a'.m ∧
      ((SV.val (Value.int IntKind.i64 (IntKind.i64.wrap ((↑a.k : Int) + (1 : Int)))) =
      SV.val (Value.int IntKind.i64 (↑a'.k : Int)) ∧
      true = true) ∧
      (SV.val (Value.int IntKind.i64 (↑b.length : Int)) =
      SV.val (Value.int IntKind.i64 (↑b.length : Int)) ∧
      true = true) ∧
      (SV.val (Value.slice ab b.length cb) = SV.val (Value.slice ab b.length cb) ∧
      true = true) ∧
      (SV.val (Value.slice a.a (foldM l (List.take a.k b)).length a.c) =
      SV.val (Value.slice a'.a (foldM l (List.take a'.k b)).length a'.c) ∧
      true = true) ∧
      True) ∧
      True) ∧
      b.length - a'.k < b.length - a.k))))
      (Done (MeR (joinM l b) (Value.tuple #[Value.slice a.a (foldM l (List.take a.k b)).length a.c, Value.int IntKind.i64 (0 : Int)]) a.m))))) (by kernel_rfl) ?_
  refine ⟨rfl, _, scheck_q a cp l hn _ h, ?_⟩
  cases ha : tabB 0 l
  · exact ifB_true (me_fail (by simp [joinM, ha]))
  refine ifB_false ⟨_, scheck_q ab cb b hb _ h2, ?_⟩
  cases hb2 : tabB 0 b
  · exact ifB_true (me_fail (by simp [joinM, hb2]))
  have hl8 := tab8 ha
  have hb8 := tab8 hb2
  refine ifB_false ⟨_, noS, fun N hN => (mk_clone l a cp (by omega) (mk_none h) _ (h.sz hN)).monoW fun v m1 hag ⟨a1, c1, hv, hr⟩ => ⟨a1, _, c1, hv, ⟨⟨0, a1, c1, m1⟩, ⟨Nat.zero_le _, ⟨ha, hr.row, (Agree.szl (B := m.sz) (m := m) hN).trans (hag.mono hN)⟩⟩, rfl, by simp [foldM], trivial⟩, fun y ⟨hk, Y⟩ => ifB_intro (fun h3 => ?_) (fun h3 => ?_)⟩⟩
  · have hk2 : y.k < b.length := by simpa using h3
    obtain ⟨b1, o, rfl, hc⟩ := (h2.agree Y.ag).cells (by rw [mk_len]; omega)
    have w1 : IntKind.i64.wrap ((y.k : Int) + 1) = ((y.k + 1 : Nat) : Int) := by simp [IntKind.wrap_i64]; omega
    have h8 := tab8 Y.right
    have hym := Y.ag.2.2
    obtain ⟨hx1, hx2⟩ := tab_mem hb2 _ (List.getElem_mem hk2)
    have e := foldM_succ l b y.k hk2
    have hf : findO (foldM l (b.take y.k)) b[y.k].cl = ofM (foldM l (b.take y.k)) b[y.k].cl := by simp [findO, Y.right]
    have hri : tabB 0 (foldM l (b.take (y.k + 1))) = true := by rw [e]; exact step_tab Y.right hx2 hx1
    refine ⟨b1, o, rfl, by omega, _, _, _, _, _, _, _, by simpa using mk_at hc hk2, _, _, _, _, _, _, _, _, find_q y.a y.c _ b[y.k].cl (by omega) _ Y.row, ?_⟩
    rw [hf]
    cases ho : ofM (foldM l (b.take y.k)) b[y.k].cl with
    | none =>
      have es : stepM (foldM l (b.take y.k)) b[y.k] = insM (foldM l (b.take y.k)) b[y.k] := by simp [stepM, ho]
      rw [es] at e
      refine ifB_true ⟨_, noS, fun N2 hN2 => (with_s y.a y.c (foldM l (b.take y.k)) b[y.k] Y.right { y.m with sz := N2 } (Y.row.sz hN2)).monoW fun v2 m2 hag2 hq2 => ?_⟩
      obtain ⟨a2, c2, hv2, hr2⟩ := hq2
      refine ⟨_, _, _, hv2, ⟨y.k + 1, a2, c2, m2⟩, ⟨⟨hk2, ⟨hri, by rw [e]; exact hr2, Y.ag.trans ((Agree.szl (B := m.sz) (m := y.m) hN2).trans (hag2.mono (by simp only; omega)))⟩⟩, rfl, by simp [w1, e], trivial⟩, by simp only; omega⟩
    | some z =>
      refine ifB_false (ifB_intro (fun q1 => ⟨_, noS, fun N2 hN2 => (with_s y.a y.c (foldM l (b.take y.k)) b[y.k] Y.right { y.m with sz := N2 } (Y.row.sz hN2)).monoW fun v2 m2 hag2 hq2 => ?p1⟩) (fun q1 => ifB_intro (fun q2 => ifB_intro (fun q3 => ifB_intro (fun q4 => ⟨_, noS, fun N2 hN2 => (with_s y.a y.c (foldM l (b.take y.k)) b[y.k] Y.right { y.m with sz := N2 } (Y.row.sz hN2)).monoW fun v2 m2 hag2 hq2 => ?p2⟩) (fun q4 => ?s1)) (fun q3 => ?s2)) (fun q2 => ?s3)))
      case p1 | p2 =>
        have es : stepM (foldM l (b.take y.k)) b[y.k] = insM (foldM l (b.take y.k)) b[y.k] := by
          simp only [stepM, ho]
          simp at q1
          first
            | (rw [if_pos (.inl (by omega))]; done)
            | (simp at q2 q3 q4; rw [if_pos (.inr ⟨by omega, q3, q4⟩)])
        rw [es] at e
        obtain ⟨a2, c2, hv2, hr2⟩ := hq2
        refine ⟨_, _, _, hv2, ⟨y.k + 1, a2, c2, m2⟩, ⟨⟨hk2, ⟨hri, by rw [e]; exact hr2, Y.ag.trans ((Agree.szl (B := m.sz) (m := y.m) hN2).trans (hag2.mono (by simp only; omega)))⟩⟩, rfl, by simp [w1, e], trivial⟩, by simp only; omega⟩
      case s1 | s2 | s3 =>
        have es : stepM (foldM l (b.take y.k)) b[y.k] = foldM l (b.take y.k) := by
          simp only [stepM, ho]
          refine if_neg ?_
          simp at q1 q2
          rintro (h | ⟨h1, h2, h3⟩)
          · omega
          · first
              | (exact absurd h1.symm q2)
              | (simp [h2] at q3; done)
              | (simp [h3] at q4)
        rw [es] at e
        refine ⟨⟨y.k + 1, y.a, y.c, y.m⟩, ⟨⟨hk2, ⟨hri, by rw [e]; exact Y.row, Y.ag⟩⟩, rfl, by simp [w1, e], trivial⟩, by simp only; omega⟩
  · have hkb : y.k = b.length := by simp at h3; omega
    have hrow := Y.row
    rw [hkb, List.take_length] at hrow ⊢
    exact me_ok (z := foldM l b) (by simp [joinM, ha, hb2]) rfl hrow

end Go.Proofs.Ytpfiodchlbofmaa
set_option linter.unusedVariables false
set_option linter.unusedSimpArgs false
namespace Go.Proofs.Ytpfiodchlbofmaa
open Go.Vc Go.RowKit
set_option maxRecDepth 100000

theorem ofM_drop {c : Int} : ∀ {l : List Mk} {k : Nat}, k ≤ l.length → (∀ x ∈ l.take k, x.cl ≠ c) → ofM l c = ofM (l.drop k) c
  | l, 0, _, _ => by simp
  | [], k + 1, h, _ => by simp at h
  | x :: xs, k + 1, h, hl => by
    have hx := hl x (by simp)
    have ih := ofM_drop (l := xs) (k := k) (by simpa using h) fun y hy => hl y (by simp [hy])
    simp only [ofM, List.drop_succ_cons, if_neg hx, ih]

theorem rright_q (a : Option Addr) (cp : Nat) (l : List Mk) (hn : l.length ≤ 9223372036854775807) (m : M) (h : Row m a (mks l)) : QSpec Try.prog 16 [.slice a l.length cp] m (.bool (tabB 0 l)) := by
  refine QSpec.of_vc Try.func16 (ann := fun n _ => { A := Nat × Int, inv := fun y => y.1 ≤ l.length ∧ tabB 0 l = tabB y.2 (l.drop y.1) ∧ 0 ≤ y.2, st := fun y => [(4, .val (I y.1)), (0, .val (.slice a l.length cp)), (3, .val (I y.2))], own := fun _ => [], m := fun _ => { m with sz := n }, μ := fun y => l.length - y.1 }) fun n hn' => ?_
  refine vc_by (X :=
      true = true ∧
      (∃ (a_1 : Nat × Int),
      (a_1.fst ≤ l.length ∧ tabB (0 : Int) l = tabB a_1.snd (List.drop a_1.fst l) ∧ (0 : Int) ≤ a_1.snd) ∧
      { π := m.π, sz := n, uf := m.uf : M } = { π := m.π, sz := n, uf := m.uf : M } ∧
      ((SV.val (Value.int IntKind.i64 (0 : Int)) = SV.val (Value.int IntKind.i64 (↑a_1.fst : Int)) ∧ true = true) ∧
      (SV.val (Value.slice a l.length cp) = SV.val (Value.slice a l.length cp) ∧ true = true) ∧
      (SV.val (Value.int IntKind.i64 (0 : Int)) = SV.val (Value.int IntKind.i64 a_1.snd) ∧ true = true) ∧ True) ∧
      True) ∧
      ∀ (a_1 : Nat × Int),
      a_1.fst ≤ l.length ∧ tabB (0 : Int) l = tabB a_1.snd (List.drop a_1.fst l) ∧ (0 : Int) ≤ a_1.snd →
      ifB (decide ((↑a_1.fst : Int) < (↑l.length : Int)))
      (∃ (b : Nat),
      ∃ (off : Nat),
      a = some { block := b, off := off : Addr } ∧
      ((0 : Int) ≤ (↑a_1.fst : Int) ∧ (↑a_1.fst : Int) < (↑l.length : Int)) ∧
      ∃ (n_1 : Int),
      ∃ (n_2 : Int),
      ∃ (b_1 : Bool),
      ∃ (n_3 : Int),
      ∃ (n_4 : Int),
      ∃ (n_5 : Int),
      ∃ (n_6 : Int),
      CellsAt { π := m.π, sz := n, uf := m.uf : M } b (off + (↑a_1.fst : Int).toNat * (7 : Nat))
      [Value.int IntKind.i64 n_1, Value.int IntKind.i64 n_2, Value.bool b_1, Value.int IntKind.i64 n_3, Value.int IntKind.i64 n_4,
      Value.int IntKind.i64 n_5, Value.int IntKind.i64 n_6] ∧
      ifB (decide (n_1 ≤ a_1.snd)) (Done (Value.bool false = Value.bool (tabB (0 : Int) l)))
      (ifB (decide (n_1 > (8 : Int))) (Done (Value.bool false = Value.bool (tabB (0 : Int) l)))
      (ifB (decide (n_2 < (0 : Int))) (Done (Value.bool false = Value.bool (tabB (0 : Int) l)))
      (ifB (decide (n_2 > (4611686018427387904 : Int))) (Done (Value.bool false = Value.bool (tabB (0 : Int) l)))
      (ifB b_1
      (ifB (decide (n_2 < (1 : Int))) (Done (Value.bool false = Value.bool (tabB (0 : Int) l)))
      (ifB (!(n_3 == (0 : Int) && (n_4 == (0 : Int) && (n_5 == (0 : Int) && (n_6 == (0 : Int) && true)))))
      (Done (Value.bool false = Value.bool (tabB (0 : Int) l)))
      (∃ (a' : Nat × Int),
      ((a'.fst ≤ l.length ∧ tabB (0 : Int) l = tabB a'.snd (List.drop a'.fst l) ∧ (0 : Int) ≤ a'.snd) ∧
      { π := m.π, sz := n, uf := m.uf : M } = { π := m.π, sz := n, uf := m.uf : M } ∧
      ((SV.val (Value.int IntKind.i64 (IntKind.i64.wrap ((↑a_1.fst : Int) + (1 : Int)))) =
      SV.val (Value.int IntKind.i64 (↑a'.fst : Int)) ∧
      true = true) ∧
      (SV.val (Value.slice a l.length cp) = SV.val (Value.slice a l.length cp) ∧ true = true) ∧
      (SV.val (Value.int IntKind.i64 n_1) = SV.val (Value.int IntKind.i64 a'.snd) ∧ true = true) ∧ True) ∧
      True) ∧
      l.length - a'.fst < l.length - a_1.fst)))
      (∃ (a' : Nat × Int),
      ((a'.fst ≤ l.length ∧ tabB (0 : Int) l = tabB a'.snd (List.drop a'.fst l) ∧ (0 : Int) ≤ a'.snd) ∧
      { π := m.π, sz := n, uf := m.uf : M } = { π := m.π, sz := n, uf := m.uf : M } ∧
      ((SV.val (Value.int IntKind.i64 (IntKind.i64.wrap ((↑a_1.fst : Int) + (1 : Int)))) =
      SV.val (Value.int IntKind.i64 (↑a'.fst : Int)) ∧
      true = true) ∧
      (SV.val (Value.slice a l.length cp) = SV.val (Value.slice a l.length cp) ∧ true = true) ∧
      (SV.val (Value.int IntKind.i64 n_1) = SV.val (Value.int IntKind.i64 a'.snd) ∧ true = true) ∧ True) ∧
      True) ∧
      l.length - a'.fst < l.length - a_1.fst))))))
      (Done (Value.bool true = Value.bool (tabB (0 : Int) l)))) (by kernel_rfl) ?_
  have h' := h.sz hn'
  refine ⟨rfl, ⟨⟨0, 0⟩, by simp⟩, fun y ⟨hk, hq, hz⟩ => ifB_intro (fun hb => ?_) (fun hb => ⟨?_⟩)⟩
  · have hk2 : y.1 < l.length := by simpa using hb
    obtain ⟨b, o, rfl, hc⟩ := h'.cells (by rw [mk_len]; omega)
    have w1 : IntKind.i64.wrap ((y.1 : Int) + 1) = ((y.1 + 1 : Nat) : Int) := by simp [IntKind.wrap_i64]; omega
    rw [List.drop_eq_getElem_cons hk2, tabB] at hq
    have bad : (decide (y.2 < l[y.1].cl) && mkB l[y.1]) = false → Done (Value.bool false = Value.bool (tabB 0 l)) := fun e => by
      rw [e, Bool.false_and] at hq
      exact ⟨by simp [hq]⟩
    have nx : ∀ (_ : (decide (y.2 < l[y.1].cl) && mkB l[y.1]) = true), (y.1 + 1 ≤ l.length ∧ tabB 0 l = tabB l[y.1].cl (l.drop (y.1 + 1)) ∧ 0 ≤ l[y.1].cl) := fun e => by
      rw [e, Bool.true_and] at hq
      simp only [Bool.and_eq_true, decide_eq_true_eq] at e
      exact ⟨hk2, hq, by omega⟩
    refine ⟨b, o, rfl, by omega, _, _, _, _, _, _, _, by simpa using mk_at hc hk2, ifB_intro (fun h1 => bad ?_) (fun h1 => ifB_intro (fun h2 => bad ?_) (fun h2 => ifB_intro (fun h3 => bad ?_) (fun h3 => ifB_intro (fun h4 => bad ?_) (fun h4 => ifB_intro (fun h5 => ifB_intro (fun h6 => bad ?_) (fun h6 => ifB_intro (fun h7 => bad ?_) (fun h7 => ⟨⟨y.1 + 1, l[y.1].cl⟩, ⟨nx ?_, rfl, by simp [w1]⟩, by simp only; omega⟩))) (fun h5 => ⟨⟨y.1 + 1, l[y.1].cl⟩, ⟨nx ?_, rfl, by simp [w1]⟩, by simp only; omega⟩)))))⟩
    · simp at h1; simp; intro h; omega
    · simp at h2; simp [mkB]; omega
    · simp at h3; simp [mkB]; omega
    · simp at h4; simp [mkB]; omega
    · simp at h6; simp [mkB, h5]; omega
    · have e : ans0B l[y.1] = false := by
        simp only [Bool.not_eq_true', Bool.beq_eq_decide_eq, Bool.and_true] at h7
        simpa [ans0B, Bool.and_assoc] using h7
      simp [mkB, h5, e]
    · simp at h1 h2 h3 h4 h6
      have e : ans0B l[y.1] = true := by
        simp at h7
        simp [ans0B, h7]
      simp [mkB, h5, e]; omega
    · simp at h1 h2 h3 h4; simp [mkB, h5]; omega
  · have : y.1 = l.length := by simp at hb; omega
    rw [this] at hq
    simp [hq, tabB]

theorem rfind_q (a : Option Addr) (cp : Nat) (l : List Mk) (c : Int) (hn : l.length ≤ 9223372036854775807) (m : M) (h : Row m a (mks l)) : QSpec Try.prog 21 [.slice a l.length cp, I c] m (.tuple #[mkv ((findO l c).getD m0), .bool (findO l c).isSome]) := by
  refine QSpec.of_vc Try.func21 (ann := fun n _ => { A := Nat, inv := fun k => k ≤ l.length ∧ ∀ x ∈ l.take k, x.cl ≠ c, st := fun k => [(6, .val (I k)), (0, .val (.slice a l.length cp)), (1, .val (I c)), (4, .own 0 0)], own := fun _ => [(0, ⟨32, encMk m0⟩)], m := fun _ => { m with sz := n }, μ := fun k => l.length - k }) fun n hn' => ?_
  refine vc_by (X :=
      true = true ∧
      (∃ (a_1 : Nat),
      (a_1 ≤ l.length ∧ ∀ (x : Mk), x ∈ List.take a_1 l → x.cl ≠ c) ∧
      { π := m.π, sz := n, uf := m.uf : M } = { π := m.π, sz := n, uf := m.uf : M } ∧
      ((SV.val (Value.int IntKind.i64 (0 : Int)) = SV.val (Value.int IntKind.i64 (↑a_1 : Int)) ∧ true = true) ∧
      (SV.val (Value.slice a l.length cp) = SV.val (Value.slice a l.length cp) ∧ true = true) ∧
      (SV.val (Value.int IntKind.i64 c) = SV.val (Value.int IntKind.i64 c) ∧ true = true) ∧
      (SV.own ((0 : Nat) + (0 : Nat)) (0 : Nat) = SV.own (0 : Nat) (0 : Nat) ∧ true = true) ∧ True) ∧
      (some
      { ty := (32 : Nat), cs := [Value.int IntKind.i64 (0 : Int), Value.int IntKind.i64 (0 : Int), Value.bool false, Value.int IntKind.i64 (0 : Int), Value.int IntKind.i64 (0 : Int), Value.int IntKind.i64 (0 : Int), Value.int IntKind.i64 (0 : Int)] : Bx } =
      some
      { ty := (32 : TypeId), cs := [Value.int IntKind.i64 (0 : Int), Value.int IntKind.i64 (0 : Int), Value.bool false, Value.int IntKind.i64 (0 : Int), Value.int IntKind.i64 (0 : Int), Value.int IntKind.i64 (0 : Int), Value.int IntKind.i64 (0 : Int)] : Bx } ∧
      true = true) ∧
      True) ∧
      ∀ (a_1 : Nat),
      (a_1 ≤ l.length ∧ ∀ (x : Mk), x ∈ List.take a_1 l → x.cl ≠ c) →
      ∃ (b : Bool),
      QSpec Try.prog (16 : Nat) [Value.slice a l.length cp] { π := m.π, sz := n, uf := m.uf : M } (Value.bool b) ∧
      ifB b
      (ifB (decide ((↑a_1 : Int) < (↑l.length : Int)))
      (∃ (b : Nat),
      ∃ (off : Nat),
      a = some { block := b, off := off : Addr } ∧
      ((0 : Int) ≤ (↑a_1 : Int) ∧ (↑a_1 : Int) < (↑l.length : Int)) ∧
      ∃ (n_1 : Int),
      CellsAt { π := m.π, sz := n, uf := m.uf : M } b (off + (↑a_1 : Int).toNat * (7 : Nat) + (0 : Nat)) [Value.int IntKind.i64 n_1] ∧
      ifB (n_1 == c)
      (∃ (b : Nat),
      ∃ (off : Nat),
      a = some { block := b, off := off : Addr } ∧
      ((0 : Int) ≤ (↑a_1 : Int) ∧ (↑a_1 : Int) < (↑l.length : Int)) ∧
      ∃ (n_2 : Int),
      ∃ (n_3 : Int),
      ∃ (b_1 : Bool),
      ∃ (n_4 : Int),
      ∃ (n_5 : Int),
      ∃ (n_6 : Int),
      ∃ (n_7 : Int),
      CellsAt { π := m.π, sz := n, uf := m.uf : M } b (off + (↑a_1 : Int).toNat * (7 : Nat))
      [Value.int IntKind.i64 n_2, Value.int IntKind.i64 n_3, Value.bool b_1, Value.int IntKind.i64 n_4, Value.int IntKind.i64 n_5,
      Value.int IntKind.i64 n_6, Value.int IntKind.i64 n_7] ∧
      Done
      (Value.tuple
      #[Value.agg
      #[Value.int IntKind.i64 n_2, Value.int IntKind.i64 n_3, Value.bool b_1, Value.int IntKind.i64 n_4,
      Value.int IntKind.i64 n_5, Value.int IntKind.i64 n_6, Value.int IntKind.i64 n_7],
      Value.bool true] =
      Value.tuple
      #[Value.agg
      #[Value.int IntKind.i64 ((findO l c).getD m0).cl, Value.int IntKind.i64 ((findO l c).getD m0).sq,
      Value.bool ((findO l c).getD m0).op, Value.int IntKind.i64 ((findO l c).getD m0).an_er,
      Value.int IntKind.i64 ((findO l c).getD m0).an_va, Value.int IntKind.i64 ((findO l c).getD m0).an_le,
      Value.int IntKind.i64 ((findO l c).getD m0).an_mo],
      Value.bool (findO l c).isSome]))
      (∃ (a' : Nat),
      ((a' ≤ l.length ∧ ∀ (x : Mk), x ∈ List.take a' l → x.cl ≠ c) ∧
      { π := m.π, sz := n, uf := m.uf : M } = { π := m.π, sz := n, uf := m.uf : M } ∧
      ((SV.val (Value.int IntKind.i64 (IntKind.i64.wrap ((↑a_1 : Int) + (1 : Int)))) = SV.val (Value.int IntKind.i64 (↑a' : Int)) ∧ true = true) ∧
      (SV.val (Value.slice a l.length cp) = SV.val (Value.slice a l.length cp) ∧ true = true) ∧
      (SV.val (Value.int IntKind.i64 c) = SV.val (Value.int IntKind.i64 c) ∧ true = true) ∧
      (SV.own (0 : Nat) (0 : Nat) = SV.own (0 : Nat) (0 : Nat) ∧ true = true) ∧ True) ∧
      (some
      { ty := (32 : TypeId), cs := [Value.int IntKind.i64 (0 : Int), Value.int IntKind.i64 (0 : Int), Value.bool false, Value.int IntKind.i64 (0 : Int), Value.int IntKind.i64 (0 : Int), Value.int IntKind.i64 (0 : Int), Value.int IntKind.i64 (0 : Int)] : Bx } =
      some
      { ty := (32 : TypeId), cs := [Value.int IntKind.i64 (0 : Int), Value.int IntKind.i64 (0 : Int), Value.bool false, Value.int IntKind.i64 (0 : Int), Value.int IntKind.i64 (0 : Int), Value.int IntKind.i64 (0 : Int), Value.int IntKind.i64 (0 : Int)] : Bx } ∧
      true = true) ∧
      True) ∧
      l.length - a' < l.length - a_1))
      (Done
      (Value.tuple
      #[Value.agg
      #[Value.int IntKind.i64 (0 : Int), Value.int IntKind.i64 (0 : Int), Value.bool false, Value.int IntKind.i64 (0 : Int), Value.int IntKind.i64 (0 : Int),
      Value.int IntKind.i64 (0 : Int), Value.int IntKind.i64 (0 : Int)],
      Value.bool false] =
      Value.tuple
      #[Value.agg
      #[Value.int IntKind.i64 ((findO l c).getD m0).cl, Value.int IntKind.i64 ((findO l c).getD m0).sq, Value.bool ((findO l c).getD m0).op,
      Value.int IntKind.i64 ((findO l c).getD m0).an_er, Value.int IntKind.i64 ((findO l c).getD m0).an_va, Value.int IntKind.i64 ((findO l c).getD m0).an_le,
      Value.int IntKind.i64 ((findO l c).getD m0).an_mo],
      Value.bool (findO l c).isSome])))
      (Done
      (Value.tuple
      #[Value.agg
      #[Value.int IntKind.i64 (0 : Int), Value.int IntKind.i64 (0 : Int), Value.bool false, Value.int IntKind.i64 (0 : Int), Value.int IntKind.i64 (0 : Int),
      Value.int IntKind.i64 (0 : Int), Value.int IntKind.i64 (0 : Int)],
      Value.bool false] =
      Value.tuple
      #[Value.agg
      #[Value.int IntKind.i64 ((findO l c).getD m0).cl, Value.int IntKind.i64 ((findO l c).getD m0).sq, Value.bool ((findO l c).getD m0).op,
      Value.int IntKind.i64 ((findO l c).getD m0).an_er, Value.int IntKind.i64 ((findO l c).getD m0).an_va, Value.int IntKind.i64 ((findO l c).getD m0).an_le,
      Value.int IntKind.i64 ((findO l c).getD m0).an_mo],
      Value.bool (findO l c).isSome]))) (by kernel_rfl) ?_
  have h' := h.sz hn'
  refine ⟨rfl, ⟨0, by simp⟩, fun k ⟨hk, hq⟩ => ⟨_, rright_q a cp l hn _ h', ?_⟩⟩
  cases ht : tabB 0 l
  · exact ifB_false ⟨by simp [findO, ht, m0]⟩
  have hf : findO l c = ofM l c := by simp [findO, ht]
  rw [hf]
  have hd := ofM_drop hk hq
  refine ifB_true (ifB_intro (fun hb => ?_) (fun hb => ⟨?_⟩))
  · have hk2 : k < l.length := by simpa using hb
    obtain ⟨b, o, rfl, hc⟩ := h'.cells (by rw [mk_len]; omega)
    have w1 : IntKind.i64.wrap ((k : Int) + 1) = ((k + 1 : Nat) : Int) := by simp [IntKind.wrap_i64]; omega
    have c0 := CellsAt.field mk_k hc hk2 (p := []) (old := [I l[k].cl]) (q := [I l[k].sq, .bool l[k].op, I l[k].an_er, I l[k].an_va, I l[k].an_le, I l[k].an_mo]) rfl
    rw [List.drop_eq_getElem_cons hk2, ofM] at hd
    refine ⟨b, o, rfl, by omega, _, by simpa using c0, ifB_intro (fun h1 => ⟨b, o, rfl, by omega, _, _, _, _, _, _, _, by simpa using mk_at hc hk2, ⟨?_⟩⟩) (fun h1 => ⟨k + 1, ⟨⟨hk2, fun x hx => ?_⟩, by simp [w1]⟩, by omega⟩)⟩
    · have h1 : l[k].cl = c := by simpa using h1
      rw [if_pos h1] at hd
      rw [hd]
      simp
    · rw [List.take_succ_eq_append_getElem hk2, List.mem_append] at hx
      rcases hx with hx | hx
      · exact hq x hx
      · have hx : x = l[k] := by simpa using hx
        subst hx
        simpa using h1
  · have : k = l.length := by simp at hb; omega
    subst this
    simp [ofM] at hd
    rw [hd]
    simp [m0]

theorem rwith_s (a : Option Addr) (cp : Nat) (l : List Mk) (x : Mk) (ht : tabB 0 l = true) (hx : mkB x = true) (hc : 0 < x.cl) (m : M) (h : Row m a (mks l)) : Vc.Spec Try.prog 34 [.slice a l.length cp, mkv x] m (SlR (insM l x)) := by
  refine Vc.Spec.of_vc Try.func34 (ann := fun _ => { A := JoX, inv := fun y => y.k ≤ 8 ∧ NewR m.sz (fun _ => False) y.m 7 y.a (listM (withF l x) y.k 1).length y.c (mks (listM (withF l x) y.k 1)) ∧ Agree m.sz m y.m, st := fun y => [(6, .val (I ((y.k + 1 : Nat) : Int))), (0, .val (.slice a l.length cp)), (3, .own 0 0), (5, .val (.slice y.a (listM (withF l x) y.k 1).length y.c))], own := fun _ => [(0, ⟨32, encMk x⟩)], m := fun y => y.m, μ := fun y => 8 - y.k }) ?_
  refine vc_by (X :=
      true = true ∧
      (∃ (a_1 : JoX),
      (a_1.k ≤ (8 : Nat) ∧
      NewR m.sz (fun (x : Nat) => False) a_1.m (7 : Nat) a_1.a (listM (withF l x) a_1.k (1 : Int)).length a_1.c (mks (listM (withF l x) a_1.k (1 : Int))) ∧
      Agree m.sz m a_1.m) ∧
      m = a_1.m ∧
      ((SV.val (Value.int IntKind.i64 (1 : Int)) = SV.val (Value.int IntKind.i64 (↑(a_1.k + (1 : Nat)) : Int)) ∧ true = true) ∧
      (SV.val (Value.slice a l.length cp) = SV.val (Value.slice a l.length cp) ∧ true = true) ∧
      (SV.own ((0 : Nat) + (0 : Nat)) (0 : Nat) = SV.own (0 : Nat) (0 : Nat) ∧ true = true) ∧
      (SV.val (Value.slice none (0 : Nat) (0 : Nat)) = SV.val (Value.slice a_1.a (listM (withF l x) a_1.k (1 : Int)).length a_1.c) ∧ true = true) ∧ True) ∧
      (some
      { ty := (32 : Nat), cs := [Value.int IntKind.i64 x.cl, Value.int IntKind.i64 x.sq, Value.bool x.op, Value.int IntKind.i64 x.an_er, Value.int IntKind.i64 x.an_va, Value.int IntKind.i64 x.an_le, Value.int IntKind.i64 x.an_mo] : Bx } =
      some
      { ty := (32 : TypeId), cs := [Value.int IntKind.i64 x.cl, Value.int IntKind.i64 x.sq, Value.bool x.op, Value.int IntKind.i64 x.an_er, Value.int IntKind.i64 x.an_va, Value.int IntKind.i64 x.an_le, Value.int IntKind.i64 x.an_mo] : Bx } ∧
      true = true) ∧
      True) ∧
      ∀ (a_1 : JoX),
      a_1.k ≤ (8 : Nat) ∧
      NewR m.sz (fun (x : Nat) => False) a_1.m (7 : Nat) a_1.a (listM (withF l x) a_1.k (1 : Int)).length a_1.c (mks (listM (withF l x) a_1.k (1 : Int))) ∧ Agree m.sz m a_1.m →
      ifB (decide ((↑(a_1.k + (1 : Nat)) : Int) ≤ (8 : Int)))
      (∃ (n : Int),
      ∃ (n_1 : Int),
      ∃ (b : Bool),
      ∃ (n_2 : Int),
      ∃ (n_3 : Int),
      ∃ (n_4 : Int),
      ∃ (n_5 : Int),
      ∃ (b_1 : Bool),
      QSpec Try.prog (21 : Nat) [Value.slice a l.length cp, Value.int IntKind.i64 (↑(a_1.k + (1 : Nat)) : Int)] a_1.m
      (Value.tuple
      #[Value.agg
      #[Value.int IntKind.i64 n, Value.int IntKind.i64 n_1, Value.bool b, Value.int IntKind.i64 n_2, Value.int IntKind.i64 n_3,
      Value.int IntKind.i64 n_4, Value.int IntKind.i64 n_5],
      Value.bool b_1]) ∧
      ifB ((↑(a_1.k + (1 : Nat)) : Int) == x.cl)
      (true = true ∧
      ∀ (b : Nat),
      a_1.m.sz ≤ b →
      ∃ (old : List Value),
      ∃ (src : List Value),
      AppPre m.sz (fun (x : Nat) => False)
      (a_1.m.newBlock b
      [Value.int IntKind.i64 x.cl, Value.int IntKind.i64 x.sq, Value.bool x.op, Value.int IntKind.i64 x.an_er,
      Value.int IntKind.i64 x.an_va, Value.int IntKind.i64 x.an_le, Value.int IntKind.i64 x.an_mo])
      (7 : Nat) (56 : Nat) a_1.a (listM (withF l x) a_1.k (1 : Int)).length a_1.c (some { block := b, off := (0 : Nat) : Addr }) (1 : Nat) old
      src ∧
      ∀ (a' : Option Addr) (c' : Nat) (m' : M),
      AppPost Try.prog (32 : Nat)
      (a_1.m.newBlock b
      [Value.int IntKind.i64 x.cl, Value.int IntKind.i64 x.sq, Value.bool x.op, Value.int IntKind.i64 x.an_er,
      Value.int IntKind.i64 x.an_va, Value.int IntKind.i64 x.an_le, Value.int IntKind.i64 x.an_mo])
      (7 : Nat) a_1.a (listM (withF l x) a_1.k (1 : Int)).length a_1.c (1 : Nat) old src a' c' m' →
      ∃ (a'_1 : JoX),
      ((a'_1.k ≤ (8 : Nat) ∧
      NewR m.sz (fun (x : Nat) => False) a'_1.m (7 : Nat) a'_1.a (listM (withF l x) a'_1.k (1 : Int)).length a'_1.c
      (mks (listM (withF l x) a'_1.k (1 : Int))) ∧
      Agree m.sz m a'_1.m) ∧
      m' = a'_1.m ∧
      ((SV.val (Value.int IntKind.i64 (IntKind.i64.wrap ((↑(a_1.k + (1 : Nat)) : Int) + (1 : Int)))) =
      SV.val (Value.int IntKind.i64 (↑(a'_1.k + (1 : Nat)) : Int)) ∧
      true = true) ∧
      (SV.val (Value.slice a l.length cp) = SV.val (Value.slice a l.length cp) ∧ true = true) ∧
      (SV.own (0 : Nat) (0 : Nat) = SV.own (0 : Nat) (0 : Nat) ∧ true = true) ∧
      (SV.val (Value.slice a' ((listM (withF l x) a_1.k (1 : Int)).length + (1 : Nat)) c') =
      SV.val (Value.slice a'_1.a (listM (withF l x) a'_1.k (1 : Int)).length a'_1.c) ∧
      true = true) ∧
      True) ∧
      (some
      { ty := (32 : TypeId), cs := [Value.int IntKind.i64 x.cl, Value.int IntKind.i64 x.sq, Value.bool x.op, Value.int IntKind.i64 x.an_er, Value.int IntKind.i64 x.an_va, Value.int IntKind.i64 x.an_le, Value.int IntKind.i64 x.an_mo] : Bx } =
      some
      { ty := (32 : TypeId), cs := [Value.int IntKind.i64 x.cl, Value.int IntKind.i64 x.sq, Value.bool x.op, Value.int IntKind.i64 x.an_er, Value.int IntKind.i64 x.an_va, Value.int IntKind.i64 x.an_le, Value.int IntKind.i64 x.an_mo] : Bx } ∧
      true = true) ∧
      True) ∧
      (8 : Nat) - a'_1.k < (8 : Nat) - a_1.k)
      (ifB b_1
      (true = true ∧
      ∀ (b_2 : Nat),
      a_1.m.sz ≤ b_2 →
      ∃ (old : List Value),
      ∃ (src : List Value),
      AppPre m.sz (fun (x : Nat) => False)
      (a_1.m.newBlock b_2
      [Value.int IntKind.i64 n, Value.int IntKind.i64 n_1, Value.bool b, Value.int IntKind.i64 n_2, Value.int IntKind.i64 n_3,
      Value.int IntKind.i64 n_4, Value.int IntKind.i64 n_5])
      (7 : Nat) (56 : Nat) a_1.a (listM (withF l x) a_1.k (1 : Int)).length a_1.c (some { block := b_2, off := (0 : Nat) : Addr }) (1 : Nat)
      old src ∧
      ∀ (a' : Option Addr) (c' : Nat) (m' : M),
      AppPost Try.prog (32 : Nat)
      (a_1.m.newBlock b_2
      [Value.int IntKind.i64 n, Value.int IntKind.i64 n_1, Value.bool b, Value.int IntKind.i64 n_2, Value.int IntKind.i64 n_3,
      Value.int IntKind.i64 n_4, Value.int IntKind.i64 n_5])
      (7 : Nat) a_1.a (listM (withF l x) a_1.k (1 : Int)).length a_1.c (1 : Nat) old src a' c' m' →
      ∃ (a'_1 : JoX),
      ((a'_1.k ≤ (8 : Nat) ∧
      NewR m.sz (fun (x : Nat) => False) a'_1.m (7 : Nat) a'_1.a (listM (withF l x) a'_1.k (1 : Int)).length a'_1.c
      (mks (listM (withF l x) a'_1.k (1 : Int))) ∧
      Agree m.sz m a'_1.m) ∧
      m' = a'_1.m ∧
      ((SV.val (Value.int IntKind.i64 (IntKind.i64.wrap ((↑(a_1.k + (1 : Nat)) : Int) + (1 : Int)))) =
      SV.val (Value.int IntKind.i64 (↑(a'_1.k + (1 : Nat)) : Int)) ∧
      true = true) ∧
      (SV.val (Value.slice a l.length cp) = SV.val (Value.slice a l.length cp) ∧ true = true) ∧
      (SV.own (0 : Nat) (0 : Nat) = SV.own (0 : Nat) (0 : Nat) ∧ true = true) ∧
      (SV.val (Value.slice a' ((listM (withF l x) a_1.k (1 : Int)).length + (1 : Nat)) c') =
      SV.val (Value.slice a'_1.a (listM (withF l x) a'_1.k (1 : Int)).length a'_1.c) ∧
      true = true) ∧
      True) ∧
      (some
      { ty := (32 : TypeId), cs := [Value.int IntKind.i64 x.cl, Value.int IntKind.i64 x.sq, Value.bool x.op, Value.int IntKind.i64 x.an_er, Value.int IntKind.i64 x.an_va, Value.int IntKind.i64 x.an_le, Value.int IntKind.i64 x.an_mo] : Bx } =
      some
      { ty := (32 : TypeId), cs := [Value.int IntKind.i64 x.cl, Value.int IntKind.i64 x.sq, Value.bool x.op, Value.int IntKind.i64 x.an_er, Value.int IntKind.i64 x.an_va, Value.int IntKind.i64 x.an_le, Value.int IntKind.i64 x.an_mo] : Bx } ∧
      true = true) ∧
      True) ∧
      (8 : Nat) - a'_1.k < (8 : Nat) - a_1.k)
      (∃ (a' : JoX),
      ((a'.k ≤ (8 : Nat) ∧
      NewR m.sz (fun (x : Nat) => False) a'.m (7 : Nat) a'.a (listM (withF l x) a'.k (1 : Int)).length a'.c
      (mks (listM (withF l x) a'.k (1 : Int))) ∧
      Agree m.sz m a'.m) ∧
      a_1.m = a'.m ∧
      ((SV.val (Value.int IntKind.i64 (IntKind.i64.wrap ((↑(a_1.k + (1 : Nat)) : Int) + (1 : Int)))) =
      SV.val (Value.int IntKind.i64 (↑(a'.k + (1 : Nat)) : Int)) ∧
      true = true) ∧
      (SV.val (Value.slice a l.length cp) = SV.val (Value.slice a l.length cp) ∧ true = true) ∧
      (SV.own (0 : Nat) (0 : Nat) = SV.own (0 : Nat) (0 : Nat) ∧ true = true) ∧
      (SV.val (Value.slice a_1.a (listM (withF l x) a_1.k (1 : Int)).length a_1.c) =
      SV.val (Value.slice a'.a (listM (withF l x) a'.k (1 : Int)).length a'.c) ∧
      true = true) ∧
      True) ∧
      (some
      { ty := (32 : TypeId), cs := [Value.int IntKind.i64 x.cl, Value.int IntKind.i64 x.sq, Value.bool x.op, Value.int IntKind.i64 x.an_er, Value.int IntKind.i64 x.an_va, Value.int IntKind.i64 x.an_le, Value.int IntKind.i64 x.an_mo] : Bx } =
      some
      { ty := (32 : TypeId), cs := [Value.int IntKind.i64 x.cl, Value.int IntKind.i64 x.sq, Value.bool x.op, Value.int IntKind.i64 x.an_er, Value.int IntKind.i64 x.an_va, Value.int IntKind.i64 x.an_le, Value.int IntKind.i64 x.an_mo] : Bx } ∧
      true = true) ∧
      True) ∧
      (8 : Nat) - a'.k < (8 : Nat) - a_1.k)))
      (Done (SlR (insM l x) (Value.slice a_1.a (listM (withF l x) a_1.k (1 : Int)).length a_1.c) a_1.m))) (by kernel_rfl) ?_
  have h8 := tab8 ht
  refine ⟨rfl, ⟨⟨0, none, 0, m⟩, ⟨Nat.zero_le _, .nil _, Agree.refl _ _⟩, rfl, by simp [listM]⟩, fun y ⟨hk, Y, A⟩ => ifB_intro (fun h3 => ?_) (fun h3 => ?_)⟩
  · have hk2 : y.k < 8 := by simp at h3; omega
    have w1 : IntKind.i64.wrap (((y.k + 1 : Nat) : Int) + 1) = ((y.k + 1 + 1 : Nat) : Int) := by simp [IntKind.wrap_i64]; omega
    have hs := listM_succ (withF l x) y.k 1
    have hle := listM_len (withF l x) y.k 1
    have ek : (1 : Int) + (y.k : Int) = ((y.k + 1 : Nat) : Int) := by omega
    rw [ek] at hs
    have hf : findO l ((y.k + 1 : Nat) : Int) = ofM l ((y.k + 1 : Nat) : Int) := by simp [findO, ht]
    have push : ∀ (z : Mk) (b3 : Nat) (hb3 : y.m.sz ≤ b3) (hz : withF l x ((y.k + 1 : Nat) : Int) = some z), ∃ old src, AppPre m.sz (fun _ => False) (y.m.newBlock b3 (encMk z)) 7 56 y.a (listM (withF l x) y.k 1).length y.c (some ⟨b3, 0, none⟩) 1 old src ∧
        ∀ (a' : Option Addr) (c' : Nat) (m' : M), AppPost Try.prog 32 (y.m.newBlock b3 (encMk z)) 7 y.a (listM (withF l x) y.k 1).length y.c 1 old src a' c' m' →
          NewR m.sz (fun _ => False) m' 7 a' (listM (withF l x) (y.k + 1) 1).length c' (mks (listM (withF l x) (y.k + 1) 1)) ∧ Agree m.sz m m' ∧ (listM (withF l x) (y.k + 1) 1).length = (listM (withF l x) y.k 1).length + 1 := fun z b3 hb3 hz => by
      rw [hz] at hs
      obtain ⟨p1, p2⟩ := NewR.push (P := Try.prog) (e := 32) (bytes := 56) (src := encMk z) Y hb3 A.2.2 rfl rfl (by omega) mk_zr
      refine ⟨_, _, p1, fun a' c' m' hp => ?_⟩
      obtain ⟨g1, g2⟩ := p2 a' c' m' hp
      have e2 : mks (listM (withF l x) (y.k + 1) 1) = mks (listM (withF l x) y.k 1) ++ encMk z := by rw [hs]; simp [mks]
      have e3 : (listM (withF l x) (y.k + 1) 1).length = (listM (withF l x) y.k 1).length + 1 := by rw [hs]; simp
      exact ⟨by rw [e2, e3]; exact g1, A.trans g2, e3⟩
    refine ⟨_, _, _, _, _, _, _, _, rfind_q a cp l _ (by omega) _ (h.agree A), ?_⟩
    rw [hf]
    refine ifB_intro (fun h4 => ?_) (fun h4 => ?_)
    · have h4 : x.cl = ((y.k + 1 : Nat) : Int) := by have : ((y.k + 1 : Nat) : Int) = x.cl := by simpa using h4
                                                     exact this.symm
      refine ⟨rfl, fun b3 hb3 => ?_⟩
      obtain ⟨old, src, p1, p2⟩ := push x b3 hb3 (by simp [withF, h4])
      refine ⟨old, src, p1, fun a' c' m' hp => ?_⟩
      obtain ⟨g1, g2, g3⟩ := p2 a' c' m' hp
      exact ⟨⟨y.k + 1, a', c', m'⟩, ⟨⟨hk2, g1, g2⟩, rfl, by rw [w1]; simp [g3]⟩, by simp only; omega⟩
    · have h4 : ¬ x.cl = ((y.k + 1 : Nat) : Int) := fun e => by simp [← e] at h4
      have hw : withF l x ((y.k + 1 : Nat) : Int) = ofM l ((y.k + 1 : Nat) : Int) := by simp only [withF, if_neg h4]
      cases ho : ofM l ((y.k + 1 : Nat) : Int) with
      | none =>
        rw [hw, ho] at hs
        simp only [Option.toList, List.append_nil] at hs
        refine ifB_false ⟨⟨y.k + 1, y.a, y.c, y.m⟩, ⟨⟨hk2, by rw [hs]; exact Y, A⟩, rfl, by rw [w1]; simp [hs]⟩, by simp only; omega⟩
      | some z =>
        refine ifB_true ⟨rfl, fun b3 hb3 => ?_⟩
        obtain ⟨old, src, p1, p2⟩ := push z b3 hb3 (by rw [hw, ho])
        refine ⟨old, src, p1, fun a' c' m' hp => ?_⟩
        obtain ⟨g1, g2, g3⟩ := p2 a' c' m' hp
        exact ⟨⟨y.k + 1, a', c', m'⟩, ⟨⟨hk2, g1, g2⟩, rfl, by rw [w1]; simp [g3]⟩, by simp only; omega⟩
  · have : y.k = 8 := by simp at h3; omega
    rw [this] at Y ⊢
    rw [with_list ht hx hc]
    exact ⟨⟨_, _, rfl, Y.row⟩⟩

end Go.Proofs.Ytpfiodchlbofmaa
set_option linter.unusedVariables false
set_option linter.unusedSimpArgs false
namespace Go.Proofs.Ytpfiodchlbofmaa
open Go.Vc Go.RowKit
set_option maxRecDepth 100000

theorem rclient_q (c : Int) (m : M) : QSpec Try.prog 32 [I c] m (.bool (decide (1 ≤ c) && decide (c ≤ 8))) := by
  refine QSpec.of_vc Try.func32 (ann := fun _ => noAnn) fun n hn => ?_
  refine vc_by (X :=
      true = true ∧
      ifB (decide (c ≥ (1 : Int))) (Done (Value.bool (decide (c ≤ (8 : Int))) = Value.bool (decide ((1 : Int) ≤ c) && decide (c ≤ (8 : Int)))))
      (Done (Value.bool false = Value.bool (decide ((1 : Int) ≤ c) && decide (c ≤ (8 : Int)))))) (by kernel_rfl) ?_
  refine ⟨rfl, ifB_intro (fun h => ⟨?_⟩) (fun h => ⟨?_⟩)⟩
  · simp at h; simp [h]
  · simp at h; simp; omega

theorem rseq_q (s : Int) (m : M) : QSpec Try.prog 33 [I s] m (.bool (decide (1 ≤ s) && decide (s ≤ 4611686018427387904))) := by
  refine QSpec.of_vc Try.func33 (ann := fun _ => noAnn) fun n hn => ?_
  refine vc_by (X :=
      true = true ∧
      ifB (decide (s ≥ (1 : Int))) (Done (Value.bool (decide (s ≤ (4611686018427387904 : Int))) = Value.bool (decide ((1 : Int) ≤ s) && decide (s ≤ (4611686018427387904 : Int)))))
      (Done (Value.bool false = Value.bool (decide ((1 : Int) ≤ s) && decide (s ≤ (4611686018427387904 : Int)))))) (by kernel_rfl) ?_
  refine ⟨rfl, ifB_intro (fun h => ⟨?_⟩) (fun h => ⟨?_⟩)⟩
  · simp at h; simp [h]
  · simp at h; simp; omega

theorem opM_ok {c s : Int} (h : argB c s = true) : mkB (opM c s) = true ∧ 0 < c := by
  simp [argB] at h
  refine ⟨?_, by omega⟩
  show mkB ⟨c, s, true, 0, 0, 0, 0⟩ = true
  simp [mkB, ans0B]
  omega

theorem rbegin_s (a : Option Addr) (cp : Nat) (l : List Mk) (c s : Int) (hn : l.length ≤ 9223372036854775807) (m : M) (h : Row m a (mks l)) : Vc.Spec Try.prog 22 [.slice a l.length cp, I c, I s] m (MbR (beginM l c s)) := by
  refine Vc.Spec.of_vc Try.func22 (ann := noAnn) ?_
  refine vc_by (X :=
      true = true ∧
      ∃ (b : Bool),
      QSpec Try.prog (16 : Nat) [Value.slice a l.length cp] m (Value.bool b) ∧
      ifB (!b) (Done (MbR (beginM l c s) (Value.tuple #[Value.slice none (0 : Nat) (0 : Nat), Value.bool false, Value.int IntKind.i64 (21 : Int)]) m))
      (∃ (b : Bool),
      QSpec Try.prog (32 : Nat) [Value.int IntKind.i64 c] m (Value.bool b) ∧
      ifB (!b) (Done (MbR (beginM l c s) (Value.tuple #[Value.slice none (0 : Nat) (0 : Nat), Value.bool false, Value.int IntKind.i64 (1 : Int)]) m))
      (∃ (b : Bool),
      QSpec Try.prog (33 : Nat) [Value.int IntKind.i64 s] m (Value.bool b) ∧
      ifB (!b) (Done (MbR (beginM l c s) (Value.tuple #[Value.slice none (0 : Nat) (0 : Nat), Value.bool false, Value.int IntKind.i64 (1 : Int)]) m))
      (∃ (n : Int),
      ∃ (n_1 : Int),
      ∃ (b : Bool),
      ∃ (n_2 : Int),
      ∃ (n_3 : Int),
      ∃ (n_4 : Int),
      ∃ (n_5 : Int),
      ∃ (b_1 : Bool),
      QSpec Try.prog (21 : Nat) [Value.slice a l.length cp, Value.int IntKind.i64 c] m
      (Value.tuple
      #[Value.agg
      #[Value.int IntKind.i64 n, Value.int IntKind.i64 n_1, Value.bool b, Value.int IntKind.i64 n_2, Value.int IntKind.i64 n_3,
      Value.int IntKind.i64 n_4, Value.int IntKind.i64 n_5],
      Value.bool b_1]) ∧
      ifB b_1
      (ifB (decide (n_1 > s))
      (Done (MbR (beginM l c s) (Value.tuple #[Value.slice none (0 : Nat) (0 : Nat), Value.bool false, Value.int IntKind.i64 (80 : Int)]) m))
      (ifB b_1
      (ifB (n_1 == s)
      (Done (MbR (beginM l c s) (Value.tuple #[Value.slice a l.length cp, Value.bool false, Value.int IntKind.i64 (0 : Int)]) m))
      (∃ (S' : Nat → Prop),
      (∀ (b : Nat), S' b → m.uf b ∧ (m.sz ≤ b ∨ False)) ∧
      ∀ (n : Nat),
      m.sz ≤ n →
      SpecW Try.prog (34 : Nat)
      [Value.slice a l.length cp,
      Value.agg
      #[Value.int IntKind.i64 c, Value.int IntKind.i64 s, Value.bool true, Value.int IntKind.i64 (0 : Int),
      Value.int IntKind.i64 (0 : Int), Value.int IntKind.i64 (0 : Int), Value.int IntKind.i64 (0 : Int)]]
      { π := m.π, sz := n, uf := m.uf : M } S' fun (v : Value) (m' : M) =>
      ∃ (a : Option Addr),
      ∃ (n : Nat),
      ∃ (c_1 : Nat),
      v = Value.slice a n c_1 ∧
      Done
      (MbR (beginM l c s) (Value.tuple #[Value.slice a n c_1, Value.bool true, Value.int IntKind.i64 (0 : Int)]) m')))
      (∃ (S' : Nat → Prop),
      (∀ (b : Nat), S' b → m.uf b ∧ (m.sz ≤ b ∨ False)) ∧
      ∀ (n : Nat),
      m.sz ≤ n →
      SpecW Try.prog (34 : Nat)
      [Value.slice a l.length cp,
      Value.agg
      #[Value.int IntKind.i64 c, Value.int IntKind.i64 s, Value.bool true, Value.int IntKind.i64 (0 : Int),
      Value.int IntKind.i64 (0 : Int), Value.int IntKind.i64 (0 : Int), Value.int IntKind.i64 (0 : Int)]]
      { π := m.π, sz := n, uf := m.uf : M } S' fun (v : Value) (m' : M) =>
      ∃ (a : Option Addr),
      ∃ (n : Nat),
      ∃ (c_1 : Nat),
      v = Value.slice a n c_1 ∧
      Done (MbR (beginM l c s) (Value.tuple #[Value.slice a n c_1, Value.bool true, Value.int IntKind.i64 (0 : Int)]) m'))))
      (ifB b_1
      (ifB (n_1 == s)
      (Done (MbR (beginM l c s) (Value.tuple #[Value.slice a l.length cp, Value.bool false, Value.int IntKind.i64 (0 : Int)]) m))
      (∃ (S' : Nat → Prop),
      (∀ (b : Nat), S' b → m.uf b ∧ (m.sz ≤ b ∨ False)) ∧
      ∀ (n : Nat),
      m.sz ≤ n →
      SpecW Try.prog (34 : Nat)
      [Value.slice a l.length cp,
      Value.agg
      #[Value.int IntKind.i64 c, Value.int IntKind.i64 s, Value.bool true, Value.int IntKind.i64 (0 : Int),
      Value.int IntKind.i64 (0 : Int), Value.int IntKind.i64 (0 : Int), Value.int IntKind.i64 (0 : Int)]]
      { π := m.π, sz := n, uf := m.uf : M } S' fun (v : Value) (m' : M) =>
      ∃ (a : Option Addr),
      ∃ (n : Nat),
      ∃ (c_1 : Nat),
      v = Value.slice a n c_1 ∧
      Done (MbR (beginM l c s) (Value.tuple #[Value.slice a n c_1, Value.bool true, Value.int IntKind.i64 (0 : Int)]) m')))
      (∃ (S' : Nat → Prop),
      (∀ (b : Nat), S' b → m.uf b ∧ (m.sz ≤ b ∨ False)) ∧
      ∀ (n : Nat),
      m.sz ≤ n →
      SpecW Try.prog (34 : Nat)
      [Value.slice a l.length cp,
      Value.agg
      #[Value.int IntKind.i64 c, Value.int IntKind.i64 s, Value.bool true, Value.int IntKind.i64 (0 : Int),
      Value.int IntKind.i64 (0 : Int), Value.int IntKind.i64 (0 : Int), Value.int IntKind.i64 (0 : Int)]]
      { π := m.π, sz := n, uf := m.uf : M } S' fun (v : Value) (m' : M) =>
      ∃ (a : Option Addr),
      ∃ (n : Nat),
      ∃ (c_1 : Nat),
      v = Value.slice a n c_1 ∧
      Done (MbR (beginM l c s) (Value.tuple #[Value.slice a n c_1, Value.bool true, Value.int IntKind.i64 (0 : Int)]) m'))))))) (by kernel_rfl) ?_
  refine ⟨rfl, _, rright_q a cp l hn _ h, ?_⟩
  cases ht : tabB 0 l
  · exact ifB_true (mb_fail (by simp [beginM, ht]))
  have h8 := tab8 ht
  refine ifB_false ⟨_, rclient_q c _, ifB_intro (fun h1 => mb_fail ?_) (fun h1 => ⟨_, rseq_q s _, ifB_intro (fun h2 => mb_fail ?_) (fun h2 => ?_)⟩)⟩
  · have : argB c s = false := by simp at h1; simp [argB]; omega
    simp [beginM, ht, this]
  · have : argB c s = false := by simp at h2; simp [argB]; omega
    simp [beginM, ht, this]
  have ha : argB c s = true := by simp at h1 h2; simp [argB]; omega
  obtain ⟨o1, o2⟩ := opM_ok ha
  have hf : findO l c = ofM l c := by simp [findO, ht]
  refine ⟨_, _, _, _, _, _, _, _, rfind_q a cp l c hn _ h, ?_⟩
  rw [hf]
  cases ho : ofM l c with
  | none =>
    have hres : beginM l c s = (insM l (opM c s), true, 0) := by simp [beginM, ht, ha, ho]
    refine ifB_false (ifB_false ⟨_, noS, fun N hN => (rwith_s a cp l (opM c s) ht o1 o2 _ (h.sz hN)).monoW fun v m' hag hq => ?_⟩)
    obtain ⟨a', c', hv, hr⟩ := hq
    exact ⟨a', _, c', hv, mb_ok hres rfl hr⟩
  | some x =>
    refine ifB_true (ifB_intro (fun h5 => mb_fail ?_) (fun h5 => ifB_true (ifB_intro (fun h6 => ?_) (fun h6 => ⟨_, noS, fun N hN => (rwith_s a cp l (opM c s) ht o1 o2 _ (h.sz hN)).monoW fun v m' hag hq => ?_⟩))))
    · have h5 : s < x.sq := by simpa using h5
      simp [beginM, ht, ha, ho, h5]
    all_goals have h5 : ¬ s < x.sq := by simpa using h5
    · have h6 : x.sq = s := by simpa using h6
      exact mb_ok (by simp [beginM, ht, ha, ho, h6]) rfl h
    · have h6 : ¬ x.sq = s := by simpa using h6
      obtain ⟨a', c', hv, hr⟩ := hq
      exact ⟨a', _, c', hv, mb_ok (by simp [beginM, ht, ha, ho, h5, h6]) rfl hr⟩

theorem ropen_q (a : Option Addr) (cp : Nat) (l : List Mk) (c s : Int) (hn : l.length ≤ 9223372036854775807) (m : M) (h : Row m a (mks l)) : QSpec Try.prog 35 [.slice a l.length cp, I c, I s] m (I (openE l c s)) := by
  refine QSpec.of_vc Try.func35 (ann := fun _ => noAnn) fun n hn' => ?_
  refine vc_by (X :=
      true = true ∧
      ∃ (b : Bool),
      QSpec Try.prog (16 : Nat) [Value.slice a l.length cp] { π := m.π, sz := n, uf := m.uf : M } (Value.bool b) ∧
      ifB (!b) (Done (Value.int IntKind.i64 (21 : Int) = Value.int IntKind.i64 (openE l c s)))
      (∃ (n_1 : Int),
      ∃ (n_2 : Int),
      ∃ (b : Bool),
      ∃ (n_3 : Int),
      ∃ (n_4 : Int),
      ∃ (n_5 : Int),
      ∃ (n_6 : Int),
      ∃ (b_1 : Bool),
      QSpec Try.prog (21 : Nat) [Value.slice a l.length cp, Value.int IntKind.i64 c] { π := m.π, sz := n, uf := m.uf : M }
      (Value.tuple
      #[Value.agg
      #[Value.int IntKind.i64 n_1, Value.int IntKind.i64 n_2, Value.bool b, Value.int IntKind.i64 n_3, Value.int IntKind.i64 n_4,
      Value.int IntKind.i64 n_5, Value.int IntKind.i64 n_6],
      Value.bool b_1]) ∧
      ifB (!b_1) (Done (Value.int IntKind.i64 (60 : Int) = Value.int IntKind.i64 (openE l c s)))
      (ifB (n_2 != s) (Done (Value.int IntKind.i64 (60 : Int) = Value.int IntKind.i64 (openE l c s)))
      (ifB (!b) (Done (Value.int IntKind.i64 (60 : Int) = Value.int IntKind.i64 (openE l c s)))
      (Done (Value.int IntKind.i64 (0 : Int) = Value.int IntKind.i64 (openE l c s))))))) (by kernel_rfl) ?_
  have h' := h.sz hn'
  refine ⟨rfl, _, rright_q a cp l hn _ h', ?_⟩
  cases ht : tabB 0 l
  · exact ifB_true ⟨by simp [openE, ht]⟩
  refine ifB_false ⟨_, _, _, _, _, _, _, _, rfind_q a cp l c hn _ h', ?_⟩
  rw [show findO l c = ofM l c by simp [findO, ht]]
  cases ho : ofM l c with
  | none => exact ifB_true ⟨by simp [openE, ht, ho]⟩
  | some x =>
    refine ifB_false (ifB_intro (fun h1 => ⟨?_⟩) (fun h1 => ifB_intro (fun h2 => ⟨?_⟩) (fun h2 => ⟨?_⟩)))
    · have h1 : ¬ x.sq = s := by simpa using h1
      simp [openE, ht, ho, h1]
    · have h2 : x.op = false := by simpa using h2
      simp [openE, ht, ho, h2]
    · have h1 : x.sq = s := by simpa using h1
      have h2 : x.op = true := by simpa using h2
      simp [openE, ht, ho, h1, h2]

theorem edM_ok {l : List Mk} {c s : Int} {an : An} (h : openE l c s = 0) : mkB (edM c s an) = true ∧ 0 < c := by
  obtain ⟨-, x, -, -, -, g1, g2, g3, g4⟩ := openE_zero h
  refine ⟨?_, g1⟩
  show mkB ⟨c, s, false, an.er, an.va, an.le, an.mo⟩ = true
  simp [mkB]
  omega

theorem loM_ok {l : List Mk} {c s : Int} (h : openE l c s = 0) : mkB (loM c s) = true ∧ 0 < c := by
  obtain ⟨-, x, -, -, -, g1, g2, g3, g4⟩ := openE_zero h
  refine ⟨?_, g1⟩
  show mkB ⟨c, s - 1, false, 80, 0, 0, 0⟩ = true
  simp [mkB]
  omega

theorem rend_s (a : Option Addr) (cp : Nat) (l : List Mk) (c s : Int) (an : An) (hn : l.length ≤ 9223372036854775807) (m : M) (h : Row m a (mks l)) : Vc.Spec Try.prog 23 [.slice a l.length cp, I c, I s, anv an] m (MeR (endM l c s an)) := by
  refine Vc.Spec.of_vc Try.func23 (ann := noAnn) ?_
  refine vc_by (X :=
      true = true ∧
      ∃ (n : Int),
      QSpec Try.prog (35 : Nat) [Value.slice a l.length cp, Value.int IntKind.i64 c, Value.int IntKind.i64 s] m (Value.int IntKind.i64 n) ∧
      ifB (n != (0 : Int)) (Done (MeR (endM l c s an) (Value.tuple #[Value.slice none (0 : Nat) (0 : Nat), Value.int IntKind.i64 n]) m))
      (∃ (S' : Nat → Prop),
      (∀ (b : Nat), S' b → m.uf b ∧ (m.sz ≤ b ∨ False)) ∧
      ∀ (n : Nat),
      m.sz ≤ n →
      SpecW Try.prog (34 : Nat)
      [Value.slice a l.length cp,
      Value.agg
      #[Value.int IntKind.i64 c, Value.int IntKind.i64 s, Value.bool false, Value.int IntKind.i64 an.er, Value.int IntKind.i64 an.va, Value.int IntKind.i64 an.le,
      Value.int IntKind.i64 an.mo]]
      { π := m.π, sz := n, uf := m.uf : M } S' fun (v : Value) (m' : M) =>
      ∃ (a : Option Addr),
      ∃ (n : Nat), ∃ (c_1 : Nat), v = Value.slice a n c_1 ∧ Done (MeR (endM l c s an) (Value.tuple #[Value.slice a n c_1, Value.int IntKind.i64 (0 : Int)]) m'))) (by kernel_rfl) ?_
  refine ⟨rfl, _, ropen_q a cp l c s hn _ h, ifB_intro (fun h1 => me_fail ?_) (fun h1 => ?_)⟩
  · simp at h1; simp [endM, h1]
  have h1 : openE l c s = 0 := by simpa using h1
  obtain ⟨ht, -⟩ := openE_zero h1
  obtain ⟨o1, o2⟩ := edM_ok (an := an) h1
  refine ⟨_, noS, fun N hN => (rwith_s a cp l (edM c s an) ht o1 o2 _ (h.sz hN)).monoW fun v m' hag hq => ?_⟩
  obtain ⟨a', c', hv, hr⟩ := hq
  exact ⟨a', _, c', hv, me_ok (by simp [endM, h1]) rfl hr⟩

theorem rlose_s (a : Option Addr) (cp : Nat) (l : List Mk) (c s : Int) (hn : l.length ≤ 9223372036854775807) (m : M) (h : Row m a (mks l)) : Vc.Spec Try.prog 24 [.slice a l.length cp, I c, I s] m (MeR (loseM l c s)) := by
  refine Vc.Spec.of_vc Try.func24 (ann := noAnn) ?_
  refine vc_by (X :=
      true = true ∧
      ∃ (n : Int),
      QSpec Try.prog (35 : Nat) [Value.slice a l.length cp, Value.int IntKind.i64 c, Value.int IntKind.i64 s] m (Value.int IntKind.i64 n) ∧
      ifB (n != (0 : Int)) (Done (MeR (loseM l c s) (Value.tuple #[Value.slice none (0 : Nat) (0 : Nat), Value.int IntKind.i64 n]) m))
      (∃ (S' : Nat → Prop),
      (∀ (b : Nat), S' b → m.uf b ∧ (m.sz ≤ b ∨ False)) ∧
      ∀ (n : Nat),
      m.sz ≤ n →
      SpecW Try.prog (34 : Nat)
      [Value.slice a l.length cp,
      Value.agg
      #[Value.int IntKind.i64 c, Value.int IntKind.i64 (IntKind.i64.wrap (s - (1 : Int))), Value.bool false, Value.int IntKind.i64 (80 : Int),
      Value.int IntKind.i64 (0 : Int), Value.int IntKind.i64 (0 : Int), Value.int IntKind.i64 (0 : Int)]]
      { π := m.π, sz := n, uf := m.uf : M } S' fun (v : Value) (m' : M) =>
      ∃ (a : Option Addr),
      ∃ (n : Nat), ∃ (c_1 : Nat), v = Value.slice a n c_1 ∧ Done (MeR (loseM l c s) (Value.tuple #[Value.slice a n c_1, Value.int IntKind.i64 (0 : Int)]) m'))) (by kernel_rfl) ?_
  refine ⟨rfl, _, ropen_q a cp l c s hn _ h, ifB_intro (fun h1 => me_fail ?_) (fun h1 => ?_)⟩
  · simp at h1; simp [loseM, h1]
  have h1 : openE l c s = 0 := by simpa using h1
  obtain ⟨ht, x, -, -, -, -, -, g1, g2⟩ := openE_zero h1
  obtain ⟨o1, o2⟩ := loM_ok h1
  have w1 : IntKind.i64.wrap (s - 1) = s - 1 := by simp [IntKind.wrap_i64]; omega
  rw [w1]
  refine ⟨_, noS, fun N hN => (rwith_s a cp l (loM c s) ht o1 o2 _ (h.sz hN)).monoW fun v m' hag hq => ?_⟩
  obtain ⟨a', c', hv, hr⟩ := hq
  exact ⟨a', _, c', hv, me_ok (by simp [loseM, h1]) rfl hr⟩

def joF (l b : List Mk) (c : Int) : Option Mk := joinO (ofM l c) (ofM b c)

set_option maxHeartbeats 1000000 in
theorem rjoin_s (a ab : Option Addr) (cp cb : Nat) (l b : List Mk) (hn : l.length ≤ 9223372036854775807) (hb : b.length ≤ 9223372036854775807) (m : M) (h : Row m a (mks l)) (h2 : Row m ab (mks b)) : Vc.Spec Try.prog 12 [.slice a l.length cp, .slice ab b.length cb] m (MeR (joinM l b)) := by
  refine Vc.Spec.of_vc Try.func12 (ann := fun _ => { A := JoX, inv := fun y => y.k ≤ 8 ∧ NewR m.sz (fun _ => False) y.m 7 y.a (listM (joF l b) y.k 1).length y.c (mks (listM (joF l b) y.k 1)) ∧ Agree m.sz m y.m, st := fun y => [(7, .val (I ((y.k + 1 : Nat) : Int))), (0, .val (.slice a l.length cp)), (1, .val (.slice ab b.length cb)), (6, .val (.slice y.a (listM (joF l b) y.k 1).length y.c))], own := fun _ => [], m := fun y => y.m, μ := fun y => 8 - y.k }) ?_
  refine vc_by (X :=
      true = true ∧
      ∃ (b_1 : Bool),
      QSpec Try.prog (16 : Nat) [Value.slice a l.length cp] m (Value.bool b_1) ∧
      ifB (!b_1) (Done (MeR (joinM l b) (Value.tuple #[Value.slice none (0 : Nat) (0 : Nat), Value.int IntKind.i64 (21 : Int)]) m))
      (∃ (b_2 : Bool),
      QSpec Try.prog (16 : Nat) [Value.slice ab b.length cb] m (Value.bool b_2) ∧
      ifB (!b_2) (Done (MeR (joinM l b) (Value.tuple #[Value.slice none (0 : Nat) (0 : Nat), Value.int IntKind.i64 (21 : Int)]) m))
      ((∃ (a_1 : JoX),
      (a_1.k ≤ (8 : Nat) ∧
      NewR m.sz (fun (x : Nat) => False) a_1.m (7 : Nat) a_1.a (listM (joF l b) a_1.k (1 : Int)).length a_1.c (mks (listM (joF l b) a_1.k (1 : Int))) ∧
      Agree m.sz m a_1.m) ∧
      m = a_1.m ∧
      ((SV.val (Value.int IntKind.i64 (1 : Int)) = SV.val (Value.int IntKind.i64 (↑(a_1.k + (1 : Nat)) : Int)) ∧ true = true) ∧
      (SV.val (Value.slice a l.length cp) = SV.val (Value.slice a l.length cp) ∧ true = true) ∧
      (SV.val (Value.slice ab b.length cb) = SV.val (Value.slice ab b.length cb) ∧ true = true) ∧
      (SV.val (Value.slice none (0 : Nat) (0 : Nat)) = SV.val (Value.slice a_1.a (listM (joF l b) a_1.k (1 : Int)).length a_1.c) ∧ true = true) ∧ True) ∧
      True) ∧
      ∀ (a_1 : JoX),
      a_1.k ≤ (8 : Nat) ∧
      NewR m.sz (fun (x : Nat) => False) a_1.m (7 : Nat) a_1.a (listM (joF l b) a_1.k (1 : Int)).length a_1.c (mks (listM (joF l b) a_1.k (1 : Int))) ∧
      Agree m.sz m a_1.m →
      ifB (decide ((↑(a_1.k + (1 : Nat)) : Int) ≤ (8 : Int)))
      (∃ (n : Int),
      ∃ (n_1 : Int),
      ∃ (b_3 : Bool),
      ∃ (n_2 : Int),
      ∃ (n_3 : Int),
      ∃ (n_4 : Int),
      ∃ (n_5 : Int),
      ∃ (b_4 : Bool),
      QSpec Try.prog (21 : Nat) [Value.slice a l.length cp, Value.int IntKind.i64 (↑(a_1.k + (1 : Nat)) : Int)] a_1.m
      (Value.tuple
      #[Value.agg
      #[Value.int IntKind.i64 n, Value.int IntKind.i64 n_1, Value.bool b_3, Value.int IntKind.i64 n_2, Value.int IntKind.i64 n_3,
      Value.int IntKind.i64 n_4, Value.int IntKind.i64 n_5],
      Value.bool b_4]) ∧
      ∃ (n_6 : Int),
      ∃ (n_7 : Int),
      ∃ (b_5 : Bool),
      ∃ (n_8 : Int),
      ∃ (n_9 : Int),
      ∃ (n_10 : Int),
      ∃ (n_11 : Int),
      ∃ (b_6 : Bool),
      QSpec Try.prog (21 : Nat) [Value.slice ab b.length cb, Value.int IntKind.i64 (↑(a_1.k + (1 : Nat)) : Int)] a_1.m
      (Value.tuple
      #[Value.agg
      #[Value.int IntKind.i64 n_6, Value.int IntKind.i64 n_7, Value.bool b_5, Value.int IntKind.i64 n_8,
      Value.int IntKind.i64 n_9, Value.int IntKind.i64 n_10, Value.int IntKind.i64 n_11],
      Value.bool b_6]) ∧
      ifB b_6
      (ifB (!b_4)
      (ifB b_4
      (true = true ∧
      ∀ (b_7 : Nat),
      a_1.m.sz ≤ b_7 →
      ∃ (old : List Value),
      ∃ (src : List Value),
      AppPre m.sz (fun (x : Nat) => False)
      (a_1.m.newBlock b_7
      [Value.int IntKind.i64 n_6, Value.int IntKind.i64 n_7, Value.bool b_5, Value.int IntKind.i64 n_8,
      Value.int IntKind.i64 n_9, Value.int IntKind.i64 n_10, Value.int IntKind.i64 n_11])
      (7 : Nat) (56 : Nat) a_1.a (listM (joF l b) a_1.k (1 : Int)).length a_1.c
      (some { block := b_7, off := (0 : Nat) : Addr }) (1 : Nat) old src ∧
      ∀ (a' : Option Addr) (c' : Nat) (m' : M),
      AppPost Try.prog (32 : Nat)
      (a_1.m.newBlock b_7
      [Value.int IntKind.i64 n_6, Value.int IntKind.i64 n_7, Value.bool b_5,
      Value.int IntKind.i64 n_8, Value.int IntKind.i64 n_9, Value.int IntKind.i64 n_10,
      Value.int IntKind.i64 n_11])
      (7 : Nat) a_1.a (listM (joF l b) a_1.k (1 : Int)).length a_1.c (1 : Nat) old src a' c' m' →
      ∃ (a'_1 : JoX),
      ((a'_1.k ≤ (8 : Nat) ∧
      NewR m.sz (fun (x : Nat) => False) a'_1.m (7 : Nat) a'_1.a
      (listM (joF l b) a'_1.k (1 : Int)).length a'_1.c
      (mks (listM (joF l b) a'_1.k (1 : Int))) ∧
      Agree m.sz m a'_1.m) ∧
      m' = a'_1.m ∧
      ((SV.val
      (Value.int IntKind.i64
      (IntKind.i64.wrap ((↑(a_1.k + (1 : Nat)) : Int) + (1 : Int)))) =
      SV.val (Value.int IntKind.i64 (↑(a'_1.k + (1 : Nat)) : Int)) ∧
      true = true) ∧
      (SV.val (Value.slice a l.length cp) = SV.val (Value.slice a l.length cp) ∧
      true = true) ∧
      (SV.val (Value.slice ab b.length cb) = SV.val (Value.slice ab b.length cb) ∧
      true = true) ∧
      (SV.val (Value.slice a' ((listM (joF l b) a_1.k (1 : Int)).length + (1 : Nat)) c') =
      SV.val (Value.slice a'_1.a (listM (joF l b) a'_1.k (1 : Int)).length a'_1.c) ∧
      true = true) ∧
      True) ∧
      True) ∧
      (8 : Nat) - a'_1.k < (8 : Nat) - a_1.k)
      (ifB b_6
      (true = true ∧
      ∀ (b_7 : Nat),
      a_1.m.sz ≤ b_7 →
      ∃ (old : List Value),
      ∃ (src : List Value),
      AppPre m.sz (fun (x : Nat) => False)
      (a_1.m.newBlock b_7
      [Value.int IntKind.i64 n_6, Value.int IntKind.i64 n_7, Value.bool b_5, Value.int IntKind.i64 n_8,
      Value.int IntKind.i64 n_9, Value.int IntKind.i64 n_10, Value.int IntKind.i64 n_11])
      (7 : Nat) (56 : Nat) a_1.a (listM (joF l b) a_1.k (1 : Int)).length a_1.c
      (some { block := b_7, off := (0 : Nat) : Addr }) (1 : Nat) old src ∧
      ∀ (a' : Option Addr) (c' : Nat) (m' : M),
      AppPost Try.prog (32 : Nat)
      (a_1.m.newBlock b_7
      [Value.int IntKind.i64 n_6, Value.int IntKind.i64 n_7, Value.bool b_5,
      Value.int IntKind.i64 n_8, Value.int IntKind.i64 n_9, Value.int IntKind.i64 n_10,
      Value.int IntKind.i64 n_11])
      (7 : Nat) a_1.a (listM (joF l b) a_1.k (1 : Int)).length a_1.c (1 : Nat) old src a' c' m' →
      ∃ (a'_1 : JoX),
      ((a'_1.k ≤ (8 : Nat) ∧
      NewR m.sz (fun (x : Nat) => False) a'_1.m (7 : Nat) a'_1.a
      (listM (joF l b) a'_1.k (1 : Int)).length a'_1.c
      (mks (listM (joF l b) a'_1.k (1 : Int))) ∧
      Agree m.sz m a'_1.m) ∧
      m' = a'_1.m ∧
      ((SV.val
      (Value.int IntKind.i64
      (IntKind.i64.wrap ((↑(a_1.k + (1 : Nat)) : Int) + (1 : Int)))) =
      SV.val (Value.int IntKind.i64 (↑(a'_1.k + (1 : Nat)) : Int)) ∧
      true = true) ∧
      (SV.val (Value.slice a l.length cp) = SV.val (Value.slice a l.length cp) ∧
      true = true) ∧
      (SV.val (Value.slice ab b.length cb) = SV.val (Value.slice ab b.length cb) ∧
      true = true) ∧
      (SV.val
      (Value.slice a' ((listM (joF l b) a_1.k (1 : Int)).length + (1 : Nat))
      c') =
      SV.val
      (Value.slice a'_1.a (listM (joF l b) a'_1.k (1 : Int)).length a'_1.c) ∧
      true = true) ∧
      True) ∧
      True) ∧
      (8 : Nat) - a'_1.k < (8 : Nat) - a_1.k)
      (∃ (a' : JoX),
      ((a'.k ≤ (8 : Nat) ∧
      NewR m.sz (fun (x : Nat) => False) a'.m (7 : Nat) a'.a (listM (joF l b) a'.k (1 : Int)).length a'.c
      (mks (listM (joF l b) a'.k (1 : Int))) ∧
      Agree m.sz m a'.m) ∧
      a_1.m = a'.m ∧
      ((SV.val (Value.int IntKind.i64 (IntKind.i64.wrap ((↑(a_1.k + (1 : Nat)) : Int) + (1 : Int)))) =
      SV.val (Value.int IntKind.i64 (↑(a'.k + (1 : Nat)) : Int)) ∧
      true = true) ∧
      (SV.val (Value.slice a l.length cp) = SV.val (Value.slice a l.length cp) ∧ true = true) ∧
      (SV.val (Value.slice ab b.length cb) = SV.val (Value.slice ab b.length cb) ∧ true = true) ∧
      (SV.val (Value.slice a_1.a (listM (joF l b) a_1.k (1 : Int)).length a_1.c) =
      SV.val (Value.slice a'.a (listM (joF l b) a'.k (1 : Int)).length a'.c) ∧
      true = true) ∧
      True) ∧
      True) ∧
      (8 : Nat) - a'.k < (8 : Nat) - a_1.k)))
      (ifB (decide (n_7 > n_1))
      (ifB b_4
      (true = true ∧
      ∀ (b_7 : Nat),
      a_1.m.sz ≤ b_7 →
      ∃ (old : List Value),
      ∃ (src : List Value),
      AppPre m.sz (fun (x : Nat) => False)
      (a_1.m.newBlock b_7
      [Value.int IntKind.i64 n_6, Value.int IntKind.i64 n_7, Value.bool b_5, Value.int IntKind.i64 n_8,
      Value.int IntKind.i64 n_9, Value.int IntKind.i64 n_10, Value.int IntKind.i64 n_11])
      (7 : Nat) (56 : Nat) a_1.a (listM (joF l b) a_1.k (1 : Int)).length a_1.c
      (some { block := b_7, off := (0 : Nat) : Addr }) (1 : Nat) old src ∧
      ∀ (a' : Option Addr) (c' : Nat) (m' : M),
      AppPost Try.prog (32 : Nat)
      (a_1.m.newBlock b_7
      [Value.int IntKind.i64 n_6, Value.int IntKind.i64 n_7, Value.bool b_5,
      Value.int IntKind.i64 n_8, Value.int IntKind.i64 n_9, Value.int IntKind.i64 n_10,
      Value.int IntKind.i64 n_11])
      (7 : Nat) a_1.a (listM (joF l b) a_1.k (1 : Int)).length a_1.c (1 : Nat) old src a' c' m' →
      ∃ (a'_1 : JoX),
      ((a'_1.k ≤ (8 : Nat) ∧
      NewR m.sz (fun (x : Nat) => False) a'_1.m (7 : Nat) a'_1.a
      (listM (joF l b) a'_1.k (1 : Int)).length a'_1.c
      (mks (listM (joF l b) a'_1.k (1 : Int))) ∧
      Agree m.sz m a'_1.m) ∧
      m' = a'_1.m ∧
      ((SV.val
      (Value.int IntKind.i64
      (IntKind.i64.wrap ((↑(a_1.k + (1 : Nat)) : Int) + (1 : Int)))) =
      SV.val (Value.int IntKind.i64 (↑(a'_1.k + (1 : Nat)) : Int)) ∧
      true = true) ∧
      (SV.val (Value.slice a l.length cp) = SV.val (Value.slice a l.length cp) ∧
      true = true) ∧
      (SV.val (Value.slice ab b.length cb) = SV.val (Value.slice ab b.length cb) ∧
      true = true) ∧
      (SV.val
      (Value.slice a' ((listM (joF l b) a_1.k (1 : Int)).length + (1 : Nat))
      c') =
      SV.val
      (Value.slice a'_1.a (listM (joF l b) a'_1.k (1 : Int)).length a'_1.c) ∧
      true = true) ∧
      True) ∧
      True) ∧
      (8 : Nat) - a'_1.k < (8 : Nat) - a_1.k)
      (ifB b_6
      (true = true ∧
      ∀ (b_7 : Nat),
      a_1.m.sz ≤ b_7 →
      ∃ (old : List Value),
      ∃ (src : List Value),
      AppPre m.sz (fun (x : Nat) => False)
      (a_1.m.newBlock b_7
      [Value.int IntKind.i64 n_6, Value.int IntKind.i64 n_7, Value.bool b_5,
      Value.int IntKind.i64 n_8, Value.int IntKind.i64 n_9, Value.int IntKind.i64 n_10,
      Value.int IntKind.i64 n_11])
      (7 : Nat) (56 : Nat) a_1.a (listM (joF l b) a_1.k (1 : Int)).length a_1.c
      (some { block := b_7, off := (0 : Nat) : Addr }) (1 : Nat) old src ∧
      ∀ (a' : Option Addr) (c' : Nat) (m' : M),
      AppPost Try.prog (32 : Nat)
      (a_1.m.newBlock b_7
      [Value.int IntKind.i64 n_6, Value.int IntKind.i64 n_7, Value.bool b_5,
      Value.int IntKind.i64 n_8, Value.int IntKind.i64 n_9, Value.int IntKind.i64 n_10,
      Value.int IntKind.i64 n_11])
      (7 : Nat) a_1.a (listM (joF l b) a_1.k (1 : Int)).length a_1.c (1 : Nat) old src a' c' m' →
      ∃ (a'_1 : JoX),
      ((a'_1.k ≤ (8 : Nat) ∧
      NewR m.sz (fun (x : Nat) => False) a'_1.m (7 : Nat) a'_1.a
      (listM (joF l b) a'_1.k (1 : Int)).length a'_1.c
      (mks (listM (joF l b) a'_1.k (1 : Int))) ∧
      Agree m.sz m a'_1.m) ∧
      m' = a'_1.m ∧
      ((SV.val
      (Value.int IntKind.i64
      (IntKind.i64.wrap ((↑(a_1.k + (1 : Nat)) : Int) + (1 : Int)))) =
      SV.val (Value.int IntKind.i64 (↑(a'_1.k + (1 : Nat)) : Int)) ∧
      true = true) ∧
      (SV.val (Value.slice a l.length cp) = SV.val (Value.slice a l.length cp) ∧
      true = true) ∧
      (SV.val (Value.slice ab b.length cb) = SV.val (Value.slice ab b.length cb) ∧
      true = true) ∧
      (SV.val
      (Value.slice a' ((listM (joF l b) a_1.k (1 : Int)).length + (1 : Nat))
      c') =
      SV.val
      (Value.slice a'_1.a (listM (joF l b) a'_1.k (1 : Int)).length a'_1.c) ∧
      true = true) ∧
      True) ∧
      True) ∧
      (8 : Nat) - a'_1.k < (8 : Nat) - a_1.k)
      (∃ (a' : JoX),
      ((a'.k ≤ (8 : Nat) ∧
      NewR m.sz (fun (x : Nat) => False) a'.m (7 : Nat) a'.a (listM (joF l b) a'.k (1 : Int)).length a'.c
      (mks (listM (joF l b) a'.k (1 : Int))) ∧
      Agree m.sz m a'.m) ∧
      a_1.m = a'.m ∧
      ((SV.val (Value.int IntKind.i64 (IntKind.i64.wrap ((↑(a_1.k + (1 : Nat)) : Int) + (1 : Int)))) =
      SV.val (Value.int IntKind.i64 (↑(a'.k + (1 : Nat)) : Int)) ∧
      true = true) ∧
      (SV.val (Value.slice a l.length cp) = SV.val (Value.slice a l.length cp) ∧ true = true) ∧
      (SV.val (Value.slice ab b.length cb) = SV.val (Value.slice ab b.length cb) ∧ true = true) ∧
      (SV.val (Value.slice a_1.a (listM (joF l b) a_1.k (1 : Int)).length a_1.c) =
      SV.val (Value.slice a'.a (listM (joF l b) a'.k (1 : Int)).length a'.c) ∧
      true = true) ∧
      True) ∧
      True) ∧
      (8 : Nat) - a'.k < (8 : Nat) - a_1.k)))
      (ifB (n_7 == n_1)
      (ifB b_3
      (ifB (!b_5)
      (ifB b_4
      (true = true ∧
      ∀ (b_7 : Nat),
      a_1.m.sz ≤ b_7 →
      ∃ (old : List Value),
      ∃ (src : List Value),
      AppPre m.sz (fun (x : Nat) => False)
      (a_1.m.newBlock b_7
      [Value.int IntKind.i64 n_6, Value.int IntKind.i64 n_7, Value.bool b_5,
      Value.int IntKind.i64 n_8, Value.int IntKind.i64 n_9, Value.int IntKind.i64 n_10,
      Value.int IntKind.i64 n_11])
      (7 : Nat) (56 : Nat) a_1.a (listM (joF l b) a_1.k (1 : Int)).length a_1.c
      (some { block := b_7, off := (0 : Nat) : Addr }) (1 : Nat) old src ∧
      ∀ (a' : Option Addr) (c' : Nat) (m' : M),
      AppPost Try.prog (32 : Nat)
      (a_1.m.newBlock b_7
      [Value.int IntKind.i64 n_6, Value.int IntKind.i64 n_7, Value.bool b_5,
      Value.int IntKind.i64 n_8, Value.int IntKind.i64 n_9, Value.int IntKind.i64 n_10,
      Value.int IntKind.i64 n_11])
      (7 : Nat) a_1.a (listM (joF l b) a_1.k (1 : Int)).length a_1.c (1 : Nat) old src a' c'
      m' →
      ∃ (a'_1 : JoX),
      ((a'_1.k ≤ (8 : Nat) ∧
      NewR m.sz (fun (x : Nat) => False) a'_1.m (7 : Nat) a'_1.a
      (listM (joF l b) a'_1.k (1 : Int)).length a'_1.c
      (mks (listM (joF l b) a'_1.k (1 : Int))) ∧
      Agree m.sz m a'_1.m) ∧
      m' = a'_1.m ∧
      ((SV.val
      (Value.int IntKind.i64
      (IntKind.i64.wrap ((↑(a_1.k + (1 : Nat)) : Int) + (1 : Int)))) =
      SV.val (Value.int IntKind.i64 (↑(a'_1.k + (1 : Nat)) : Int)) ∧
      true = true) ∧
      (SV.val (Value.slice a l.length cp) = SV.val (Value.slice a l.length cp) ∧
      true = true) ∧
      (SV.val (Value.slice ab b.length cb) = SV.val (Value.slice ab b.length cb) ∧
      true = true) ∧
      (SV.val
      (Value.slice a'
      ((listM (joF l b) a_1.k (1 : Int)).length + (1 : Nat)) c') =
      SV.val
      (Value.slice a'_1.a (listM (joF l b) a'_1.k (1 : Int)).length
      a'_1.c) ∧
      true = true) ∧
      True) ∧
      True) ∧
      (8 : Nat) - a'_1.k < (8 : Nat) - a_1.k)
      (ifB b_6
      (true = true ∧
      ∀ (b_7 : Nat),
      a_1.m.sz ≤ b_7 →
      ∃ (old : List Value),
      ∃ (src : List Value),
      AppPre m.sz (fun (x : Nat) => False)
      (a_1.m.newBlock b_7
      [Value.int IntKind.i64 n_6, Value.int IntKind.i64 n_7, Value.bool b_5,
      Value.int IntKind.i64 n_8, Value.int IntKind.i64 n_9, Value.int IntKind.i64 n_10,
      Value.int IntKind.i64 n_11])
      (7 : Nat) (56 : Nat) a_1.a (listM (joF l b) a_1.k (1 : Int)).length a_1.c
      (some { block := b_7, off := (0 : Nat) : Addr }) (1 : Nat) old src ∧
      ∀ (a' : Option Addr) (c' : Nat) (m' : M),
      AppPost Try.prog (32 : Nat)
      (a_1.m.newBlock b_7
      [Value.int IntKind.i64 n_6, Value.int IntKind.i64 n_7, Value.bool b_5,
      Value.int IntKind.i64 n_8, Value.int IntKind.i64 n_9, Value.int IntKind.i64 n_10,
      Value.int IntKind.i64 n_11])
      (7 : Nat) a_1.a (listM (joF l b) a_1.k (1 : Int)).length a_1.c (1 : Nat) old src a' c'
      m' →
      ∃ (a'_1 : JoX),
      ((a'_1.k ≤ (8 : Nat) ∧
      NewR m.sz (fun (x : Nat) => False) a'_1.m (7 : Nat) a'_1.a
      (listM (joF l b) a'_1.k (1 : Int)).length a'_1.c
      (mks (listM (joF l b) a'_1.k (1 : Int))) ∧
      Agree m.sz m a'_1.m) ∧
      m' = a'_1.m ∧
      ((SV.val
      (Value.int IntKind.i64
      (IntKind.i64.wrap ((↑(a_1.k + (1 : Nat)) : Int) + (1 : Int)))) =
      SV.val (Value.int IntKind.i64 (↑(a'_1.k + (1 : Nat)) : Int)) ∧
      true = true) ∧
      (SV.val (Value.slice a l.length cp) = SV.val (Value.slice a l.length cp) ∧
      true = true) ∧
      (SV.val (Value.slice ab b.length cb) = SV.val (Value.slice ab b.length cb) ∧
      true = true) ∧
      (SV.val
      (Value.slice a'
      ((listM (joF l b) a_1.k (1 : Int)).length + (1 : Nat)) c') =
      SV.val
      (Value.slice a'_1.a (listM (joF l b) a'_1.k (1 : Int)).length
      a'_1.c) ∧
      true = true) ∧
      True) ∧
      True) ∧
      (8 : Nat) - a'_1.k < (8 : Nat) - a_1.k)
      (∃ (a' : JoX),
      ((a'.k ≤ (8 : Nat) ∧
      NewR m.sz (fun (x : Nat) => False) a'.m (7 : Nat) a'.a (listM (joF l b) a'.k (1 : Int)).length
      a'.c (mks (listM (joF l b) a'.k (1 : Int))) ∧
      Agree m.sz m a'.m) ∧
      a_1.m = a'.m ∧
      ((SV.val (Value.int IntKind.i64 (IntKind.i64.wrap ((↑(a_1.k + (1 : Nat)) : Int) + (1 : Int)))) =
      SV.val (Value.int IntKind.i64 (↑(a'.k + (1 : Nat)) : Int)) ∧
      true = true) ∧
      (SV.val (Value.slice a l.length cp) = SV.val (Value.slice a l.length cp) ∧ true = true) ∧
      (SV.val (Value.slice ab b.length cb) = SV.val (Value.slice ab b.length cb) ∧ true = true) ∧
      (SV.val (Value.slice a_1.a (listM (joF l b) a_1.k (1 : Int)).length a_1.c) =
      SV.val (Value.slice a'.a (listM (joF l b) a'.k (1 : Int)).length a'.c) ∧
      true = true) ∧
      True) ∧
      True) ∧
      (8 : Nat) - a'.k < (8 : Nat) - a_1.k)))
      (ifB b_4
      (true = true ∧
      ∀ (b_7 : Nat),
      a_1.m.sz ≤ b_7 →
      ∃ (old : List Value),
      ∃ (src : List Value),
      AppPre m.sz (fun (x : Nat) => False)
      (a_1.m.newBlock b_7
      [Value.int IntKind.i64 n, Value.int IntKind.i64 n_1, Value.bool b_3,
      Value.int IntKind.i64 n_2, Value.int IntKind.i64 n_3, Value.int IntKind.i64 n_4,
      Value.int IntKind.i64 n_5])
      (7 : Nat) (56 : Nat) a_1.a (listM (joF l b) a_1.k (1 : Int)).length a_1.c
      (some { block := b_7, off := (0 : Nat) : Addr }) (1 : Nat) old src ∧
      ∀ (a' : Option Addr) (c' : Nat) (m' : M),
      AppPost Try.prog (32 : Nat)
      (a_1.m.newBlock b_7
      [Value.int IntKind.i64 n, Value.int IntKind.i64 n_1, Value.bool b_3,
      Value.int IntKind.i64 n_2, Value.int IntKind.i64 n_3, Value.int IntKind.i64 n_4,
      Value.int IntKind.i64 n_5])
      (7 : Nat) a_1.a (listM (joF l b) a_1.k (1 : Int)).length a_1.c (1 : Nat) old src a' c'
      m' →
      ∃ (a'_1 : JoX),
      ((a'_1.k ≤ (8 : Nat) ∧
      NewR m.sz (fun (x : Nat) => False) a'_1.m (7 : Nat) a'_1.a
      (listM (joF l b) a'_1.k (1 : Int)).length a'_1.c
      (mks (listM (joF l b) a'_1.k (1 : Int))) ∧
      Agree m.sz m a'_1.m) ∧
      m' = a'_1.m ∧
      ((SV.val
      (Value.int IntKind.i64
      (IntKind.i64.wrap ((↑(a_1.k + (1 : Nat)) : Int) + (1 : Int)))) =
      SV.val (Value.int IntKind.i64 (↑(a'_1.k + (1 : Nat)) : Int)) ∧
      true = true) ∧
      (SV.val (Value.slice a l.length cp) = SV.val (Value.slice a l.length cp) ∧
      true = true) ∧
      (SV.val (Value.slice ab b.length cb) = SV.val (Value.slice ab b.length cb) ∧
      true = true) ∧
      (SV.val
      (Value.slice a'
      ((listM (joF l b) a_1.k (1 : Int)).length + (1 : Nat)) c') =
      SV.val
      (Value.slice a'_1.a (listM (joF l b) a'_1.k (1 : Int)).length
      a'_1.c) ∧
      true = true) ∧
      True) ∧
      True) ∧
      (8 : Nat) - a'_1.k < (8 : Nat) - a_1.k)
      (ifB b_6
      (true = true ∧
      ∀ (b_7 : Nat),
      a_1.m.sz ≤ b_7 →
      ∃ (old : List Value),
      ∃ (src : List Value),
      AppPre m.sz (fun (x : Nat) => False)
      (a_1.m.newBlock b_7
      [Value.int IntKind.i64 n, Value.int IntKind.i64 n_1, Value.bool b_3,
      Value.int IntKind.i64 n_2, Value.int IntKind.i64 n_3, Value.int IntKind.i64 n_4,
      Value.int IntKind.i64 n_5])
      (7 : Nat) (56 : Nat) a_1.a (listM (joF l b) a_1.k (1 : Int)).length a_1.c
      (some { block := b_7, off := (0 : Nat) : Addr }) (1 : Nat) old src ∧
      ∀ (a' : Option Addr) (c' : Nat) (m' : M),
      AppPost Try.prog (32 : Nat)
      (a_1.m.newBlock b_7
      [Value.int IntKind.i64 n, Value.int IntKind.i64 n_1, Value.bool b_3,
      Value.int IntKind.i64 n_2, Value.int IntKind.i64 n_3, Value.int IntKind.i64 n_4,
      Value.int IntKind.i64 n_5])
      (7 : Nat) a_1.a (listM (joF l b) a_1.k (1 : Int)).length a_1.c (1 : Nat) old src a' c'
      m' →
      ∃ (a'_1 : JoX),
      ((a'_1.k ≤ (8 : Nat) ∧
      NewR m.sz (fun (x : Nat) => False) a'_1.m (7 : Nat) a'_1.a
      (listM (joF l b) a'_1.k (1 : Int)).length a'_1.c
      (mks (listM (joF l b) a'_1.k (1 : Int))) ∧
      Agree m.sz m a'_1.m) ∧
      m' = a'_1.m ∧
      ((SV.val
      (Value.int IntKind.i64
      (IntKind.i64.wrap ((↑(a_1.k + (1 : Nat)) : Int) + (1 : Int)))) =
      SV.val (Value.int IntKind.i64 (↑(a'_1.k + (1 : Nat)) : Int)) ∧
      true = true) ∧
      (SV.val (Value.slice a l.length cp) = SV.val (Value.slice a l.length cp) ∧
      true = true) ∧
      (SV.val (Value.slice ab b.length cb) = SV.val (Value.slice ab b.length cb) ∧
      true = true) ∧
      (SV.val
      (Value.slice a'
      ((listM (joF l b) a_1.k (1 : Int)).length + (1 : Nat)) c') =
      SV.val
      (Value.slice a'_1.a (listM (joF l b) a'_1.k (1 : Int)).length
      a'_1.c) ∧
      true = true) ∧
      True) ∧
      True) ∧
      (8 : Nat) - a'_1.k < (8 : Nat) - a_1.k)
      (∃ (a' : JoX),
      ((a'.k ≤ (8 : Nat) ∧
      NewR m.sz (fun (x : Nat) => False) a'.m (7 : Nat) a'.a (listM (joF l b) a'.k (1 : Int)).length
      a'.c (mks (listM (joF l b) a'.k (1 : Int))) ∧
      Agree m.sz m a'.m) ∧
      a_1.m = a'.m ∧
      ((SV.val (Value.int IntKind.i64 (IntKind.i64.wrap ((↑(a_1.k + (1 : Nat)) : Int) + (1 : Int)))) =
      SV.val (Value.int IntKind.i64 (↑(a'.k + (1 : Nat)) : Int)) ∧
      true = true) ∧
      (SV.val (Value.slice a l.length cp) = SV.val (Value.slice a l.length cp) ∧ true = true) ∧
      (SV.val (Value.slice ab b.length cb) = SV.val (Value.slice ab b.length cb) ∧ true = true) ∧
      (SV.val (Value.slice a_1.a (listM (joF l b) a_1.k (1 : Int)).length a_1.c) =
      SV.val (Value.slice a'.a (listM (joF l b) a'.k (1 : Int)).length a'.c) ∧
      true = true) ∧
      True) ∧
      True) ∧
      (8 : Nat) - a'.k < (8 : Nat) - a_1.k))))
      (ifB b_4
      (true = true ∧
      ∀ (b_7 : Nat),
      a_1.m.sz ≤ b_7 →
      ∃ (old : List Value),
      ∃ (src : List Value),
      AppPre m.sz (fun (x : Nat) => False)
      (a_1.m.newBlock b_7
      [Value.int IntKind.i64 n, Value.int IntKind.i64 n_1, Value.bool b_3,
      Value.int IntKind.i64 n_2, Value.int IntKind.i64 n_3, Value.int IntKind.i64 n_4,
      Value.int IntKind.i64 n_5])
      (7 : Nat) (56 : Nat) a_1.a (listM (joF l b) a_1.k (1 : Int)).length a_1.c
      (some { block := b_7, off := (0 : Nat) : Addr }) (1 : Nat) old src ∧
      ∀ (a' : Option Addr) (c' : Nat) (m' : M),
      AppPost Try.prog (32 : Nat)
      (a_1.m.newBlock b_7
      [Value.int IntKind.i64 n, Value.int IntKind.i64 n_1, Value.bool b_3,
      Value.int IntKind.i64 n_2, Value.int IntKind.i64 n_3, Value.int IntKind.i64 n_4,
      Value.int IntKind.i64 n_5])
      (7 : Nat) a_1.a (listM (joF l b) a_1.k (1 : Int)).length a_1.c (1 : Nat) old src a' c' m' →
      ∃ (a'_1 : JoX),
      ((a'_1.k ≤ (8 : Nat) ∧
      NewR m.sz (fun (x : Nat) => False) a'_1.m (7 : Nat) a'_1.a
      (listM (joF l b) a'_1.k (1 : Int)).length a'_1.c
      (mks (listM (joF l b) a'_1.k (1 : Int))) ∧
      Agree m.sz m a'_1.m) ∧
      m' = a'_1.m ∧
      ((SV.val
      (Value.int IntKind.i64
      (IntKind.i64.wrap ((↑(a_1.k + (1 : Nat)) : Int) + (1 : Int)))) =
      SV.val (Value.int IntKind.i64 (↑(a'_1.k + (1 : Nat)) : Int)) ∧
      true = true) ∧
      (SV.val (Value.slice a l.length cp) = SV.val (Value.slice a l.length cp) ∧
      true = true) ∧
      (SV.val (Value.slice ab b.length cb) = SV.val (Value.slice ab b.length cb) ∧
      true = true) ∧
      (SV.val
      (Value.slice a' ((listM (joF l b) a_1.k (1 : Int)).length + (1 : Nat))
      c') =
      SV.val
      (Value.slice a'_1.a (listM (joF l b) a'_1.k (1 : Int)).length
      a'_1.c) ∧
      true = true) ∧
      True) ∧
      True) ∧
      (8 : Nat) - a'_1.k < (8 : Nat) - a_1.k)
      (ifB b_6
      (true = true ∧
      ∀ (b_7 : Nat),
      a_1.m.sz ≤ b_7 →
      ∃ (old : List Value),
      ∃ (src : List Value),
      AppPre m.sz (fun (x : Nat) => False)
      (a_1.m.newBlock b_7
      [Value.int IntKind.i64 n, Value.int IntKind.i64 n_1, Value.bool b_3,
      Value.int IntKind.i64 n_2, Value.int IntKind.i64 n_3, Value.int IntKind.i64 n_4,
      Value.int IntKind.i64 n_5])
      (7 : Nat) (56 : Nat) a_1.a (listM (joF l b) a_1.k (1 : Int)).length a_1.c
      (some { block := b_7, off := (0 : Nat) : Addr }) (1 : Nat) old src ∧
      ∀ (a' : Option Addr) (c' : Nat) (m' : M),
      AppPost Try.prog (32 : Nat)
      (a_1.m.newBlock b_7
      [Value.int IntKind.i64 n, Value.int IntKind.i64 n_1, Value.bool b_3,
      Value.int IntKind.i64 n_2, Value.int IntKind.i64 n_3, Value.int IntKind.i64 n_4,
      Value.int IntKind.i64 n_5])
      (7 : Nat) a_1.a (listM (joF l b) a_1.k (1 : Int)).length a_1.c (1 : Nat) old src a' c'
      m' →
      ∃ (a'_1 : JoX),
      ((a'_1.k ≤ (8 : Nat) ∧
      NewR m.sz (fun (x : Nat) => False) a'_1.m (7 : Nat) a'_1.a
      (listM (joF l b) a'_1.k (1 : Int)).length a'_1.c
      (mks (listM (joF l b) a'_1.k (1 : Int))) ∧
      Agree m.sz m a'_1.m) ∧
      m' = a'_1.m ∧
      ((SV.val
      (Value.int IntKind.i64
      (IntKind.i64.wrap ((↑(a_1.k + (1 : Nat)) : Int) + (1 : Int)))) =
      SV.val (Value.int IntKind.i64 (↑(a'_1.k + (1 : Nat)) : Int)) ∧
      true = true) ∧
      (SV.val (Value.slice a l.length cp) = SV.val (Value.slice a l.length cp) ∧
      true = true) ∧
      (SV.val (Value.slice ab b.length cb) = SV.val (Value.slice ab b.length cb) ∧
      true = true) ∧
      (SV.val
      (Value.slice a'
      ((listM (joF l b) a_1.k (1 : Int)).length + (1 : Nat)) c') =
      SV.val
      (Value.slice a'_1.a (listM (joF l b) a'_1.k (1 : Int)).length
      a'_1.c) ∧
      true = true) ∧
      True) ∧
      True) ∧
      (8 : Nat) - a'_1.k < (8 : Nat) - a_1.k)
      (∃ (a' : JoX),
      ((a'.k ≤ (8 : Nat) ∧
      NewR m.sz (fun (x : Nat) => False) a'.m (7 : Nat) a'.a (listM (joF l b) a'.k (1 : Int)).length a'.c
      (mks (listM (joF l b) a'.k (1 : Int))) ∧
      Agree m.sz m a'.m) ∧
      a_1.m = a'.m ∧
      ((SV.val (Value.int IntKind.i64 (IntKind.i64.wrap ((↑(a_1.k + (1 : Nat)) : Int) + (1 : Int)))) =
      SV.val (Value.int IntKind.i64 (↑(a'.k + (1 : Nat)) : Int)) ∧
      true = true) ∧
      (SV.val (Value.slice a l.length cp) = SV.val (Value.slice a l.length cp) ∧ true = true) ∧
      (SV.val (Value.slice ab b.length cb) = SV.val (Value.slice ab b.length cb) ∧ true = true) ∧
      (SV.val (Value.slice a_1.a (listM (joF l b) a_1.k (1 : Int)).length a_1.c) =
      SV.val (Value.slice a'.a (listM (joF l b) a'.k (1 : Int)).length a'.c) ∧
      true = true) ∧
      True) ∧
      True) ∧
      (8 : Nat) - a'.k < (8 : Nat) - a_1.k))))
      (ifB b_4
      (true = true ∧
      ∀ (b_7 : Nat),
      a_1.m.sz ≤ b_7 →
      ∃ (old : List Value),
      ∃ (src : List Value),
      AppPre m.sz (fun (x : Nat) => False)
      (a_1.m.newBlock b_7
      [Value.int IntKind.i64 n, Value.int IntKind.i64 n_1, Value.bool b_3, Value.int IntKind.i64 n_2,
      Value.int IntKind.i64 n_3, Value.int IntKind.i64 n_4, Value.int IntKind.i64 n_5])
      (7 : Nat) (56 : Nat) a_1.a (listM (joF l b) a_1.k (1 : Int)).length a_1.c
      (some { block := b_7, off := (0 : Nat) : Addr }) (1 : Nat) old src ∧
      ∀ (a' : Option Addr) (c' : Nat) (m' : M),
      AppPost Try.prog (32 : Nat)
      (a_1.m.newBlock b_7
      [Value.int IntKind.i64 n, Value.int IntKind.i64 n_1, Value.bool b_3,
      Value.int IntKind.i64 n_2, Value.int IntKind.i64 n_3, Value.int IntKind.i64 n_4,
      Value.int IntKind.i64 n_5])
      (7 : Nat) a_1.a (listM (joF l b) a_1.k (1 : Int)).length a_1.c (1 : Nat) old src a' c' m' →
      ∃ (a'_1 : JoX),
      ((a'_1.k ≤ (8 : Nat) ∧
      NewR m.sz (fun (x : Nat) => False) a'_1.m (7 : Nat) a'_1.a
      (listM (joF l b) a'_1.k (1 : Int)).length a'_1.c
      (mks (listM (joF l b) a'_1.k (1 : Int))) ∧
      Agree m.sz m a'_1.m) ∧
      m' = a'_1.m ∧
      ((SV.val
      (Value.int IntKind.i64
      (IntKind.i64.wrap ((↑(a_1.k + (1 : Nat)) : Int) + (1 : Int)))) =
      SV.val (Value.int IntKind.i64 (↑(a'_1.k + (1 : Nat)) : Int)) ∧
      true = true) ∧
      (SV.val (Value.slice a l.length cp) = SV.val (Value.slice a l.length cp) ∧
      true = true) ∧
      (SV.val (Value.slice ab b.length cb) = SV.val (Value.slice ab b.length cb) ∧
      true = true) ∧
      (SV.val
      (Value.slice a' ((listM (joF l b) a_1.k (1 : Int)).length + (1 : Nat))
      c') =
      SV.val
      (Value.slice a'_1.a (listM (joF l b) a'_1.k (1 : Int)).length a'_1.c) ∧
      true = true) ∧
      True) ∧
      True) ∧
      (8 : Nat) - a'_1.k < (8 : Nat) - a_1.k)
      (ifB b_6
      (true = true ∧
      ∀ (b_7 : Nat),
      a_1.m.sz ≤ b_7 →
      ∃ (old : List Value),
      ∃ (src : List Value),
      AppPre m.sz (fun (x : Nat) => False)
      (a_1.m.newBlock b_7
      [Value.int IntKind.i64 n, Value.int IntKind.i64 n_1, Value.bool b_3,
      Value.int IntKind.i64 n_2, Value.int IntKind.i64 n_3, Value.int IntKind.i64 n_4,
      Value.int IntKind.i64 n_5])
      (7 : Nat) (56 : Nat) a_1.a (listM (joF l b) a_1.k (1 : Int)).length a_1.c
      (some { block := b_7, off := (0 : Nat) : Addr }) (1 : Nat) old src ∧
      ∀ (a' : Option Addr) (c' : Nat) (m' : M),
      AppPost Try.prog (32 : Nat)
      (a_1.m.newBlock b_7
      [Value.int IntKind.i64 n, Value.int IntKind.i64 n_1, Value.bool b_3,
      Value.int IntKind.i64 n_2, Value.int IntKind.i64 n_3, Value.int IntKind.i64 n_4,
      Value.int IntKind.i64 n_5])
      (7 : Nat) a_1.a (listM (joF l b) a_1.k (1 : Int)).length a_1.c (1 : Nat) old src a' c' m' →
      ∃ (a'_1 : JoX),
      ((a'_1.k ≤ (8 : Nat) ∧
      NewR m.sz (fun (x : Nat) => False) a'_1.m (7 : Nat) a'_1.a
      (listM (joF l b) a'_1.k (1 : Int)).length a'_1.c
      (mks (listM (joF l b) a'_1.k (1 : Int))) ∧
      Agree m.sz m a'_1.m) ∧
      m' = a'_1.m ∧
      ((SV.val
      (Value.int IntKind.i64
      (IntKind.i64.wrap ((↑(a_1.k + (1 : Nat)) : Int) + (1 : Int)))) =
      SV.val (Value.int IntKind.i64 (↑(a'_1.k + (1 : Nat)) : Int)) ∧
      true = true) ∧
      (SV.val (Value.slice a l.length cp) = SV.val (Value.slice a l.length cp) ∧
      true = true) ∧
      (SV.val (Value.slice ab b.length cb) = SV.val (Value.slice ab b.length cb) ∧
      true = true) ∧
      (SV.val
      (Value.slice a' ((listM (joF l b) a_1.k (1 : Int)).length + (1 : Nat))
      c') =
      SV.val
      (Value.slice a'_1.a (listM (joF l b) a'_1.k (1 : Int)).length
      a'_1.c) ∧
      true = true) ∧
      True) ∧
      True) ∧
      (8 : Nat) - a'_1.k < (8 : Nat) - a_1.k)
      (∃ (a' : JoX),
      ((a'.k ≤ (8 : Nat) ∧
      NewR m.sz (fun (x : Nat) => False) a'.m (7 : Nat) a'.a (listM (joF l b) a'.k (1 : Int)).length a'.c
      (mks (listM (joF l b) a'.k (1 : Int))) ∧
      Agree m.sz m a'.m) ∧
      a_1.m = a'.m ∧
      ((SV.val (Value.int IntKind.i64 (IntKind.i64.wrap ((↑(a_1.k + (1 : Nat)) : Int) + (1 : Int)))) =
      SV.val (Value.int IntKind.i64 (↑(a'.k + (1 : Nat)) : Int)) ∧
      true = true) ∧
      (SV.val (Value.slice a l.length cp) = SV.val (Value.slice a l.length cp) ∧ true = true) ∧
      (SV.val (Value.slice ab b.length cb) = SV.val (Value.slice ab b.length cb) ∧ true = true) ∧
      (SV.val (Value.slice a_1.a (listM (joF l b) a_1.k (1 : Int)).length a_1.c) =
      SV.val (Value.slice a'.a (listM (joF l b) a'.k (1 : Int)).length a'.c) ∧
      true = true) ∧
      True) ∧
      True) ∧
      (8 : Nat) - a'.k < (8 : Nat) - a_1.k))))))
      (ifB b_4
      (true = true ∧
      ∀ (b_7 : Nat),
      a_1.m.sz ≤ b_7 →
      ∃ (old : List Value),
      ∃ (src : List Value),
      AppPre m.sz (fun (x : Nat) => False)
      (a_1.m.newBlock b_7
      [Value.int IntKind.i64 n, Value.int IntKind.i64 n_1, Value.bool b_3, Value.int IntKind.i64 n_2,
      Value.int IntKind.i64 n_3, Value.int IntKind.i64 n_4, Value.int IntKind.i64 n_5])
      (7 : Nat) (56 : Nat) a_1.a (listM (joF l b) a_1.k (1 : Int)).length a_1.c
      (some { block := b_7, off := (0 : Nat) : Addr }) (1 : Nat) old src ∧
      ∀ (a' : Option Addr) (c' : Nat) (m' : M),
      AppPost Try.prog (32 : Nat)
      (a_1.m.newBlock b_7
      [Value.int IntKind.i64 n, Value.int IntKind.i64 n_1, Value.bool b_3, Value.int IntKind.i64 n_2,
      Value.int IntKind.i64 n_3, Value.int IntKind.i64 n_4, Value.int IntKind.i64 n_5])
      (7 : Nat) a_1.a (listM (joF l b) a_1.k (1 : Int)).length a_1.c (1 : Nat) old src a' c' m' →
      ∃ (a'_1 : JoX),
      ((a'_1.k ≤ (8 : Nat) ∧
      NewR m.sz (fun (x : Nat) => False) a'_1.m (7 : Nat) a'_1.a
      (listM (joF l b) a'_1.k (1 : Int)).length a'_1.c
      (mks (listM (joF l b) a'_1.k (1 : Int))) ∧
      Agree m.sz m a'_1.m) ∧
      m' = a'_1.m ∧
      ((SV.val
      (Value.int IntKind.i64
      (IntKind.i64.wrap ((↑(a_1.k + (1 : Nat)) : Int) + (1 : Int)))) =
      SV.val (Value.int IntKind.i64 (↑(a'_1.k + (1 : Nat)) : Int)) ∧
      true = true) ∧
      (SV.val (Value.slice a l.length cp) = SV.val (Value.slice a l.length cp) ∧ true = true) ∧
      (SV.val (Value.slice ab b.length cb) = SV.val (Value.slice ab b.length cb) ∧
      true = true) ∧
      (SV.val (Value.slice a' ((listM (joF l b) a_1.k (1 : Int)).length + (1 : Nat)) c') =
      SV.val (Value.slice a'_1.a (listM (joF l b) a'_1.k (1 : Int)).length a'_1.c) ∧
      true = true) ∧
      True) ∧
      True) ∧
      (8 : Nat) - a'_1.k < (8 : Nat) - a_1.k)
      (ifB b_6
      (true = true ∧
      ∀ (b_7 : Nat),
      a_1.m.sz ≤ b_7 →
      ∃ (old : List Value),
      ∃ (src : List Value),
      AppPre m.sz (fun (x : Nat) => False)
      (a_1.m.newBlock b_7
      [Value.int IntKind.i64 n, Value.int IntKind.i64 n_1, Value.bool b_3, Value.int IntKind.i64 n_2,
      Value.int IntKind.i64 n_3, Value.int IntKind.i64 n_4, Value.int IntKind.i64 n_5])
      (7 : Nat) (56 : Nat) a_1.a (listM (joF l b) a_1.k (1 : Int)).length a_1.c
      (some { block := b_7, off := (0 : Nat) : Addr }) (1 : Nat) old src ∧
      ∀ (a' : Option Addr) (c' : Nat) (m' : M),
      AppPost Try.prog (32 : Nat)
      (a_1.m.newBlock b_7
      [Value.int IntKind.i64 n, Value.int IntKind.i64 n_1, Value.bool b_3, Value.int IntKind.i64 n_2,
      Value.int IntKind.i64 n_3, Value.int IntKind.i64 n_4, Value.int IntKind.i64 n_5])
      (7 : Nat) a_1.a (listM (joF l b) a_1.k (1 : Int)).length a_1.c (1 : Nat) old src a' c' m' →
      ∃ (a'_1 : JoX),
      ((a'_1.k ≤ (8 : Nat) ∧
      NewR m.sz (fun (x : Nat) => False) a'_1.m (7 : Nat) a'_1.a
      (listM (joF l b) a'_1.k (1 : Int)).length a'_1.c
      (mks (listM (joF l b) a'_1.k (1 : Int))) ∧
      Agree m.sz m a'_1.m) ∧
      m' = a'_1.m ∧
      ((SV.val
      (Value.int IntKind.i64
      (IntKind.i64.wrap ((↑(a_1.k + (1 : Nat)) : Int) + (1 : Int)))) =
      SV.val (Value.int IntKind.i64 (↑(a'_1.k + (1 : Nat)) : Int)) ∧
      true = true) ∧
      (SV.val (Value.slice a l.length cp) = SV.val (Value.slice a l.length cp) ∧
      true = true) ∧
      (SV.val (Value.slice ab b.length cb) = SV.val (Value.slice ab b.length cb) ∧
      true = true) ∧
      (SV.val (Value.slice a' ((listM (joF l b) a_1.k (1 : Int)).length + (1 : Nat)) c') =
      SV.val (Value.slice a'_1.a (listM (joF l b) a'_1.k (1 : Int)).length a'_1.c) ∧
      true = true) ∧
      True) ∧
      True) ∧
      (8 : Nat) - a'_1.k < (8 : Nat) - a_1.k)
      (∃ (a' : JoX),
      ((a'.k ≤ (8 : Nat) ∧
      NewR m.sz (fun (x : Nat) => False) a'.m (7 : Nat) a'.a (listM (joF l b) a'.k (1 : Int)).length a'.c
      (mks (listM (joF l b) a'.k (1 : Int))) ∧
      Agree m.sz m a'.m) ∧
      a_1.m = a'.m ∧
      ((SV.val (Value.int IntKind.i64 (IntKind.i64.wrap ((↑(a_1.k + (1 : Nat)) : Int) + (1 : Int)))) =
      SV.val (Value.int IntKind.i64 (↑(a'.k + (1 : Nat)) : Int)) ∧
      true = true) ∧
      (SV.val (Value.slice a l.length cp) = SV.val (Value.slice a l.length cp) ∧ true = true) ∧
      (SV.val (Value.slice ab b.length cb) = SV.val (Value.slice ab b.length cb) ∧ true = true) ∧
      (SV.val (Value.slice a_1.a (listM (joF l b) a_1.k (1 : Int)).length a_1.c) =
      SV.val (Value.slice a'.a (listM (joF l b) a'.k (1 : Int)).length a'.c) ∧
      true = true) ∧
      True) ∧
      True) ∧
      (8 : Nat) - a'.k < (8 : Nat) - a_1.k))))
      (Done (MeR (joinM l b) (Value.tuple #[Value.slice a_1.a (listM (joF l b) a_1.k (1 : Int)).length a_1.c, Value.int IntKind.i64 (0 : Int)]) a_1.m))))) (by kernel_rfl) ?_
  refine ⟨rfl, _, rright_q a cp l hn _ h, ?_⟩
  cases ha : tabB 0 l
  · exact ifB_true (me_fail (by simp [joinM, ha]))
  refine ifB_false ⟨_, rright_q ab cb b hb _ h2, ?_⟩
  cases hb2 : tabB 0 b
  · exact ifB_true (me_fail (by simp [joinM, hb2]))
  refine ifB_false ⟨⟨⟨0, none, 0, m⟩, ⟨Nat.zero_le _, .nil _, Agree.refl _ _⟩, rfl, by simp [listM], trivial⟩, fun y ⟨hk, Y, A⟩ => ifB_intro (fun h3 => ?_) (fun h3 => ?_)⟩
  · have hk2 : y.k < 8 := by simp at h3; omega
    have w1 : IntKind.i64.wrap (((y.k + 1 : Nat) : Int) + 1) = ((y.k + 1 + 1 : Nat) : Int) := by simp [IntKind.wrap_i64]; omega
    have hs := listM_succ (joF l b) y.k 1
    have hle := listM_len (joF l b) y.k 1
    have ek : (1 : Int) + (y.k : Int) = ((y.k + 1 : Nat) : Int) := by omega
    rw [ek] at hs
    have hf1 : findO l ((y.k + 1 : Nat) : Int) = ofM l ((y.k + 1 : Nat) : Int) := by simp [findO, ha]
    have hf2 : findO b ((y.k + 1 : Nat) : Int) = ofM b ((y.k + 1 : Nat) : Int) := by simp [findO, hb2]
    refine ⟨_, _, _, _, _, _, _, _, rfind_q a cp l _ hn _ (h.agree A), _, _, _, _, _, _, _, _, rfind_q ab cb b _ hb _ (h2.agree A), ?_⟩
    rw [hf1, hf2]
    have push : ∀ (z : Mk) (b3 : Nat) (hb3 : y.m.sz ≤ b3) (hz : joF l b ((y.k + 1 : Nat) : Int) = some z), ∃ old src, AppPre m.sz (fun _ => False) (y.m.newBlock b3 (encMk z)) 7 56 y.a (listM (joF l b) y.k 1).length y.c (some ⟨b3, 0, none⟩) 1 old src ∧
        ∀ (a' : Option Addr) (c' : Nat) (m' : M), AppPost Try.prog 32 (y.m.newBlock b3 (encMk z)) 7 y.a (listM (joF l b) y.k 1).length y.c 1 old src a' c' m' →
          NewR m.sz (fun _ => False) m' 7 a' (listM (joF l b) (y.k + 1) 1).length c' (mks (listM (joF l b) (y.k + 1) 1)) ∧ Agree m.sz m m' ∧ (listM (joF l b) (y.k + 1) 1).length = (listM (joF l b) y.k 1).length + 1 := fun z b3 hb3 hz => by
      rw [hz] at hs
      obtain ⟨p1, p2⟩ := NewR.push (P := Try.prog) (e := 32) (bytes := 56) (src := encMk z) Y hb3 A.2.2 rfl rfl (by omega) mk_zr
      refine ⟨_, _, p1, fun a' c' m' hp => ?_⟩
      obtain ⟨g1, g2⟩ := p2 a' c' m' hp
      have e2 : mks (listM (joF l b) (y.k + 1) 1) = mks (listM (joF l b) y.k 1) ++ encMk z := by rw [hs]; simp [mks]
      have e3 : (listM (joF l b) (y.k + 1) 1).length = (listM (joF l b) y.k 1).length + 1 := by rw [hs]; simp
      exact ⟨by rw [e2, e3]; exact g1, A.trans g2, e3⟩
    cases ho1 : ofM l ((y.k + 1 : Nat) : Int) with
    | none =>
      cases ho2 : ofM b ((y.k + 1 : Nat) : Int) with
      | none =>
        have hz : joF l b ((y.k + 1 : Nat) : Int) = none := by simp only [joF, ho1, ho2]; rfl
        rw [hz] at hs
        simp only [Option.toList, List.append_nil] at hs
        refine ifB_false (ifB_false (ifB_false ⟨⟨y.k + 1, y.a, y.c, y.m⟩, ⟨⟨hk2, by rw [hs]; exact Y, A⟩, rfl, by rw [w1]; simp [hs]⟩, by simp only; omega⟩))
      | some z =>
        refine ifB_true (ifB_true (ifB_false (ifB_true ⟨rfl, fun b3 hb3 => ?_⟩)))
        obtain ⟨old, src, p1, p2⟩ := push z b3 hb3 (by simp only [joF, ho1, ho2]; rfl)
        refine ⟨old, src, p1, fun a' c' m' hp => ?_⟩
        obtain ⟨g1, g2, g3⟩ := p2 a' c' m' hp
        exact ⟨⟨y.k + 1, a', c', m'⟩, ⟨⟨hk2, g1, g2⟩, rfl, by rw [w1]; simp [g3]⟩, by simp only; omega⟩
    | some x =>
      cases ho2 : ofM b ((y.k + 1 : Nat) : Int) with
      | none =>
        refine ifB_false (ifB_true ⟨rfl, fun b3 hb3 => ?_⟩)
        obtain ⟨old, src, p1, p2⟩ := push x b3 hb3 (by simp only [joF, ho1, ho2]; rfl)
        refine ⟨old, src, p1, fun a' c' m' hp => ?_⟩
        obtain ⟨g1, g2, g3⟩ := p2 a' c' m' hp
        exact ⟨⟨y.k + 1, a', c', m'⟩, ⟨⟨hk2, g1, g2⟩, rfl, by rw [w1]; simp [g3]⟩, by simp only; omega⟩
      | some z =>
        refine ifB_true (ifB_false (ifB_intro (fun q1 => ifB_true ⟨rfl, fun b3 hb3 => ?p1⟩) (fun q1 => ifB_intro (fun q2 => ifB_intro (fun q3 => ifB_intro (fun q4 => ifB_true ⟨rfl, fun b3 hb3 => ?p2⟩) (fun q4 => ifB_true ⟨rfl, fun b3 hb3 => ?s1⟩)) (fun q3 => ifB_true ⟨rfl, fun b3 hb3 => ?s2⟩)) (fun q2 => ifB_true ⟨rfl, fun b3 hb3 => ?s3⟩))))
        case p1 | p2 =>
          have es : joF l b ((y.k + 1 : Nat) : Int) = some z := by
            simp only [joF, ho1, ho2, joinO]
            simp at q1
            first
              | (rw [if_pos (.inl (by omega))]; done)
              | (simp at q2 q3 q4; rw [if_pos (.inr ⟨by omega, q3, q4⟩)])
          obtain ⟨old, src, p1, p2⟩ := push z b3 hb3 es
          refine ⟨old, src, p1, fun a' c' m' hp => ?_⟩
          obtain ⟨g1, g2, g3⟩ := p2 a' c' m' hp
          exact ⟨⟨y.k + 1, a', c', m'⟩, ⟨⟨hk2, g1, g2⟩, rfl, by rw [w1]; simp [g3]⟩, by simp only; omega⟩
        case s1 | s2 | s3 =>
          have es : joF l b ((y.k + 1 : Nat) : Int) = some x := by
            simp only [joF, ho1, ho2, joinO]
            refine if_neg ?_
            simp at q1 q2
            rintro (h | ⟨h1, h2, h3⟩)
            · omega
            · first
                | (exact absurd h1.symm q2)
                | (simp [h2] at q3; done)
                | (simp [h3] at q4)
          obtain ⟨old, src, p1, p2⟩ := push x b3 hb3 es
          refine ⟨old, src, p1, fun a' c' m' hp => ?_⟩
          obtain ⟨g1, g2, g3⟩ := p2 a' c' m' hp
          exact ⟨⟨y.k + 1, a', c', m'⟩, ⟨⟨hk2, g1, g2⟩, rfl, by rw [w1]; simp [g3]⟩, by simp only; omega⟩
  · have : y.k = 8 := by simp at h3; omega
    rw [this] at Y ⊢
    exact me_ok (z := listM (joF l b) 8 1) (by simp [joinM, ha, hb2, fold_list ha hb2]; rfl) rfl Y.row

end Go.Proofs.Ytpfiodchlbofmaa
