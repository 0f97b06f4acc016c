/-
  Contracts of functions of this seat: what each hands back, and what it leaves of memory (n17, opn, l_pl, rit, rng1, rng3, rng5, rng6, ins_pl, del_pl, rng7, rng8, rng9, rng10, rng11). Nothing here is trusted: Lean checks it.
-/
import Derived.Test.YtpnpebefcmgjoaaVcLem
import Derived.Test.YtpnpebefcmgjoaaVcOwned
import Derived.Test.YtpnpebefcmgjoaaRows
import Derived.Test.YtpnpebefcmgjoaaVcOpen
import Derived.Test.YtpnpebefcmgjoaaVcOver
import Derived.Test.YtpnpebefcmgjoaaVcIter
import Derived.Test.YtpnpebefcmgjoaaVcStr
import Derived.Test.YtpnpebefcmgjoaaVcList
set_option linter.unusedVariables false
set_option linter.unusedSimpArgs false
namespace Go.Proofs.Ytpnpebefcmgjoaa
open Go.Vc Go.RowKit
set_option maxRecDepth 100000

abbrev I (n : Int) : Value := .int .i64 n

abbrev U (n : Int) : Value := .int .u64 n

abbrev sp (lo hi : Int) : Value := .agg #[.int .i64 lo, .int .i64 hi]

def In64 (n : Int) : Prop := -9223372036854775808 ≤ n ∧ n ≤ 9223372036854775807

instance (n : Int) : Decidable (In64 n) := by unfold In64; infer_instance

def InU (n : Int) : Prop := 0 ≤ n ∧ n ≤ 18446744073709551615

def addV (a b : Int) : Int := if In64 (a + b) then a + b else 0

def addE (a b : Int) : Int := if In64 (a + b) then 0 else 10

def subV (a b : Int) : Int := if In64 (a - b) then a - b else 0

def subE (a b : Int) : Int := if In64 (a - b) then 0 else 10

def hasB (lo hi v : Int) : Bool := decide (lo ≤ v) && decide (v ≤ hi)

def roomD (lo hi v : Int) : Int := if hasB lo hi v then v - lo else 0

def roomU (lo hi v : Int) : Int := if hasB lo hi v then hi - v else 0

def meetOk (a b c d : Int) : Bool := decide (a ≤ b) && (decide (c ≤ d) && decide (max a c ≤ min b d))

def meetLo (a b c d : Int) : Int := if meetOk a b c d then max a c else 0

def meetHi (a b c d : Int) : Int := if meetOk a b c d then min b d else 0

def shiftE (a b k : Int) : Int := if b < a then 1 else if In64 (a + k) ∧ In64 (b + k) then 0 else 10

def shiftLo (a b k : Int) : Int := if b < a then 0 else if In64 (a + k) ∧ In64 (b + k) then a + k else 0

def shiftHi (a b k : Int) : Int := if b < a then 0 else if In64 (a + k) ∧ In64 (b + k) then b + k else 0

def shareV (n p i : Int) : Int := if p < 1 ∨ i < 0 ∨ p ≤ i then 0 else if i < n % p then n / p + 1 else n / p

def fitV (n : Int) : Int := min n 9223372036854775807

theorem add_ok (a b : Int) : addE a b = 0 ↔ In64 (a + b) := by unfold addE; split <;> simp [*]

theorem div_facts (a b : Int) (ha : 0 ≤ a) (hb : 1 ≤ b) : 0 ≤ a / b ∧ a / b ≤ a ∧ 0 ≤ a % b ∧ a % b < b ∧ a / b * b = a - a % b ∧ a / b ≤ a - a % b := by
  have h1 := Int.ediv_nonneg ha (by omega : 0 ≤ b)
  have h2 := Int.emod_nonneg a (by omega : b ≠ 0)
  have h3 := Int.emod_lt_of_pos a (by omega : 0 < b)
  have h4 := Int.mul_ediv_add_emod a b
  have h5 := Int.ediv_le_self b ha
  have h6 : a / b * 1 ≤ a / b * b := Int.mul_le_mul_of_nonneg_left hb h1
  have h7 : a / b * b = a - a % b := by rw [Int.mul_comm]; omega
  exact ⟨h1, h5, h2, h3, h7, by omega⟩

def wideHi (W : Int) : Int := IntKind.i64.wrap (W / 18446744073709551616)

def wideLo (W : Int) : Int := W % 18446744073709551616

abbrev wide (W : Int) : Value := .agg #[I (wideHi W), U (wideLo W)]

theorem not_int (k : Int) (hk : In64 k) : IntKind.i64.wrap ((BitVec.ofInt IntKind.i64.bits (-1) ^^^ BitVec.ofInt IntKind.i64.bits k).toNat : Int) = -k - 1 := by
  have e1 : BitVec.ofInt IntKind.i64.bits (-1) = BitVec.allOnes 64 := rfl
  have e2 : (BitVec.allOnes 64 ^^^ BitVec.ofInt 64 k) = ~~~ (BitVec.ofInt 64 k) := by rw [BitVec.xor_comm]; exact BitVec.xor_allOnes
  rw [e1]
  show IntKind.i64.wrap ((BitVec.allOnes 64 ^^^ BitVec.ofInt 64 k).toNat : Int) = -k - 1
  rw [e2, BitVec.toNat_not, BitVec.toNat_ofInt]
  unfold In64 at hk
  simp [IntKind.wrap_i64]
  omega

/-- the sum of many, in order -/
def sumI (l : List Int) : Int := l.foldl (· + ·) 0

theorem foldl_add (l : List Int) (a : Int) : l.foldl (· + ·) a = a + l.foldl (· + ·) 0 := by
  induction l generalizing a with
  | nil => simp
  | cons x r ih => simp only [List.foldl_cons]; rw [ih, ih (0 + x)]; omega

theorem sumI_take (l : List Int) (k : Nat) (h : k < l.length) : sumI (l.take (k + 1)) = sumI (l.take k) + l[k] := by
  unfold sumI
  rw [List.take_succ_eq_append_getElem h, List.foldl_append]
  simp

theorem sumI_bound (l : List Int) (h : ∀ x ∈ l, In64 x) : -9223372036854775808 * (l.length : Int) ≤ sumI l ∧ sumI l ≤ 9223372036854775807 * (l.length : Int) := by
  induction l with
  | nil => simp [sumI]
  | cons x r ih =>
    have := ih (fun y hy => h y (by simp [hy]))
    have hx := h x (by simp)
    unfold In64 at hx
    have e : sumI (x :: r) = x + sumI r := by simp only [sumI, List.foldl_cons]; rw [foldl_add]; simp
    rw [e]
    simp only [List.length_cons, Int.natCast_add]
    omega

abbrev ints (l : List Int) : List Value := l.flatMap fun x => [I x]

theorem ints_len (l : List Int) : (ints l).length = l.length := by
  induction l with
  | nil => rfl
  | cons x r ih => simp only [ints, List.flatMap_cons, List.length_append, List.length_cons, List.length_nil] at *; omega

theorem ints_at {m : M} {b o i : Nat} {l : List Int} (h : CellsAt m b o (ints l)) (hi : i < l.length) : CellsAt m b (o + i) [I l[i]] := by
  have := CellsAt.elem (k := 1) (enc := fun x => [I x]) (fun _ => rfl) l o i hi h
  simpa using this

theorem row2 {m : M} {b : Nat} (a c : Int) : Row (m.newBlock b [I a, I c]) (some ⟨b, 0, none⟩) (ints [a, c]) := .at _ _ _ (by simp only [M.newBlock]; omega) cellsAt_new

theorem row1 {m : M} {b : Nat} (a : Int) : Row (m.newBlock b [I a]) (some ⟨b, 0, none⟩) (ints [a]) := .at _ _ _ (by simp only [M.newBlock]; omega) cellsAt_new

theorem ofNat63 (n : Int) : n.fdiv (2 ^ 63) = n / 9223372036854775808 := by rw [Int.fdiv_eq_ediv_of_nonneg _ (by decide)]; rfl

/-- what the first k parts have together -/
def shareS (a b : Int) (k : Nat) : Int := k * (a / b) + min (k : Int) (a % b)

theorem share_at (a b : Int) (k : Nat) (h1 : 1 ≤ b) (h2 : (k : Int) < b) : shareV a b k = a / b + (if (k : Int) < a % b then 1 else 0) := by
  have : ¬ (b < 1 ∨ (k : Int) < 0 ∨ b ≤ k) := by omega
  unfold shareV
  rw [if_neg this]
  split <;> simp

theorem share_step (a b : Int) (k : Nat) (h1 : 1 ≤ b) (h2 : (k : Int) < b) : shareS a b (k + 1) = shareS a b k + shareV a b k := by
  rw [share_at a b k h1 h2]
  unfold shareS
  push_cast
  rw [Int.add_mul, Int.one_mul]
  split <;> omega

theorem sumI_append (a b : List Int) : sumI (a ++ b) = sumI a + sumI b := by
  unfold sumI
  rw [List.foldl_append, foldl_add]

theorem sumI_reverse (l : List Int) : sumI l.reverse = sumI l := by
  induction l with
  | nil => rfl
  | cons x r ih =>
    rw [List.reverse_cons, sumI_append, ih, show x :: r = [x] ++ r from rfl, sumI_append]
    omega

structure OrdX where
  j : Nat
  a : Option Addr
  c : Nat
  m : M

def ordAnn (a : Option Addr) (c : Nat) (l : List Int) (k : Int) (m : M) : Ann where
  A := OrdX
  inv x := x.j ≤ l.length ∧ OwnB m.sz (fun _ => False) x.m 1 x.a x.j x.c (ints (l.reverse.take x.j)) ∧ Agree m.sz m x.m
  st x := [(6, .val (I ((l.length : Int) - 1 - x.j))), (5, .val (.slice x.a x.j x.c)), (0, .val (.slice a l.length c)), (1, .val (I k))]
  own _ := []
  m x := x.m
  μ x := l.length - x.j

end Go.Proofs.Ytpnpebefcmgjoaa
set_option linter.unusedVariables false
set_option linter.unusedSimpArgs false
namespace Go.Proofs.Ytpnpebefcmgjoaa
open Go.Vc Go.RowKit Go.ChangeShapes Go.WideShapes Go.ChangeAt
set_option maxRecDepth 100000

theorem bulk_mem {H : Type} {d : DataW H} : ∀ {l : List (DataW H)}, d ∈ l → Rows.uptoBulk d ≤ Rows.uptoBulkAll l
  | x :: r, h => by
    simp only [Rows.uptoBulkAll]
    rcases List.mem_cons.1 h with e | e
    · subst e; omega
    · have := bulk_mem e; omega

theorem bulk_pos {H : Type} (d : DataW H) : 1 ≤ Rows.uptoBulk d := by
  cases d with
  | lit l => cases l <;> simp [Rows.uptoBulk]
  | _ => simp [Rows.uptoBulk]

theorem bulk_len {H : Type} : ∀ (l : List (DataW H)), l.length ≤ Rows.uptoBulkAll l
  | [] => by simp
  | x :: r => by have := bulk_pos x; have := bulk_len r; simp only [Rows.uptoBulkAll, List.length_cons]; omega

theorem bound_upto (H : Type) : Bound (H := H) 1048576 (fun d => Rows.uptoBulk d ≤ 1048576) where
  str l h _ := by simp [Rows.uptoBulk] at h; omega
  sl el sp h := by
    simp only [Rows.uptoBulk] at h
    have h1 := bulk_len el
    have h2 := bulk_len sp
    refine ⟨fun _ => by omega, fun x hx => ?_⟩
    rcases hx with hx | hx
    · have := bulk_mem hx; omega
    · have := bulk_mem hx; omega
  agg ps h x hx := by simp only [Rows.uptoBulk] at h; have := bulk_mem hx; omega

theorem bound_any (H : Type) : Bound (H := H) 9223372036854775807 (fun _ => True) where
  str l _ h := h
  sl el sp _ := ⟨fun h => h, fun _ _ => trivial⟩
  agg ps _ x _ := trivial

variable {H : Type} {enc : TypeId × Value → H} {W : World} {r : Reach} {b0 : Nat} {v : Value} {d : DataW H} {p : List MemPlace} {N : Nat} {Bd : DataW H → Prop}

theorem in64_of {n : Int} (h : IntKind.min .i64 ≤ n ∧ n ≤ IntKind.max .i64) : In64 n := by
  simpa [In64, IntKind.min, IntKind.max, IntKind.signed, IntKind.bits] using h

theorem open_i (hv : Value.okWide Try.prog W r b0 3 v) (h : DataW.Trod enc Try.prog W 0 (fun _ => true) true 3 v d p) : ∃ n : Int, v = I n ∧ In64 n := by
  obtain ⟨n, rfl⟩ := okWide_int Try.underlying3 hv
  obtain ⟨fuel, hf⟩ := h
  obtain ⟨n', hn, -, hw⟩ := DataW.trod_int Try.underlying3 hf
  cases hn
  exact ⟨n, rfl, in64_of (by simpa [Lit.wf] using hw)⟩

theorem open_b (hv : Value.okWide Try.prog W r b0 4 v) : ∃ b : Bool, v = .bool b := okWide_bool Try.underlying4 hv

theorem open_s (B : Bound N Bd) (hv : Value.okWide Try.prog W r b0 9 v) (h : DataW.Trod enc Try.prog W 0 (fun _ => true) true 9 v d p) (hb : Bd d) : ∃ s : ByteArray, v = .string s ∧ s.size ≤ N := by
  obtain ⟨s, rfl⟩ := okWide_string Try.underlying9 hv
  obtain ⟨fuel, hf⟩ := h
  have hr := rd_of_trod B 1 fuel 9 _ _ hf hb
  have e := Try.underlying9
  simp only [Rd, e] at hr
  obtain ⟨s', hs, hl⟩ := hr
  simp [Value.cells] at hs
  subst hs
  exact ⟨s, rfl, hl⟩

/-- a struct's cells -/
theorem open_agg {fs : Array Field} {t : TypeId} {k : Nat} (ht : Try.prog.underlying t = some (.struct fs)) (hk : Try.prog.cellsOf t = k) (hv : Value.okWide Try.prog W r b0 t v) : ∃ cs : List Value, v = .agg cs.toArray ∧ cs.length = k := by
  obtain ⟨cs, rfl, hs⟩ := okWide_struct ht hv
  exact ⟨cs.toList, by simp, by simpa using hs.trans hk⟩

/-- the rows of a list, one by one -/
theorem rows_list {α : Type} {e : α → List Value} {p : α → Prop} : ∀ (rows : List (List Value)), (∀ r ∈ rows, ∃ x : α, r = e x ∧ p x) → ∃ z : List α, z.length = rows.length ∧ rows.flatten = z.flatMap e ∧ ∀ x ∈ z, p x
  | [], _ => ⟨[], rfl, rfl, fun x hx => by simp at hx⟩
  | r :: rs, h => by
    obtain ⟨z, h1, h2, h3⟩ := rows_list rs fun r hr => h r (by simp [hr])
    obtain ⟨n, rfl, hn⟩ := h r (by simp)
    refine ⟨n :: z, by simp [h1], by simp only [List.flatten_cons, h2, List.flatMap_cons], fun x hx => ?_⟩
    rcases List.mem_cons.1 hx with e | e
    · subst e; exact hn
    · exact h3 x e

end Go.Proofs.Ytpnpebefcmgjoaa
set_option linter.unusedVariables false
set_option linter.unusedSimpArgs false
namespace Go.Proofs.Ytpnpebefcmgjoaa
open Go.Vc Go.RowKit Go.ChangeShapes Go.WideShapes Go.ChangeAt
set_option maxRecDepth 100000

structure Pl where
  gr : Int
  fr : ByteArray
  ep : Int

def Pl.wf (x : Pl) : Prop := In64 x.gr ∧ x.fr.size ≤ 9223372036854775807 ∧ In64 x.ep

abbrev encPl (x : Pl) : List Value := [I x.gr, .string x.fr, I x.ep]

abbrev plv (x : Pl) : Value := .agg #[I x.gr, .string x.fr, I x.ep]

abbrev pls (l : List Pl) : List Value := l.flatMap encPl

theorem pl_k (x : Pl) : (encPl x).length = 3 := rfl

theorem pl_len (l : List Pl) : (pls l).length = l.length * 3 := flat_len pl_k l

theorem pl_at {m : M} {b o i : Nat} {l : List Pl} (h : CellsAt m b o (pls l)) (hi : i < l.length) : CellsAt m b (o + i * 3) (encPl l[i]) := CellsAt.elem pl_k l o i hi h

theorem pl_ext {a b : Pl} : a = b ↔ a.gr = b.gr ∧ a.fr = b.fr ∧ a.ep = b.ep := by
  cases a; cases b; simp

instance : DecidableEq Pl := fun _ _ => decidable_of_iff' _ pl_ext

theorem pl_one (l : List Pl) : oneCells (pls l) = true := by
  rw [oneCells_iff]; intro v hv
  obtain ⟨w, -, hw⟩ := List.mem_flatMap.1 hv
  exact oneCells_iff.1 (rfl : oneCells (encPl w) = true) v hw

theorem pl_zr (k : Nat) : (zeroRow Try.prog 39 k).length = k * 3 := zrLen (by kernel_rfl) k

theorem pl_cells : Try.prog.cellsOf 39 = 3 := by kernel_rfl

theorem pl_rd {m : M} {N d : Nat} {cs : List Value} (h : Rd Try.prog m N (d + 2) 39 cs) (hN : N ≤ 9223372036854775807) : ∃ x : Pl, cs = encPl x ∧ x.wf := by
  have hc1 := (by kernel_rfl : Try.prog.cellsOf 3 = 1)
  have hc2 := (by kernel_rfl : Try.prog.cellsOf 9 = 1)
  simp only [Rd, Try.underlying39, Try.underlying3, Try.underlying9, fieldsD, pl_cells, hc1, hc2] at h
  obtain ⟨hl, ⟨k1, e1, w1⟩, ⟨k2, e2, w2⟩, ⟨k3, e3, w3⟩, -⟩ := h
  obtain ⟨c1, c2, c3, rfl⟩ : ∃ c1 c2 c3, cs = [c1, c2, c3] := by
    match cs, hl with
    | [c1, c2, c3], _ => exact ⟨_, _, _, rfl⟩
  simp at e1 e2 e3
  subst e1 e2 e3
  exact ⟨⟨k1, k2, k3⟩, rfl, in64_of w1, Nat.le_trans w2 hN, in64_of w3⟩

theorem open_pl {H : Type} {enc : TypeId × Value → H} {W : World} {r : Reach} {b0 : Nat} {v : Value} {d : DataW H} {p : List MemPlace} {N : Nat} {Bd : DataW H → Prop} (B : Bound N Bd) (hN : N ≤ 9223372036854775807) (hv : Value.okWide Try.prog W r b0 39 v) (h : DataW.Trod enc Try.prog W 0 (fun _ => true) true 39 v d p) (hb : Bd d) : ∃ x : Pl, v = plv x ∧ x.wf := by
  obtain ⟨cs, rfl, hl⟩ := open_agg Try.underlying39 pl_cells hv
  obtain ⟨fuel, hf⟩ := h
  have hr := rd_of_trod B 2 fuel 39 _ _ hf hb
  simp only [Value.cells] at hr
  obtain ⟨x, he, hw⟩ := pl_rd (d := 0) hr hN
  exact ⟨x, by rw [show cs = encPl x from he], hw⟩

theorem open_pls {H : Type} {enc : TypeId × Value → H} {W : World} {r : Reach} {b0 : Nat} {v : Value} {d : DataW H} {p : List MemPlace} {N : Nat} {Bd : DataW H → Prop} (B : Bound N Bd) (hN : N ≤ 9223372036854775807) (hv : Value.okWide Try.prog W r b0 22 v) (h : DataW.Trod enc Try.prog W 0 (fun _ => true) true 22 v d p) (hb : Bd d) :
    ∃ (a : Option Addr) (c : Nat) (z : List Pl), v = .slice a z.length c ∧ z.length ≤ N ∧ (∀ x ∈ z, x.wf) ∧ (a = none → z = []) ∧ Row (M.all W) a (pls z) := by
  obtain ⟨a, len, cap, rfl⟩ := okWide_slice Try.underlying22 hv
  obtain ⟨fuel, hf⟩ := h
  have hr := rd_of_trod B 3 fuel 22 _ _ hf hb
  rw [Rd] at hr
  simp only [Try.underlying22] at hr
  obtain ⟨a', cap', rows, hcs, h1, h2, h3, h4, h5⟩ := hr
  obtain ⟨z, hz, he, hi⟩ := rows_list (α := Pl) (e := encPl) (p := Pl.wf) rows fun r hr => pl_rd (d := 0) (h4 r hr).2 hN
  simp [Value.cells] at hcs
  obtain ⟨rfl, rfl, rfl⟩ := hcs
  rw [he] at h5
  exact ⟨a, cap, z, by rw [hz], by omega, hi, fun e => List.eq_nil_of_length_eq_zero (by have := h3 e; omega), h5⟩

theorem pl_plain (a a2 : Option Addr) (c c2 : Nat) (l l2 : List Pl) (hn1 : l.length ≤ 9223372036854775807) (m : M) (h : Row m a (pls l)) (h2 : Row m a2 (pls l2)) :
    QSpec Try.prog 25 [.slice a l.length c, .slice a2 l2.length c2] m (.bool (decide (l = l2))) := by
  refine QSpec.of_vc Try.func25 (ann := fun n _ => { A := Nat, inv := fun k => k ≤ l.length ∧ l.take k = l2.take k, st := fun k => [(5, .val (I k)), (0, .val (.slice a l.length c)), (1, .val (.slice a2 l2.length c2))], own := fun _ => [], m := fun _ => { m with sz := n }, μ := fun k => (l.length - k) }) fun n hn => ?_
  refine vc_by (X :=
      true = true ∧
      ifB ((↑l.length : Int) != (↑l2.length : Int)) (Done (Value.bool false = Value.bool (decide (l = l2))))
      ((∃ (a_1 : Nat),
      (a_1 ≤ l.length ∧ List.take a_1 l = List.take a_1 l2) ∧
      { π := m.π, sz := n, uf := m.uf : M } = { π := m.π, sz := n, uf := m.uf : M } ∧
      ((SV.val (Value.int IntKind.i64 (0 : Int)) = SV.val (Value.int IntKind.i64 (↑a_1 : Int)) ∧ true = true) ∧
      (SV.val (Value.slice a l.length c) = SV.val (Value.slice a l.length c) ∧ true = true) ∧
      (SV.val (Value.slice a2 l2.length c2) = SV.val (Value.slice a2 l2.length c2) ∧ true = true) ∧ True) ∧
      True) ∧
      ∀ (a_1 : Nat),
      a_1 ≤ l.length ∧ List.take a_1 l = List.take a_1 l2 →
      ifB (decide ((↑a_1 : Int) < (↑l.length : Int)))
      (true = true ∧
      ∃ (b : Nat),
      ∃ (off : Nat),
      a = some { block := b, off := off : Addr } ∧
      ((0 : Int) ≤ (↑a_1 : Int) ∧ (↑a_1 : Int) < (↑l.length : Int)) ∧
      ∃ (n_1 : Int),
      ∃ (s : ByteArray),
      ∃ (n_2 : Int),
      CellsAt { π := m.π, sz := n, uf := m.uf : M } b (off + (↑a_1 : Int).toNat * (3 : Nat))
      [Value.int IntKind.i64 n_1, Value.string s, Value.int IntKind.i64 n_2] ∧
      ∃ (b : Nat),
      ∃ (off : Nat),
      a2 = some { block := b, off := off : Addr } ∧
      ((0 : Int) ≤ (↑a_1 : Int) ∧ (↑a_1 : Int) < (↑l2.length : Int)) ∧
      ∃ (n_3 : Int),
      ∃ (s_1 : ByteArray),
      ∃ (n_4 : Int),
      CellsAt { π := m.π, sz := n, uf := m.uf : M } b (off + (↑a_1 : Int).toNat * (3 : Nat))
      [Value.int IntKind.i64 n_3, Value.string s_1, Value.int IntKind.i64 n_4] ∧
      ifB (!(n_1 == n_3 && (s.toList == s_1.toList && (n_2 == n_4 && true)))) (Done (Value.bool false = Value.bool (decide (l = l2))))
      (∃ (a' : Nat),
      ((a' ≤ l.length ∧ List.take a' l = List.take a' l2) ∧
      { π := m.π, sz := n, uf := m.uf : M } = { π := m.π, sz := n, uf := m.uf : M } ∧
      ((SV.val (Value.int IntKind.i64 (IntKind.i64.wrap ((↑a_1 : Int) + (1 : Int)))) =
      SV.val (Value.int IntKind.i64 (↑a' : Int)) ∧
      true = true) ∧
      (SV.val (Value.slice a l.length c) = SV.val (Value.slice a l.length c) ∧ true = true) ∧
      (SV.val (Value.slice a2 l2.length c2) = SV.val (Value.slice a2 l2.length c2) ∧ true = true) ∧ True) ∧
      True) ∧
      l.length - a' < l.length - a_1))
      (Done (Value.bool true = Value.bool (decide (l = l2)))))) (by kernel_rfl) ?_
  have h' := h.sz hn
  have h2' := h2.sz hn
  refine ⟨rfl, ifB_intro (fun hb => ⟨?_⟩) (fun hb => ⟨⟨0, by simp⟩, fun k hk => ifB_intro (fun hb2 => ?_) (fun hb2 => ⟨?_⟩)⟩)⟩
  · have : l ≠ l2 := fun e => by subst e; simp at hb
    simp [this]
  · have hlen : l.length = l2.length := by simp at hb; omega
    have hk2 : k < l.length := by simpa using hb2
    obtain ⟨b, o, rfl, hc⟩ := h'.cells (by rw [pl_len]; omega)
    obtain ⟨b2, o2, rfl, hc2⟩ := h2'.cells (by rw [pl_len]; omega)
    have w1 : IntKind.i64.wrap ((k : Int) + 1) = ((k + 1 : Nat) : Int) := by simp [IntKind.wrap_i64]; omega
    refine ⟨rfl, b, o, rfl, by omega, _, _, _, by simpa using pl_at hc hk2, b2, o2, rfl, by omega, _, _, _, by simpa using pl_at hc2 (by omega : k < l2.length), ifB_intro (fun h3 => ⟨?_⟩) (fun h3 => ⟨k + 1, ⟨⟨hk2, ?_⟩, by simp [w1]⟩, by omega⟩)⟩
    · have : l ≠ l2 := fun e => by subst e; simp at h3
      simp [this]
    · have h3 : l[k] = l2[k] := by rw [pl_ext]; simpa [bytes_beq] using h3
      rw [List.take_succ_eq_append_getElem hk2, List.take_succ_eq_append_getElem (by omega : k < l2.length), hk.2, h3]
  · have hlen : l.length = l2.length := by simp at hb; omega
    have : k = l.length := by simp at hb2; omega
    have e := hk.2
    rw [this, List.take_length, hlen, List.take_length] at e
    simp [e]

theorem pl_clone (l : List Pl) (a : Option Addr) (c : Nat) (hn : l.length ≤ 4398046511000) (h0 : a = none → l = []) (m : M) (h : Row m a (pls l)) : Vc.Spec Try.prog 35 [.slice a l.length c] m (fun v m' => ∃ a' c', v = .slice a' l.length c' ∧ NewR m.sz (fun _ => False) m' 3 a' l.length c' (pls l)) := by
  refine Vc.Spec.of_vc Try.func35 (ann := noAnn) ?_
  refine vc_by (X :=
      true = true ∧
      ifB a.isNone
      (Done
      (∃ (a' : Option Addr),
      ∃ (c' : Nat), Value.slice none (0 : Nat) (0 : Nat) = Value.slice a' l.length c' ∧ NewR m.sz (fun (x : Nat) => False) m (3 : Nat) a' l.length c' (pls l)))
      (true = true ∧
      ∀ (b : Nat),
      m.sz ≤ b →
      ∃ (old : List Value),
      ∃ (src : List Value),
      AppPre m.sz (fun (x : Nat) => False) (m.newBlock b []) (3 : Nat) (32 : Nat) (some { block := b, off := (0 : Nat) : Addr }) (0 : Nat) (0 : Nat) a l.length old src ∧
      ∀ (a' : Option Addr) (c' : Nat) (m' : M),
      AppPost Try.prog (39 : Nat) (m.newBlock b []) (3 : Nat) (some { block := b, off := (0 : Nat) : Addr }) (0 : Nat) (0 : Nat) l.length old src a' c' m' →
      Done
      (∃ (a'_1 : Option Addr),
      ∃ (c'_1 : Nat),
      Value.slice a' ((0 : Nat) + l.length) c' = Value.slice a'_1 l.length c'_1 ∧ NewR m.sz (fun (x : Nat) => False) m' (3 : Nat) a'_1 l.length c'_1 (pls l)))) (by kernel_rfl) ?_
  refine ⟨rfl, ifB_intro (fun h1 => ⟨?_⟩) (fun h1 => ⟨rfl, fun b hb => ?_⟩)⟩
  · have : l = [] := h0 (by simpa using h1)
    subst this
    exact ⟨_, _, rfl, .nil _⟩
  · have ho : OwnB m.sz (fun _ => False) (m.newBlock b []) 3 (some ⟨b, 0, none⟩) 0 0 [] := OwnB.fresh hb rfl
    have hr : Row (m.newBlock b []) a (pls l) := h.newBlock hb
    refine ⟨_, _, ho.appPre hr (pl_len l) (pl_one l) (by omega), fun a' c' m' hp => ⟨a', c', by simp, .own ?_⟩⟩
    have := ho.append hp (pl_len l) pl_zr (by simp only [M.newBlock]; omega)
    simpa using this

theorem pl_own (a : Option Addr) (c : Nat) (l : List Pl) (mk : Pl) (hn : l.length ≤ 4398046511000) (m : M) (h : Row m a (pls l)) :
    Vc.Spec Try.prog 30 [.slice a l.length c, plv mk] m (Owned m (pls l) (encPl mk ++ encPl mk) l.length (l.length + 2)) := by
  refine Vc.Spec.of_vc Try.func30 (ann := noAnn) ?_
  refine vc_by (X :=
      true = true ∧
      ((0 : Int) ≤ (0 : Int) ∧
      (0 : Int) ≤ IntKind.i64.wrap ((↑l.length : Int) + (2 : Int)) ∧
      (↑(32 : Nat) : Int) * IntKind.i64.wrap ((↑l.length : Int) + (2 : Int)) ≤ (281474976710656 : Int) ∧
      IntKind.i64.wrap ((↑l.length : Int) + (2 : Int)) ≤ (9223372036854775807 : Int)) ∧
      ∀ (b : Nat),
      m.sz ≤ b →
      ∃ (old : List Value),
      ∃ (src : List Value),
      AppPre m.sz (fun (x : Nat) => False)
      (m.newBlock b
      (madeCells #[Value.int IntKind.i64 (0 : Int), Value.string { data := #[] : ByteArray }, Value.int IntKind.i64 (0 : Int)]
      ((IntKind.i64.wrap ((↑l.length : Int) + (2 : Int))).toNat * (3 : Nat))).toList)
      (3 : Nat) (32 : Nat) (some { block := b, off := (0 : Nat) : Addr }) (0 : Nat) (IntKind.i64.wrap ((↑l.length : Int) + (2 : Int))).toNat a l.length old src ∧
      ∀ (a' : Option Addr) (c' : Nat) (m' : M),
      AppPost Try.prog (39 : Nat)
      (m.newBlock b
      (madeCells #[Value.int IntKind.i64 (0 : Int), Value.string { data := #[] : ByteArray }, Value.int IntKind.i64 (0 : Int)]
      ((IntKind.i64.wrap ((↑l.length : Int) + (2 : Int))).toNat * (3 : Nat))).toList)
      (3 : Nat) (some { block := b, off := (0 : Nat) : Addr }) (0 : Nat) (IntKind.i64.wrap ((↑l.length : Int) + (2 : Int))).toNat l.length old src a' c' m' →
      true = true ∧
      ∀ (b : Nat),
      m'.sz ≤ b →
      ∃ (old : List Value),
      ∃ (src : List Value),
      AppPre m.sz (fun (x : Nat) => False)
      (m'.newBlock b
      [Value.int IntKind.i64 mk.gr, Value.string mk.fr, Value.int IntKind.i64 mk.ep, Value.int IntKind.i64 mk.gr, Value.string mk.fr,
      Value.int IntKind.i64 mk.ep])
      (3 : Nat) (32 : Nat) a' ((0 : Nat) + l.length) c' (some { block := b, off := (0 : Nat) : Addr }) (2 : Nat) old src ∧
      ∀ (a'_1 : Option Addr) (c'_1 : Nat) (m'_1 : M),
      AppPost Try.prog (39 : Nat)
      (m'.newBlock b
      [Value.int IntKind.i64 mk.gr, Value.string mk.fr, Value.int IntKind.i64 mk.ep, Value.int IntKind.i64 mk.gr, Value.string mk.fr,
      Value.int IntKind.i64 mk.ep])
      (3 : Nat) a' ((0 : Nat) + l.length) c' (2 : Nat) old src a'_1 c'_1 m'_1 →
      (true = true ∧ (0 : Int) ≤ (0 : Int) ∧ (0 : Int) ≤ (↑l.length : Int) ∧ (↑l.length : Int) ≤ (↑c'_1 : Int) ∧ True) ∧
      Done
      (Owned m (pls l)
      [Value.int IntKind.i64 mk.gr, Value.string mk.fr, Value.int IntKind.i64 mk.ep, Value.int IntKind.i64 mk.gr, Value.string mk.fr,
      Value.int IntKind.i64 mk.ep]
      l.length (l.length + (2 : Nat))
      (Value.slice (if (↑c'_1 : Int).toNat = (0 : Nat) then a'_1 else Option.map (fun (x : Addr) => x) a'_1) ((↑l.length : Int).toNat - (0 : Nat))
      ((↑c'_1 : Int).toNat - (0 : Nat)))
      m'_1)) (by kernel_rfl) ?_
  have e : IntKind.i64.wrap ((l.length : Int) + 2) = ((l.length + 2 : Nat) : Int) := by simp [IntKind.wrap_i64]; omega
  rw [e]
  simp only [Int.toNat_natCast]
  refine ⟨trivial, by omega, fun b hb => ?_⟩
  obtain ⟨p1, p2⟩ := owned_calc (P := Try.prog) (e := 39) (size := 3) (bytes := 32) (len := l.length) (m := m) (b := b) (z := (madeCells #[I 0, .string .empty, I 0] ((l.length + 2) * 3)).toList) (cs := pls l) (marks := encPl mk ++ encPl mk) hb h (pl_len l) (pl_one l) rfl rfl pl_zr (by simp [madeCells]) (by omega)
  refine ⟨[], pls l, p1, fun a' c' m' hp => ⟨trivial, fun b2 hb2 => ?_⟩⟩
  obtain ⟨p3, p4⟩ := p2 a' c' m' hp b2 hb2
  refine ⟨pls l, encPl mk ++ encPl mk, p3, fun a'' c'' m'' hp2 => ?_⟩
  obtain ⟨rfl, rfl, q3, q5, q4⟩ := p4 a'' c'' m'' hp2
  exact ⟨⟨trivial, by omega, by omega, by omega, trivial⟩, ⟨⟨b, by simp, hb, q3, q5, q4⟩⟩⟩

theorem pl_kept (b : Nat) (l : List Pl) (a2 : Option Addr) (c2 : Nat) (mk : Pl) (hn : l.length ≤ 4398046511000) (m : M) (hb : b < m.sz) (h : CellsAt m b 0 (pls l ++ (encPl mk ++ encPl mk))) (h2 : Row m a2 (pls l)) :
    QSpec Try.prog 32 [.slice (some ⟨b, 0, none⟩) l.length (l.length + 2), .slice a2 l.length c2, plv mk] m (.bool true) := by
  refine QSpec.of_vc Try.func32 (ann := fun _ => noAnn) fun n hn => ?_
  refine vc_by (X :=
      true = true ∧
      ifB ((↑l.length : Int) != (↑l.length : Int)) (Done (Value.bool false = Value.bool true))
      (ifB (decide ((↑(l.length + (2 : Nat)) : Int) < IntKind.i64.wrap ((↑l.length : Int) + (2 : Int)))) (Done (Value.bool false = Value.bool true))
      ((true = true ∧
      (0 : Int) ≤ (0 : Int) ∧
      (0 : Int) ≤ IntKind.i64.wrap ((↑l.length : Int) + (2 : Int)) ∧ IntKind.i64.wrap ((↑l.length : Int) + (2 : Int)) ≤ (↑(l.length + (2 : Nat)) : Int) ∧ True) ∧
      true = true ∧
      ∃ (b_1 : Bool),
      QSpec Try.prog (25 : Nat) [Value.slice (some { block := b, off := (0 : Nat) : Addr }) l.length (l.length + (2 : Nat)), Value.slice a2 l.length c2]
      { π := m.π, sz := n, uf := m.uf : M } (Value.bool b_1) ∧
      ifB b_1
      (∃ (b_2 : Nat),
      ∃ (off : Nat),
      some { block := b, off := (0 : Nat) : Addr } = some { block := b_2, off := off : Addr } ∧
      ((0 : Int) ≤ (↑l.length : Int) ∧ (↑l.length : Int) < (↑((IntKind.i64.wrap ((↑l.length : Int) + (2 : Int))).toNat - (0 : Nat)) : Int)) ∧
      ∃ (n_1 : Int),
      ∃ (s : ByteArray),
      ∃ (n_2 : Int),
      CellsAt { π := m.π, sz := n, uf := m.uf : M } b_2 (off + (↑l.length : Int).toNat * (3 : Nat))
      [Value.int IntKind.i64 n_1, Value.string s, Value.int IntKind.i64 n_2] ∧
      ifB (n_1 == mk.gr && (s.toList == mk.fr.toList && (n_2 == mk.ep && true)))
      (∃ (b_3 : Nat),
      ∃ (off : Nat),
      some { block := b, off := (0 : Nat) : Addr } = some { block := b_3, off := off : Addr } ∧
      ((0 : Int) ≤ IntKind.i64.wrap ((↑l.length : Int) + (1 : Int)) ∧
      IntKind.i64.wrap ((↑l.length : Int) + (1 : Int)) < (↑((IntKind.i64.wrap ((↑l.length : Int) + (2 : Int))).toNat - (0 : Nat)) : Int)) ∧
      ∃ (n_3 : Int),
      ∃ (s : ByteArray),
      ∃ (n_4 : Int),
      CellsAt { π := m.π, sz := n, uf := m.uf : M } b_3 (off + (IntKind.i64.wrap ((↑l.length : Int) + (1 : Int))).toNat * (3 : Nat))
      [Value.int IntKind.i64 n_3, Value.string s, Value.int IntKind.i64 n_4] ∧
      Done (Value.bool (n_3 == mk.gr && (s.toList == mk.fr.toList && (n_4 == mk.ep && true))) = Value.bool true))
      (Done (Value.bool false = Value.bool true)))
      (Done (Value.bool false = Value.bool true))))) (by kernel_rfl) ?_
  have e : IntKind.i64.wrap ((l.length : Int) + 2) = ((l.length + 2 : Nat) : Int) := by simp [IntKind.wrap_i64]; omega
  have e1 : IntKind.i64.wrap ((l.length : Int) + 1) = ((l.length + 1 : Nat) : Int) := by simp [IntKind.wrap_i64]; omega
  rw [e, e1]
  simp only [Int.toNat_natCast]
  have hk := h.drop
  rw [pl_len] at hk
  have k1 : CellsAt m b (0 + l.length * 3) (encPl mk) := hk.take
  have k2 : CellsAt m b (0 + (l.length + 1) * 3) (encPl mk) := by
    have := hk.drop (cs := encPl mk)
    rw [show 0 + (l.length + 1) * 3 = 0 + l.length * 3 + (encPl mk).length by rw [pl_k]; omega]
    exact this
  have hq := pl_plain (some ⟨b, 0, none⟩) a2 (l.length + 2) c2 l l (by omega) { m with sz := n } (.at _ _ _ (Nat.lt_of_lt_of_le hb hn) ⟨h.take.out⟩) (h2.sz hn)
  refine ⟨trivial, ifB_intro (fun h3 => by simp at h3) (fun h3 => ifB_intro (fun h4 => by simp at h4) (fun h4 => ⟨⟨trivial, by omega, by omega, by omega, trivial⟩, trivial, _, hq, ?_⟩))⟩
  have et : decide (l = l) = true := by simp
  rw [et]
  refine ifB_true ⟨b, 0, rfl, by constructor <;> simp <;> omega, _, _, _, ⟨k1.out⟩, ifB_intro (fun h5 => ⟨b, 0, rfl, by constructor <;> simp <;> omega, _, _, _, ⟨k2.out⟩, ⟨by simp⟩⟩) (fun h5 => by simp at h5)⟩

theorem pl_keptr (b : Nat) (l : List Pl) (a2 : Option Addr) (c2 : Nat) (mk : Pl) (hn : l.length ≤ 4398046511000) (m : M) (h : Row m (some ⟨b, 0, none⟩) (pls l ++ (encPl mk ++ encPl mk))) (h2 : Row m a2 (pls l)) :
    QSpec Try.prog 32 [.slice (some ⟨b, 0, none⟩) l.length (l.length + 2), .slice a2 l.length c2, plv mk] m (.bool true) := by
  obtain ⟨b', o, e, hc⟩ := h.cells (by simp)
  cases e
  exact pl_kept b l a2 c2 mk hn m (h.lt (by simp) rfl) hc h2

end Go.Proofs.Ytpnpebefcmgjoaa
set_option linter.unusedVariables false
set_option linter.unusedSimpArgs false
namespace Go.Proofs.Ytpnpebefcmgjoaa
open Go.Vc Go.RowKit
set_option maxRecDepth 100000

/-! the iterator of ranges.All -/
def cL : Code → Code | .seq a _ => a | c => c

def cR : Code → Code | .seq _ b => b | c => c

def cB : Code → Code | .block _ b => b | .loop b => b | c => c

def cOps : Code → Array Oper | .region _ ops _ => ops | _ => #[]

noncomputable def itC : Code := Try.f37.body.getD .skip

noncomputable def itB : Code := cB (cB (cR itC))

noncomputable def itX : Code := cB (cL (cR (cR itB)))

noncomputable def itO : Array Oper := cOps (cL (cR itX))

theorem it_eq : Try.f37.body = some (.seq (cL itC) (.block 0 (.loop (.seq (cL itB) (.seq (.cond (.tmp 8) .skip (.exit 0)) (.seq (.block 1 (.seq (cL itX) (.seq (.region 3 itO true) (.cond (.tmp 18) .ret .skip)))) (cR (cR (cR itB))))))))) := by kernel_rfl

/-- where the place of number i ends -/
def endP (l : List Pl) (i : Nat) : ByteArray := match l[i + 1]? with | some x => x.fr | none => .empty

def endI (l : List Pl) (i : Int) : ByteArray := if 0 ≤ i then endP l i.toNat else .empty

theorem pl_end (l : List Pl) (a : Option Addr) (c : Nat) (i : Int) (hi : In64 i) (hn : l.length ≤ 9223372036854775807) (m : M) (h : Row m a (pls l)) :
    QSpec Try.prog 18 [.slice a l.length c, I i] m (.string (endI l i)) := by
  refine QSpec.of_vc Try.func18 (ann := fun _ => noAnn) fun n hn => ?_
  refine vc_by (X :=
      true = true ∧
      ifB (decide (i < (0 : Int))) (Done (Value.string { data := #[] : ByteArray } = Value.string (endI l i)))
      (ifB (decide (i ≥ IntKind.i64.wrap ((↑l.length : Int) - (1 : Int)))) (Done (Value.string { data := #[] : ByteArray } = Value.string (endI l i)))
      (∃ (b : Nat),
      ∃ (off : Nat),
      a = some { block := b, off := off : Addr } ∧
      ((0 : Int) ≤ IntKind.i64.wrap (i + (1 : Int)) ∧ IntKind.i64.wrap (i + (1 : Int)) < (↑l.length : Int)) ∧
      ∃ (s : ByteArray),
      CellsAt { π := m.π, sz := n, uf := m.uf : M } b (off + (IntKind.i64.wrap (i + (1 : Int))).toNat * (3 : Nat) + (1 : Nat)) [Value.string s] ∧
      Done (Value.string s = Value.string (endI l i))))) (by kernel_rfl) ?_
  have h' := h.sz hn
  have w0 : IntKind.i64.wrap ((l.length : Int) - 1) = (l.length : Int) - 1 := by rw [IntKind.wrap_i64]; omega
  rw [w0]
  refine ⟨rfl, ifB_intro (fun h1 => ⟨?_⟩) (fun h1 => ifB_intro (fun h2 => ⟨?_⟩) (fun h2 => ?_))⟩
  · have : i < 0 := by simpa using h1
    simp [endI, show ¬ 0 ≤ i by omega]; rfl
  · have h1 : 0 ≤ i := by simpa using h1
    have h2 : (l.length : Int) - 1 ≤ i := by simpa using h2
    simp [endI, h1, endP, show l[i.toNat + 1]? = none by rw [List.getElem?_eq_none_iff]; omega]; rfl
  · have h1 : 0 ≤ i := by simpa using h1
    have h2 : i < (l.length : Int) - 1 := by simpa using h2
    have w1 : IntKind.i64.wrap (i + 1) = ((i.toNat + 1 : Nat) : Int) := by rw [IntKind.wrap_i64]; omega
    have hlt : i.toNat + 1 < l.length := by omega
    rw [w1]
    obtain ⟨b, o, rfl, hc⟩ := h'.cells (by rw [pl_len]; omega)
    refine ⟨b, o, rfl, by omega, l[i.toNat + 1].fr, ?_, ⟨by simp [endI, h1, endP, hlt]⟩⟩
    have := pl_at hc hlt
    simp only [Int.toNat_natCast]
    exact ⟨fun j hj => by
      have hj : j = 0 := by simpa using hj
      subst hj
      have := this.out 1 (by simp [encPl])
      simpa [encPl] using this⟩

/-- what ranges.All tells -/
def endsL (l : List Pl) : List (ByteArray × Pl) := l.mapIdx fun i x => (endP l i, x)

theorem ends_take {l : List Pl} {i : Nat} (h : i < l.length) : (endsL l).take (i + 1) = (endsL l).take i ++ [(endP l i, l[i])] := by
  rw [List.take_succ_eq_append_getElem (by simpa [endsL] using h)]
  simp [endsL]

abbrev itL (l kb : Nat) (a : Option Addr) (n c : Nat) (i : Nat) : List (Nat × Value) := [(7, I i), (6, I n), (5, .slice a n c), (0, .func (.yield l) #[] #[]), (1, .pointer (some ⟨kb, 0, none⟩))]

theorem it_r0 {l kb : Nat} {a : Option Addr} {c n k : Nat} {mi : M} (hb : mi.π kb 0 = some (.slice a n c)) :
    vcCode Try.prog k noB noAnn (cL itC) [] (St.init [.func (.yield l) #[] #[], .pointer (some ⟨kb, 0, none⟩)]) (Vc.mW mi k) fun e st _ => match e with | .normal => fitsT st 0 [(7, .val (I 0)), (6, .val (I n)), (5, .val (.slice a n c)), (0, .val (.func (.yield l) #[] #[])), (1, .val (.pointer (some ⟨kb, 0, none⟩)))] | _ => False := by
  refine vc_by (X :=
      ∃ (a_1 : Option Addr),
      ∃ (n_1 : Nat),
      ∃ (c_1 : Nat),
      CellsAt (mW mi k) kb (0 : Nat) [Value.slice a_1 n_1 c_1] ∧
      (SV.val (Value.int IntKind.i64 (0 : Int)) = SV.val (Value.int IntKind.i64 (0 : Int)) ∧ true = true) ∧
      (SV.val (Value.int IntKind.i64 (↑n_1 : Int)) = SV.val (Value.int IntKind.i64 (↑n : Int)) ∧ true = true) ∧
      (SV.val (Value.slice a_1 n_1 c_1) = SV.val (Value.slice a n c) ∧ true = true) ∧
      (SV.val (Value.func (Fn.yield l) #[] #[]) = SV.val (Value.func (Fn.yield l) #[] #[]) ∧ true = true) ∧
      (SV.val (Value.pointer (some { block := kb, off := (0 : Nat) : Addr })) = SV.val (Value.pointer (some { block := kb, off := (0 : Nat) : Addr })) ∧ true = true) ∧
      True) (by kernel_rfl) ?_
  refine ⟨a, n, c, ⟨fun j hj => ?_⟩, ?_⟩
  · have hj : j = 0 := by simpa using hj
    subst hj
    exact hb
  · simp

theorem it_r1 {l kb : Nat} {a : Option Addr} {c n k i : Nat} {mi : M} (hi : i ≤ n) :
    vcCode Try.prog k noB noAnn (cL itB) [] (stOf (itL l kb a n c i)) (Vc.mW mi k) fun e st _ => match e with | .normal => fitsT st 0 [(8, .val (.bool (decide ((i : Int) < n)))), (7, .val (I i)), (6, .val (I n)), (5, .val (.slice a n c)), (0, .val (.func (.yield l) #[] #[])), (1, .val (.pointer (some ⟨kb, 0, none⟩)))] | _ => False := by
  refine vc_by (X :=
      (SV.val (Value.bool (decide ((↑i : Int) < (↑n : Int)))) = SV.val (Value.bool (decide ((↑i : Int) < (↑n : Int)))) ∧ true = true) ∧
      (SV.val (Value.int IntKind.i64 (↑i : Int)) = SV.val (Value.int IntKind.i64 (↑i : Int)) ∧ true = true) ∧
      (SV.val (Value.int IntKind.i64 (↑n : Int)) = SV.val (Value.int IntKind.i64 (↑n : Int)) ∧ true = true) ∧
      (SV.val (Value.slice a n c) = SV.val (Value.slice a n c) ∧ true = true) ∧
      (SV.val (Value.func (Fn.yield l) #[] #[]) = SV.val (Value.func (Fn.yield l) #[] #[]) ∧ true = true) ∧
      (SV.val (Value.pointer (some { block := kb, off := (0 : Nat) : Addr })) = SV.val (Value.pointer (some { block := kb, off := (0 : Nat) : Addr })) ∧ true = true) ∧ True) (by kernel_rfl) ?_
  trivial

theorem it_r4 {l kb : Nat} {a : Option Addr} {c n k i : Nat} {mi : M} (hn : n ≤ 4611686018427387904) (hi : i < n) :
    vcCode Try.prog k noB noAnn (cR (cR (cR itB))) [] (stOf (itL l kb a n c i)) (Vc.mW mi k) fun e st _ => match e with | .normal => fitsT st 0 [(7, .val (I ((i + 1 : Nat) : Int))), (6, .val (I n)), (5, .val (.slice a n c)), (0, .val (.func (.yield l) #[] #[])), (1, .val (.pointer (some ⟨kb, 0, none⟩)))] | _ => False := by
  refine vc_by (X :=
      (SV.val (Value.int IntKind.i64 (IntKind.i64.wrap ((↑i : Int) + (1 : Int)))) = SV.val (Value.int IntKind.i64 (↑(i + (1 : Nat)) : Int)) ∧ true = true) ∧
      (SV.val (Value.int IntKind.i64 (↑n : Int)) = SV.val (Value.int IntKind.i64 (↑n : Int)) ∧ true = true) ∧
      (SV.val (Value.slice a n c) = SV.val (Value.slice a n c) ∧ true = true) ∧
      (SV.val (Value.func (Fn.yield l) #[] #[]) = SV.val (Value.func (Fn.yield l) #[] #[]) ∧ true = true) ∧
      (SV.val (Value.pointer (some { block := kb, off := (0 : Nat) : Addr })) = SV.val (Value.pointer (some { block := kb, off := (0 : Nat) : Addr })) ∧ true = true) ∧ True) (by kernel_rfl) ?_
  have w1 : IntKind.i64.wrap ((i : Int) + 1) = ((i + 1 : Nat) : Int) := by rw [IntKind.wrap_i64]; omega
  rw [w1]
  simp

theorem it_r23 {l kb : Nat} {a : Option Addr} {c k i : Nat} {mi : M} {xs : List Pl} (hn : xs.length ≤ 4611686018427387904) (hi : i < xs.length) (hb : mi.π kb 0 = some (.slice a xs.length c)) (hr : Row (Vc.mW mi k) a (pls xs)) :
    vcCode Try.prog k noB noAnn (.seq (cL itX) (.region 3 (itO.toList.take 5).toArray true)) [] (stOf (itL l kb a xs.length c i)) (Vc.mW mi k) fun e st _ => match e with | .normal => fitsT st 0 [(12, .val (.func (.yield l) #[] #[])), (15, .val (.string (endP xs i))), (16, .val (plv xs[i])), (7, .val (I i)), (6, .val (I xs.length)), (5, .val (.slice a xs.length c)), (0, .val (.func (.yield l) #[] #[])), (1, .val (.pointer (some ⟨kb, 0, none⟩)))] | _ => False := by
  refine vc_by (X :=
      ∃ (b : Nat),
      ∃ (off : Nat),
      a = some { block := b, off := off : Addr } ∧
      ((0 : Int) ≤ (↑i : Int) ∧ (↑i : Int) < (↑xs.length : Int)) ∧
      ∃ (n : Int),
      ∃ (s : ByteArray),
      ∃ (n_1 : Int),
      CellsAt (mW mi k) b (off + (↑i : Int).toNat * (3 : Nat)) [Value.int IntKind.i64 n, Value.string s, Value.int IntKind.i64 n_1] ∧
      true = true ∧
      ∃ (a_1 : Option Addr),
      ∃ (n_2 : Nat),
      ∃ (c_1 : Nat),
      CellsAt (mW mi k) kb (0 : Nat) [Value.slice a_1 n_2 c_1] ∧
      ∃ (s_1 : ByteArray),
      QSpec Try.prog (18 : Nat) [Value.slice a_1 n_2 c_1, Value.int IntKind.i64 (↑i : Int)] (mW mi k) (Value.string s_1) ∧
      (SV.val (Value.func (Fn.yield l) #[] #[]) = SV.val (Value.func (Fn.yield l) #[] #[]) ∧ true = true) ∧
      (SV.val (Value.string s_1) = SV.val (Value.string (endP xs i)) ∧ true = true) ∧
      (SV.val (Value.agg #[Value.int IntKind.i64 n, Value.string s, Value.int IntKind.i64 n_1]) =
      SV.val (Value.agg #[Value.int IntKind.i64 xs[i].gr, Value.string xs[i].fr, Value.int IntKind.i64 xs[i].ep]) ∧
      true = true) ∧
      (SV.val (Value.int IntKind.i64 (↑i : Int)) = SV.val (Value.int IntKind.i64 (↑i : Int)) ∧ true = true) ∧
      (SV.val (Value.int IntKind.i64 (↑xs.length : Int)) = SV.val (Value.int IntKind.i64 (↑xs.length : Int)) ∧ true = true) ∧
      (SV.val (Value.slice a xs.length c) = SV.val (Value.slice a xs.length c) ∧ true = true) ∧
      (SV.val (Value.func (Fn.yield l) #[] #[]) = SV.val (Value.func (Fn.yield l) #[] #[]) ∧ true = true) ∧
      (SV.val (Value.pointer (some { block := kb, off := (0 : Nat) : Addr })) =
      SV.val (Value.pointer (some { block := kb, off := (0 : Nat) : Addr })) ∧
      true = true) ∧
      True) (by kernel_rfl) ?_
  obtain ⟨b, o, rfl, hc⟩ := hr.cells (by rw [pl_len]; omega)
  have he : endI xs (i : Int) = endP xs i := by simp [endI]
  refine ⟨b, o, rfl, by omega, xs[i].gr, xs[i].fr, xs[i].ep, ?_, rfl, some ⟨b, o, none⟩, xs.length, c, ⟨fun j hj => ?_⟩, endP xs i, ?_, ?_⟩
  · have := pl_at hc hi
    simp only [Int.toNat_natCast]
    exact ⟨this.out⟩
  · have hj : j = 0 := by simpa using hj
    subst hj
    exact hb
  · rw [← he]
    exact pl_end xs _ c i ⟨by omega, by omega⟩ (by omega) _ hr
  · simp

theorem all_it {kb : Nat} {a : Option Addr} {c : Nat} {mi : M} (xs : List Pl) (hn : xs.length ≤ 4611686018427387904) (hb : mi.π kb 0 = some (.slice a xs.length c)) (hr : Row mi a (pls xs)) :
    IterC Try.prog 37 [.pointer (some ⟨kb, 0, none⟩)] mi (fun e : ByteArray × Pl => [.string e.1, plv e.2]) (endsL xs) := ⟨fun args w => callFunc_run Try.func37 (by kernel_rfl) (by kernel_rfl) args w, fun n l w J Jx h2n hok hJ hJx hY h0 => by
  have hlen : (endsL xs).length = xs.length := by simp [endsL]
  refine callsIn_of_wp Try.func37 it_eq trivial ?_ rfl
  refine wpIn_seq (start_wp (N := 20) (r := none) (args := [.func (.yield l) #[] #[], .pointer (some ⟨kb, 0, none⟩)]) (mi := mi) (ann := noAnn) (by kernel_rfl) (by kernel_rfl) (by simp) (hok _ _ h0) (it_r0 hb) fun e st' m' a' w' hk R hg => ?_)
  cases e with
  | normal =>
    have h0' := hJ _ _ _ h0 hg
    have S0 : Slots 20 (itL l kb a xs.length c 0) a' := R.slots hk
    clear hk R hg h0 w
    refine wpIn_block (wp_loop_ghost (r := none) (fun i a1 w1 => i ≤ xs.length ∧ Slots 20 (itL l kb a xs.length c i) a1 ∧ J ((endsL xs).take i) w1) (fun i => xs.length - i) 0 ⟨by omega, S0, by simpa using h0'⟩ fun i a1 w1 ⟨hi, hs, hj⟩ => ?_)
    refine wpIn_seq (piece_wp (r := none) (ann := noAnn) (by kernel_rfl) (by kernel_rfl) hs (hok _ _ hj) (it_r1 hi) fun e st2 m2 a2 w2 hk R2 hg2 => ?_)
    cases e with
    | normal =>
      have hj2 := hJ _ _ _ hj hg2
      have S2 := R2.slots (l := (8, .bool (decide ((i : Int) < xs.length))) :: itL l kb a xs.length c i) hk
      have h8 : a2.eval (.tmp 8) = .bool (decide ((i : Int) < xs.length)) := S2.slots 8 _ rfl
      have S2' : Slots 20 (itL l kb a xs.length c i) a2 := R2.slots (l := itL l kb a xs.length c i) hk.2
      refine wpIn_seq ?_
      by_cases hlt : i < xs.length
      · have h8t : a2.eval (.tmp 8) = .bool true := by rw [h8]; simp; omega
        refine wpIn_cond_true h8t (wpIn_skip ?_)
        show Code.wpIn _ _ _ _ _ _ _
        refine wpIn_seq (wpIn_block (wpIn_seq ?_))
        refine vcCode_wp (r := none) (cL itX) [] _ _ _ a2 w2 _ (by kernel_rfl) (by kernel_rfl) (S2'.rep (hok _ _ hj2)) (vc_seq (it_r23 (l := l) (k := w2.heap.size) hn hlt hb (hr.mW (hok _ _ hj2)))) fun e st3 m3 a3 w3 hk3 R3 => ?_
        cases e with
        | normal =>
          refine wpIn_seq (region_yield (l := l) (v1 := .string (endP xs i)) (v2 := plv xs[i]) (ty := 12) (x1 := .tmp 15) (x2 := .tmp 16) (dy := 17) (dz := 18) (by kernel_rfl) R3 hk3 rfl rfl rfl rfl rfl rfl rfl rfl (fun _ _ => rfl) fun st4 m4 a4 w4 hk4 R4 => ?_)
          have hg4 := R4.grown
          have hj4 := hJ _ _ _ hj2 hg4
          have S4 := R4.slots (l := (12, .func (.yield l) #[] #[]) :: (15, .string (endP xs i)) :: (16, plv xs[i]) :: itL l kb a xs.length c i) hk4
          refine ⟨⟨S4.slots 12 _ rfl, S4.slots 15 _ rfl, S4.slots 16 _ rfl⟩, ?_⟩
          have hp : (endsL xs).take i ++ [(endP xs i, xs[i])] <+: endsL xs := by
            rw [← ends_take hlt]; exact List.take_prefix _ _
          obtain ⟨fn, tmps, assign, body, hrun, hR⟩ := hY _ _ _ hj4 hp
          refine ⟨fn, tmps, assign, body, hrun, hR.mono ?_⟩
          rintro e5 w5 (⟨rfl, hj5⟩ | ⟨rfl, hj5⟩)
          · refine ⟨true, rfl, ?_⟩
            have S5 : Slots 20 ((18, .bool (!true)) :: itL l kb a xs.length c i) _ := R4.putN (d1 := 17) (d2 := 18) (u1 := .bool true) (u2 := .bool (!true)) (l := itL l kb a xs.length c i) hk4.2.2.2 (by omega) (by omega) rfl (by omega)
            have h18 := S5.slots 18 _ rfl
            refine wpIn_cond_false h18 (wpIn_skip ?_)
            show Code.wpIn _ _ _ _ _ _ _
            have S6 : Slots 20 (itL l kb a xs.length c i) _ := S5.tail rfl
            rw [← ends_take hlt] at hj5
            refine piece_wp (r := none) (ann := noAnn) (by kernel_rfl) (by kernel_rfl) S6 (hok _ _ hj5) (it_r4 hn hlt) fun e st7 m7 a7 w7 hk7 R7 hg7 => ?_
            cases e with
            | normal => exact ⟨i + 1, ⟨hlt, R7.slots hk7, hJ _ _ _ hj5 hg7⟩, by omega⟩
            | _ => exact hk7.elim
          · refine ⟨false, rfl, ?_⟩
            have S5 : Slots 20 ((18, .bool (!false)) :: itL l kb a xs.length c i) _ := R4.putN (d1 := 17) (d2 := 18) (u1 := .bool false) (u2 := .bool (!false)) (l := itL l kb a xs.length c i) hk4.2.2.2 (by omega) (by omega) rfl (by omega)
            have h18 := S5.slots 18 _ rfl
            refine wpIn_cond_true h18 (wpIn_ret ?_)
            exact ⟨S5.defers, _, results_none rfl _ _ _, ⟨_, rfl⟩, .inr ⟨_, hj5⟩⟩
        | _ => exact hk3.elim
      · have h8f : a2.eval (.tmp 8) = .bool false := by rw [h8]; simp; omega
        refine wpIn_cond_false h8f (wpIn_exit ?_)
        obtain rfl : i = xs.length := by omega
        rw [← hlen, List.take_length] at hj2
        exact ⟨S2'.defers, _, results_none rfl _ _ _, ⟨_, rfl⟩, .inl hj2⟩
    | _ => exact hk.elim
  | _ => exact hk.elim⟩

end Go.Proofs.Ytpnpebefcmgjoaa
set_option linter.unusedVariables false
set_option linter.unusedSimpArgs false
namespace Go.Proofs.Ytpnpebefcmgjoaa
open Go.Vc Go.RowKit
set_option maxRecDepth 100000

def AllR (m : M) (l : List Pl) (v : Value) (m' : M) : Prop :=
  ∃ kb a c, v = .func (.func 37) #[] #[.pointer (some ⟨kb, 0, none⟩)] ∧ (m.sz ≤ kb ∧ kb < m'.sz) ∧ m'.π kb 0 = some (.slice a l.length c) ∧ Row m' a (pls l)

theorem rg_all (l : List Pl) (a : Option Addr) (c : Nat) (hn : l.length ≤ 4398046511000) (h0 : a = none → l = []) (m : M) (h : Row m a (pls l)) :
    Vc.Spec Try.prog 31 [.slice a l.length c] m (AllR m l) := by
  refine Vc.Spec.of_vc Try.func31 (ann := noAnn) ?_
  refine vc_by (X :=
      true = true ∧
      ∃ (S' : Nat → Prop),
      (∀ (b : Nat), S' b → m.uf b ∧ (m.sz ≤ b ∨ False)) ∧
      ∀ (n : Nat),
      m.sz ≤ n →
      SpecW Try.prog (35 : Nat) [Value.slice a l.length c] { π := m.π, sz := n, uf := m.uf : M } S' fun (v : Value) (m' : M) =>
      ∃ (a : Option Addr),
      ∃ (n : Nat),
      ∃ (c : Nat),
      v = Value.slice a n c ∧
      ∀ (b : Nat),
      Fresh m.sz m' b →
      Done (AllR m l (Value.func (Fn.func (37 : Nat)) #[] #[Value.pointer (some { block := b, off := (0 : Nat) : Addr })]) (m'.newBlock b [Value.slice a n c]))) (by kernel_rfl) ?_
  refine ⟨rfl, _, noS, fun n hn2 => (pl_clone l a c hn h0 _ (h.sz hn2)).monoW fun v m' hag ⟨a', c', hv, hr⟩ => ⟨a', l.length, c', hv, fun b hb => ⟨⟨b, a', c', rfl, ⟨hb.lo, by simp only [M.newBlock]; omega⟩, ?_, ?_⟩⟩⟩⟩
  · have := (cellsAt_new (m := m') (b := b) (cs := [.slice a' l.length c'])).out 0 (by simp)
    simpa using this
  · exact (hr.newFresh hb).row

/-- the greatest epoch -/
def epochL (l : List Pl) : Int := l.foldl (fun e p => max e p.ep) 0

structure EpX where
  m : M
  e : Int

theorem ends_snd (l : List Pl) : (endsL l).map Prod.snd = l := by
  apply List.ext_getElem
  · simp [endsL]
  · intro i h1 h2
    simp [endsL]

theorem rg_epoch (l : List Pl) (a : Option Addr) (c : Nat) (hl : l.length ≤ 4398046511000) (h0 : a = none → l = []) (m : M) (h : Row m a (pls l)) :
    QSpec Try.prog 23 [.slice a l.length c] m (I (epochL l)) := by
  refine QSpec.of_vc Try.func23 (ann := fun n _ => { A := EpX, inv := fun _ => True, st := fun _ => [], own := fun _ => [], m := fun x => x.m, μ := fun _ => 0, esc := [1], sh := [.str, .agg [.int .i64, .str, .int .i64]] }) fun n hn => ?_
  refine vc_by (X :=
      true = true ∧
      ∃ (S' : Nat → Prop),
      (∀ (b : Nat), S' b → m.uf b ∧ (n ≤ b ∨ False)) ∧
      ∀ (n_1 : Nat),
      n ≤ n_1 →
      SpecW Try.prog (31 : Nat) [Value.slice a l.length c] { π := m.π, sz := n_1, uf := m.uf : M } S' fun (v : Value) (m' : M) =>
      ∃ (f : FuncId),
      ∃ (caps : List Value),
      v = Value.func (Fn.func f) #[] caps.toArray ∧
      ∀ (b : Nat),
      Fresh n m' b →
      ∃ (gf : FuncId),
      ∃ (caps_1 : List Value),
      Value.func (Fn.func f) #[] caps.toArray = Value.func (Fn.func gf) #[] caps_1.toArray ∧
      ∃ (E : Type),
      ∃ (enc : E → List Value),
      ∃ (xs : List E),
      ∃ (mi : M),
      ∃ (J : List E → EpX → Prop),
      IterC Try.prog gf caps_1 mi enc xs ∧
      (∀ (e : E),
      (enc e).length = (2 : Nat) ∧
      ∃ (s : ByteArray),
      ∃ (n : Int),
      ∃ (s_1 : ByteArray),
      ∃ (n_2 : Int), enc e = [Value.string s, Value.agg #[Value.int IntKind.i64 n, Value.string s_1, Value.int IntKind.i64 n_2]]) ∧
      (∃ (x : EpX), (J [] x ∧ True) ∧ m'.newBlock b [Value.int IntKind.i64 (0 : Int)] = x.m) ∧
      (∀ (pre : List E) (x : EpX), J pre x → True → Kn mi x.m) ∧
      (∀ (pre : List E) (e : E) (x : EpX),
      pre ++ [e] <+: xs →
      J pre x →
      True →
      ∀ (s : ByteArray) (n_2 : Int) (s_1 : ByteArray) (n_3 : Int),
      enc e = [Value.string s, Value.agg #[Value.int IntKind.i64 n_2, Value.string s_1, Value.int IntKind.i64 n_3]] →
      ∃ (n_4 : Int),
      CellsAt x.m b (0 : Nat) [Value.int IntKind.i64 n_4] ∧
      Wr n (fun (x : Nat) => False) x.m b (0 : Nat) #[Value.int IntKind.i64 (if n_3 > n_4 then n_3 else n_4)].size ∧
      ∃ (x' : EpX),
      (J (pre ++ [e]) x' ∧ True) ∧
      x.m.setCells b (0 : Nat) [Value.int IntKind.i64 (if n_3 > n_4 then n_3 else n_4)] = x'.m) ∧
      ∀ (x : EpX),
      J xs x →
      True →
      ∃ (n : Int),
      CellsAt x.m b (0 : Nat) [Value.int IntKind.i64 n] ∧ Done (Value.int IntKind.i64 n = Value.int IntKind.i64 (epochL l))) (by kernel_rfl) ?_
  refine ⟨rfl, _, noS, fun n1 hn1 => (rg_all l a c hl h0 _ ((h.sz hn).sz hn1)).monoW fun v m' hag ⟨kb, a', c', hv, hkb, hk0, hr⟩ => ⟨37, [.pointer (some ⟨kb, 0, none⟩)], hv, fun b hb => ⟨37, [.pointer (some ⟨kb, 0, none⟩)], rfl, ByteArray × Pl, fun e => [.string e.1, plv e.2], endsL l, m',
    fun pre x => x.m.π b 0 = some (I x.e) ∧ x.m.uf b ∧ (∀ b' o, b' ≠ b → x.m.π b' o = m'.π b' o) ∧ x.e = pre.foldl (fun e (p : ByteArray × Pl) => max e p.2.ep) 0, all_it l (by omega) hk0 hr, fun e => ⟨rfl, _, _, _, _, rfl⟩, ⟨⟨m'.newBlock b [I 0], 0⟩, ⟨⟨?_, ?_, ?_, rfl⟩, trivial⟩, rfl⟩, ?_, ?_, ?_⟩⟩⟩
  · simp [M.newBlock]
  · simp [M.newBlock]
  · intro b' o hne
    rw [newBlock_other hne]
  · rintro pre x ⟨h1, h2, h3, h4⟩ - b' o u hu
    rw [h3 b' o (fun e => by subst e; rw [hb.cells] at hu; cases hu)]
    exact hu
  · rintro pre e x - ⟨h1, h2, h3, h4⟩ - s n2 s1 n3 he
    simp only [List.cons.injEq, Value.string.injEq, Value.agg.injEq, Array.mk.injEq, Value.int.injEq, true_and, and_true] at he
    obtain ⟨he1, he2, he3, he4⟩ := he
    have hmx : (if n3 > x.e then n3 else x.e) = max x.e e.2.ep := by rw [he4]; split <;> omega
    refine ⟨x.e, ⟨fun j hj => ?_⟩, ⟨.inl hb.lo, h2, fun j hj => ?_⟩, ⟨x.m.setCells b 0 [I (if n3 > x.e then n3 else x.e)], max x.e e.2.ep⟩, ⟨⟨?_, h2, fun b' o hne => ?_, ?_⟩, trivial⟩, rfl⟩
    · have hj : j = 0 := by simpa using hj
      subst hj
      exact h1
    · have hj : j = 0 := by simpa using hj
      subst hj
      exact ⟨_, h1⟩
    · rw [hmx]
      simp [M.setCells]
    · rw [← h3 b' o hne]
      simp [M.setCells, hne]
    · rw [List.foldl_append, ← h4]
      rfl
  · rintro x ⟨h1, h2, h3, h4⟩ -
    refine ⟨x.e, ⟨fun j hj => ?_⟩, ⟨?_⟩⟩
    · have hj : j = 0 := by simpa using hj
      subst hj
      exact h1
    · rw [h4, epochL]
      conv => rhs; rw [← ends_snd l, List.foldl_map]

end Go.Proofs.Ytpnpebefcmgjoaa
set_option linter.unusedVariables false
set_option linter.unusedSimpArgs false
namespace Go.Proofs.Ytpnpebefcmgjoaa
open Go.Vc Go.RowKit
set_option maxRecDepth 100000

def emptyB (s : ByteArray) : Bool := s.toList == []

def withinB (lo hi key : ByteArray) : Bool := !ltS key lo && (emptyB hi || ltS key hi)

theorem rg_within (lo hi key : ByteArray) (m : M) :
    QSpec Try.prog 13 [.string lo, .string hi, .string key] m (.bool (withinB lo hi key)) := by
  refine QSpec.of_vc Try.func13 (ann := fun _ => noAnn) fun n hn => ?_
  refine vc_by (X :=
      true = true ∧
      ifB (Op.bytesLess lo.toList key.toList || lo.toList == key.toList)
      (ifB (hi.toList == []) (Done (Value.bool true = Value.bool (withinB lo hi key))) (Done (Value.bool (Op.bytesLess key.toList hi.toList) = Value.bool (withinB lo hi key))))
      (Done (Value.bool false = Value.bool (withinB lo hi key)))) (by kernel_rfl) ?_
  rw [ltS_leq]
  refine ⟨rfl, ifB_intro (fun h1 => ifB_intro (fun h2 => ⟨?_⟩) (fun h2 => ⟨?_⟩)) (fun h1 => ⟨?_⟩)⟩
  · simp only [withinB, h1, emptyB, h2]; rfl
  · simp only [withinB, h1, emptyB, h2]; rfl
  · simp only [withinB, h1]; rfl

theorem rf_within (lo hi key : ByteArray) (m : M) :
    QSpec Try.prog 14 [.string lo, .string hi, .string key] m (.bool (withinB lo hi key)) := by
  refine QSpec.of_vc Try.func14 (ann := fun _ => noAnn) fun n hn => ?_
  refine vc_by (X :=
      true = true ∧
      ifB (!Op.bytesLess key.toList lo.toList)
      (ifB (hi.toList == []) (Done (Value.bool true = Value.bool (withinB lo hi key))) (Done (Value.bool (Op.bytesLess key.toList hi.toList) = Value.bool (withinB lo hi key))))
      (Done (Value.bool false = Value.bool (withinB lo hi key)))) (by kernel_rfl) ?_
  refine ⟨rfl, ifB_intro (fun h1 => ifB_intro (fun h2 => ⟨?_⟩) (fun h2 => ⟨?_⟩)) (fun h1 => ⟨?_⟩)⟩
  · simp only [withinB, ltS, h1, emptyB, h2]; rfl
  · simp only [withinB, ltS, h1, emptyB, h2]; rfl
  · simp only [withinB, ltS, h1]; rfl

def findL (key : ByteArray) : List Pl → Nat → Nat → Nat
  | [], _, at' => at'
  | x :: xs, i, at' => findL key xs (i + 1) (if ltS key x.fr then at' else i)

def hdF : List Pl → ByteArray
  | [] => .empty
  | x :: _ => x.fr

def rfindL (key : ByteArray) : List Pl → Nat → Nat
  | [], _ => 0
  | x :: xs, i => if withinB x.fr (hdF xs) key then i else rfindL key xs (i + 1)

def ofI (l : List Pl) (g : Int) : Nat := l.findIdx fun x => decide (x.gr = g)

def ofV (l : List Pl) (g : Int) : Value := if ofI l g < l.length then .tuple #[I (ofI l g), .bool true] else .tuple #[I 0, .bool false]

theorem pl_grc {m : M} {b o i : Nat} {l : List Pl} (h : CellsAt m b o (pls l)) (hi : i < l.length) : CellsAt m b (o + i * 3 + 0) [I l[i].gr] :=
  ⟨fun j hj => by
    have hj : j = 0 := by simpa using hj
    subst hj
    have := (pl_at h hi).out 0 (by simp [encPl])
    simpa [encPl] using this⟩

theorem pl_frc {m : M} {b o i : Nat} {l : List Pl} (h : CellsAt m b o (pls l)) (hi : i < l.length) : CellsAt m b (o + i * 3 + 1) [.string l[i].fr] :=
  ⟨fun j hj => by
    have hj : j = 0 := by simpa using hj
    subst hj
    have := (pl_at h hi).out 1 (by simp [encPl])
    simpa [encPl] using this⟩

theorem wrap1 {k n : Nat} (h : k < n) (hn : n ≤ 9223372036854775807) : IntKind.i64.wrap ((k : Int) + 1) = ((k + 1 : Nat) : Int) := by
  rw [IntKind.wrap_i64]; omega

theorem hdF_drop (l : List Pl) (k : Nat) : hdF (l.drop (k + 1)) = endP l k := by
  unfold endP
  cases h : l[k + 1]? with
  | none => rw [List.drop_eq_nil_of_le (by simpa using h)]; rfl
  | some x =>
    obtain ⟨hlt, e⟩ := List.getElem?_eq_some_iff.1 h
    rw [List.drop_eq_getElem_cons hlt, e]; rfl

theorem ofI_at {l : List Pl} {g : Int} {k : Nat} (hk : k < l.length) (hg : l[k].gr = g) (h : ∀ j (hj : j < l.length), j < k → l[j].gr ≠ g) : ofI l g = k :=
  (List.findIdx_eq hk).2 ⟨by simp [hg], fun j hj => by simpa using h j (by omega) hj⟩

theorem ofI_no {l : List Pl} {g : Int} (h : ∀ j (hj : j < l.length), j < l.length → l[j].gr ≠ g) : ofI l g = l.length :=
  List.findIdx_eq_length.2 fun x hx => by
    obtain ⟨j, hj, rfl⟩ := List.getElem_of_mem hx
    simpa using h j hj hj

structure FdX where
  i : Nat
  at' : Nat

theorem rg_find (l : List Pl) (a : Option Addr) (c : Nat) (key : ByteArray) (hl : l.length ≤ 9223372036854775807) (m : M) (h : Row m a (pls l)) :
    QSpec Try.prog 16 [.slice a l.length c, .string key] m (I (findL key l 0 0)) := by
  refine QSpec.of_vc Try.func16 (ann := fun n _ => { A := FdX, inv := fun x => x.i ≤ l.length ∧ findL key (l.drop x.i) x.i x.at' = findL key l 0 0, st := fun x => [(10, .val (I x.i)), (9, .val (I l.length)), (8, .val (.slice a l.length c)), (1, .val (.string key)), (5, .val (I x.at'))], own := fun _ => [], m := fun _ => { m with sz := n }, μ := fun x => l.length - x.i }) fun n hn => ?_
  refine vc_by (X :=
      true = true ∧
      (∃ (a_1 : FdX),
      (a_1.i ≤ l.length ∧ findL key (List.drop a_1.i l) a_1.i a_1.at' = findL key l (0 : Nat) (0 : Nat)) ∧
      { π := m.π, sz := n, uf := m.uf : M } = { π := m.π, sz := n, uf := m.uf : M } ∧
      ((SV.val (Value.int IntKind.i64 (0 : Int)) = SV.val (Value.int IntKind.i64 (↑a_1.i : Int)) ∧ true = true) ∧
      (SV.val (Value.int IntKind.i64 (↑l.length : Int)) = SV.val (Value.int IntKind.i64 (↑l.length : Int)) ∧ true = true) ∧
      (SV.val (Value.slice a l.length c) = SV.val (Value.slice a l.length c) ∧ true = true) ∧
      (SV.val (Value.string key) = SV.val (Value.string key) ∧ true = true) ∧
      (SV.val (Value.int IntKind.i64 (0 : Int)) = SV.val (Value.int IntKind.i64 (↑a_1.at' : Int)) ∧ true = true) ∧ True) ∧
      True) ∧
      ∀ (a_1 : FdX),
      a_1.i ≤ l.length ∧ findL key (List.drop a_1.i l) a_1.i a_1.at' = findL key l (0 : Nat) (0 : Nat) →
      ifB (decide ((↑a_1.i : Int) < (↑l.length : Int)))
      (∃ (b : Nat),
      ∃ (off : Nat),
      a = some { block := b, off := off : Addr } ∧
      ((0 : Int) ≤ (↑a_1.i : Int) ∧ (↑a_1.i : Int) < (↑l.length : Int)) ∧
      ∃ (n_1 : Int),
      ∃ (s : ByteArray),
      ∃ (n_2 : Int),
      CellsAt { π := m.π, sz := n, uf := m.uf : M } b (off + (↑a_1.i : Int).toNat * (3 : Nat))
      [Value.int IntKind.i64 n_1, Value.string s, Value.int IntKind.i64 n_2] ∧
      ifB (Op.bytesLess s.toList key.toList || s.toList == key.toList)
      (∃ (a' : FdX),
      ((a'.i ≤ l.length ∧ findL key (List.drop a'.i l) a'.i a'.at' = findL key l (0 : Nat) (0 : Nat)) ∧
      { π := m.π, sz := n, uf := m.uf : M } = { π := m.π, sz := n, uf := m.uf : M } ∧
      ((SV.val (Value.int IntKind.i64 (IntKind.i64.wrap ((↑a_1.i : Int) + (1 : Int)))) = SV.val (Value.int IntKind.i64 (↑a'.i : Int)) ∧ true = true) ∧
      (SV.val (Value.int IntKind.i64 (↑l.length : Int)) = SV.val (Value.int IntKind.i64 (↑l.length : Int)) ∧ true = true) ∧
      (SV.val (Value.slice a l.length c) = SV.val (Value.slice a l.length c) ∧ true = true) ∧
      (SV.val (Value.string key) = SV.val (Value.string key) ∧ true = true) ∧
      (SV.val (Value.int IntKind.i64 (↑a_1.i : Int)) = SV.val (Value.int IntKind.i64 (↑a'.at' : Int)) ∧ true = true) ∧ True) ∧
      True) ∧
      l.length - a'.i < l.length - a_1.i)
      (∃ (a' : FdX),
      ((a'.i ≤ l.length ∧ findL key (List.drop a'.i l) a'.i a'.at' = findL key l (0 : Nat) (0 : Nat)) ∧
      { π := m.π, sz := n, uf := m.uf : M } = { π := m.π, sz := n, uf := m.uf : M } ∧
      ((SV.val (Value.int IntKind.i64 (IntKind.i64.wrap ((↑a_1.i : Int) + (1 : Int)))) = SV.val (Value.int IntKind.i64 (↑a'.i : Int)) ∧ true = true) ∧
      (SV.val (Value.int IntKind.i64 (↑l.length : Int)) = SV.val (Value.int IntKind.i64 (↑l.length : Int)) ∧ true = true) ∧
      (SV.val (Value.slice a l.length c) = SV.val (Value.slice a l.length c) ∧ true = true) ∧
      (SV.val (Value.string key) = SV.val (Value.string key) ∧ true = true) ∧
      (SV.val (Value.int IntKind.i64 (↑a_1.at' : Int)) = SV.val (Value.int IntKind.i64 (↑a'.at' : Int)) ∧ true = true) ∧ True) ∧
      True) ∧
      l.length - a'.i < l.length - a_1.i))
      (Done (Value.int IntKind.i64 (↑a_1.at' : Int) = Value.int IntKind.i64 (↑(findL key l (0 : Nat) (0 : Nat)) : Int)))) (by kernel_rfl) ?_
  refine ⟨rfl, ⟨⟨0, 0⟩, ⟨Nat.zero_le _, rfl⟩, by simp⟩, fun ⟨k, q⟩ ⟨hk, hf⟩ => ifB_intro (fun h1 => ?_) (fun h1 => ⟨?_⟩)⟩
  · have hlt : k < l.length := by simpa using h1
    obtain ⟨b, o, rfl, hc⟩ := (h.sz hn).cells (by rw [pl_len]; omega)
    simp only at hf hk ⊢
    rw [List.drop_eq_getElem_cons hlt] at hf
    simp only [findL] at hf
    refine ⟨b, o, rfl, by omega, _, _, _, by simpa using pl_at hc hlt, ?_⟩
    rw [ltS_leq, wrap1 hlt hl]
    refine ifB_intro (fun h2 => ⟨⟨k + 1, k⟩, ⟨⟨by simp only; omega, ?_⟩, by simp⟩, by simp only; omega⟩) (fun h2 => ⟨⟨k + 1, q⟩, ⟨⟨by simp only; omega, ?_⟩, by simp⟩, by simp only; omega⟩)
    · rw [← hf]; simp at h2; simp [h2]
    · rw [← hf]; simp at h2; simp [h2]
  · have hk : k ≤ l.length := hk
    have : k = l.length := by simp at h1; omega
    subst this
    simp only [List.drop_length, findL] at hf
    rw [hf]

theorem rg_of (l : List Pl) (a : Option Addr) (c : Nat) (g : Int) (hl : l.length ≤ 9223372036854775807) (m : M) (h : Row m a (pls l)) :
    QSpec Try.prog 11 [.slice a l.length c, I g] m (ofV l g) := by
  refine QSpec.of_vc Try.func11 (ann := fun n _ => { A := Nat, inv := fun k => k ≤ l.length ∧ ∀ j (hj : j < l.length), j < k → l[j].gr ≠ g, st := fun k => [(10, .val (I k)), (9, .val (I l.length)), (8, .val (.slice a l.length c)), (1, .val (I g))], own := fun _ => [], m := fun _ => { m with sz := n }, μ := fun k => l.length - k }) fun n hn => ?_
  refine vc_by (X :=
      true = true ∧
      (∃ (a_1 : Nat),
      (a_1 ≤ l.length ∧ ∀ (j : Nat) (hj : j < l.length), j < a_1 → l[j].gr ≠ g) ∧
      { π := m.π, sz := n, uf := m.uf : M } = { π := m.π, sz := n, uf := m.uf : M } ∧
      ((SV.val (Value.int IntKind.i64 (0 : Int)) = SV.val (Value.int IntKind.i64 (↑a_1 : Int)) ∧ true = true) ∧
      (SV.val (Value.int IntKind.i64 (↑l.length : Int)) = SV.val (Value.int IntKind.i64 (↑l.length : Int)) ∧ true = true) ∧
      (SV.val (Value.slice a l.length c) = SV.val (Value.slice a l.length c) ∧ true = true) ∧
      (SV.val (Value.int IntKind.i64 g) = SV.val (Value.int IntKind.i64 g) ∧ true = true) ∧ True) ∧
      True) ∧
      ∀ (a_1 : Nat),
      (a_1 ≤ l.length ∧ ∀ (j : Nat) (hj : j < l.length), j < a_1 → l[j].gr ≠ g) →
      ifB (decide ((↑a_1 : Int) < (↑l.length : Int)))
      (∃ (b : Nat),
      ∃ (off : Nat),
      a = some { block := b, off := off : Addr } ∧
      ((0 : Int) ≤ (↑a_1 : Int) ∧ (↑a_1 : Int) < (↑l.length : Int)) ∧
      ∃ (n_1 : Int),
      ∃ (s : ByteArray),
      ∃ (n_2 : Int),
      CellsAt { π := m.π, sz := n, uf := m.uf : M } b (off + (↑a_1 : Int).toNat * (3 : Nat))
      [Value.int IntKind.i64 n_1, Value.string s, Value.int IntKind.i64 n_2] ∧
      ifB (n_1 == g) (Done (Value.tuple #[Value.int IntKind.i64 (↑a_1 : Int), Value.bool true] = ofV l g))
      (∃ (a' : Nat),
      ((a' ≤ l.length ∧ ∀ (j : Nat) (hj : j < l.length), j < a' → l[j].gr ≠ g) ∧
      { π := m.π, sz := n, uf := m.uf : M } = { π := m.π, sz := n, uf := m.uf : M } ∧
      ((SV.val (Value.int IntKind.i64 (IntKind.i64.wrap ((↑a_1 : Int) + (1 : Int)))) = SV.val (Value.int IntKind.i64 (↑a' : Int)) ∧ true = true) ∧
      (SV.val (Value.int IntKind.i64 (↑l.length : Int)) = SV.val (Value.int IntKind.i64 (↑l.length : Int)) ∧ true = true) ∧
      (SV.val (Value.slice a l.length c) = SV.val (Value.slice a l.length c) ∧ true = true) ∧
      (SV.val (Value.int IntKind.i64 g) = SV.val (Value.int IntKind.i64 g) ∧ true = true) ∧ True) ∧
      True) ∧
      l.length - a' < l.length - a_1))
      (Done (Value.tuple #[Value.int IntKind.i64 (0 : Int), Value.bool false] = ofV l g))) (by kernel_rfl) ?_
  refine ⟨rfl, ⟨0, ⟨by omega, fun j hj hk => by omega⟩, by simp⟩, fun k ⟨hk, hf⟩ => ifB_intro (fun h1 => ?_) (fun h1 => ⟨?_⟩)⟩
  · have hlt : k < l.length := by simpa using h1
    obtain ⟨b, o, rfl, hc⟩ := (h.sz hn).cells (by rw [pl_len]; omega)
    refine ⟨b, o, rfl, by omega, _, _, _, by simpa using pl_at hc hlt, ?_⟩
    rw [wrap1 hlt hl]
    refine ifB_intro (fun h2 => ⟨?_⟩) (fun h2 => ⟨k + 1, ⟨⟨by omega, fun j hj hj2 => ?_⟩, by simp⟩, by omega⟩)
    · have e := ofI_at hlt (by simpa using h2) hf
      simp [ofV, e, hlt]
    · by_cases e : j = k
      · subst e; simpa using h2
      · exact hf j hj (by omega)
  · have : k = l.length := by simp at h1; omega
    subst this
    simp [ofV, ofI_no hf]

theorem rf_of (l : List Pl) (a : Option Addr) (c : Nat) (g : Int) (hl : l.length ≤ 9223372036854775807) (m : M) (h : Row m a (pls l)) :
    QSpec Try.prog 20 [.slice a l.length c, I g] m (ofV l g) := by
  refine QSpec.of_vc Try.func20 (ann := fun n _ => { A := Nat, inv := fun k => k ≤ l.length ∧ ∀ j (hj : j < l.length), j < k → l[j].gr ≠ g, st := fun k => [(6, .val (I k)), (0, .val (.slice a l.length c)), (1, .val (I g))], own := fun _ => [], m := fun _ => { m with sz := n }, μ := fun k => l.length - k }) fun n hn => ?_
  refine vc_by (X :=
      true = true ∧
      (∃ (a_1 : Nat),
      (a_1 ≤ l.length ∧ ∀ (j : Nat) (hj : j < l.length), j < a_1 → l[j].gr ≠ g) ∧
      { π := m.π, sz := n, uf := m.uf : M } = { π := m.π, sz := n, uf := m.uf : M } ∧
      ((SV.val (Value.int IntKind.i64 (0 : Int)) = SV.val (Value.int IntKind.i64 (↑a_1 : Int)) ∧ true = true) ∧
      (SV.val (Value.slice a l.length c) = SV.val (Value.slice a l.length c) ∧ true = true) ∧
      (SV.val (Value.int IntKind.i64 g) = SV.val (Value.int IntKind.i64 g) ∧ true = true) ∧ True) ∧
      True) ∧
      ∀ (a_1 : Nat),
      (a_1 ≤ l.length ∧ ∀ (j : Nat) (hj : j < l.length), j < a_1 → l[j].gr ≠ g) →
      ifB (decide ((↑a_1 : Int) < (↑l.length : Int)))
      (∃ (b : Nat),
      ∃ (off : Nat),
      a = some { block := b, off := off : Addr } ∧
      ((0 : Int) ≤ (↑a_1 : Int) ∧ (↑a_1 : Int) < (↑l.length : Int)) ∧
      ∃ (n_1 : Int),
      CellsAt { π := m.π, sz := n, uf := m.uf : M } b (off + (↑a_1 : Int).toNat * (3 : Nat) + (0 : Nat)) [Value.int IntKind.i64 n_1] ∧
      ifB (n_1 == g) (Done (Value.tuple #[Value.int IntKind.i64 (↑a_1 : Int), Value.bool true] = ofV l g))
      (∃ (a' : Nat),
      ((a' ≤ l.length ∧ ∀ (j : Nat) (hj : j < l.length), j < a' → l[j].gr ≠ g) ∧
      { π := m.π, sz := n, uf := m.uf : M } = { π := m.π, sz := n, uf := m.uf : M } ∧
      ((SV.val (Value.int IntKind.i64 (IntKind.i64.wrap ((↑a_1 : Int) + (1 : Int)))) = SV.val (Value.int IntKind.i64 (↑a' : Int)) ∧ true = true) ∧
      (SV.val (Value.slice a l.length c) = SV.val (Value.slice a l.length c) ∧ true = true) ∧
      (SV.val (Value.int IntKind.i64 g) = SV.val (Value.int IntKind.i64 g) ∧ true = true) ∧ True) ∧
      True) ∧
      l.length - a' < l.length - a_1))
      (Done (Value.tuple #[Value.int IntKind.i64 (0 : Int), Value.bool false] = ofV l g))) (by kernel_rfl) ?_
  refine ⟨rfl, ⟨0, ⟨by omega, fun j hj hk => by omega⟩, by simp⟩, fun k ⟨hk, hf⟩ => ifB_intro (fun h1 => ?_) (fun h1 => ⟨?_⟩)⟩
  · have hlt : k < l.length := by simpa using h1
    obtain ⟨b, o, rfl, hc⟩ := (h.sz hn).cells (by rw [pl_len]; omega)
    refine ⟨b, o, rfl, by omega, _, by simpa using pl_grc hc hlt, ?_⟩
    rw [wrap1 hlt hl]
    refine ifB_intro (fun h2 => ⟨?_⟩) (fun h2 => ⟨k + 1, ⟨⟨by omega, fun j hj hj2 => ?_⟩, by simp⟩, by omega⟩)
    · have e := ofI_at hlt (by simpa using h2) hf
      simp [ofV, e, hlt]
    · by_cases e : j = k
      · subst e; simpa using h2
      · exact hf j hj (by omega)
  · have : k = l.length := by simp at h1; omega
    subst this
    simp [ofV, ofI_no hf]

theorem rf_end (l : List Pl) (a : Option Addr) (c : Nat) (i : Int) (hi : In64 i) (hl : l.length ≤ 9223372036854775807) (m : M) (h : Row m a (pls l)) :
    QSpec Try.prog 22 [.slice a l.length c, I i] m (.string (endI l i)) := by
  refine QSpec.of_vc Try.func22 (ann := fun _ => noAnn) fun n hn => ?_
  refine vc_by (X :=
      true = true ∧
      ifB (decide (i < (0 : Int))) (Done (Value.string { data := #[] : ByteArray } = Value.string (endI l i)))
      (ifB (decide (i ≥ IntKind.i64.wrap ((↑l.length : Int) - (1 : Int)))) (Done (Value.string { data := #[] : ByteArray } = Value.string (endI l i)))
      (∃ (b : Nat),
      ∃ (off : Nat),
      a = some { block := b, off := off : Addr } ∧
      ((0 : Int) ≤ IntKind.i64.wrap (i + (1 : Int)) ∧ IntKind.i64.wrap (i + (1 : Int)) < (↑l.length : Int)) ∧
      ∃ (s : ByteArray),
      CellsAt { π := m.π, sz := n, uf := m.uf : M } b (off + (IntKind.i64.wrap (i + (1 : Int))).toNat * (3 : Nat) + (1 : Nat)) [Value.string s] ∧
      Done (Value.string s = Value.string (endI l i))))) (by kernel_rfl) ?_
  have h' := h.sz hn
  have w0 : IntKind.i64.wrap ((l.length : Int) - 1) = (l.length : Int) - 1 := by rw [IntKind.wrap_i64]; omega
  rw [w0]
  refine ⟨rfl, ifB_intro (fun h1 => ⟨?_⟩) (fun h1 => ifB_intro (fun h2 => ⟨?_⟩) (fun h2 => ?_))⟩
  · have : i < 0 := by simpa using h1
    simp [endI, show ¬ 0 ≤ i by omega]; rfl
  · have h1 : 0 ≤ i := by simpa using h1
    have h2 : (l.length : Int) - 1 ≤ i := by simpa using h2
    simp [endI, h1, endP, show l[i.toNat + 1]? = none by rw [List.getElem?_eq_none_iff]; omega]; rfl
  · have h1 : 0 ≤ i := by simpa using h1
    have h2 : i < (l.length : Int) - 1 := by simpa using h2
    have w1 : IntKind.i64.wrap (i + 1) = ((i.toNat + 1 : Nat) : Int) := by rw [IntKind.wrap_i64]; omega
    have hlt : i.toNat + 1 < l.length := by omega
    rw [w1]
    obtain ⟨b, o, rfl, hc⟩ := h'.cells (by rw [pl_len]; omega)
    refine ⟨b, o, rfl, by omega, l[i.toNat + 1].fr, ?_, ⟨by simp [endI, h1, endP, hlt]⟩⟩
    have := pl_at hc hlt
    simp only [Int.toNat_natCast]
    exact ⟨fun j hj => by
      have hj : j = 0 := by simpa using hj
      subst hj
      have := this.out 1 (by simp [encPl])
      simpa [encPl] using this⟩

theorem rf_find (l : List Pl) (a : Option Addr) (c : Nat) (key : ByteArray) (hl : l.length ≤ 9223372036854775807) (m : M) (h : Row m a (pls l)) :
    QSpec Try.prog 21 [.slice a l.length c, .string key] m (I (rfindL key l 0)) := by
  refine QSpec.of_vc Try.func21 (ann := fun n _ => { A := Nat, inv := fun k => k ≤ l.length ∧ rfindL key (l.drop k) k = rfindL key l 0, st := fun k => [(5, .val (I k)), (0, .val (.slice a l.length c)), (1, .val (.string key))], own := fun _ => [], m := fun _ => { m with sz := n }, μ := fun k => l.length - k }) fun n hn => ?_
  refine vc_by (X :=
      true = true ∧
      (∃ (a_1 : Nat),
      (a_1 ≤ l.length ∧ rfindL key (List.drop a_1 l) a_1 = rfindL key l (0 : Nat)) ∧
      { π := m.π, sz := n, uf := m.uf : M } = { π := m.π, sz := n, uf := m.uf : M } ∧
      ((SV.val (Value.int IntKind.i64 (0 : Int)) = SV.val (Value.int IntKind.i64 (↑a_1 : Int)) ∧ true = true) ∧
      (SV.val (Value.slice a l.length c) = SV.val (Value.slice a l.length c) ∧ true = true) ∧
      (SV.val (Value.string key) = SV.val (Value.string key) ∧ true = true) ∧ True) ∧
      True) ∧
      ∀ (a_1 : Nat),
      a_1 ≤ l.length ∧ rfindL key (List.drop a_1 l) a_1 = rfindL key l (0 : Nat) →
      ifB (decide ((↑a_1 : Int) < (↑l.length : Int)))
      (true = true ∧
      ∃ (b : Nat),
      ∃ (off : Nat),
      a = some { block := b, off := off : Addr } ∧
      ((0 : Int) ≤ (↑a_1 : Int) ∧ (↑a_1 : Int) < (↑l.length : Int)) ∧
      ∃ (s : ByteArray),
      CellsAt { π := m.π, sz := n, uf := m.uf : M } b (off + (↑a_1 : Int).toNat * (3 : Nat) + (1 : Nat)) [Value.string s] ∧
      ∃ (s_1 : ByteArray),
      QSpec Try.prog (22 : Nat) [Value.slice a l.length c, Value.int IntKind.i64 (↑a_1 : Int)] { π := m.π, sz := n, uf := m.uf : M } (Value.string s_1) ∧
      ∃ (b : Bool),
      QSpec Try.prog (14 : Nat) [Value.string s, Value.string s_1, Value.string key] { π := m.π, sz := n, uf := m.uf : M } (Value.bool b) ∧
      ifB b (Done (Value.int IntKind.i64 (↑a_1 : Int) = Value.int IntKind.i64 (↑(rfindL key l (0 : Nat)) : Int)))
      (∃ (a' : Nat),
      ((a' ≤ l.length ∧ rfindL key (List.drop a' l) a' = rfindL key l (0 : Nat)) ∧
      { π := m.π, sz := n, uf := m.uf : M } = { π := m.π, sz := n, uf := m.uf : M } ∧
      ((SV.val (Value.int IntKind.i64 (IntKind.i64.wrap ((↑a_1 : Int) + (1 : Int)))) = SV.val (Value.int IntKind.i64 (↑a' : Int)) ∧
      true = true) ∧
      (SV.val (Value.slice a l.length c) = SV.val (Value.slice a l.length c) ∧ true = true) ∧
      (SV.val (Value.string key) = SV.val (Value.string key) ∧ true = true) ∧ True) ∧
      True) ∧
      l.length - a' < l.length - a_1))
      (Done (Value.int IntKind.i64 (0 : Int) = Value.int IntKind.i64 (↑(rfindL key l (0 : Nat)) : Int)))) (by kernel_rfl) ?_
  refine ⟨rfl, ⟨0, ⟨by omega, rfl⟩, by simp⟩, fun k ⟨hk, hf⟩ => ifB_intro (fun h1 => ?_) (fun h1 => ⟨?_⟩)⟩
  · have hlt : k < l.length := by simpa using h1
    have hr := h.sz hn
    obtain ⟨b, o, rfl, hc⟩ := hr.cells (by rw [pl_len]; omega)
    rw [List.drop_eq_getElem_cons hlt] at hf
    simp only [rfindL] at hf
    have he : endI l (k : Int) = endP l k := by simp [endI]
    refine ⟨rfl, b, o, rfl, by omega, _, by simpa using pl_frc hc hlt, endP l k, he ▸ rf_end l _ c k ⟨by omega, by omega⟩ hl _ hr, _, rf_within _ _ _ _, ?_⟩
    rw [hdF_drop] at hf
    rw [wrap1 hlt hl]
    refine ifB_intro (fun h2 => ⟨?_⟩) (fun h2 => ⟨k + 1, ⟨⟨by omega, ?_⟩, by simp⟩, by omega⟩)
    · rw [h2] at hf; simp only [if_true] at hf; rw [hf]
    · rw [h2] at hf; simpa using hf
  · have : k = l.length := by simp at h1; omega
    subst this
    simp only [List.drop_length, rfindL] at hf
    rw [← hf]; rfl

end Go.Proofs.Ytpnpebefcmgjoaa
set_option linter.unusedVariables false
set_option linter.unusedSimpArgs false
namespace Go.Proofs.Ytpnpebefcmgjoaa
open Go.Vc Go.RowKit
set_option maxRecDepth 100000

def grpB (g : Int) : Bool := decide (1 ≤ g) && decide (g < 8)

def plB (x : Pl) : Bool := grpB x.gr && (decide (1 ≤ x.ep) && (decide (x.ep ≤ 4611686018427387904) && decide (x.fr.size ≤ 16)))

def aftB (s : Option ByteArray) (x : Pl) : Bool := match s with | none => true | some s => ltS s x.fr

def chk (seen : List Int) (last : Option ByteArray) : List Pl → Bool
  | [] => true
  | x :: xs => plB x && (!seen.contains x.gr && (aftB last x && chk (seen ++ [x.gr]) (some x.fr) xs))

def lastF (l : List Pl) (k : Nat) : Option ByteArray := if k = 0 then none else (l[k - 1]?).map (·.fr)

def gsL (l : List Pl) (k : Nat) : List Int := (l.take k).map (·.gr)

def rightB (l : List Pl) : Bool := !l.isEmpty && (emptyB (hdF l) && chk [] none l)

def seenRow (s : List Int) : List Value := (List.range 8).map fun i : Nat => .bool (s.contains (i : Int))

theorem rg_group (g : Int) (m : M) :
    QSpec Try.prog 33 [I g] m (.bool (grpB g)) := by
  refine QSpec.of_vc Try.func33 (ann := fun _ => noAnn) fun n hn => ?_
  refine vc_by (X :=
      true = true ∧ ifB (decide (g ≥ (1 : Int))) (Done (Value.bool (decide (g < (8 : Int))) = Value.bool (grpB g))) (Done (Value.bool false = Value.bool (grpB g)))) (by kernel_rfl) ?_
  refine ⟨rfl, ifB_intro (fun h1 => ⟨?_⟩) (fun h1 => ⟨?_⟩)⟩
  · have : decide (1 ≤ g) = true := by simpa using h1
    simp [grpB, this]
  · have : decide (1 ≤ g) = false := by simpa using h1
    simp [grpB, this]

theorem seen_get (s : List Int) {j : Nat} (h : j < 8) : (seenRow s)[j]? = some (.bool (s.contains (j : Int))) := by
  simp [seenRow, h]

theorem seen_len (s : List Int) : (seenRow s).length = 8 := by simp [seenRow]

theorem gs_succ {l : List Pl} {k : Nat} (h : k < l.length) : gsL l (k + 1) = gsL l k ++ [l[k].gr] := by
  unfold gsL
  rw [List.take_succ_eq_append_getElem h, List.map_append]
  rfl

theorem last_succ {l : List Pl} {k : Nat} (h : k < l.length) : lastF l (k + 1) = some l[k].fr := by
  unfold lastF
  rw [if_neg (Nat.succ_ne_zero k), Nat.add_sub_cancel, List.getElem?_eq_getElem h]
  rfl

theorem chk_at {l : List Pl} {k : Nat} (h : k < l.length) : chk (gsL l k) (lastF l k) (l.drop k) = (plB l[k] && (!(gsL l k).contains l[k].gr && (aftB (lastF l k) l[k] && chk (gsL l (k + 1)) (lastF l (k + 1)) (l.drop (k + 1))))) := by
  rw [List.drop_eq_getElem_cons h, gs_succ h, last_succ h]
  rfl

structure SeenC (m : M) (b : Nat) (s : List Int) : Prop where
  out : CellsAt m b 0 (seenRow s)

structure CkX where
  k : Nat
  b : Nat
  m : M

theorem rg_check (l : List Pl) (a : Option Addr) (c : Nat) (hl : l.length ≤ 9223372036854775807) (m : M) (h : Row m a (pls l)) :
    QSpec Try.prog 19 [.slice a l.length c] m (I (if rightB l then 0 else 21)) := by
  refine QSpec.of_vc Try.func19 (ann := fun n _ => { A := CkX, inv := fun x => x.k ≤ l.length ∧ (emptyB (hdF l) = true ∧ chk (gsL l x.k) (lastF l x.k) (l.drop x.k) = chk [] none l) ∧ (n ≤ x.b ∧ x.m.uf x.b ∧ SeenC x.m x.b (gsL l x.k) ∧ Row x.m a (pls l)), st := fun x => [(18, .val (I x.k)), (17, .val (I l.length)), (16, .val (.slice a l.length c)), (3, .val (.pointer (some ⟨x.b, 0, none⟩))), (0, .val (.slice a l.length c))], own := fun _ => [], m := fun x => x.m, μ := fun x => l.length - x.k, esc := [11] }) fun n hn => ?_
  refine vc_by (X :=
      true = true ∧
      ifB (decide ((↑l.length : Int) < (1 : Int))) (Done (Value.int IntKind.i64 (21 : Int) = Value.int IntKind.i64 (if rightB l = true then (0 : Int) else (21 : Int))))
      (∃ (b : Nat),
      ∃ (off : Nat),
      a = some { block := b, off := off : Addr } ∧
      ((0 : Int) ≤ (0 : Int) ∧ (0 : Int) < (↑l.length : Int)) ∧
      ∃ (s : ByteArray),
      CellsAt { π := m.π, sz := n, uf := m.uf : M } b (off + (0 : Nat) + (1 : Nat)) [Value.string s] ∧
      ifB (!s.toList == []) (Done (Value.int IntKind.i64 (21 : Int) = Value.int IntKind.i64 (if rightB l = true then (0 : Int) else (21 : Int))))
      (∀ (b : Nat),
      Fresh n { π := m.π, sz := n, uf := m.uf : M } b →
      (∃ (a_2 : CkX),
      (a_2.k ≤ l.length ∧
      (emptyB (hdF l) = true ∧ chk (gsL l a_2.k) (lastF l a_2.k) (List.drop a_2.k l) = chk [] none l) ∧
      n ≤ a_2.b ∧ a_2.m.uf a_2.b ∧ SeenC a_2.m a_2.b (gsL l a_2.k) ∧ Row a_2.m a (pls l)) ∧
      { π := m.π, sz := n, uf := m.uf : M }.newBlock b
      [Value.bool false, Value.bool false, Value.bool false, Value.bool false, Value.bool false, Value.bool false, Value.bool false, Value.bool false] =
      a_2.m ∧
      ((SV.val (Value.int IntKind.i64 (0 : Int)) = SV.val (Value.int IntKind.i64 (↑a_2.k : Int)) ∧ true = true) ∧
      (SV.val (Value.int IntKind.i64 (↑l.length : Int)) = SV.val (Value.int IntKind.i64 (↑l.length : Int)) ∧ true = true) ∧
      (SV.val (Value.slice a l.length c) = SV.val (Value.slice a l.length c) ∧ true = true) ∧
      (SV.val (Value.pointer (some { block := b, off := (0 : Nat) : Addr })) =
      SV.val (Value.pointer (some { block := a_2.b, off := (0 : Nat) : Addr })) ∧
      true = true) ∧
      (SV.val (Value.slice a l.length c) = SV.val (Value.slice a l.length c) ∧ true = true) ∧ True) ∧
      True) ∧
      ∀ (a_2 : CkX),
      a_2.k ≤ l.length ∧
      (emptyB (hdF l) = true ∧ chk (gsL l a_2.k) (lastF l a_2.k) (List.drop a_2.k l) = chk [] none l) ∧
      n ≤ a_2.b ∧ a_2.m.uf a_2.b ∧ SeenC a_2.m a_2.b (gsL l a_2.k) ∧ Row a_2.m a (pls l) →
      ifB (decide ((↑a_2.k : Int) < (↑l.length : Int)))
      (∃ (b : Nat),
      ∃ (off : Nat),
      a = some { block := b, off := off : Addr } ∧
      ((0 : Int) ≤ (↑a_2.k : Int) ∧ (↑a_2.k : Int) < (↑l.length : Int)) ∧
      ∃ (n_1 : Int),
      ∃ (s : ByteArray),
      ∃ (n_2 : Int),
      CellsAt a_2.m b (off + (↑a_2.k : Int).toNat * (3 : Nat)) [Value.int IntKind.i64 n_1, Value.string s, Value.int IntKind.i64 n_2] ∧
      true = true ∧
      ∃ (b : Bool),
      QSpec Try.prog (33 : Nat) [Value.int IntKind.i64 n_1] a_2.m (Value.bool b) ∧
      ifB (!b) (Done (Value.int IntKind.i64 (21 : Int) = Value.int IntKind.i64 (if rightB l = true then (0 : Int) else (21 : Int))))
      (((0 : Int) ≤ n_1 ∧ n_1 < (↑(8 : Nat) : Int)) ∧
      ∃ (b : Bool),
      CellsAt a_2.m a_2.b ((0 : Nat) + n_1.toNat * (1 : Nat)) [Value.bool b] ∧
      ifB b
      (Done (Value.int IntKind.i64 (21 : Int) = Value.int IntKind.i64 (if rightB l = true then (0 : Int) else (21 : Int))))
      (ifB (decide (n_2 < (1 : Int)))
      (Done
      (Value.int IntKind.i64 (21 : Int) = Value.int IntKind.i64 (if rightB l = true then (0 : Int) else (21 : Int))))
      (ifB (decide (n_2 > (4611686018427387904 : Int)))
      (Done
      (Value.int IntKind.i64 (21 : Int) = Value.int IntKind.i64 (if rightB l = true then (0 : Int) else (21 : Int))))
      (ifB (decide ((↑s.size : Int) > (16 : Int)))
      (Done
      (Value.int IntKind.i64 (21 : Int) =
      Value.int IntKind.i64 (if rightB l = true then (0 : Int) else (21 : Int))))
      (ifB (decide ((↑a_2.k : Int) > (0 : Int)))
      (∃ (b : Nat),
      ∃ (off : Nat),
      a = some { block := b, off := off : Addr } ∧
      ((0 : Int) ≤ IntKind.i64.wrap ((↑a_2.k : Int) - (1 : Int)) ∧
      IntKind.i64.wrap ((↑a_2.k : Int) - (1 : Int)) < (↑l.length : Int)) ∧
      ∃ (s_1 : ByteArray),
      CellsAt a_2.m b
      (off + (IntKind.i64.wrap ((↑a_2.k : Int) - (1 : Int))).toNat * (3 : Nat) + (1 : Nat))
      [Value.string s_1] ∧
      ifB (Op.bytesLess s.toList s_1.toList || s.toList == s_1.toList)
      (Done
      (Value.int IntKind.i64 (21 : Int) =
      Value.int IntKind.i64 (if rightB l = true then (0 : Int) else (21 : Int))))
      (((0 : Int) ≤ n_1 ∧ n_1 < (↑(8 : Nat) : Int)) ∧
      Wr n (fun (x : Nat) => False) a_2.m a_2.b ((0 : Nat) + n_1.toNat * (1 : Nat)) (1 : Nat) ∧
      ∃ (a' : CkX),
      ((a'.k ≤ l.length ∧
      (emptyB (hdF l) = true ∧
      chk (gsL l a'.k) (lastF l a'.k) (List.drop a'.k l) = chk [] none l) ∧
      n ≤ a'.b ∧ a'.m.uf a'.b ∧ SeenC a'.m a'.b (gsL l a'.k) ∧ Row a'.m a (pls l)) ∧
      a_2.m.setCells a_2.b ((0 : Nat) + n_1.toNat * (1 : Nat)) [Value.bool true] = a'.m ∧
      ((SV.val (Value.int IntKind.i64 (IntKind.i64.wrap ((↑a_2.k : Int) + (1 : Int)))) =
      SV.val (Value.int IntKind.i64 (↑a'.k : Int)) ∧
      true = true) ∧
      (SV.val (Value.int IntKind.i64 (↑l.length : Int)) =
      SV.val (Value.int IntKind.i64 (↑l.length : Int)) ∧
      true = true) ∧
      (SV.val (Value.slice a l.length c) = SV.val (Value.slice a l.length c) ∧
      true = true) ∧
      (SV.val (Value.pointer (some { block := a_2.b, off := (0 : Nat) : Addr })) =
      SV.val
      (Value.pointer (some { block := a'.b, off := (0 : Nat) : Addr })) ∧
      true = true) ∧
      (SV.val (Value.slice a l.length c) = SV.val (Value.slice a l.length c) ∧
      true = true) ∧
      True) ∧
      True) ∧
      l.length - a'.k < l.length - a_2.k))
      (((0 : Int) ≤ n_1 ∧ n_1 < (↑(8 : Nat) : Int)) ∧
      Wr n (fun (x : Nat) => False) a_2.m a_2.b ((0 : Nat) + n_1.toNat * (1 : Nat)) (1 : Nat) ∧
      ∃ (a' : CkX),
      ((a'.k ≤ l.length ∧
      (emptyB (hdF l) = true ∧ chk (gsL l a'.k) (lastF l a'.k) (List.drop a'.k l) = chk [] none l) ∧
      n ≤ a'.b ∧ a'.m.uf a'.b ∧ SeenC a'.m a'.b (gsL l a'.k) ∧ Row a'.m a (pls l)) ∧
      a_2.m.setCells a_2.b ((0 : Nat) + n_1.toNat * (1 : Nat)) [Value.bool true] = a'.m ∧
      ((SV.val (Value.int IntKind.i64 (IntKind.i64.wrap ((↑a_2.k : Int) + (1 : Int)))) =
      SV.val (Value.int IntKind.i64 (↑a'.k : Int)) ∧
      true = true) ∧
      (SV.val (Value.int IntKind.i64 (↑l.length : Int)) =
      SV.val (Value.int IntKind.i64 (↑l.length : Int)) ∧
      true = true) ∧
      (SV.val (Value.slice a l.length c) = SV.val (Value.slice a l.length c) ∧ true = true) ∧
      (SV.val (Value.pointer (some { block := a_2.b, off := (0 : Nat) : Addr })) =
      SV.val (Value.pointer (some { block := a'.b, off := (0 : Nat) : Addr })) ∧
      true = true) ∧
      (SV.val (Value.slice a l.length c) = SV.val (Value.slice a l.length c) ∧ true = true) ∧
      True) ∧
      True) ∧
      l.length - a'.k < l.length - a_2.k)))))))
      (Done (Value.int IntKind.i64 (0 : Int) = Value.int IntKind.i64 (if rightB l = true then (0 : Int) else (21 : Int))))))) (by kernel_rfl) ?_
  have hr0 := h.sz hn
  refine ⟨rfl, ifB_intro (fun h1 => ⟨?_⟩) (fun h1 => ?_)⟩
  · have : l = [] := List.eq_nil_of_length_eq_zero (by simp at h1; omega)
    subst this
    rfl
  · have hlen : 0 < l.length := by simp at h1; omega
    obtain ⟨b0, o0, rfl, hc0⟩ := hr0.cells (by rw [pl_len]; omega)
    have hb0 : b0 < m.sz := h.lt (by intro e; have := congrArg List.length e; rw [pl_len] at this; simp at this; omega) rfl
    have hhd : hdF l = l[0].fr := by cases l with | nil => simp at hlen | cons x xs => rfl
    have hne : l.isEmpty = false := by cases l with | nil => simp at hlen | cons x xs => rfl
    refine ⟨b0, o0, rfl, by omega, l[0].fr, by simpa using pl_frc hc0 hlen, ifB_intro (fun h2 => ⟨?_⟩) (fun h2 => fun b hb => ?_)⟩
    · have : emptyB (hdF l) = false := by rw [hhd]; simpa [emptyB] using h2
      simp [rightB, this]
    · have hemp : emptyB (hdF l) = true := by rw [hhd]; simpa [emptyB] using h2
      refine ⟨⟨⟨0, b, _⟩, ⟨⟨Nat.zero_le _, ⟨hemp, rfl⟩, hb.lo, ?_, ?_, ?_⟩, rfl, by simp⟩⟩, fun x ⟨hk, ⟨_, hf⟩, hxb, huf, hcs, hrow⟩ => ?_⟩
      · simp [M.newBlock]
      · exact ⟨cellsAt_new⟩
      · exact hr0.fresh hb fun _ b' o' e => by cases e; omega
      · obtain ⟨k, bs, mx⟩ := x
        simp only at hk hf hxb huf hcs hrow ⊢
        refine ifB_intro (fun h3 => ?_) (fun h3 => ⟨?_⟩)
        · have hlt : k < l.length := by simpa using h3
          obtain ⟨b1, o1, e1, hc⟩ := hrow.cells (by rw [pl_len]; omega)
          obtain ⟨rfl, rfl⟩ : b0 = b1 ∧ o0 = o1 := by simpa using e1
          rw [chk_at hlt] at hf
          have bad : ∀ x : Bool, x = false → chk [] none l = x → I 21 = I (if rightB l = true then 0 else 21) := fun x hx e => by
            have : rightB l = false := by simp [rightB, e, hx]
            rw [this]; rfl
          refine ⟨b0, o0, rfl, by omega, _, _, _, by simpa using pl_at hc hlt, by trivial, _, rg_group _ _, ifB_intro (fun h4 => ⟨?_⟩) (fun h4 => ?_)⟩
          · refine bad _ ?_ hf.symm
            have : grpB l[k].gr = false := by simpa using h4
            simp [plB, this]
          · have hg : grpB l[k].gr = true := by simpa using h4
            have hg2 : 1 ≤ l[k].gr ∧ l[k].gr < 8 := by simpa [grpB] using hg
            have hcell := hcs.out.out l[k].gr.toNat (by rw [seen_len]; omega)
            rw [seen_get _ (by omega), show ((l[k].gr.toNat : Nat) : Int) = l[k].gr by omega] at hcell
            refine ⟨by omega, (gsL l k).contains l[k].gr, ⟨fun j hj => ?_⟩, ifB_intro (fun h5 => ⟨?_⟩) (fun h5 => ifB_intro (fun h6 => ⟨?_⟩) (fun h6 => ifB_intro (fun h7 => ⟨?_⟩) (fun h7 => ifB_intro (fun h8 => ⟨?_⟩) (fun h8 => ?_))))⟩
            · have hj : j = 0 := by simpa using hj
              subst hj
              simpa using hcell
            · exact bad _ (by rw [h5]; simp) hf.symm
            · refine bad _ ?_ hf.symm
              have : ¬ 1 ≤ l[k].ep := by simp at h6; omega
              simp [plB, this]
            · refine bad _ ?_ hf.symm
              have : ¬ l[k].ep ≤ 4611686018427387904 := by simp at h7; omega
              simp [plB, this]
            · refine bad _ ?_ hf.symm
              have : ¬ l[k].fr.size ≤ 16 := by simp at h8; omega
              simp [plB, this]
            · have hpl : plB l[k] = true := by
                simp at h6 h7 h8
                simp [plB, hg]
                omega
              have hW : Wr n (fun _ => False) mx bs (0 + l[k].gr.toNat * 1) 1 := ⟨.inl hxb, huf, fun j hj => ⟨.bool ((gsL l k).contains l[k].gr), by
                have hj : j = 0 := by omega
                subst hj
                simpa using hcell⟩⟩
              have hrow' : Row (mx.setCells bs (0 + l[k].gr.toNat * 1) [.bool true]) (some ⟨b0, o0, none⟩) (pls l) := hrow.of (Nat.le_refl _) fun b' o' e _ => by
                cases e
                funext o
                simp only [M.setCells]
                rw [if_neg fun hh => absurd hh.1 (by omega)]
              have hcs' : CellsAt (mx.setCells bs (0 + l[k].gr.toNat * 1) [.bool true]) bs 0 (seenRow (gsL l (k + 1))) := ⟨fun j hj => by
                rw [seen_len] at hj
                rw [seen_get _ hj, gs_succ hlt]
                simp only [M.setCells, List.length_cons, List.length_nil]
                by_cases e : j = l[k].gr.toNat
                · rw [if_pos (show True ∧ 0 + l[k].gr.toNat * 1 ≤ 0 + j ∧ 0 + j < 0 + l[k].gr.toNat * 1 + (0 + 1) from ⟨trivial, by omega, by omega⟩)]
                  have : ((j : Nat) : Int) = l[k].gr := by omega
                  rw [this]
                  simp [e]
                · rw [if_neg (show ¬ (True ∧ 0 + l[k].gr.toNat * 1 ≤ 0 + j ∧ 0 + j < 0 + l[k].gr.toNat * 1 + (0 + 1)) from fun hh => by have h21 := hh.2.1; have h22 := hh.2.2; omega)]
                  have h9 := hcs.out.out j (by rw [seen_len]; exact hj)
                  rw [seen_get _ hj] at h9
                  rw [h9]
                  have : ¬ ((j : Nat) : Int) = l[k].gr := by omega
                  simp [this]⟩
              have hinv : aftB (lastF l k) l[k] = true → chk (gsL l (k + 1)) (lastF l (k + 1)) (l.drop (k + 1)) = chk [] none l := fun ha => by
                rw [← hf, hpl, h5, ha]; simp
              rw [wrap1 hlt hl]
              refine ifB_intro (fun h9 => ?_) (fun h9 => ?_)
              · have hk0 : 0 < k := by simp at h9; omega
                have wm : IntKind.i64.wrap ((k : Int) - 1) = ((k - 1 : Nat) : Int) := by rw [IntKind.wrap_i64]; omega
                have hla : lastF l k = some l[k - 1].fr := by
                  unfold lastF
                  rw [if_neg (by omega), List.getElem?_eq_getElem (by omega)]
                  rfl
                rw [wm]
                refine ⟨b0, o0, rfl, by omega, l[k - 1].fr, by simpa using pl_frc hc (by omega : k - 1 < l.length), ?_⟩
                rw [ltS_leq]
                refine ifB_intro (fun h10 => ⟨?_⟩) (fun h10 => ?_)
                · refine bad _ ?_ hf.symm
                  have : aftB (lastF l k) l[k] = false := by rw [hla]; simpa [aftB] using h10
                  rw [this]; simp
                · have ha : aftB (lastF l k) l[k] = true := by rw [hla]; simpa [aftB] using h10
                  exact ⟨by omega, hW, ⟨k + 1, bs, mx.setCells bs (0 + l[k].gr.toNat * 1) [.bool true]⟩, ⟨⟨by simp only; omega, ⟨hemp, hinv ha⟩, hxb, huf, ⟨hcs'⟩, hrow'⟩, rfl, by simp⟩, by simp only; omega⟩
              · have hk0 : k = 0 := by simp at h9; omega
                have ha : aftB (lastF l k) l[k] = true := by
                  have : lastF l k = none := by rw [hk0]; rfl
                  rw [this]; rfl
                exact ⟨by omega, hW, ⟨k + 1, bs, mx.setCells bs (0 + l[k].gr.toNat * 1) [.bool true]⟩, ⟨⟨by simp only; omega, ⟨hemp, hinv ha⟩, hxb, huf, ⟨hcs'⟩, hrow'⟩, rfl, by simp⟩, by simp only; omega⟩
        · have : k = l.length := by simp at h3; omega
          subst this
          rw [List.drop_length] at hf
          have hch : chk [] none l = true := hf.symm
          simp [rightB, hne, hemp, hch]

end Go.Proofs.Ytpnpebefcmgjoaa
set_option linter.unusedVariables false
set_option linter.unusedSimpArgs false
namespace Go.Proofs.Ytpnpebefcmgjoaa
open Go.Vc Go.RowKit
set_option maxRecDepth 100000

theorem nd_len : ∀ (n : Nat) (s : List Int), s.Nodup → (∀ g ∈ s, 1 ≤ g ∧ g ≤ n) → s.length ≤ n
  | 0, s, _, h => by
    cases s with
    | nil => simp
    | cons g r => have := h g (by simp); omega
  | n + 1, s, hd, h => by
    by_cases hm : ((n + 1 : Nat) : Int) ∈ s
    · have h1 := nd_len n (s.erase ((n + 1 : Nat) : Int)) (hd.erase _) fun g hg => by
        have h2 := h g (List.mem_of_mem_erase hg)
        have h3 : g ≠ ((n + 1 : Nat) : Int) := fun e => by subst e; exact hd.not_mem_erase hg
        omega
      rw [List.length_erase_of_mem hm] at h1
      omega
    · have := nd_len n s hd fun g hg => by
        have h2 := h g hg
        have h3 : g ≠ ((n + 1 : Nat) : Int) := fun e => hm (e ▸ hg)
        omega
      omega

theorem chk_len : ∀ (l : List Pl) (seen : List Int) (last : Option ByteArray), seen.Nodup → (∀ g ∈ seen, 1 ≤ g ∧ g ≤ ((7 : Nat) : Int)) → chk seen last l = true → seen.length + l.length ≤ 7
  | [], seen, last, hd, h, _ => by simpa using nd_len 7 seen hd h
  | x :: xs, seen, last, hd, h, hc => by
    simp only [chk, Bool.and_eq_true, Bool.not_eq_true'] at hc
    obtain ⟨h1, h2, h3, h4⟩ := hc
    have hg : 1 ≤ x.gr ∧ x.gr < 8 := by
      simp only [plB, grpB, Bool.and_eq_true, decide_eq_true_eq] at h1
      exact h1.1
    have hni : x.gr ∉ seen := by simpa using h2
    have := chk_len xs (seen ++ [x.gr]) (some x.fr) (List.nodup_append.2 ⟨hd, by simp, fun a ha b hb e => by simp at hb; subst hb; subst e; exact hni ha⟩) (fun g hg2 => by
      rcases List.mem_append.1 hg2 with hg2 | hg2
      · exact h g hg2
      · simp at hg2; subst hg2; omega) h4
    simp at this ⊢
    omega

theorem right_len {l : List Pl} (h : rightB l = true) : l.length ≤ 7 := by
  simp only [rightB, Bool.and_eq_true] at h
  have := chk_len l [] none (by simp) (by simp) h.2.2
  simpa using this

structure RtX where
  i : Nat
  k : Nat

theorem rf_right (l : List Pl) (a : Option Addr) (c : Nat) (hl : l.length ≤ 9223372036854775807) (m : M) (h : Row m a (pls l)) :
    QSpec Try.prog 17 [.slice a l.length c] m (.bool (rightB l)) := by
  refine QSpec.of_vc Try.func17 (ann := fun n r => if r = 4 then { A := Nat, inv := fun i => i ≤ l.length ∧ (1 ≤ l.length ∧ l.length ≤ 7 ∧ emptyB (hdF l) = true) ∧ chk (gsL l i) (lastF l i) (l.drop i) = chk [] none l, st := fun i => [(3, .val (I i)), (0, .val (.slice a l.length c))], own := fun _ => [], m := fun _ => { m with sz := n }, μ := fun i => l.length - i }
    else { A := RtX, inv := fun x => (x.i < l.length ∧ x.k ≤ x.i) ∧ (1 ≤ l.length ∧ l.length ≤ 7 ∧ emptyB (hdF l) = true) ∧ chk (gsL l x.i) (lastF l x.i) (l.drop x.i) = chk [] none l ∧ (∀ p, l[x.i]? = some p → plB p = true ∧ aftB (lastF l x.i) p = true ∧ (gsL l x.k).contains p.gr = false), st := fun x => [(5, .val (I x.k)), (3, .val (I x.i)), (0, .val (.slice a l.length c)), (4, .own 25 0)], own := fun x => [(25, ⟨39, encPl (l[x.i]?.getD ⟨0, .empty, 0⟩)⟩)], m := fun _ => { m with sz := n }, μ := fun x => x.i - x.k, link := some fun x ctx => ctx = [l.length - x.i] }) fun n hn => ?_
  refine vc_by (X :=
      true = true ∧
      ifB (decide ((↑l.length : Int) < (1 : Int))) (Done (Value.bool false = Value.bool (rightB l)))
      (ifB (decide ((↑l.length : Int) > (7 : Int))) (Done (Value.bool false = Value.bool (rightB l)))
      (∃ (b : Nat),
      ∃ (off : Nat),
      a = some { block := b, off := off : Addr } ∧
      ((0 : Int) ≤ (0 : Int) ∧ (0 : Int) < (↑l.length : Int)) ∧
      ∃ (s : ByteArray),
      CellsAt { π := m.π, sz := n, uf := m.uf : M } b (off + (0 : Nat) + (1 : Nat)) [Value.string s] ∧
      ifB (!s.toList == []) (Done (Value.bool false = Value.bool (rightB l)))
      ((∃ (a_1 : Nat),
      (a_1 ≤ l.length ∧ ((1 : Nat) ≤ l.length ∧ l.length ≤ (7 : Nat) ∧ emptyB (hdF l) = true) ∧ chk (gsL l a_1) (lastF l a_1) (List.drop a_1 l) = chk [] none l) ∧
      { π := m.π, sz := n, uf := m.uf : M } = { π := m.π, sz := n, uf := m.uf : M } ∧
      ((SV.val (Value.int IntKind.i64 (0 : Int)) = SV.val (Value.int IntKind.i64 (↑a_1 : Int)) ∧ true = true) ∧
      (SV.val (Value.slice a l.length c) = SV.val (Value.slice a l.length c) ∧ true = true) ∧ True) ∧
      True) ∧
      ∀ (a_1 : Nat),
      a_1 ≤ l.length ∧ ((1 : Nat) ≤ l.length ∧ l.length ≤ (7 : Nat) ∧ emptyB (hdF l) = true) ∧ chk (gsL l a_1) (lastF l a_1) (List.drop a_1 l) = chk [] none l →
      ifB (decide ((↑a_1 : Int) < (↑l.length : Int)))
      (∃ (b : Nat),
      ∃ (off : Nat),
      a = some { block := b, off := off : Addr } ∧
      ((0 : Int) ≤ (↑a_1 : Int) ∧ (↑a_1 : Int) < (↑l.length : Int)) ∧
      ∃ (n_1 : Int),
      ∃ (s : ByteArray),
      ∃ (n_2 : Int),
      CellsAt { π := m.π, sz := n, uf := m.uf : M } b (off + (↑a_1 : Int).toNat * (3 : Nat))
      [Value.int IntKind.i64 n_1, Value.string s, Value.int IntKind.i64 n_2] ∧
      true = true ∧
      ifB (decide (n_1 < (1 : Int))) (Done (Value.bool false = Value.bool (rightB l)))
      (ifB (decide (n_1 ≥ (8 : Int))) (Done (Value.bool false = Value.bool (rightB l)))
      (ifB (decide (n_2 < (1 : Int))) (Done (Value.bool false = Value.bool (rightB l)))
      (ifB (decide (n_2 > (4611686018427387904 : Int))) (Done (Value.bool false = Value.bool (rightB l)))
      (ifB (decide ((↑s.size : Int) > (16 : Int))) (Done (Value.bool false = Value.bool (rightB l)))
      (ifB (decide ((↑a_1 : Int) > (0 : Int)))
      (∃ (b : Nat),
      ∃ (off : Nat),
      a = some { block := b, off := off : Addr } ∧
      ((0 : Int) ≤ IntKind.i64.wrap ((↑a_1 : Int) - (1 : Int)) ∧
      IntKind.i64.wrap ((↑a_1 : Int) - (1 : Int)) < (↑l.length : Int)) ∧
      ∃ (s_1 : ByteArray),
      CellsAt { π := m.π, sz := n, uf := m.uf : M } b
      (off + (IntKind.i64.wrap ((↑a_1 : Int) - (1 : Int))).toNat * (3 : Nat) + (1 : Nat)) [Value.string s_1] ∧
      ifB (Op.bytesLess s.toList s_1.toList || s.toList == s_1.toList)
      (Done (Value.bool false = Value.bool (rightB l)))
      ((∃ (a_3 : RtX),
      (((a_3.i < l.length ∧ a_3.k ≤ a_3.i) ∧
      ((1 : Nat) ≤ l.length ∧ l.length ≤ (7 : Nat) ∧ emptyB (hdF l) = true) ∧
      chk (gsL l a_3.i) (lastF l a_3.i) (List.drop a_3.i l) = chk [] none l ∧
      ∀ (p : Pl),
      l[a_3.i]? = some p →
      plB p = true ∧ aftB (lastF l a_3.i) p = true ∧ (gsL l a_3.k).contains p.gr = false) ∧
      { π := m.π, sz := n, uf := m.uf : M } = { π := m.π, sz := n, uf := m.uf : M } ∧
      ((SV.val (Value.int IntKind.i64 (0 : Int)) = SV.val (Value.int IntKind.i64 (↑a_3.k : Int)) ∧
      true = true) ∧
      (SV.val (Value.int IntKind.i64 (↑a_1 : Int)) = SV.val (Value.int IntKind.i64 (↑a_3.i : Int)) ∧
      true = true) ∧
      (SV.val (Value.slice a l.length c) = SV.val (Value.slice a l.length c) ∧ true = true) ∧
      (SV.own ((0 : Nat) + (1 : Nat) + (15 : Nat) + (1 : Nat) + (4 : Nat) + (4 : Nat))
      (0 : Nat) =
      SV.own (25 : Nat) (0 : Nat) ∧
      true = true) ∧
      True) ∧
      (some
      { ty := (39 : Nat), cs := [Value.int IntKind.i64 n_1, Value.string s, Value.int IntKind.i64 n_2] : Bx } =
      some
      { ty := (39 : TypeId), cs := [Value.int IntKind.i64 (l[a_3.i]?.getD { gr := (0 : Int), fr := ByteArray.empty, ep := (0 : Int) : Pl }).gr, Value.string (l[a_3.i]?.getD { gr := (0 : Int), fr := ByteArray.empty, ep := (0 : Int) : Pl }).fr, Value.int IntKind.i64 (l[a_3.i]?.getD { gr := (0 : Int), fr := ByteArray.empty, ep := (0 : Int) : Pl }).ep] : Bx } ∧
      true = true) ∧
      True) ∧
      [l.length - a_1] = [l.length - a_3.i]) ∧
      ∀ (a_3 : RtX),
      ((a_3.i < l.length ∧ a_3.k ≤ a_3.i) ∧
      ((1 : Nat) ≤ l.length ∧ l.length ≤ (7 : Nat) ∧ emptyB (hdF l) = true) ∧
      chk (gsL l a_3.i) (lastF l a_3.i) (List.drop a_3.i l) = chk [] none l ∧
      ∀ (p : Pl),
      l[a_3.i]? = some p →
      plB p = true ∧ aftB (lastF l a_3.i) p = true ∧ (gsL l a_3.k).contains p.gr = false) ∧
      [l.length - a_1] = [l.length - a_3.i] →
      ifB (decide ((↑a_3.k : Int) < (↑a_3.i : Int)))
      (true = true ∧
      ∃ (b : Nat),
      ∃ (off : Nat),
      a = some { block := b, off := off : Addr } ∧
      ((0 : Int) ≤ (↑a_3.k : Int) ∧ (↑a_3.k : Int) < (↑l.length : Int)) ∧
      ∃ (n_3 : Int),
      CellsAt { π := m.π, sz := n, uf := m.uf : M } b
      (off + (↑a_3.k : Int).toNat * (3 : Nat) + (0 : Nat)) [Value.int IntKind.i64 n_3] ∧
      ifB
      (n_3 ==
      (l[a_3.i]?.getD
      { gr := (0 : Int), fr := ByteArray.empty, ep := (0 : Int) : Pl }).gr)
      (Done (Value.bool false = Value.bool (rightB l)))
      (∃ (a' : RtX),
      ((((a'.i < l.length ∧ a'.k ≤ a'.i) ∧
      ((1 : Nat) ≤ l.length ∧ l.length ≤ (7 : Nat) ∧ emptyB (hdF l) = true) ∧
      chk (gsL l a'.i) (lastF l a'.i) (List.drop a'.i l) = chk [] none l ∧
      ∀ (p : Pl),
      l[a'.i]? = some p →
      plB p = true ∧
      aftB (lastF l a'.i) p = true ∧
      (gsL l a'.k).contains p.gr = false) ∧
      { π := m.π, sz := n, uf := m.uf : M } =
      { π := m.π, sz := n, uf := m.uf : M } ∧
      ((SV.val
      (Value.int IntKind.i64
      (IntKind.i64.wrap ((↑a_3.k : Int) + (1 : Int)))) =
      SV.val (Value.int IntKind.i64 (↑a'.k : Int)) ∧
      true = true) ∧
      (SV.val (Value.int IntKind.i64 (↑a_3.i : Int)) =
      SV.val (Value.int IntKind.i64 (↑a'.i : Int)) ∧
      true = true) ∧
      (SV.val (Value.slice a l.length c) =
      SV.val (Value.slice a l.length c) ∧
      true = true) ∧
      (SV.own (25 : Nat) (0 : Nat) = SV.own (25 : Nat) (0 : Nat) ∧
      true = true) ∧
      True) ∧
      (some
      { ty := (39 : TypeId), cs := [Value.int IntKind.i64 (l[a_3.i]?.getD { gr := (0 : Int), fr := ByteArray.empty, ep := (0 : Int) : Pl }).gr, Value.string (l[a_3.i]?.getD { gr := (0 : Int), fr := ByteArray.empty, ep := (0 : Int) : Pl }).fr, Value.int IntKind.i64 (l[a_3.i]?.getD { gr := (0 : Int), fr := ByteArray.empty, ep := (0 : Int) : Pl }).ep] : Bx } =
      some
      { ty := (39 : TypeId), cs := [Value.int IntKind.i64 (l[a'.i]?.getD { gr := (0 : Int), fr := ByteArray.empty, ep := (0 : Int) : Pl }).gr, Value.string (l[a'.i]?.getD { gr := (0 : Int), fr := ByteArray.empty, ep := (0 : Int) : Pl }).fr, Value.int IntKind.i64 (l[a'.i]?.getD { gr := (0 : Int), fr := ByteArray.empty, ep := (0 : Int) : Pl }).ep] : Bx } ∧
      true = true) ∧
      True) ∧
      [l.length - a_1] = [l.length - a'.i]) ∧
      a'.i - a'.k < a_3.i - a_3.k))
      (∃ (a' : Nat),
      ((a' ≤ l.length ∧
      ((1 : Nat) ≤ l.length ∧ l.length ≤ (7 : Nat) ∧ emptyB (hdF l) = true) ∧
      chk (gsL l a') (lastF l a') (List.drop a' l) = chk [] none l) ∧
      { π := m.π, sz := n, uf := m.uf : M } = { π := m.π, sz := n, uf := m.uf : M } ∧
      ((SV.val (Value.int IntKind.i64 (IntKind.i64.wrap ((↑a_3.i : Int) + (1 : Int)))) =
      SV.val (Value.int IntKind.i64 (↑a' : Int)) ∧
      true = true) ∧
      (SV.val (Value.slice a l.length c) = SV.val (Value.slice a l.length c) ∧ true = true) ∧
      True) ∧
      True) ∧
      l.length - a' < l.length - a_1)))
      ((∃ (a_3 : RtX),
      (((a_3.i < l.length ∧ a_3.k ≤ a_3.i) ∧
      ((1 : Nat) ≤ l.length ∧ l.length ≤ (7 : Nat) ∧ emptyB (hdF l) = true) ∧
      chk (gsL l a_3.i) (lastF l a_3.i) (List.drop a_3.i l) = chk [] none l ∧
      ∀ (p : Pl),
      l[a_3.i]? = some p → plB p = true ∧ aftB (lastF l a_3.i) p = true ∧ (gsL l a_3.k).contains p.gr = false) ∧
      { π := m.π, sz := n, uf := m.uf : M } = { π := m.π, sz := n, uf := m.uf : M } ∧
      ((SV.val (Value.int IntKind.i64 (0 : Int)) = SV.val (Value.int IntKind.i64 (↑a_3.k : Int)) ∧ true = true) ∧
      (SV.val (Value.int IntKind.i64 (↑a_1 : Int)) = SV.val (Value.int IntKind.i64 (↑a_3.i : Int)) ∧
      true = true) ∧
      (SV.val (Value.slice a l.length c) = SV.val (Value.slice a l.length c) ∧ true = true) ∧
      (SV.own ((0 : Nat) + (1 : Nat) + (15 : Nat) + (1 : Nat) + (4 : Nat) + (4 : Nat)) (0 : Nat) =
      SV.own (25 : Nat) (0 : Nat) ∧
      true = true) ∧
      True) ∧
      (some
      { ty := (39 : Nat), cs := [Value.int IntKind.i64 n_1, Value.string s, Value.int IntKind.i64 n_2] : Bx } =
      some
      { ty := (39 : TypeId), cs := [Value.int IntKind.i64 (l[a_3.i]?.getD { gr := (0 : Int), fr := ByteArray.empty, ep := (0 : Int) : Pl }).gr, Value.string (l[a_3.i]?.getD { gr := (0 : Int), fr := ByteArray.empty, ep := (0 : Int) : Pl }).fr, Value.int IntKind.i64 (l[a_3.i]?.getD { gr := (0 : Int), fr := ByteArray.empty, ep := (0 : Int) : Pl }).ep] : Bx } ∧
      true = true) ∧
      True) ∧
      [l.length - a_1] = [l.length - a_3.i]) ∧
      ∀ (a_3 : RtX),
      ((a_3.i < l.length ∧ a_3.k ≤ a_3.i) ∧
      ((1 : Nat) ≤ l.length ∧ l.length ≤ (7 : Nat) ∧ emptyB (hdF l) = true) ∧
      chk (gsL l a_3.i) (lastF l a_3.i) (List.drop a_3.i l) = chk [] none l ∧
      ∀ (p : Pl),
      l[a_3.i]? = some p → plB p = true ∧ aftB (lastF l a_3.i) p = true ∧ (gsL l a_3.k).contains p.gr = false) ∧
      [l.length - a_1] = [l.length - a_3.i] →
      ifB (decide ((↑a_3.k : Int) < (↑a_3.i : Int)))
      (true = true ∧
      ∃ (b : Nat),
      ∃ (off : Nat),
      a = some { block := b, off := off : Addr } ∧
      ((0 : Int) ≤ (↑a_3.k : Int) ∧ (↑a_3.k : Int) < (↑l.length : Int)) ∧
      ∃ (n_3 : Int),
      CellsAt { π := m.π, sz := n, uf := m.uf : M } b (off + (↑a_3.k : Int).toNat * (3 : Nat) + (0 : Nat))
      [Value.int IntKind.i64 n_3] ∧
      ifB (n_3 == (l[a_3.i]?.getD { gr := (0 : Int), fr := ByteArray.empty, ep := (0 : Int) : Pl }).gr)
      (Done (Value.bool false = Value.bool (rightB l)))
      (∃ (a' : RtX),
      ((((a'.i < l.length ∧ a'.k ≤ a'.i) ∧
      ((1 : Nat) ≤ l.length ∧ l.length ≤ (7 : Nat) ∧ emptyB (hdF l) = true) ∧
      chk (gsL l a'.i) (lastF l a'.i) (List.drop a'.i l) = chk [] none l ∧
      ∀ (p : Pl),
      l[a'.i]? = some p →
      plB p = true ∧
      aftB (lastF l a'.i) p = true ∧ (gsL l a'.k).contains p.gr = false) ∧
      { π := m.π, sz := n, uf := m.uf : M } = { π := m.π, sz := n, uf := m.uf : M } ∧
      ((SV.val (Value.int IntKind.i64 (IntKind.i64.wrap ((↑a_3.k : Int) + (1 : Int)))) =
      SV.val (Value.int IntKind.i64 (↑a'.k : Int)) ∧
      true = true) ∧
      (SV.val (Value.int IntKind.i64 (↑a_3.i : Int)) =
      SV.val (Value.int IntKind.i64 (↑a'.i : Int)) ∧
      true = true) ∧
      (SV.val (Value.slice a l.length c) = SV.val (Value.slice a l.length c) ∧
      true = true) ∧
      (SV.own (25 : Nat) (0 : Nat) = SV.own (25 : Nat) (0 : Nat) ∧ true = true) ∧
      True) ∧
      (some
      { ty := (39 : TypeId), cs := [Value.int IntKind.i64 (l[a_3.i]?.getD { gr := (0 : Int), fr := ByteArray.empty, ep := (0 : Int) : Pl }).gr, Value.string (l[a_3.i]?.getD { gr := (0 : Int), fr := ByteArray.empty, ep := (0 : Int) : Pl }).fr, Value.int IntKind.i64 (l[a_3.i]?.getD { gr := (0 : Int), fr := ByteArray.empty, ep := (0 : Int) : Pl }).ep] : Bx } =
      some
      { ty := (39 : TypeId), cs := [Value.int IntKind.i64 (l[a'.i]?.getD { gr := (0 : Int), fr := ByteArray.empty, ep := (0 : Int) : Pl }).gr, Value.string (l[a'.i]?.getD { gr := (0 : Int), fr := ByteArray.empty, ep := (0 : Int) : Pl }).fr, Value.int IntKind.i64 (l[a'.i]?.getD { gr := (0 : Int), fr := ByteArray.empty, ep := (0 : Int) : Pl }).ep] : Bx } ∧
      true = true) ∧
      True) ∧
      [l.length - a_1] = [l.length - a'.i]) ∧
      a'.i - a'.k < a_3.i - a_3.k))
      (∃ (a' : Nat),
      ((a' ≤ l.length ∧
      ((1 : Nat) ≤ l.length ∧ l.length ≤ (7 : Nat) ∧ emptyB (hdF l) = true) ∧
      chk (gsL l a') (lastF l a') (List.drop a' l) = chk [] none l) ∧
      { π := m.π, sz := n, uf := m.uf : M } = { π := m.π, sz := n, uf := m.uf : M } ∧
      ((SV.val (Value.int IntKind.i64 (IntKind.i64.wrap ((↑a_3.i : Int) + (1 : Int)))) =
      SV.val (Value.int IntKind.i64 (↑a' : Int)) ∧
      true = true) ∧
      (SV.val (Value.slice a l.length c) = SV.val (Value.slice a l.length c) ∧ true = true) ∧ True) ∧
      True) ∧
      l.length - a' < l.length - a_1))))))))
      (Done (Value.bool true = Value.bool (rightB l))))))) (by kernel_rfl) ?_
  have hr0 := h.sz hn
  refine ⟨rfl, ifB_intro (fun h1 => ⟨?_⟩) (fun h1 => ifB_intro (fun h2 => ⟨?_⟩) (fun h2 => ?_))⟩
  · have : l = [] := List.eq_nil_of_length_eq_zero (by simp at h1; omega)
    subst this
    rfl
  · have : rightB l = false := by
      cases hq : rightB l with
      | false => rfl
      | true => have := right_len hq; simp at h2; omega
    rw [this]
  · have hlen : 0 < l.length := by simp at h1; omega
    have hlen7 : l.length ≤ 7 := by simp at h2; omega
    obtain ⟨b0, o0, rfl, hc⟩ := hr0.cells (by rw [pl_len]; omega)
    have hhd : hdF l = l[0].fr := by cases l with | nil => simp at hlen | cons x xs => rfl
    have hne : l.isEmpty = false := by cases l with | nil => simp at hlen | cons x xs => rfl
    refine ⟨b0, o0, rfl, by omega, l[0].fr, by simpa using pl_frc hc hlen, ifB_intro (fun h3 => ⟨?_⟩) (fun h3 => ?_)⟩
    · have : emptyB (hdF l) = false := by rw [hhd]; simpa [emptyB] using h3
      simp [rightB, this]
    · have hemp : emptyB (hdF l) = true := by rw [hhd]; simpa [emptyB] using h3
      have bad : ∀ x : Bool, x = false → chk [] none l = x → Value.bool false = Value.bool (rightB l) := fun x hx e => by
        have : rightB l = false := by simp [rightB, e, hx]
        rw [this]
      refine ⟨⟨0, ⟨Nat.zero_le _, ⟨hlen, hlen7, hemp⟩, rfl⟩, by simp⟩, fun i ⟨hi, _, hf⟩ => ifB_intro (fun h4 => ?_) (fun h4 => ⟨?_⟩)⟩
      · have hlt : i < l.length := by simpa using h4
        rw [chk_at hlt] at hf
        have hf' := hf
        rw [← chk_at hlt] at hf'
        refine ⟨b0, o0, rfl, by omega, _, _, _, by simpa using pl_at hc hlt, by trivial, ifB_intro (fun h5 => ⟨?_⟩) (fun h5 => ifB_intro (fun h6 => ⟨?_⟩) (fun h6 => ifB_intro (fun h7 => ⟨?_⟩) (fun h7 => ifB_intro (fun h8 => ⟨?_⟩) (fun h8 => ifB_intro (fun h9 => ⟨?_⟩) (fun h9 => ifB_intro (fun h10 => ?_) (fun h10 => ?_))))))⟩
        · refine bad _ ?_ hf.symm
          have : ¬ 1 ≤ l[i].gr := by simp at h5; omega
          simp [plB, grpB, this]
        · refine bad _ ?_ hf.symm
          have : ¬ l[i].gr < 8 := by simp at h6; omega
          simp [plB, grpB, this]
        · refine bad _ ?_ hf.symm
          have : ¬ 1 ≤ l[i].ep := by simp at h7; omega
          simp [plB, this]
        · refine bad _ ?_ hf.symm
          have : ¬ l[i].ep ≤ 4611686018427387904 := by simp at h8; omega
          simp [plB, this]
        · refine bad _ ?_ hf.symm
          have : ¬ l[i].fr.size ≤ 16 := by simp at h9; omega
          simp [plB, this]
        · have hk0 : 0 < i := by simp at h10; omega
          have wm : IntKind.i64.wrap ((i : Int) - 1) = ((i - 1 : Nat) : Int) := by rw [IntKind.wrap_i64]; omega
          have hla : lastF l i = some l[i - 1].fr := by
            unfold lastF
            rw [if_neg (by omega), List.getElem?_eq_getElem (by omega)]
            rfl
          rw [wm]
          refine ⟨b0, o0, rfl, by omega, l[i - 1].fr, by simpa using pl_frc hc (by omega : i - 1 < l.length), ?_⟩
          rw [ltS_leq]
          refine ifB_intro (fun h11 => ⟨?_⟩) (fun h11 => ?_)
          · refine bad _ ?_ hf.symm
            have : aftB (lastF l i) l[i] = false := by rw [hla]; simpa [aftB] using h11
            rw [this]; simp
          · have ha : aftB (lastF l i) l[i] = true := by rw [hla]; simpa [aftB] using h11
            have hpl : plB l[i] = true := by simp at h5 h6 h7 h8 h9; simp [plB, grpB]; omega
            have hgi : l[i]?.getD ⟨0, .empty, 0⟩ = l[i] := by rw [List.getElem?_eq_getElem hlt]; rfl
            refine ⟨⟨⟨i, 0⟩, ⟨⟨⟨hlt, Nat.zero_le _⟩, ⟨hlen, hlen7, hemp⟩, hf', fun p hp => ?_⟩, by trivial, by simp, ?_⟩, by trivial⟩, fun x ⟨⟨⟨hxi, hxk⟩, _, hxf, hxp⟩, hctx⟩ => ifB_intro (fun h12 => ?_) (fun h12 => ?_)⟩
            · rw [List.getElem?_eq_getElem hlt] at hp
              cases hp
              exact ⟨hpl, ha, rfl⟩
            · simp [hgi]
            · obtain ⟨xi, xk⟩ := x
              simp only at hxi hxk hxf hxp hctx h12 ⊢
              have hk : xk < xi := by simpa using h12
              have hgx : l[xi]?.getD ⟨0, .empty, 0⟩ = l[xi] := by rw [List.getElem?_eq_getElem hxi]; rfl
              obtain ⟨p1, p2, p3⟩ := hxp _ (List.getElem?_eq_getElem hxi)
              rw [hgx]
              refine ⟨by trivial, b0, o0, rfl, by omega, _, by simpa using pl_grc hc (by omega : xk < l.length), ifB_intro (fun h13 => ⟨?_⟩) (fun h13 => ?_)⟩
              · rw [chk_at hxi] at hxf
                refine bad _ ?_ hxf.symm
                have : (gsL l xi).contains l[xi].gr = true := by
                  have e : l[xk].gr = l[xi].gr := by simpa using h13
                  rw [← e]
                  simp only [gsL, List.contains_iff_mem, List.mem_map]
                  exact ⟨l[xk], List.mem_take_iff_getElem.2 ⟨xk, by omega, rfl⟩, rfl⟩
                rw [this]; simp
              · rw [wrap1 (by omega : xk < l.length) hl]
                refine ⟨⟨xi, xk + 1⟩, ⟨⟨⟨⟨hxi, hk⟩, ⟨hlen, hlen7, hemp⟩, hxf, fun p hp => ?_⟩, by trivial, by simp, ?_⟩, hctx⟩, by simp only; omega⟩
                · rw [List.getElem?_eq_getElem hxi] at hp
                  cases hp
                  refine ⟨p1, p2, ?_⟩
                  rw [gs_succ (by omega : xk < l.length)]
                  have e : ¬ l[xi].gr = l[xk].gr := fun e => by simp [e] at h13
                  simp only [List.contains_iff_mem, Bool.eq_false_iff, ne_eq] at p3 ⊢
                  simp [List.mem_append, p3, e]
                · simp [hgx]
            · obtain ⟨xi, xk⟩ := x
              simp only at hxi hxk hxf hxp hctx h12 ⊢
              have hk : xk = xi := by simp at h12; omega
              subst hk
              obtain ⟨p1, p2, p3⟩ := hxp _ (List.getElem?_eq_getElem hxi)
              have hei : xk = i := by simp at hctx; omega
              subst hei
              rw [chk_at hxi] at hxf
              rw [wrap1 hxi hl]
              refine ⟨xk + 1, ⟨⟨hxi, ⟨hlen, hlen7, hemp⟩, ?_⟩, by trivial, by simp⟩, by omega⟩
              rw [← hxf, p1, p2, p3]; simp
        · have hk0 : i = 0 := by simp at h10; omega
          have ha : aftB (lastF l i) l[i] = true := by
            have : lastF l i = none := by rw [hk0]; rfl
            rw [this]; rfl
          have hpl : plB l[i] = true := by simp at h5 h6 h7 h8 h9; simp [plB, grpB]; omega
          have hgi : l[i]?.getD ⟨0, .empty, 0⟩ = l[i] := by rw [List.getElem?_eq_getElem hlt]; rfl
          refine ⟨⟨⟨i, 0⟩, ⟨⟨⟨hlt, Nat.zero_le _⟩, ⟨hlen, hlen7, hemp⟩, hf', fun p hp => ?_⟩, by trivial, by simp, ?_⟩, by trivial⟩, fun x ⟨⟨⟨hxi, hxk⟩, _, hxf, hxp⟩, hctx⟩ => ifB_intro (fun h12 => ?_) (fun h12 => ?_)⟩
          · rw [List.getElem?_eq_getElem hlt] at hp
            cases hp
            exact ⟨hpl, ha, rfl⟩
          · simp [hgi]
          · obtain ⟨xi, xk⟩ := x
            simp only at hxi hxk hxf hxp hctx h12 ⊢
            have hk : xk < xi := by simpa using h12
            have hgx : l[xi]?.getD ⟨0, .empty, 0⟩ = l[xi] := by rw [List.getElem?_eq_getElem hxi]; rfl
            obtain ⟨p1, p2, p3⟩ := hxp _ (List.getElem?_eq_getElem hxi)
            rw [hgx]
            refine ⟨by trivial, b0, o0, rfl, by omega, _, by simpa using pl_grc hc (by omega : xk < l.length), ifB_intro (fun h13 => ⟨?_⟩) (fun h13 => ?_)⟩
            · rw [chk_at hxi] at hxf
              refine bad _ ?_ hxf.symm
              have : (gsL l xi).contains l[xi].gr = true := by
                have e : l[xk].gr = l[xi].gr := by simpa using h13
                rw [← e]
                simp only [gsL, List.contains_iff_mem, List.mem_map]
                exact ⟨l[xk], List.mem_take_iff_getElem.2 ⟨xk, by omega, rfl⟩, rfl⟩
              rw [this]; simp
            · rw [wrap1 (by omega : xk < l.length) hl]
              refine ⟨⟨xi, xk + 1⟩, ⟨⟨⟨⟨hxi, hk⟩, ⟨hlen, hlen7, hemp⟩, hxf, fun p hp => ?_⟩, by trivial, by simp, ?_⟩, hctx⟩, by simp only; omega⟩
              · rw [List.getElem?_eq_getElem hxi] at hp
                cases hp
                refine ⟨p1, p2, ?_⟩
                rw [gs_succ (by omega : xk < l.length)]
                have e : ¬ l[xi].gr = l[xk].gr := fun e => by simp [e] at h13
                simp only [List.contains_iff_mem, Bool.eq_false_iff, ne_eq] at p3 ⊢
                simp [List.mem_append, p3, e]
              · simp [hgx]
          · obtain ⟨xi, xk⟩ := x
            simp only at hxi hxk hxf hxp hctx h12 ⊢
            have hk : xk = xi := by simp at h12; omega
            subst hk
            obtain ⟨p1, p2, p3⟩ := hxp _ (List.getElem?_eq_getElem hxi)
            have hei : xk = i := by simp at hctx; omega
            subst hei
            rw [chk_at hxi] at hxf
            rw [wrap1 hxi hl]
            refine ⟨xk + 1, ⟨⟨hxi, ⟨hlen, hlen7, hemp⟩, ?_⟩, by trivial, by simp⟩, by omega⟩
            rw [← hxf, p1, p2, p3]; simp
      · have : i = l.length := by simp at h4; omega
        subst this
        rw [List.drop_length] at hf
        have hch : chk [] none l = true := hf.symm
        simp [rightB, hne, hemp, hch]

end Go.Proofs.Ytpnpebefcmgjoaa
set_option linter.unusedVariables false
set_option linter.unusedSimpArgs false
namespace Go.Proofs.Ytpnpebefcmgjoaa
open Go.Vc Go.RowKit
set_option maxRecDepth 100000

theorem pl_insert (a : Option Addr) (c : Nat) (l : List Pl) (i vb vo vc : Nat) (x : Pl) (S : Nat → Prop) (hn : l.length ≤ 4398046511000) (hi : i ≤ l.length) (m : M) (h : NewR m.sz S m 3 a l.length c (l.flatMap encPl)) (hS : l ≠ [] → ∀ b o, a = some ⟨b, o, none⟩ → b ≠ vb) (hvlt : vb < m.sz) (hu : m.uf vb) (hv : CellsAt m vb vo (encPl x)) :
    SpecW Try.prog 34 [.slice a l.length c, I i, .slice (some ⟨vb, vo, none⟩) 1 vc] m S fun v m' => ∃ a' c', v = .slice a' (l.length + 1) c' ∧ NewR m.sz S m' 3 a' (l.length + 1) c' ((l.take i ++ x :: l.drop i).flatMap encPl) := by
  refine SpecW.of_vc Try.func34 (ann := noAnn) ?_
  refine vc_by (X :=
      true = true ∧
      (true = true ∧ (0 : Int) ≤ (↑i : Int) ∧ (↑i : Int) ≤ (↑l.length : Int) ∧ True ∧ True) ∧
      ifB ((↑i : Int) == (↑l.length : Int))
      (∃ (old : List Value),
      ∃ (src : List Value),
      AppPre m.sz S m (3 : Nat) (32 : Nat) a l.length c (some { block := vb, off := vo : Addr }) (1 : Nat) old src ∧
      ∀ (a' : Option Addr) (c' : Nat) (m' : M),
      AppPost Try.prog (39 : Nat) m (3 : Nat) a l.length c (1 : Nat) old src a' c' m' →
      Done
      (∃ (a'_1 : Option Addr),
      ∃ (c'_1 : Nat),
      Value.slice a' (l.length + (1 : Nat)) c' = Value.slice a'_1 (l.length + (1 : Nat)) c'_1 ∧
      NewR m.sz S m' (3 : Nat) a'_1 (l.length + (1 : Nat)) c'_1 (List.flatMap encPl (List.take i l ++ x :: List.drop i l))))
      (ifB (decide (IntKind.i64.wrap ((↑l.length : Int) + (↑(1 : Nat) : Int)) > (↑c : Int)))
      ((true = true ∧ (0 : Int) ≤ (0 : Int) ∧ (0 : Int) ≤ (↑i : Int) ∧ (↑i : Int) ≤ (↑c : Int) ∧ True) ∧
      ∃ (old : List Value),
      ((0 : Int) ≤ IntKind.i64.wrap (IntKind.i64.wrap ((↑l.length : Int) + (↑(1 : Nat) : Int)) - (↑i : Int)) ∧
      AppPreZ Try.prog (39 : Nat) m.sz S m (3 : Nat) (32 : Nat) (if (↑c : Int).toNat = (0 : Nat) then a else Option.map (fun (x : Addr) => x) a)
      ((↑i : Int).toNat - (0 : Nat)) ((↑c : Int).toNat - (0 : Nat)) (IntKind.i64.wrap (IntKind.i64.wrap ((↑l.length : Int) + (↑(1 : Nat) : Int)) - (↑i : Int))).toNat
      old) ∧
      ∀ (a' : Option Addr) (c' : Nat) (m' : M),
      AppPost Try.prog (39 : Nat) m (3 : Nat) (if (↑c : Int).toNat = (0 : Nat) then a else Option.map (fun (x : Addr) => x) a) ((↑i : Int).toNat - (0 : Nat))
      ((↑c : Int).toNat - (0 : Nat)) (IntKind.i64.wrap (IntKind.i64.wrap ((↑l.length : Int) + (↑(1 : Nat) : Int)) - (↑i : Int))).toNat old
      (zeroRow Try.prog (39 : Nat) (IntKind.i64.wrap (IntKind.i64.wrap ((↑l.length : Int) + (↑(1 : Nat) : Int)) - (↑i : Int))).toNat) a' c' m' →
      (true = true ∧
      (0 : Int) ≤ (↑i : Int) ∧
      (↑i : Int) ≤ (↑((↑i : Int).toNat - (0 : Nat) + (IntKind.i64.wrap (IntKind.i64.wrap ((↑l.length : Int) + (↑(1 : Nat) : Int)) - (↑i : Int))).toNat) : Int) ∧
      True ∧ True) ∧
      ∃ (src : List Value),
      CopyPre m.sz S m' (3 : Nat)
      (if (↑c' : Int).toNat = (↑i : Int).toNat then a' else Option.map (fun (x : Addr) => x.add ((↑i : Int).toNat * Try.prog.types[(39 : Nat)].size)) a')
      ((↑((↑i : Int).toNat - (0 : Nat) + (IntKind.i64.wrap (IntKind.i64.wrap ((↑l.length : Int) + (↑(1 : Nat) : Int)) - (↑i : Int))).toNat) : Int).toNat -
      (↑i : Int).toNat)
      (some { block := vb, off := vo : Addr }) (1 : Nat) src ∧
      ∀ (m'_1 : M),
      CopyPost m'
      (if (↑c' : Int).toNat = (↑i : Int).toNat then a' else Option.map (fun (x : Addr) => x.add ((↑i : Int).toNat * Try.prog.types[(39 : Nat)].size)) a')
      src m'_1 →
      true = true ∧
      (true = true ∧
      (0 : Int) ≤ IntKind.i64.wrap ((↑i : Int) + (↑(1 : Nat) : Int)) ∧
      IntKind.i64.wrap ((↑i : Int) + (↑(1 : Nat) : Int)) ≤
      (↑((↑i : Int).toNat - (0 : Nat) + (IntKind.i64.wrap (IntKind.i64.wrap ((↑l.length : Int) + (↑(1 : Nat) : Int)) - (↑i : Int))).toNat) :
      Int) ∧
      True ∧ True) ∧
      (true = true ∧ (0 : Int) ≤ (↑i : Int) ∧ (↑i : Int) ≤ (↑l.length : Int) ∧ True ∧ True) ∧
      (∃ (src : List Value),
      CopyPre m.sz S m'_1 (3 : Nat)
      (if (↑c' : Int).toNat = (IntKind.i64.wrap ((↑i : Int) + (↑(1 : Nat) : Int))).toNat then a'
      else
      Option.map (fun (x : Addr) => x.add ((IntKind.i64.wrap ((↑i : Int) + (↑(1 : Nat) : Int))).toNat * Try.prog.types[(39 : Nat)].size)) a')
      ((↑((↑i : Int).toNat - (0 : Nat) + (IntKind.i64.wrap (IntKind.i64.wrap ((↑l.length : Int) + (↑(1 : Nat) : Int)) - (↑i : Int))).toNat) :
      Int).toNat -
      (IntKind.i64.wrap ((↑i : Int) + (↑(1 : Nat) : Int))).toNat)
      (if (↑c : Int).toNat = (↑i : Int).toNat then a
      else Option.map (fun (x : Addr) => x.add ((↑i : Int).toNat * Try.prog.types[(39 : Nat)].size)) a)
      ((↑l.length : Int).toNat - (↑i : Int).toNat) src ∧
      ∀ (m' : M),
      CopyPost m'_1
      (if (↑c' : Int).toNat = (IntKind.i64.wrap ((↑i : Int) + (↑(1 : Nat) : Int))).toNat then a'
      else
      Option.map (fun (x : Addr) => x.add ((IntKind.i64.wrap ((↑i : Int) + (↑(1 : Nat) : Int))).toNat * Try.prog.types[(39 : Nat)].size))
      a')
      src m' →
      Done
      (∃ (a'_1 : Option Addr),
      ∃ (c'_1 : Nat),
      Value.slice a'
      ((↑i : Int).toNat - (0 : Nat) +
      (IntKind.i64.wrap (IntKind.i64.wrap ((↑l.length : Int) + (↑(1 : Nat) : Int)) - (↑i : Int))).toNat)
      c' =
      Value.slice a'_1 (l.length + (1 : Nat)) c'_1 ∧
      NewR m.sz S m' (3 : Nat) a'_1 (l.length + (1 : Nat)) c'_1 (List.flatMap encPl (List.take i l ++ x :: List.drop i l)))) ∧
      True)
      ((true = true ∧
      (0 : Int) ≤ (0 : Int) ∧
      (0 : Int) ≤ IntKind.i64.wrap ((↑l.length : Int) + (↑(1 : Nat) : Int)) ∧ IntKind.i64.wrap ((↑l.length : Int) + (↑(1 : Nat) : Int)) ≤ (↑c : Int) ∧ True) ∧
      (true = true ∧
      (0 : Int) ≤ IntKind.i64.wrap ((↑i : Int) + (↑(1 : Nat) : Int)) ∧
      IntKind.i64.wrap ((↑i : Int) + (↑(1 : Nat) : Int)) ≤ (↑((IntKind.i64.wrap ((↑l.length : Int) + (↑(1 : Nat) : Int))).toNat - (0 : Nat)) : Int) ∧ True ∧ True) ∧
      ∃ (b : Bool),
      RunV Try.prog (38 : Nat)
      [Value.slice (some { block := vb, off := vo : Addr }) (1 : Nat) vc,
      Value.slice
      (if (↑((↑c : Int).toNat - (0 : Nat)) : Int).toNat = (IntKind.i64.wrap ((↑i : Int) + (↑(1 : Nat) : Int))).toNat then
      if (↑c : Int).toNat = (0 : Nat) then a else Option.map (fun (x : Addr) => x) a
      else
      Option.map (fun (x : Addr) => x.add ((IntKind.i64.wrap ((↑i : Int) + (↑(1 : Nat) : Int))).toNat * Try.prog.types[(39 : Nat)].size))
      (if (↑c : Int).toNat = (0 : Nat) then a else Option.map (fun (x : Addr) => x) a))
      ((↑((IntKind.i64.wrap ((↑l.length : Int) + (↑(1 : Nat) : Int))).toNat - (0 : Nat)) : Int).toNat - (IntKind.i64.wrap ((↑i : Int) + (↑(1 : Nat) : Int))).toNat)
      ((↑((↑c : Int).toNat - (0 : Nat)) : Int).toNat - (IntKind.i64.wrap ((↑i : Int) + (↑(1 : Nat) : Int))).toNat)]
      m (Value.bool b) ∧
      ifB (!b)
      (true = true ∧
      (true = true ∧
      (0 : Int) ≤ IntKind.i64.wrap ((↑i : Int) + (↑(1 : Nat) : Int)) ∧
      IntKind.i64.wrap ((↑i : Int) + (↑(1 : Nat) : Int)) ≤ (↑((IntKind.i64.wrap ((↑l.length : Int) + (↑(1 : Nat) : Int))).toNat - (0 : Nat)) : Int) ∧
      True ∧ True) ∧
      (true = true ∧ (0 : Int) ≤ (↑i : Int) ∧ (↑i : Int) ≤ (↑((IntKind.i64.wrap ((↑l.length : Int) + (↑(1 : Nat) : Int))).toNat - (0 : Nat)) : Int) ∧ True ∧ True) ∧
      (∃ (src : List Value),
      CopyPre m.sz S m (3 : Nat)
      (if (↑((↑c : Int).toNat - (0 : Nat)) : Int).toNat = (IntKind.i64.wrap ((↑i : Int) + (↑(1 : Nat) : Int))).toNat then
      if (↑c : Int).toNat = (0 : Nat) then a else Option.map (fun (x : Addr) => x) a
      else
      Option.map (fun (x : Addr) => x.add ((IntKind.i64.wrap ((↑i : Int) + (↑(1 : Nat) : Int))).toNat * Try.prog.types[(39 : Nat)].size))
      (if (↑c : Int).toNat = (0 : Nat) then a else Option.map (fun (x : Addr) => x) a))
      ((↑((IntKind.i64.wrap ((↑l.length : Int) + (↑(1 : Nat) : Int))).toNat - (0 : Nat)) : Int).toNat -
      (IntKind.i64.wrap ((↑i : Int) + (↑(1 : Nat) : Int))).toNat)
      (if (↑((↑c : Int).toNat - (0 : Nat)) : Int).toNat = (↑i : Int).toNat then
      if (↑c : Int).toNat = (0 : Nat) then a else Option.map (fun (x : Addr) => x) a
      else
      Option.map (fun (x : Addr) => x.add ((↑i : Int).toNat * Try.prog.types[(39 : Nat)].size))
      (if (↑c : Int).toNat = (0 : Nat) then a else Option.map (fun (x : Addr) => x) a))
      ((↑((IntKind.i64.wrap ((↑l.length : Int) + (↑(1 : Nat) : Int))).toNat - (0 : Nat)) : Int).toNat - (↑i : Int).toNat) src ∧
      ∀ (m' : M),
      CopyPost m
      (if (↑((↑c : Int).toNat - (0 : Nat)) : Int).toNat = (IntKind.i64.wrap ((↑i : Int) + (↑(1 : Nat) : Int))).toNat then
      if (↑c : Int).toNat = (0 : Nat) then a else Option.map (fun (x : Addr) => x) a
      else
      Option.map (fun (x : Addr) => x.add ((IntKind.i64.wrap ((↑i : Int) + (↑(1 : Nat) : Int))).toNat * Try.prog.types[(39 : Nat)].size))
      (if (↑c : Int).toNat = (0 : Nat) then a else Option.map (fun (x : Addr) => x) a))
      src m' →
      (true = true ∧
      (0 : Int) ≤ (↑i : Int) ∧
      (↑i : Int) ≤ (↑((IntKind.i64.wrap ((↑l.length : Int) + (↑(1 : Nat) : Int))).toNat - (0 : Nat)) : Int) ∧ True ∧ True) ∧
      ∃ (src : List Value),
      CopyPre m.sz S m' (3 : Nat)
      (if (↑((↑c : Int).toNat - (0 : Nat)) : Int).toNat = (↑i : Int).toNat then
      if (↑c : Int).toNat = (0 : Nat) then a else Option.map (fun (x : Addr) => x) a
      else
      Option.map (fun (x : Addr) => x.add ((↑i : Int).toNat * Try.prog.types[(39 : Nat)].size))
      (if (↑c : Int).toNat = (0 : Nat) then a else Option.map (fun (x : Addr) => x) a))
      ((↑((IntKind.i64.wrap ((↑l.length : Int) + (↑(1 : Nat) : Int))).toNat - (0 : Nat)) : Int).toNat - (↑i : Int).toNat)
      (some { block := vb, off := vo : Addr }) (1 : Nat) src ∧
      ∀ (m'_1 : M),
      CopyPost m'
      (if (↑((↑c : Int).toNat - (0 : Nat)) : Int).toNat = (↑i : Int).toNat then
      if (↑c : Int).toNat = (0 : Nat) then a else Option.map (fun (x : Addr) => x) a
      else
      Option.map (fun (x : Addr) => x.add ((↑i : Int).toNat * Try.prog.types[(39 : Nat)].size))
      (if (↑c : Int).toNat = (0 : Nat) then a else Option.map (fun (x : Addr) => x) a))
      src m'_1 →
      Done
      (∃ (a' : Option Addr),
      ∃ (c' : Nat),
      Value.slice (if (↑c : Int).toNat = (0 : Nat) then a else Option.map (fun (x : Addr) => x) a)
      ((IntKind.i64.wrap ((↑l.length : Int) + (↑(1 : Nat) : Int))).toNat - (0 : Nat)) ((↑c : Int).toNat - (0 : Nat)) =
      Value.slice a' (l.length + (1 : Nat)) c' ∧
      NewR m.sz S m'_1 (3 : Nat) a' (l.length + (1 : Nat)) c' (List.flatMap encPl (List.take i l ++ x :: List.drop i l)))) ∧
      True)
      ((true = true ∧
      (0 : Int) ≤ (↑l.length : Int) ∧ (↑l.length : Int) ≤ (↑((IntKind.i64.wrap ((↑l.length : Int) + (↑(1 : Nat) : Int))).toNat - (0 : Nat)) : Int) ∧ True ∧ True) ∧
      ∃ (src : List Value),
      CopyPre m.sz S m (3 : Nat)
      (if (↑((↑c : Int).toNat - (0 : Nat)) : Int).toNat = (↑l.length : Int).toNat then
      if (↑c : Int).toNat = (0 : Nat) then a else Option.map (fun (x : Addr) => x) a
      else
      Option.map (fun (x : Addr) => x.add ((↑l.length : Int).toNat * Try.prog.types[(39 : Nat)].size))
      (if (↑c : Int).toNat = (0 : Nat) then a else Option.map (fun (x : Addr) => x) a))
      ((↑((IntKind.i64.wrap ((↑l.length : Int) + (↑(1 : Nat) : Int))).toNat - (0 : Nat)) : Int).toNat - (↑l.length : Int).toNat)
      (some { block := vb, off := vo : Addr }) (1 : Nat) src ∧
      ∀ (m' : M),
      CopyPost m
      (if (↑((↑c : Int).toNat - (0 : Nat)) : Int).toNat = (↑l.length : Int).toNat then
      if (↑c : Int).toNat = (0 : Nat) then a else Option.map (fun (x : Addr) => x) a
      else
      Option.map (fun (x : Addr) => x.add ((↑l.length : Int).toNat * Try.prog.types[(39 : Nat)].size))
      (if (↑c : Int).toNat = (0 : Nat) then a else Option.map (fun (x : Addr) => x) a))
      src m' →
      (true = true ∧
      (0 : Int) ≤ (↑i : Int) ∧ (↑i : Int) ≤ (↑((IntKind.i64.wrap ((↑l.length : Int) + (↑(1 : Nat) : Int))).toNat - (0 : Nat)) : Int) ∧ True ∧ True) ∧
      ∃ (S' : Nat → Prop),
      (∀ (b : Nat), S' b → m'.uf b ∧ (m.sz ≤ b ∨ S b)) ∧
      ∀ (n : Nat),
      m'.sz ≤ n →
      SpecW Try.prog (39 : Nat)
      [Value.slice
      (if (↑((↑c : Int).toNat - (0 : Nat)) : Int).toNat = (↑i : Int).toNat then
      if (↑c : Int).toNat = (0 : Nat) then a else Option.map (fun (x : Addr) => x) a
      else
      Option.map (fun (x : Addr) => x.add ((↑i : Int).toNat * Try.prog.types[(39 : Nat)].size))
      (if (↑c : Int).toNat = (0 : Nat) then a else Option.map (fun (x : Addr) => x) a))
      ((↑((IntKind.i64.wrap ((↑l.length : Int) + (↑(1 : Nat) : Int))).toNat - (0 : Nat)) : Int).toNat - (↑i : Int).toNat)
      ((↑((↑c : Int).toNat - (0 : Nat)) : Int).toNat - (↑i : Int).toNat),
      Value.int IntKind.i64 (↑(1 : Nat) : Int)]
      { π := m'.π, sz := n, uf := m'.uf : M } S' fun (v : Value) (m' : M) =>
      v = Value.tuple #[] ∧
      Done
      (∃ (a' : Option Addr),
      ∃ (c' : Nat),
      Value.slice (if (↑c : Int).toNat = (0 : Nat) then a else Option.map (fun (x : Addr) => x) a)
      ((IntKind.i64.wrap ((↑l.length : Int) + (↑(1 : Nat) : Int))).toNat - (0 : Nat)) ((↑c : Int).toNat - (0 : Nat)) =
      Value.slice a' (l.length + (1 : Nat)) c' ∧
      NewR m.sz S m' (3 : Nat) a' (l.length + (1 : Nat)) c' (List.flatMap encPl (List.take i l ++ x :: List.drop i l))))))) (by kernel_rfl) ?_
  have hk : ∀ x, (encPl x).length = 3 := fun _ => rfl
  have w1 : IntKind.i64.wrap ((l.length : Int) + ((1 : Nat) : Int)) = ((l.length + 1 : Nat) : Int) := by simp [IntKind.wrap_i64]; omega
  have w2 : IntKind.i64.wrap (((l.length + 1 : Nat) : Int) - (i : Int)) = ((l.length + 1 - i : Nat) : Int) := by simp [IntKind.wrap_i64]; omega
  have w3 : IntKind.i64.wrap ((i : Int) + ((1 : Nat) : Int)) = ((i + 1 : Nat) : Int) := by simp [IntKind.wrap_i64]; omega
  have es : Try.prog.types[39].size = 3 := by kernel_rfl
  simp only [w1, w2, w3, es, Int.toNat_natCast, Nat.sub_zero, Option.map_id_fun', id_eq, ite_self]
  have zl : ∀ k, (zeroRow Try.prog 39 k).length = k * 3 := zrLen (by kernel_rfl)
  have z1 : ∀ k, oneCells (zeroRow Try.prog 39 k) = true := zrOne (by kernel_rfl)
  have o1 : ∀ y : List Pl, oneCells (y.flatMap encPl) = true := fun y => by
    rw [oneCells_iff]; intro v hv
    obtain ⟨w, -, hw⟩ := List.mem_flatMap.1 hv
    exact oneCells_iff.1 (rfl : oneCells (encPl w) = true) v hw
  have hvr : Row m (some ⟨vb, vo, none⟩) (encPl x) := .at _ _ _ hvlt hv
  have eres : (l.take i ++ x :: l.drop i).flatMap encPl = (l.take i).flatMap encPl ++ (encPl x ++ (l.drop i).flatMap encPl) := by
    rw [List.flatMap_append, List.flatMap_cons]
  rw [eres]
  refine ⟨trivial, ⟨trivial, by omega, by omega, trivial, trivial⟩, ifB_intro (fun hb => ?_) (fun hb => ?_)⟩
  · have hil : i = l.length := by simp at hb; omega
    subst hil
    refine ⟨_, _, h.appPre hvr (hk x) rfl (by omega), fun a' c' m' hp => ⟨⟨a', c', rfl, ?_⟩⟩⟩
    have := h.append hp (hk x) zl (Nat.le_refl _)
    rw [List.take_length, List.drop_length, List.flatMap_nil, List.append_nil]
    exact this
  have hil : i < l.length := by simp at hb; omega
  have ho := h.toOwn (by omega)
  obtain ⟨b, o, rfl, -⟩ := ho.row.cells (by rw [flat_len hk]; omega)
  have hcl := ho.capLe
  have hbv := hS (fun e => by subst e; simp at hil) b o rfl
  have hTl : ((l.take i).flatMap encPl).length = i * 3 := by rw [flat_len hk, List.length_take]; congr 1; omega
  have hDl : ((l.drop i).flatMap encPl).length = (l.length - i) * 3 := by rw [flat_len hk, List.length_drop]
  have hne : some (⟨b, o, none⟩ : Addr) ≠ none := by simp
  have hci : c ≠ i := by omega
  rw [flat_cut l i] at ho
  generalize hT : (l.take i).flatMap encPl = T at *
  generalize hD : (l.drop i).flatMap encPl = D at *
  refine ifB_intro (fun hc => ?_) (fun hc => ?_)
  · have hcl2 : c = l.length := by simp at hc; omega
    refine ⟨⟨trivial, by omega, by omega, by omega, trivial⟩, T, ⟨by omega, ⟨ho.row.take.rowAt, hTl, zl _, z1 _, by decide, by omega, (fun e => by cases e), fun _ hr => by omega⟩⟩, fun a' c' m' hp => ⟨⟨trivial, by omega, by omega, trivial, trivial⟩, ?_⟩⟩
    rcases hp with ⟨hr, -⟩ | ⟨-, b', hb', hc', rfl, rfl⟩
    · omega
    have hbb : b ≠ b' := by have := ho.lt rfl; omega
    have hvb : vb ≠ b' := by omega
    have e1 : i + (l.length + 1 - i) = l.length + 1 := by omega
    generalize hz : zeroRow Try.prog 39 (l.length + 1 - i) = z at *
    have hzl : z.length = (l.length + 1 - i) * 3 := by rw [← hz, zl]
    have zs : z = z.take 3 ++ z.drop 3 := (List.take_append_drop _ _).symm
    have zt : (z.take 3).length = 3 := by rw [List.length_take, hzl]; omega
    have zd : (z.drop 3).length = (l.length - i) * 3 := by rw [List.length_drop, hzl]; omega
    have q1 : OwnB m.sz S (m.newBlock b' (T ++ z ++ zeroRow Try.prog 39 (c' - (i + (l.length + 1 - i))))) 3 (some ⟨b', 0, none⟩) (l.length + 1) c' (T ++ (z.take 3 ++ z.drop 3)) := by
      rw [← zs]
      exact OwnB.new hb' (by rw [List.length_append, hTl, hzl]; omega) (by rw [zl]; congr 1; omega) (by omega)
    obtain ⟨g1, q2⟩ := q1.set (new := encPl x) (by rw [zt]; exact hk x)
    rw [hTl] at g1 q2
    have q2' : OwnB m.sz S ((m.newBlock b' (T ++ z ++ zeroRow Try.prog 39 (c' - (i + (l.length + 1 - i))))).setCells b' (0 + i * 3) (encPl x)) 3 (some ⟨b', 0, none⟩) (l.length + 1) c' ((T ++ encPl x) ++ (z.drop 3 ++ [])) := by
      rw [show (T ++ encPl x) ++ (z.drop 3 ++ []) = T ++ (encPl x ++ z.drop 3) by rw [List.append_nil, List.append_assoc]]; exact q2
    obtain ⟨g2, q3⟩ := q2'.set (new := D) (by rw [zd, hDl])
    have el : (T ++ encPl x).length = (i + 1) * 3 := by rw [List.length_append, hTl, hk]; omega
    rw [el] at g2 q3
    refine ⟨encPl x, copyPre (sub_addr (by omega)) (hvr.newBlock hb').rowAt (by rw [hk]; omega) rfl g1 (by simp), fun m1 hp1 => ?_⟩
    have hm1 := hp1.atc (sub_addr (by omega))
    subst hm1
    have hDr : Row ((m.newBlock b' (T ++ z ++ zeroRow Try.prog 39 (c' - (i + (l.length + 1 - i))))).setCells b' (0 + i * 3) (encPl x)) (some ⟨b, o + i * 3, none⟩) D := by
      have h1 := ho.row.drop hTl
      rw [show (some (⟨b, o, none⟩ : Addr)).map (fun x => x.add (i * 3)) = some ⟨b, o + i * 3, none⟩ from by show some (Addr.add _ _) = _; rw [add_none]] at h1
      exact (h1.newBlock hb').of (Nat.le_refl _) fun b2 o2 e2 _ => setCells_other (by cases e2; exact hbb)
    refine ⟨trivial, ⟨trivial, by omega, by omega, trivial, trivial⟩, ⟨trivial, by omega, by omega, trivial, trivial⟩, ⟨D, copyPre (sub_addr (by omega)) (by rw [sub_addr hci]; exact hDr.rowAt) (by rw [hDl]; congr 1; omega) (by rw [← hD]; exact o1 _) g2 (by rw [sub_addr hci]; simp), fun m2 hp2 => ?_⟩, trivial⟩
    have hm2 := hp2.atc (sub_addr (by omega))
    subst hm2
    refine ⟨⟨_, c', by rw [e1], .own ?_⟩⟩
    rw [show (T ++ encPl x) ++ (D ++ []) = T ++ (encPl x ++ D) by rw [List.append_nil, List.append_assoc]] at q3
    exact q3
  · have hcl2 : l.length + 1 ≤ c := by simp at hc; omega
    have hi1 : c ≠ i + 1 := by omega
    have hov : RunV Try.prog 38 [.slice (some ⟨vb, vo, none⟩) 1 vc, .slice (some ⟨b, o + (i + 1) * 3, none⟩) (l.length + 1 - (i + 1)) (c - (i + 1))] m (.bool false) :=
      over_run Try.func38 (by kernel_rfl) (by kernel_rfl) (by kernel_rfl) (t := 22) (tR := 4) (by kernel_rfl) Try.underlying22 (i := Try.prog.types[39]) (by kernel_rfl) (Ne.symm hbv) hu (ho.uf rfl) (by
        obtain ⟨b2, o2, e2, hcell⟩ := ho.row.cells (by rw [List.length_append, hTl, hDl]; omega)
        cases e2
        have h0 := hcell.out 0 (by rw [List.length_append, hTl, hDl]; omega)
        rw [List.getElem?_eq_getElem (by rw [List.length_append, hTl, hDl]; omega)] at h0
        exact ⟨_, _, h0⟩)
    cases ho with
    | «at» b o len cap cs rest lo lt uf hcells hl hr hc' =>
    have rs : rest = rest.take 3 ++ rest.drop 3 := (List.take_append_drop _ _).symm
    have rt : (rest.take 3).length = 3 := by rw [List.length_take, hr]; omega
    have rd : (rest.drop 3).length = (c - (l.length + 1)) * 3 := by rw [List.length_drop, hr]; omega
    have ds : D = D.take 3 ++ D.drop 3 := (List.take_append_drop _ _).symm
    have dt : (D.take 3).length = 3 := by rw [List.length_take, hDl]; omega
    have dd : (D.drop 3).length = (l.length - (i + 1)) * 3 := by rw [List.length_drop, hDl]; omega
    have q1 : OwnB m.sz S m 3 (some ⟨b, o, none⟩) (l.length + 1) c ((T ++ D.take 3) ++ ((D.drop 3 ++ rest.take 3) ++ [])) := by
      refine .at b o _ _ _ (rest.drop 3) lo lt uf ?_ (by simp only [List.length_append, List.length_nil, hTl, dt, dd, rt]; omega) rd hcl2
      have e1 : T ++ D.take 3 ++ ((D.drop 3 ++ rest.take 3) ++ []) ++ rest.drop 3 = T ++ D ++ rest := by
        conv => rhs; rw [ds, rs]
        simp only [List.append_assoc, List.append_nil]
      rw [e1]; exact hcells
    obtain ⟨g1, q2⟩ := q1.set (new := D) (by rw [List.length_append, dd, rt, hDl]; omega)
    have el : (T ++ D.take 3).length = (i + 1) * 3 := by rw [List.length_append, hTl, dt]; omega
    rw [el] at g1 q2
    rw [show (T ++ D.take 3) ++ (D ++ []) = T ++ (D.take 3 ++ D) by rw [List.append_nil, List.append_assoc]] at q2
    obtain ⟨g2, q3⟩ := q2.set (new := encPl x) (by rw [dt]; exact hk x)
    rw [hTl] at g2 q3
    have hDr : RowAt m (some ⟨b, o + i * 3, none⟩) D := by
      have := hcells.take.drop
      rw [hTl] at this
      exact .inr ⟨b, _, rfl, this⟩
    refine ⟨⟨trivial, by omega, by omega, by omega, trivial⟩, ⟨trivial, by omega, by omega, trivial, trivial⟩, false, by rw [sub_addr hi1]; exact hov, ifB_true ⟨trivial, ⟨trivial, by omega, by omega, trivial, trivial⟩, ⟨trivial, by omega, by omega, trivial, trivial⟩, ⟨D, copyPre (sub_addr hi1) (by rw [sub_addr hci]; exact hDr) (by rw [hDl]; congr 1; omega) (by rw [← hD]; exact o1 _) g1 (by rw [sub_addr hci]; simp), fun m1 hp1 => ?_⟩, trivial⟩⟩
    have hm1 := hp1.atc (sub_addr hi1)
    subst hm1
    refine ⟨⟨trivial, by omega, by omega, trivial, trivial⟩, encPl x, copyPre (sub_addr hci) (Row.of (m' := m.setCells b (o + (i + 1) * 3) D) hvr (Nat.le_refl _) fun b2 o2 e2 _ => setCells_other (by cases e2; exact Ne.symm hbv)).rowAt (by rw [hk]; omega) rfl g2 (by simp), fun m2 hp2 => ?_⟩
    have hm2 := hp2.atc (sub_addr hci)
    subst hm2
    exact ⟨⟨_, c, rfl, .own q3⟩⟩

end Go.Proofs.Ytpnpebefcmgjoaa
set_option linter.unusedVariables false
set_option linter.unusedSimpArgs false
namespace Go.Proofs.Ytpnpebefcmgjoaa
open Go.Vc Go.RowKit
set_option maxRecDepth 100000

theorem pl_delete (a : Option Addr) (c : Nat) (l : List Pl) (i : Nat) (S : Nat → Prop) (hn : l.length ≤ 4398046511000) (hi : i < l.length) (m : M) (h : OwnB m.sz S m 3 a l.length c (l.flatMap encPl)) :
    SpecW Try.prog 36 [.slice a l.length c, I i, I ((i + 1 : Nat) : Int)] m S fun v m' => v = .slice a (l.length - 1) c ∧ OwnB m.sz S m' 3 a (l.length - 1) c ((l.take i ++ l.drop (i + 1)).flatMap encPl) := by
  refine SpecW.of_vc Try.func36 (ann := noAnn) ?_
  refine vc_by (X :=
      true = true ∧
      (true = true ∧ (0 : Int) ≤ (↑i : Int) ∧ (↑i : Int) ≤ (↑(i + (1 : Nat)) : Int) ∧ (↑(i + (1 : Nat)) : Int) ≤ (↑l.length : Int) ∧ (↑l.length : Int) ≤ (↑c : Int)) ∧
      ifB ((↑i : Int) == (↑(i + (1 : Nat)) : Int))
      (Done
      (Value.slice a l.length c = Value.slice a (l.length - (1 : Nat)) c ∧
      OwnB m.sz S m (3 : Nat) a (l.length - (1 : Nat)) c (List.flatMap encPl (List.take i l ++ List.drop (i + (1 : Nat)) l))))
      (true = true ∧
      (true = true ∧ (0 : Int) ≤ (0 : Int) ∧ (0 : Int) ≤ (↑i : Int) ∧ (↑i : Int) ≤ (↑c : Int) ∧ True) ∧
      (true = true ∧ (0 : Int) ≤ (↑(i + (1 : Nat)) : Int) ∧ (↑(i + (1 : Nat)) : Int) ≤ (↑l.length : Int) ∧ True ∧ True) ∧
      (∃ (old : List Value),
      ∃ (src : List Value),
      AppPre m.sz S m (3 : Nat) (32 : Nat) (if (↑c : Int).toNat = (0 : Nat) then a else Option.map (fun (x : Addr) => x) a) ((↑i : Int).toNat - (0 : Nat))
      ((↑c : Int).toNat - (0 : Nat))
      (if (↑c : Int).toNat = (↑(i + (1 : Nat)) : Int).toNat then a
      else Option.map (fun (x : Addr) => { block := x.block, off := x.off + (↑(i + (1 : Nat)) : Int).toNat * (3 : Nat) : Addr }) a)
      ((↑l.length : Int).toNat - (↑(i + (1 : Nat)) : Int).toNat) old src ∧
      ∀ (a' : Option Addr) (c' : Nat) (m' : M),
      AppPost Try.prog (39 : Nat) m (3 : Nat) (if (↑c : Int).toNat = (0 : Nat) then a else Option.map (fun (x : Addr) => x) a) ((↑i : Int).toNat - (0 : Nat))
      ((↑c : Int).toNat - (0 : Nat)) ((↑l.length : Int).toNat - (↑(i + (1 : Nat)) : Int).toNat) old src a' c' m' →
      (true = true ∧
      (0 : Int) ≤ (↑((↑i : Int).toNat - (0 : Nat) + ((↑l.length : Int).toNat - (↑(i + (1 : Nat)) : Int).toNat)) : Int) ∧
      (↑((↑i : Int).toNat - (0 : Nat) + ((↑l.length : Int).toNat - (↑(i + (1 : Nat)) : Int).toNat)) : Int) ≤ (↑l.length : Int) ∧
      (↑l.length : Int) ≤ (↑c' : Int) ∧ True) ∧
      true = true ∧
      ((↑l.length : Int).toNat - (↑((↑i : Int).toNat - (0 : Nat) + ((↑l.length : Int).toNat - (↑(i + (1 : Nat)) : Int).toNat)) : Int).toNat ≠ (0 : Nat) →
      ∃ (b : Nat),
      ∃ (o : Nat),
      (if (↑c' : Int).toNat = (↑((↑i : Int).toNat - (0 : Nat) + ((↑l.length : Int).toNat - (↑(i + (1 : Nat)) : Int).toNat)) : Int).toNat then a'
      else
      Option.map
      (fun (x : Addr) =>
      x.add
      ((↑((↑i : Int).toNat - Int.toNat (0 : Int) + ((↑l.length : Int).toNat - (↑(i + (1 : Nat)) : Int).toNat)) : Int).toNat *
      Try.prog.types[(39 : Nat)].size))
      a') =
      some { block := b, off := o : Addr } ∧
      Wr m.sz S m' b o
      (((↑l.length : Int).toNat - (↑((↑i : Int).toNat - (0 : Nat) + ((↑l.length : Int).toNat - (↑(i + (1 : Nat)) : Int).toNat)) : Int).toNat) *
      (3 : Nat))) ∧
      ∀ (m'_1 : M),
      CopyPost m'
      (if (↑c' : Int).toNat = (↑((↑i : Int).toNat - (0 : Nat) + ((↑l.length : Int).toNat - (↑(i + (1 : Nat)) : Int).toNat)) : Int).toNat then a'
      else
      Option.map
      (fun (x : Addr) =>
      x.add
      ((↑((↑i : Int).toNat - Int.toNat (0 : Int) + ((↑l.length : Int).toNat - (↑(i + (1 : Nat)) : Int).toNat)) : Int).toNat *
      Try.prog.types[(39 : Nat)].size))
      a')
      (zeroRow Try.prog (39 : Nat)
      ((↑l.length : Int).toNat - (↑((↑i : Int).toNat - (0 : Nat) + ((↑l.length : Int).toNat - (↑(i + (1 : Nat)) : Int).toNat)) : Int).toNat))
      m'_1 →
      Done
      (Value.slice a' ((↑i : Int).toNat - (0 : Nat) + ((↑l.length : Int).toNat - (↑(i + (1 : Nat)) : Int).toNat)) c' =
      Value.slice a (l.length - (1 : Nat)) c ∧
      OwnB m.sz S m'_1 (3 : Nat) a (l.length - (1 : Nat)) c (List.flatMap encPl (List.take i l ++ List.drop (i + (1 : Nat)) l)))) ∧
      True)) (by kernel_rfl) ?_
  have hk : ∀ x, (encPl x).length = 3 := fun _ => rfl
  have es : Try.prog.types[39].size = 3 := by kernel_rfl
  have zl : ∀ k, (zeroRow Try.prog 39 k).length = k * 3 := zrLen (by kernel_rfl)
  have e0 : i - Int.toNat 0 + (l.length - (i + 1)) = l.length - 1 := by simp; omega
  have e1 : i + (l.length - (i + 1)) = l.length - 1 := by omega
  have e2 : l.length - (l.length - 1) = 1 := by omega
  simp only [es, Int.toNat_natCast, Nat.sub_zero, Option.map_id_fun', id_eq, ite_self, e0, e1, e2]
  have hcl := h.capLe
  have hTl : ((l.take i).flatMap encPl).length = i * 3 := by rw [flat_len hk, List.length_take]; congr 1; omega
  have hDl : ((l.drop (i + 1)).flatMap encPl).length = (l.length - (i + 1)) * 3 := by rw [flat_len hk, List.length_drop]
  have hD1 : oneCells ((l.drop (i + 1)).flatMap encPl) = true := by
    rw [oneCells_iff]; intro v hv
    obtain ⟨w, -, hw⟩ := List.mem_flatMap.1 hv
    exact oneCells_iff.1 (rfl : oneCells (encPl w) = true) v hw
  obtain ⟨b, o, rfl, hcells⟩ := h.row.cells (by rw [flat_len hk]; omega)
  rw [List.flatMap_append]
  rw [flat_split l i hi] at h hcells
  generalize hT : (l.take i).flatMap encPl = T at *
  generalize hD : (l.drop (i + 1)).flatMap encPl = D at *
  have hEl := hk l[i]
  generalize hE : encPl l[i] = E at *
  have hED : (E ++ D).length = D.length + 3 := by rw [List.length_append, hEl]; omega
  have hX : E ++ D = (E ++ D).take D.length ++ (E ++ D).drop D.length := (List.take_append_drop _ _).symm
  have hXl : ((E ++ D).take D.length).length = D.length := by rw [List.length_take, hED]; omega
  have hZl : ((E ++ D).drop D.length).length = 3 := by rw [List.length_drop, hED]; omega
  have q1 : OwnB m.sz S m 3 (some ⟨b, o, none⟩) l.length c (T ++ ((E ++ D).take D.length ++ (E ++ D).drop D.length)) := by rw [← hX]; exact h
  obtain ⟨g1, q2⟩ := q1.set (new := D) hXl.symm
  rw [hTl] at g1 q2
  have q3 : OwnB m.sz S (m.setCells b (o + i * 3) D) 3 (some ⟨b, o, none⟩) l.length c ((T ++ D) ++ (E ++ D).drop D.length) := by rw [List.append_assoc]; exact q2
  have hTD : (T ++ D).length = (l.length - 1) * 3 := by rw [List.length_append, hTl, hDl]; omega
  obtain ⟨g3, q4⟩ := q3.overTail (i := l.length - 1) (new := zeroRow Try.prog 39 1) hTD (by omega) (by rw [zl, hZl])
  rw [zl] at g3
  have hsub : c ≠ l.length - 1 := by omega
  refine ⟨trivial, ⟨trivial, by omega, by omega, by omega, by omega⟩, ifB_intro (fun hb => ?_) (fun _ => ⟨trivial, ⟨trivial, by omega, by omega, by omega, trivial⟩, ⟨trivial, by omega, by omega, trivial, trivial⟩, ⟨T, D, ⟨?_, hTl, ?_, hDl, hD1, by omega, (fun e => by cases e), fun hn0 _ => ⟨b, o, rfl, ?_⟩⟩, fun a' c' m' hp => ?_⟩, trivial⟩)⟩
  · exfalso; simp at hb; omega
  · exact .inr ⟨b, o, rfl, hcells.take⟩
  · by_cases hci : c = i + 1
    · refine .inl (List.eq_nil_of_length_eq_zero ?_)
      rw [hDl]
      have : l.length - (i + 1) = 0 := by omega
      rw [this, Nat.zero_mul]
    · rw [if_neg hci]
      have hdd := hcells.drop.drop
      rw [hTl, hEl] at hdd
      refine .inr ⟨b, o + (i + 1) * 3, rfl, ?_⟩
      rw [show o + (i + 1) * 3 = o + i * 3 + 3 by omega]
      exact hdd
  · have hne : D.length = (l.length - (i + 1)) * 3 := hDl
    rw [← hne]
    exact g1
  · have hm' : a' = some ⟨b, o, none⟩ ∧ c' = c ∧ m' = m.setCells b (o + i * 3) D := by
      rcases hp with ⟨-, rfl, rfl, ⟨h0, rfl⟩ | ⟨b', o', e, rfl⟩⟩ | ⟨hlt, -⟩
      · have : D = [] := List.eq_nil_of_length_eq_zero (by rw [hDl, h0, Nat.zero_mul])
        rw [this, setCells_nil]
        exact ⟨rfl, rfl, rfl⟩
      · cases e; exact ⟨rfl, rfl, rfl⟩
      · omega
    obtain ⟨rfl, rfl, rfl⟩ := hm'
    refine ⟨⟨trivial, by omega, by omega, by omega, trivial⟩, trivial, fun _ => ⟨b, _, sub_addr hsub, g3⟩, fun m2 hp2 => ⟨⟨rfl, ?_⟩⟩⟩
    rw [hp2.atc (sub_addr hsub)]
    exact q4

end Go.Proofs.Ytpnpebefcmgjoaa
set_option linter.unusedVariables false
set_option linter.unusedSimpArgs false
namespace Go.Proofs.Ytpnpebefcmgjoaa
open Go.Vc Go.RowKit
set_option maxRecDepth 100000

def ResR (r : List Pl × Int) (v : Value) (m' : M) : Prop :=
  ∃ a c, v = .tuple #[.slice a r.1.length c, I r.2] ∧ Row m' a (pls r.1)

theorem res_no (e : Int) (m : M) : ResR ([], e) (.tuple #[.slice none 0 0, I e]) m := ⟨none, 0, rfl, .nil _⟩

abbrev pl0 : Pl := ⟨0, .empty, 0⟩

def insS (l : List Pl) (key : ByteArray) (g : Int) (i : Nat) (e : Int) : List Pl :=
  ((l.take (i + 1)) ++ ⟨g, key, e⟩ :: l.drop (i + 1)).set i { l[i]?.getD pl0 with ep := e }

def splitL (l : List Pl) (key : ByteArray) (g : Int) : List Pl × Int :=
  if rightB l = false then ([], 21) else if (decide (1 ≤ key.size) && (decide (key.size ≤ 16) && grpB g)) = false then ([], 1)
  else if (decide (ofI l g < l.length) || decide ((l[findL key l 0 0]?.getD pl0).fr = key)) = true then ([], 171)
  else if epochL l ≥ 4611686018427387904 then ([], 170) else (insS l key g (findL key l 0 0) (epochL l + 1), 0)

theorem findL_lt (key : ByteArray) : ∀ (l : List Pl) (i a : Nat), a < i → findL key l i a < i + l.length
  | [], i, a, h => by simpa [findL] using h
  | x :: xs, i, a, h => by
    have := findL_lt key xs (i + 1) (if ltS key x.fr then a else i) (by split <;> omega)
    simp only [findL, List.length_cons]
    omega

theorem findL_len (key : ByteArray) {l : List Pl} (h : 0 < l.length) : findL key l 0 0 < l.length := by
  cases l with
  | nil => simp at h
  | cons x xs =>
    have := findL_lt key xs (0 + 1) (if ltS key x.fr then 0 else 0) (by split <;> omega)
    simp only [findL, List.length_cons]
    omega

theorem epoch_nn : ∀ (l : List Pl) (e : Int), e ≤ l.foldl (fun e p => max e p.ep) e
  | [], e => by simp
  | x :: xs, e => by
    have := epoch_nn xs (max e x.ep)
    simp only [List.foldl_cons]
    omega

theorem row_h0 {m : M} {a : Option Addr} {l : List Pl} (h : Row m a (pls l)) : a = none → l = [] := fun e => by
  subst e
  cases l with
  | nil => rfl
  | cons x xs =>
    obtain ⟨b, o, e, -⟩ := h.cells (by rw [pl_len]; simp)
    cases e

theorem right_pos {l : List Pl} (h : rightB l = true) : 0 < l.length := by
  cases l with
  | nil => cases h
  | cons x xs => simp

theorem ofV_eq (l : List Pl) (g : Int) : ofV l g = .tuple #[I (if ofI l g < l.length then ofI l g else 0), .bool (decide (ofI l g < l.length))] := by
  unfold ofV
  split <;> simp [*]

theorem ins_len (l : List Pl) (key : ByteArray) (g : Int) (i : Nat) (e : Int) (hi : i < l.length) : (insS l key g i e).length = l.length + 1 := by
  simp [insS]; omega

theorem rg_split (l : List Pl) (a : Option Addr) (c : Nat) (key : ByteArray) (g : Int) (hl : l.length ≤ 9223372036854775807) (m : M) (h : Row m a (pls l)) :
    Vc.Spec Try.prog 26 [.slice a l.length c, .string key, I g] m (fun v m' => ResR (splitL l key g) v m') := by
  refine Vc.Spec.of_vc Try.func26 (ann := noAnn) ?_
  refine vc_by (X :=
      true = true ∧
      ∃ (n : Int),
      QSpec Try.prog (19 : Nat) [Value.slice a l.length c] m (Value.int IntKind.i64 n) ∧
      ifB (n != (0 : Int)) (Done (ResR (splitL l key g) (Value.tuple #[Value.slice none (0 : Nat) (0 : Nat), Value.int IntKind.i64 (21 : Int)]) m))
      (ifB (decide ((↑key.size : Int) < (1 : Int))) (Done (ResR (splitL l key g) (Value.tuple #[Value.slice none (0 : Nat) (0 : Nat), Value.int IntKind.i64 (1 : Int)]) m))
      (ifB (decide ((↑key.size : Int) > (16 : Int))) (Done (ResR (splitL l key g) (Value.tuple #[Value.slice none (0 : Nat) (0 : Nat), Value.int IntKind.i64 (1 : Int)]) m))
      (∃ (b : Bool),
      QSpec Try.prog (33 : Nat) [Value.int IntKind.i64 g] m (Value.bool b) ∧
      ifB (!b) (Done (ResR (splitL l key g) (Value.tuple #[Value.slice none (0 : Nat) (0 : Nat), Value.int IntKind.i64 (1 : Int)]) m))
      (∃ (n : Int),
      QSpec Try.prog (16 : Nat) [Value.slice a l.length c, Value.string key] m (Value.int IntKind.i64 n) ∧
      ∃ (n_1 : Int),
      ∃ (b : Bool),
      QSpec Try.prog (11 : Nat) [Value.slice a l.length c, Value.int IntKind.i64 g] m (Value.tuple #[Value.int IntKind.i64 n_1, Value.bool b]) ∧
      ifB b (Done (ResR (splitL l key g) (Value.tuple #[Value.slice none (0 : Nat) (0 : Nat), Value.int IntKind.i64 (171 : Int)]) m))
      (∃ (b : Nat),
      ∃ (off : Nat),
      a = some { block := b, off := off : Addr } ∧
      ((0 : Int) ≤ n ∧ n < (↑l.length : Int)) ∧
      ∃ (s : ByteArray),
      CellsAt m b (off + n.toNat * (3 : Nat) + (1 : Nat)) [Value.string s] ∧
      ifB (s.toList == key.toList)
      (Done (ResR (splitL l key g) (Value.tuple #[Value.slice none (0 : Nat) (0 : Nat), Value.int IntKind.i64 (171 : Int)]) m))
      (∃ (n_2 : Int),
      QSpec Try.prog (23 : Nat) [Value.slice a l.length c] m (Value.int IntKind.i64 n_2) ∧
      ifB (decide (n_2 ≥ (4611686018427387904 : Int)))
      (Done (ResR (splitL l key g) (Value.tuple #[Value.slice none (0 : Nat) (0 : Nat), Value.int IntKind.i64 (170 : Int)]) m))
      (∃ (S' : Nat → Prop),
      (∀ (b : Nat), S' b → m.uf b ∧ (m.sz ≤ b ∨ False)) ∧
      ∀ (n_3 : Nat),
      m.sz ≤ n_3 →
      SpecW Try.prog (35 : Nat) [Value.slice a l.length c] { π := m.π, sz := n_3, uf := m.uf : M } S'
      fun (v : Value) (m' : M) =>
      ∃ (a : Option Addr),
      ∃ (n_4 : Nat),
      ∃ (c : Nat),
      v = Value.slice a n_4 c ∧
      true = true ∧
      ∀ (b : Nat),
      m'.sz ≤ b →
      ∃ (S' : Nat → Prop),
      (∀ (b_1 : Nat),
      S' b_1 →
      (m'.newBlock b
      [Value.int IntKind.i64 g, Value.string key,
      Value.int IntKind.i64 (IntKind.i64.wrap (n_2 + (1 : Int)))]).uf
      b_1 ∧
      (m.sz ≤ b_1 ∨ False)) ∧
      ∀ (n_5 : Nat),
      max m'.sz (b + (1 : Nat)) ≤ n_5 →
      SpecW Try.prog (34 : Nat)
      [Value.slice a n_4 c, Value.int IntKind.i64 (IntKind.i64.wrap (n + (1 : Int))),
      Value.slice (some { block := b, off := (0 : Nat) : Addr }) (1 : Nat) (1 : Nat)]
      { π := (m'.newBlock b [Value.int IntKind.i64 g, Value.string key, Value.int IntKind.i64 (IntKind.i64.wrap (n_2 + (1 : Int)))]).π, sz := n_5, uf := (m'.newBlock b [Value.int IntKind.i64 g, Value.string key, Value.int IntKind.i64 (IntKind.i64.wrap (n_2 + (1 : Int)))]).uf : M }
      S' fun (v : Value) (m' : M) =>
      ∃ (a : Option Addr),
      ∃ (n_6 : Nat),
      ∃ (c : Nat),
      v = Value.slice a n_6 c ∧
      ∃ (b : Nat),
      ∃ (off : Nat),
      a = some { block := b, off := off : Addr } ∧
      ((0 : Int) ≤ n ∧ n < (↑n_6 : Int)) ∧
      Wr m.sz (fun (x : Nat) => False) m' b (off + n.toNat * (3 : Nat) + (2 : Nat))
      #[Value.int IntKind.i64 (IntKind.i64.wrap (n_2 + (1 : Int)))].size ∧
      Done
      (ResR (splitL l key g)
      (Value.tuple #[Value.slice a n_6 c, Value.int IntKind.i64 (0 : Int)])
      (m'.setCells b (off + n.toNat * (3 : Nat) + (2 : Nat))
      [Value.int IntKind.i64 (IntKind.i64.wrap (n_2 + (1 : Int)))])))))))))) (by kernel_rfl) ?_
  refine ⟨rfl, _, rg_check l a c hl m h, ifB_intro (fun h1 => ⟨?_⟩) (fun h1 => ?_)⟩
  · have : rightB l = false := by
      cases hq : rightB l with
      | false => rfl
      | true => simp [hq] at h1
    simp only [splitL, this, if_true]
    exact res_no _ _
  have hR : rightB l = true := by
    cases hq : rightB l with
    | true => rfl
    | false => simp [hq] at h1
  have h7 := right_len hR
  have hp := right_pos hR
  have hfl := findL_len key hp
  refine ifB_intro (fun h2 => ⟨?_⟩) (fun h2 => ifB_intro (fun h3 => ⟨?_⟩) (fun h3 => ⟨_, rg_group g m, ifB_intro (fun h4 => ⟨?_⟩) (fun h4 => ?_)⟩))
  · have : ¬ 1 ≤ key.size := by simp at h2; omega
    simp only [splitL, hR, this]
    exact res_no _ _
  · have : ¬ key.size ≤ 16 := by simp at h3; omega
    simp only [splitL, hR, this, decide_false, Bool.false_and, Bool.and_false]
    exact res_no _ _
  · have : grpB g = false := by simpa using h4
    simp only [splitL, hR, this, Bool.and_false]
    exact res_no _ _
  have hG : (decide (1 ≤ key.size) && (decide (key.size ≤ 16) && grpB g)) = true := by
    have h4 : grpB g = true := by simpa using h4
    simp at h2 h3
    simp [h4]; omega
  obtain ⟨b0, o0, rfl, hc⟩ := h.cells (by rw [pl_len]; omega)
  refine ⟨_, rg_find l _ c key hl m h, _, _, ofV_eq l g ▸ rg_of l _ c g hl m h, ifB_intro (fun h5 => ⟨?_⟩) (fun h5 => ⟨b0, o0, rfl, by omega, _, by simpa using pl_frc hc hfl, ifB_intro (fun h6 => ⟨?_⟩) (fun h6 => ?_)⟩)⟩
  · simp only [splitL, hR, hG, h5, Bool.true_or, if_true]
    exact res_no _ _
  · have : l[findL key l 0 0].fr = key := toList_inj.1 (by simpa using h6)
    have e : (l[findL key l 0 0]?.getD pl0).fr = key := by rw [List.getElem?_eq_getElem hfl]; exact this
    simp only [splitL, hR, hG, e, decide_true, Bool.or_true, if_true]
    exact res_no _ _
  have hT : (decide (ofI l g < l.length) || decide ((l[findL key l 0 0]?.getD pl0).fr = key)) = false := by
    rw [List.getElem?_eq_getElem hfl, h5]
    have : ¬ l[findL key l 0 0].fr = key := fun e => by rw [e] at h6; simp at h6
    simp [this]
  refine ⟨_, rg_epoch l _ c (by omega) (row_h0 h) m h, ifB_intro (fun h7 => ⟨?_⟩) (fun h7 => ?_)⟩
  · have : epochL l ≥ 4611686018427387904 := by simpa using h7
    simp only [splitL, hR, hG, hT, this, if_true]
    exact res_no _ _
  have hE : ¬ epochL l ≥ 4611686018427387904 := by simpa using h7
  have hE0 : 0 ≤ epochL l := epoch_nn l 0
  have w1 : IntKind.i64.wrap (epochL l + 1) = epochL l + 1 := by rw [IntKind.wrap_i64]; omega
  have w2 := wrap1 hfl hl
  have hsp : splitL l key g = (insS l key g (findL key l 0 0) (epochL l + 1), 0) := by
    simp only [splitL, hR, hG, hT, hE]
    rfl
  rw [hsp, w1, w2]
  generalize hi : findL key l 0 0 = i at *
  generalize he : epochL l + 1 = e at *
  refine ⟨_, noS, fun n hn => (pl_clone l _ c (by omega) (row_h0 h) _ (h.sz hn)).monoW fun v m' hag ⟨a', c', hv, hr⟩ => ⟨a', l.length, c', hv, by trivial, fun b hb => ?_⟩⟩
  have hN : m.sz ≤ n := hn
  have hle : n ≤ m'.sz := hag.2.2
  have hrN := hr.newBlock (ds := encPl ⟨g, key, e⟩) hb
  have hs := pl_insert a' c' l (i + 1) b 0 1 ⟨g, key, e⟩ (fun b' => ∃ o, a' = some ⟨b', o, none⟩ ∧ (m'.newBlock b (encPl ⟨g, key, e⟩)).uf b' ∧ m.sz ≤ b') (by omega) (by omega)
  refine ⟨fun b' => ∃ o, a' = some ⟨b', o, none⟩ ∧ (m'.newBlock b (encPl ⟨g, key, e⟩)).uf b' ∧ m.sz ≤ b', fun b' ⟨o, e, hu, hlo⟩ => ⟨hu, .inl hlo⟩, fun n5 hn5 => ?_⟩
  refine (hs { m'.newBlock b (encPl ⟨g, key, e⟩) with sz := n5 } ((hrN.sz hn5).re fun b' o e hu hlo => .inr ⟨o, e, hu, by rcases hlo with h | h; simp only at h; omega; exact h.elim⟩)
      (fun hne b' o e => ?_) (by simp only; omega) (.inl rfl) ⟨(cellsAt_new (m := m') (b := b) (cs := encPl ⟨g, key, e⟩)).out⟩).mono fun v3 m3 hag3 ⟨a3, c3, hv3, hr3⟩ => ?_
  · have := (hr.toOwn (fun e => hne (List.eq_nil_of_length_eq_zero e))).lt e
    omega
  · obtain ⟨L, hL⟩ : ∃ L, L = l.take (i + 1) ++ (⟨g, key, e⟩ : Pl) :: l.drop (i + 1) := ⟨_, rfl⟩
    have hLl : L.length = l.length + 1 := by rw [hL]; simp; omega
    have hLi : i < L.length := by omega
    have hLg : L[i] = l[i] := by
      simp only [hL]
      rw [List.getElem_append_left (by simp; omega)]
      simp
    have hown : OwnB m.sz (fun _ => False) m3 3 a3 (l.length + 1) c3 (L.flatMap encPl) := by
      rw [hL]
      refine (hr3.toOwn (by omega)).re fun b' o e => ?_
      have h1 := (hr3.toOwn (by omega)).lo e
      rcases h1 with h1 | ⟨_, _, _, h1⟩
      · simp only at h1; omega
      · omega
    obtain ⟨b3, o3, rfl, -⟩ := hown.row.cells (by rw [pl_len]; omega)
    obtain ⟨g1, g2⟩ := OwnB.setField pl_k hown hLi { l[i] with ep := e } (p := [I l[i].gr, .string l[i].fr]) (old := [I l[i].ep]) (new := [I e]) (q := []) (by rw [hLg]; rfl) rfl rfl
    refine ⟨_, _, _, hv3, b3, o3, rfl, by omega, by simpa using g1, ⟨⟨some ⟨b3, o3, none⟩, c3, by rw [ins_len l key g i e hfl], ?_⟩⟩⟩
    · have e1 : insS l key g i e = L.set i { l[i] with ep := e } := by
        rw [insS, hL, List.getElem?_eq_getElem hfl]; rfl
      rw [e1]
      simpa using g2.row

end Go.Proofs.Ytpnpebefcmgjoaa
set_option linter.unusedVariables false
set_option linter.unusedSimpArgs false
namespace Go.Proofs.Ytpnpebefcmgjoaa
open Go.Vc Go.RowKit
set_option maxRecDepth 100000

abbrev aw0 : List Pl := [⟨1, ⟨#[]⟩, 1⟩]

abbrev aw1 : List Pl := [⟨1, ⟨#[]⟩, 2⟩, ⟨2, ⟨#[109]⟩, 2⟩]

theorem aw_split : splitL aw0 ⟨#[109]⟩ 2 = (aw1, 0) := by kernel_rfl

theorem aw_find : findL ⟨#[122]⟩ aw1 0 0 = 1 := by kernel_rfl

theorem rg_awake (m : M) : QSpec Try.prog 12 [] m (.bool true) := by
  refine QSpec.of_vc Try.func12 (ann := fun _ => noAnn) fun n hn => ?_
  refine vc_by (X :=
      true = true ∧
      true = true ∧
      ∀ (b : Nat),
      n ≤ b →
      ∃ (S' : Nat → Prop),
      (∀ (b_1 : Nat),
      S' b_1 →
      ({ π := m.π, sz := n, uf := m.uf : M }.newBlock b [Value.int IntKind.i64 (1 : Int), Value.string { data := #[] : ByteArray }, Value.int IntKind.i64 (1 : Int)]).uf
      b_1 ∧
      (n ≤ b_1 ∨ False)) ∧
      ∀ (n_1 : Nat),
      max n (b + (1 : Nat)) ≤ n_1 →
      SpecW Try.prog (26 : Nat)
      [Value.slice (some { block := b, off := (0 : Nat) : Addr }) (1 : Nat) (1 : Nat), Value.string { data := #[(109 : UInt8)] : ByteArray },
      Value.int IntKind.i64 (2 : Int)]
      { π := ({ π := m.π, sz := n, uf := m.uf : M }.newBlock b [Value.int IntKind.i64 (1 : Int), Value.string { data := #[] : ByteArray }, Value.int IntKind.i64 (1 : Int)]).π, sz := n_1, uf := ({ π := m.π, sz := n, uf := m.uf : M }.newBlock b [Value.int IntKind.i64 (1 : Int), Value.string { data := #[] : ByteArray }, Value.int IntKind.i64 (1 : Int)]).uf : M }
      S' fun (v : Value) (m' : M) =>
      ∃ (a : Option Addr),
      ∃ (n : Nat),
      ∃ (c : Nat),
      ∃ (n_2 : Int),
      v = Value.tuple #[Value.slice a n c, Value.int IntKind.i64 n_2] ∧
      ifB (n_2 == (0 : Int))
      (ifB ((↑n : Int) == (2 : Int))
      (∃ (n_3 : Int),
      QSpec Try.prog (16 : Nat) [Value.slice a n c, Value.string { data := #[(122 : UInt8)] : ByteArray }] m' (Value.int IntKind.i64 n_3) ∧
      ifB (n_3 == (1 : Int))
      (∃ (n : Int),
      QSpec Try.prog (19 : Nat) [Value.slice none (0 : Nat) (0 : Nat)] m' (Value.int IntKind.i64 n) ∧
      Done (Value.bool (n == (21 : Int)) = Value.bool true))
      (Done (Value.bool false = Value.bool true)))
      (Done (Value.bool false = Value.bool true)))
      (Done (Value.bool false = Value.bool true))) (by kernel_rfl) ?_
  refine ⟨rfl, by trivial, fun b hb => ⟨_, noS, fun n1 hn1 => ?_⟩⟩
  have hrow : Row ({ ({ m with sz := n } : M).newBlock b (encPl ⟨1, ⟨#[]⟩, 1⟩) with sz := n1 } : M) (some ⟨b, 0, none⟩) (pls aw0) := (Row.new (m := { m with sz := n }) (b := b) (cs := encPl ⟨1, ⟨#[]⟩, 1⟩)).sz hn1
  refine (rg_split aw0 _ 1 ⟨#[109]⟩ 2 (by simp) _ hrow).monoW fun v m' hag hv => ?_
  rw [aw_split] at hv
  obtain ⟨a, c, hv, hr⟩ := hv
  have hf := rg_find aw1 a c ⟨#[122]⟩ (by simp) m' hr
  rw [aw_find] at hf
  refine ⟨a, 2, c, 0, hv, ifB_true (ifB_true ⟨_, hf, ifB_true ⟨21, rg_check [] none 0 (by simp) m' (.nil _), ⟨rfl⟩⟩⟩)⟩

structure OnX where
  i : Nat
  n : Nat
  q : Int

/-- how many of the first places have the key, and which is the last of them -/
def cntO (key : ByteArray) : List Pl → Nat → Nat × Int → Nat × Int
  | [], _, r => r
  | x :: xs, i, r => cntO key xs (i + 1) (if withinB x.fr (hdF xs) key then (r.1 + 1, (i : Int)) else r)

theorem bl_nil : ∀ x : List UInt8, Op.bytesLess x [] = false
  | [] => rfl
  | _ :: _ => rfl

theorem lt_empty {a b : ByteArray} (h : ltS a b = true) : emptyB b = false := by
  cases hq : emptyB b with
  | false => rfl
  | true =>
    have e : b.toList = [] := by simpa [emptyB] using hq
    rw [ltS, e, bl_nil] at h
    cases h

theorem empty_lt {a b : ByteArray} (h : emptyB b = true) : ltS a b = false := by
  cases hq : ltS a b with
  | false => rfl
  | true => rw [lt_empty hq] at h; cases h

theorem chk_cons {seen : List Int} {last : Option ByteArray} {x : Pl} {xs : List Pl} (h : chk seen last (x :: xs) = true) : plB x = true ∧ seen.contains x.gr = false ∧ aftB last x = true ∧ chk (seen ++ [x.gr]) (some x.fr) xs = true := by
  simpa only [chk, Bool.and_eq_true, Bool.not_eq_true'] using h

theorem chk_gt {key : ByteArray} : ∀ {xs : List Pl} {seen : List Int} {s : ByteArray}, chk seen (some s) xs = true → ltS key s = true → ∀ z ∈ xs, ltS key z.fr = true
  | [], _, _, _, _, z, hz => by simp at hz
  | x :: xs, seen, s, h, hk, z, hz => by
    obtain ⟨-, -, h3, h4⟩ := chk_cons h
    have hx := ltS_trans hk h3
    rcases List.mem_cons.1 hz with rfl | hz
    · exact hx
    · exact chk_gt h4 hx z hz

theorem cnt_gt {key : ByteArray} : ∀ {xs : List Pl} (i q : Nat) (r : Nat × Int), (∀ z ∈ xs, ltS key z.fr = true) → cntO key xs i r = r ∧ findL key xs i q = q
  | [], _, _, _, _ => ⟨rfl, rfl⟩
  | x :: xs, i, q, r, h => by
    have hx := h x (by simp)
    have := cnt_gt (xs := xs) (i + 1) q r fun z hz => h z (by simp [hz])
    simp only [cntO, findL, withinB, hx, Bool.not_true, Bool.false_and, if_true]
    exact this

theorem emp_emp : emptyB .empty = true := by kernel_rfl

theorem cnt_one {key : ByteArray} : ∀ {xs : List Pl} {x : Pl} {seen : List Int} {last : Option ByteArray} (i q : Nat) (r : Nat × Int), chk seen last (x :: xs) = true → ltS key x.fr = false →
    cntO key (x :: xs) i r = (r.1 + 1, ((findL key (x :: xs) i q : Nat) : Int))
  | [], x, seen, last, i, q, r, h, hx => by
    have hw : withinB x.fr .empty key = true := by
      simp only [withinB, hx, Bool.not_false, Bool.true_and, emp_emp, Bool.true_or]
    simp only [cntO, hdF, findL, hx, hw, if_true]
    rfl
  | y :: ys, x, seen, last, i, q, r, h, hx => by
    obtain ⟨-, -, -, h4⟩ := chk_cons h
    obtain ⟨-, -, h7, h8⟩ := chk_cons h4
    have hxy : ltS x.fr y.fr = true := h7
    have hem := lt_empty hxy
    cases hy : ltS key y.fr with
    | true =>
      have hall : ∀ z ∈ y :: ys, ltS key z.fr = true := fun z hz => by
        rcases List.mem_cons.1 hz with rfl | hz
        · exact hy
        · exact chk_gt h8 hy z hz
      have hw : withinB x.fr y.fr key = true := by simp only [withinB, hx, hy, Bool.or_true]; rfl
      obtain ⟨e1, e2⟩ := cnt_gt (key := key) (i + 1) i (r.1 + 1, (i : Int)) hall
      rw [cntO, findL, hdF, hw, hx]
      simp only [if_true]
      rw [e1]
      simp only [Bool.false_eq_true, if_false]
      rw [e2]
    | false =>
      have hw : withinB x.fr y.fr key = false := by simp only [withinB, hx, hy, hem]; rfl
      have ih := cnt_one (i + 1) i r h4 hy
      rw [cntO, hdF, hw]
      simp only [Bool.false_eq_true, if_false]
      rw [ih]
      conv => rhs; rw [findL, hx]
      simp

theorem one_law {l : List Pl} (key : ByteArray) (h : rightB l = true) : cntO key l 0 (0, -1) = (1, ((findL key l 0 0 : Nat) : Int)) := by
  cases l with
  | nil => cases h
  | cons x xs =>
    simp only [rightB, Bool.and_eq_true] at h
    exact cnt_one 0 0 (0, -1) h.2.2 (empty_lt h.2.1)

theorem rangesone (l : List Pl) (a : Option Addr) (c : Nat) (key : ByteArray) (hl : l.length ≤ 9223372036854775807) (m : M) (h : Row m a (pls l)) :
    QSpec Try.prog 4 [.slice a l.length c, .string key] m (.bool true) := by
  refine QSpec.of_vc Try.func4 (ann := fun n _ => { A := OnX, inv := fun x => (rightB l = true ∧ x.i ≤ l.length ∧ x.n ≤ x.i) ∧ cntO key (l.drop x.i) x.i (x.n, x.q) = cntO key l 0 (0, -1), st := fun x => [(7, .val (I x.i)), (5, .val (I x.n)), (6, .val (I x.q)), (0, .val (.slice a l.length c)), (1, .val (.string key))], own := fun _ => [], m := fun _ => { m with sz := n }, μ := fun x => l.length - x.i }) fun n hn => ?_
  refine vc_by (X :=
      true = true ∧
      ∃ (b : Bool),
      QSpec Try.prog (12 : Nat) [] { π := m.π, sz := n, uf := m.uf : M } (Value.bool b) ∧
      ifB (!b) (Done (Value.bool false = Value.bool true))
      (∃ (n_1 : Int),
      QSpec Try.prog (19 : Nat) [Value.slice a l.length c] { π := m.π, sz := n, uf := m.uf : M } (Value.int IntKind.i64 n_1) ∧
      ifB (n_1 != (0 : Int))
      (∃ (b : Bool), QSpec Try.prog (17 : Nat) [Value.slice a l.length c] { π := m.π, sz := n, uf := m.uf : M } (Value.bool b) ∧ Done ((Value.bool !b) = Value.bool true))
      ((∃ (a_1 : OnX),
      ((rightB l = true ∧ a_1.i ≤ l.length ∧ a_1.n ≤ a_1.i) ∧ cntO key (List.drop a_1.i l) a_1.i (a_1.n, a_1.q) = cntO key l (0 : Nat) ((0 : Nat), (-1 : Int))) ∧
      { π := m.π, sz := n, uf := m.uf : M } = { π := m.π, sz := n, uf := m.uf : M } ∧
      ((SV.val (Value.int IntKind.i64 (0 : Int)) = SV.val (Value.int IntKind.i64 (↑a_1.i : Int)) ∧ true = true) ∧
      (SV.val (Value.int IntKind.i64 (0 : Int)) = SV.val (Value.int IntKind.i64 (↑a_1.n : Int)) ∧ true = true) ∧
      (SV.val (Value.int IntKind.i64 (-1 : Int)) = SV.val (Value.int IntKind.i64 a_1.q) ∧ true = true) ∧
      (SV.val (Value.slice a l.length c) = SV.val (Value.slice a l.length c) ∧ true = true) ∧
      (SV.val (Value.string key) = SV.val (Value.string key) ∧ true = true) ∧ True) ∧
      True) ∧
      ∀ (a_1 : OnX),
      (rightB l = true ∧ a_1.i ≤ l.length ∧ a_1.n ≤ a_1.i) ∧ cntO key (List.drop a_1.i l) a_1.i (a_1.n, a_1.q) = cntO key l (0 : Nat) ((0 : Nat), (-1 : Int)) →
      ifB (decide ((↑a_1.i : Int) < (↑l.length : Int)))
      (true = true ∧
      ∃ (b : Nat),
      ∃ (off : Nat),
      a = some { block := b, off := off : Addr } ∧
      ((0 : Int) ≤ (↑a_1.i : Int) ∧ (↑a_1.i : Int) < (↑l.length : Int)) ∧
      ∃ (s : ByteArray),
      CellsAt { π := m.π, sz := n, uf := m.uf : M } b (off + (↑a_1.i : Int).toNat * (3 : Nat) + (1 : Nat)) [Value.string s] ∧
      ∃ (s_1 : ByteArray),
      QSpec Try.prog (18 : Nat) [Value.slice a l.length c, Value.int IntKind.i64 (↑a_1.i : Int)] { π := m.π, sz := n, uf := m.uf : M }
      (Value.string s_1) ∧
      ∃ (b : Bool),
      QSpec Try.prog (13 : Nat) [Value.string s, Value.string s_1, Value.string key] { π := m.π, sz := n, uf := m.uf : M } (Value.bool b) ∧
      ifB b
      (∃ (a' : OnX),
      (((rightB l = true ∧ a'.i ≤ l.length ∧ a'.n ≤ a'.i) ∧
      cntO key (List.drop a'.i l) a'.i (a'.n, a'.q) = cntO key l (0 : Nat) ((0 : Nat), (-1 : Int))) ∧
      { π := m.π, sz := n, uf := m.uf : M } = { π := m.π, sz := n, uf := m.uf : M } ∧
      ((SV.val (Value.int IntKind.i64 (IntKind.i64.wrap ((↑a_1.i : Int) + (1 : Int)))) =
      SV.val (Value.int IntKind.i64 (↑a'.i : Int)) ∧
      true = true) ∧
      (SV.val (Value.int IntKind.i64 (IntKind.i64.wrap ((↑a_1.n : Int) + (1 : Int)))) =
      SV.val (Value.int IntKind.i64 (↑a'.n : Int)) ∧
      true = true) ∧
      (SV.val (Value.int IntKind.i64 (↑a_1.i : Int)) = SV.val (Value.int IntKind.i64 a'.q) ∧ true = true) ∧
      (SV.val (Value.slice a l.length c) = SV.val (Value.slice a l.length c) ∧ true = true) ∧
      (SV.val (Value.string key) = SV.val (Value.string key) ∧ true = true) ∧ True) ∧
      True) ∧
      l.length - a'.i < l.length - a_1.i)
      (∃ (a' : OnX),
      (((rightB l = true ∧ a'.i ≤ l.length ∧ a'.n ≤ a'.i) ∧
      cntO key (List.drop a'.i l) a'.i (a'.n, a'.q) = cntO key l (0 : Nat) ((0 : Nat), (-1 : Int))) ∧
      { π := m.π, sz := n, uf := m.uf : M } = { π := m.π, sz := n, uf := m.uf : M } ∧
      ((SV.val (Value.int IntKind.i64 (IntKind.i64.wrap ((↑a_1.i : Int) + (1 : Int)))) =
      SV.val (Value.int IntKind.i64 (↑a'.i : Int)) ∧
      true = true) ∧
      (SV.val (Value.int IntKind.i64 (↑a_1.n : Int)) = SV.val (Value.int IntKind.i64 (↑a'.n : Int)) ∧ true = true) ∧
      (SV.val (Value.int IntKind.i64 a_1.q) = SV.val (Value.int IntKind.i64 a'.q) ∧ true = true) ∧
      (SV.val (Value.slice a l.length c) = SV.val (Value.slice a l.length c) ∧ true = true) ∧
      (SV.val (Value.string key) = SV.val (Value.string key) ∧ true = true) ∧ True) ∧
      True) ∧
      l.length - a'.i < l.length - a_1.i))
      (ifB ((↑a_1.n : Int) == (1 : Int))
      (∃ (n_2 : Int),
      QSpec Try.prog (16 : Nat) [Value.slice a l.length c, Value.string key] { π := m.π, sz := n, uf := m.uf : M } (Value.int IntKind.i64 n_2) ∧
      Done (Value.bool (n_2 == a_1.q) = Value.bool true))
      (Done (Value.bool false = Value.bool true)))))) (by kernel_rfl) ?_
  have hr := h.sz hn
  have hlaw := one_law (l := l) key
  refine ⟨rfl, _, rg_awake _, ifB_intro (fun h1 => by cases h1) (fun _ => ⟨_, rg_check l a c hl _ hr, ifB_intro (fun h2 => ⟨_, rf_right l a c hl _ hr, ⟨?_⟩⟩) (fun h2 => ⟨⟨⟨0, 0, -1⟩, ⟨⟨?_, Nat.zero_le _, Nat.zero_le _⟩, rfl⟩, by simp⟩, fun x ⟨⟨hR, hk, hni⟩, hf⟩ => ?_⟩)⟩)⟩
  · have : rightB l = false := by
      cases hq : rightB l with
      | false => rfl
      | true => simp [hq] at h2
    simp [this]
  · cases hq : rightB l with
    | true => rfl
    | false => simp [hq] at h2
  · obtain ⟨k, n1, q⟩ := x
    simp only at hk hni hf ⊢
    refine ifB_intro (fun h3 => ?_) (fun h3 => ?_)
    · have hlt : k < l.length := by simpa using h3
      obtain ⟨b, o, rfl, hc⟩ := hr.cells (by rw [pl_len]; omega)
      have he : endI l (k : Int) = endP l k := by simp [endI]
      have w2 : IntKind.i64.wrap ((n1 : Int) + 1) = ((n1 + 1 : Nat) : Int) := wrap1 (by omega : n1 < l.length) hl
      rw [List.drop_eq_getElem_cons hlt, cntO, hdF_drop] at hf
      refine ⟨by trivial, b, o, rfl, by omega, _, by simpa using pl_frc hc hlt, endP l k, he ▸ pl_end l _ c k ⟨by omega, by omega⟩ hl _ hr, _, rg_within _ _ _ _, ifB_intro (fun h4 => ⟨⟨k + 1, n1 + 1, k⟩, ⟨⟨⟨hR, hlt, by simp only; omega⟩, ?_⟩, by simp [wrap1 hlt hl, w2]⟩, by simp only; omega⟩) (fun h4 => ⟨⟨k + 1, n1, q⟩, ⟨⟨⟨hR, hlt, by simp only; omega⟩, ?_⟩, by simp [wrap1 hlt hl]⟩, by simp only; omega⟩)⟩
      · rw [h4] at hf; simpa using hf
      · rw [h4] at hf; simpa using hf
    · have : k = l.length := by simp at h3; omega
      subst this
      rw [List.drop_length, cntO, hlaw hR] at hf
      simp only [Prod.mk.injEq] at hf
      obtain ⟨e1, e2⟩ := hf
      subst e1
      exact ifB_true ⟨_, rg_find l a c key hl _ hr, ⟨by rw [e2]; simp⟩⟩

end Go.Proofs.Ytpnpebefcmgjoaa
set_option linter.unusedVariables false
set_option linter.unusedSimpArgs false
namespace Go.Proofs.Ytpnpebefcmgjoaa
open Go.Vc Go.RowKit
set_option maxRecDepth 100000

theorem pl_epc {m : M} {b o i : Nat} {l : List Pl} (h : CellsAt m b o (pls l)) (hi : i < l.length) : CellsAt m b (o + i * 3 + 2) [I l[i].ep] :=
  ⟨fun j hj => by
    have hj : j = 0 := by simpa using hj
    subst hj
    have := (pl_at h hi).out 2 (by simp [encPl])
    simpa [encPl] using this⟩

structure EqX where
  i : Nat
  e : Int

theorem rf_epoch (l : List Pl) (a : Option Addr) (c : Nat) (hl : l.length ≤ 9223372036854775807) (m : M) (h : Row m a (pls l)) :
    QSpec Try.prog 24 [.slice a l.length c] m (I (epochL l)) := by
  refine QSpec.of_vc Try.func24 (ann := fun n _ => { A := EqX, inv := fun x => x.i ≤ l.length ∧ (l.drop x.i).foldl (fun e p => max e p.ep) x.e = epochL l, st := fun x => [(4, .val (I x.i)), (3, .val (I x.e)), (0, .val (.slice a l.length c))], own := fun _ => [], m := fun _ => { m with sz := n }, μ := fun x => l.length - x.i }) fun n hn => ?_
  refine vc_by (X :=
      true = true ∧
      (∃ (a_1 : EqX),
      (a_1.i ≤ l.length ∧ List.foldl (fun (e : Int) (p : Pl) => max e p.ep) a_1.e (List.drop a_1.i l) = epochL l) ∧
      { π := m.π, sz := n, uf := m.uf : M } = { π := m.π, sz := n, uf := m.uf : M } ∧
      ((SV.val (Value.int IntKind.i64 (0 : Int)) = SV.val (Value.int IntKind.i64 (↑a_1.i : Int)) ∧ true = true) ∧
      (SV.val (Value.int IntKind.i64 (0 : Int)) = SV.val (Value.int IntKind.i64 a_1.e) ∧ true = true) ∧
      (SV.val (Value.slice a l.length c) = SV.val (Value.slice a l.length c) ∧ true = true) ∧ True) ∧
      True) ∧
      ∀ (a_1 : EqX),
      a_1.i ≤ l.length ∧ List.foldl (fun (e : Int) (p : Pl) => max e p.ep) a_1.e (List.drop a_1.i l) = epochL l →
      ifB (decide ((↑a_1.i : Int) < (↑l.length : Int)))
      (∃ (b : Nat),
      ∃ (off : Nat),
      a = some { block := b, off := off : Addr } ∧
      ((0 : Int) ≤ (↑a_1.i : Int) ∧ (↑a_1.i : Int) < (↑l.length : Int)) ∧
      ∃ (n_1 : Int),
      CellsAt { π := m.π, sz := n, uf := m.uf : M } b (off + (↑a_1.i : Int).toNat * (3 : Nat) + (2 : Nat)) [Value.int IntKind.i64 n_1] ∧
      ∃ (a' : EqX),
      ((a'.i ≤ l.length ∧ List.foldl (fun (e : Int) (p : Pl) => max e p.ep) a'.e (List.drop a'.i l) = epochL l) ∧
      { π := m.π, sz := n, uf := m.uf : M } = { π := m.π, sz := n, uf := m.uf : M } ∧
      ((SV.val (Value.int IntKind.i64 (IntKind.i64.wrap ((↑a_1.i : Int) + (1 : Int)))) = SV.val (Value.int IntKind.i64 (↑a'.i : Int)) ∧ true = true) ∧
      (SV.val (Value.int IntKind.i64 (if n_1 > a_1.e then n_1 else a_1.e)) = SV.val (Value.int IntKind.i64 a'.e) ∧ true = true) ∧
      (SV.val (Value.slice a l.length c) = SV.val (Value.slice a l.length c) ∧ true = true) ∧ True) ∧
      True) ∧
      l.length - a'.i < l.length - a_1.i)
      (Done (Value.int IntKind.i64 a_1.e = Value.int IntKind.i64 (epochL l)))) (by kernel_rfl) ?_
  refine ⟨rfl, ⟨⟨0, 0⟩, ⟨Nat.zero_le _, rfl⟩, by simp⟩, fun ⟨k, e⟩ ⟨hk, hf⟩ => ifB_intro (fun h1 => ?_) (fun h1 => ⟨?_⟩)⟩
  · have hlt : k < l.length := by simpa using h1
    simp only at hf ⊢
    obtain ⟨b, o, rfl, hc⟩ := (h.sz hn).cells (by rw [pl_len]; omega)
    rw [List.drop_eq_getElem_cons hlt, List.foldl_cons] at hf
    have hmx : (if l[k].ep > e then l[k].ep else e) = max e l[k].ep := by split <;> omega
    refine ⟨b, o, rfl, by omega, _, by simpa using pl_epc hc hlt, ?_⟩
    rw [hmx]
    exact ⟨⟨k + 1, max e l[k].ep⟩, ⟨⟨hlt, hf⟩, by simp [wrap1 hlt hl]⟩, by simp only; omega⟩
  · have hk : k ≤ l.length := hk
    have : k = l.length := by simp at h1; omega
    subst this
    simp only [List.drop_length, List.foldl_nil] at hf
    rw [hf]

def delS (l : List Pl) (i : Nat) (e : Int) : List Pl := ((l.take (i + 1)) ++ l.drop (i + 2)).set i { l[i]?.getD pl0 with ep := e }

def mergeL (l : List Pl) (i : Int) : List Pl × Int :=
  if rightB l = false then ([], 21) else if (decide (i < 0) || (decide (i ≥ (l.length : Int) - 1) || decide (epochL l ≥ 4611686018427387904))) = true then ([], 170) else (delS l i.toNat (epochL l + 1), 0)

theorem rg_merge (l : List Pl) (a : Option Addr) (c : Nat) (i : Int) (hi : In64 i) (hl : l.length ≤ 9223372036854775807) (m : M) (h : Row m a (pls l)) :
    Vc.Spec Try.prog 28 [.slice a l.length c, I i] m (fun v m' => ResR (mergeL l i) v m') := by
  refine Vc.Spec.of_vc Try.func28 (ann := noAnn) ?_
  refine vc_by (X :=
      true = true ∧
      ∃ (n : Int),
      QSpec Try.prog (19 : Nat) [Value.slice a l.length c] m (Value.int IntKind.i64 n) ∧
      ifB (n != (0 : Int)) (Done (ResR (mergeL l i) (Value.tuple #[Value.slice none (0 : Nat) (0 : Nat), Value.int IntKind.i64 (21 : Int)]) m))
      (∃ (n : Int),
      QSpec Try.prog (23 : Nat) [Value.slice a l.length c] m (Value.int IntKind.i64 n) ∧
      ifB (decide (i < (0 : Int))) (Done (ResR (mergeL l i) (Value.tuple #[Value.slice none (0 : Nat) (0 : Nat), Value.int IntKind.i64 (170 : Int)]) m))
      (ifB (decide (i ≥ IntKind.i64.wrap ((↑l.length : Int) - (1 : Int))))
      (Done (ResR (mergeL l i) (Value.tuple #[Value.slice none (0 : Nat) (0 : Nat), Value.int IntKind.i64 (170 : Int)]) m))
      (ifB (decide (n ≥ (4611686018427387904 : Int)))
      (Done (ResR (mergeL l i) (Value.tuple #[Value.slice none (0 : Nat) (0 : Nat), Value.int IntKind.i64 (170 : Int)]) m))
      (∃ (S' : Nat → Prop),
      (∀ (b : Nat), S' b → m.uf b ∧ (m.sz ≤ b ∨ False)) ∧
      ∀ (n_1 : Nat),
      m.sz ≤ n_1 →
      SpecW Try.prog (35 : Nat) [Value.slice a l.length c] { π := m.π, sz := n_1, uf := m.uf : M } S' fun (v : Value) (m' : M) =>
      ∃ (a : Option Addr),
      ∃ (n_2 : Nat),
      ∃ (c : Nat),
      v = Value.slice a n_2 c ∧
      ∃ (S' : Nat → Prop),
      (∀ (b : Nat), S' b → m'.uf b ∧ (m.sz ≤ b ∨ False)) ∧
      ∀ (n_3 : Nat),
      m'.sz ≤ n_3 →
      SpecW Try.prog (36 : Nat)
      [Value.slice a n_2 c, Value.int IntKind.i64 (IntKind.i64.wrap (i + (1 : Int))),
      Value.int IntKind.i64 (IntKind.i64.wrap (i + (2 : Int)))]
      { π := m'.π, sz := n_3, uf := m'.uf : M } S' fun (v : Value) (m' : M) =>
      ∃ (a : Option Addr),
      ∃ (n_4 : Nat),
      ∃ (c : Nat),
      v = Value.slice a n_4 c ∧
      ∃ (b : Nat),
      ∃ (off : Nat),
      a = some { block := b, off := off : Addr } ∧
      ((0 : Int) ≤ i ∧ i < (↑n_4 : Int)) ∧
      Wr m.sz (fun (x : Nat) => False) m' b (off + i.toNat * (3 : Nat) + (2 : Nat))
      #[Value.int IntKind.i64 (IntKind.i64.wrap (n + (1 : Int)))].size ∧
      Done
      (ResR (mergeL l i) (Value.tuple #[Value.slice a n_4 c, Value.int IntKind.i64 (0 : Int)])
      (m'.setCells b (off + i.toNat * (3 : Nat) + (2 : Nat))
      [Value.int IntKind.i64 (IntKind.i64.wrap (n + (1 : Int)))]))))))) (by kernel_rfl) ?_
  refine ⟨rfl, _, rg_check l a c hl m h, ifB_intro (fun h1 => ⟨?_⟩) (fun h1 => ?_)⟩
  · have : rightB l = false := by
      cases hq : rightB l with
      | false => rfl
      | true => simp [hq] at h1
    simp only [mergeL, this, if_true]
    exact res_no _ _
  have hR : rightB l = true := by
    cases hq : rightB l with
    | true => rfl
    | false => simp [hq] at h1
  have h7 := right_len hR
  have hp := right_pos hR
  have w0 : IntKind.i64.wrap ((l.length : Int) - 1) = (l.length : Int) - 1 := by rw [IntKind.wrap_i64]; omega
  rw [w0]
  refine ⟨_, rg_epoch l _ c (by omega) (row_h0 h) m h, ifB_intro (fun h2 => ⟨?_⟩) (fun h2 => ifB_intro (fun h3 => ⟨?_⟩) (fun h3 => ifB_intro (fun h4 => ⟨?_⟩) (fun h4 => ?_)))⟩
  · simp only [mergeL, hR, h2, Bool.true_or, if_true]
    exact res_no _ _
  · simp only [mergeL, hR, h3, Bool.true_or, Bool.or_true, if_true]
    exact res_no _ _
  · simp only [mergeL, hR, h4, Bool.or_true, if_true]
    exact res_no _ _
  have hsp : mergeL l i = (delS l i.toNat (epochL l + 1), 0) := by
    simp only [mergeL, hR, h2, h3, h4]
    rfl
  have h2' : 0 ≤ i := by simpa using h2
  have h3' : i < (l.length : Int) - 1 := by simpa using h3
  have hE : ¬ epochL l ≥ 4611686018427387904 := by simpa using h4
  have hE0 : 0 ≤ epochL l := epoch_nn l 0
  have w1 : IntKind.i64.wrap (epochL l + 1) = epochL l + 1 := by rw [IntKind.wrap_i64]; omega
  obtain ⟨j, hj⟩ : ∃ j : Nat, i = (j : Int) := ⟨i.toNat, by omega⟩
  subst hj
  have w2 : IntKind.i64.wrap ((j : Int) + 1) = ((j + 1 : Nat) : Int) := by rw [IntKind.wrap_i64]; omega
  have w3 : IntKind.i64.wrap ((j : Int) + 2) = ((j + 1 + 1 : Nat) : Int) := by rw [IntKind.wrap_i64]; omega
  rw [hsp, w1, w2, w3]
  simp only [Int.toNat_natCast]
  generalize he : epochL l + 1 = e at *
  refine ⟨_, noS, fun n hn => (pl_clone l _ c (by omega) (row_h0 h) _ (h.sz hn)).monoW fun v m' hag ⟨a', c', hv, hr⟩ => ⟨a', l.length, c', hv, ?_⟩⟩
  have hN : m.sz ≤ n := hn
  have hle : n ≤ m'.sz := hag.2.2
  have ho := hr.toOwn (by omega)
  have hs := pl_delete a' c' l (j + 1) (fun b' => ∃ o, a' = some ⟨b', o, none⟩ ∧ m'.uf b' ∧ m.sz ≤ b') (by omega) (by omega)
  refine ⟨fun b' => ∃ o, a' = some ⟨b', o, none⟩ ∧ m'.uf b' ∧ m.sz ≤ b', fun b' ⟨o, e, hu, hlo⟩ => ⟨hu, .inl hlo⟩, fun n5 hn5 => ?_⟩
  refine (hs { m' with sz := n5 } ((ho.sz hn5).re fun b' o e => .inr ⟨o, e, ho.uf e, by have := ho.lo e; rcases this with h | h; simp only at h; omega; exact h.elim⟩)).mono fun v3 m3 hag3 ⟨hv3, hr3⟩ => ?_
  obtain ⟨L, hL⟩ : ∃ L, L = l.take (j + 1) ++ l.drop (j + 1 + 1) := ⟨_, rfl⟩
  have hLl : L.length = l.length - 1 := by rw [hL]; simp; omega
  have hLi : j < L.length := by omega
  have hLg : L[j] = l[j] := by
    simp only [hL]
    rw [List.getElem_append_left (by simp; omega)]
    simp
  have hown : OwnB m.sz (fun _ => False) m3 3 a' (l.length - 1) c' (L.flatMap encPl) := by
    rw [hL]
    refine hr3.re fun b' o e => ?_
    have h1 := hr3.lo e
    rcases h1 with h1 | ⟨_, _, _, h1⟩
    · simp only at h1; omega
    · omega
  obtain ⟨b3, o3, rfl, -⟩ := hown.row.cells (by rw [pl_len]; omega)
  obtain ⟨g1, g2⟩ := OwnB.setField pl_k hown hLi { l[j] with ep := e } (p := [I l[j].gr, .string l[j].fr]) (old := [I l[j].ep]) (new := [I e]) (q := []) (by rw [hLg]; rfl) rfl rfl
  have e1 : delS l j e = L.set j { l[j] with ep := e } := by
    rw [delS, hL, List.getElem?_eq_getElem (by omega)]; rfl
  refine ⟨_, _, _, hv3, b3, o3, rfl, by omega, by simpa using g1, ⟨⟨some ⟨b3, o3, none⟩, c', ?_, ?_⟩⟩⟩
  · have : (delS l j e).length = l.length - 1 := by rw [e1]; simp [hLl]
    rw [this]
  · rw [e1]
    simpa using g2.row

end Go.Proofs.Ytpnpebefcmgjoaa
set_option linter.unusedVariables false
set_option linter.unusedSimpArgs false
namespace Go.Proofs.Ytpnpebefcmgjoaa
open Go.Vc Go.RowKit
set_option maxRecDepth 100000

theorem rfind_one {key : ByteArray} : ∀ {xs : List Pl} {x : Pl} {seen : List Int} {last : Option ByteArray} (i q : Nat), chk seen last (x :: xs) = true → ltS key x.fr = false →
    rfindL key (x :: xs) i = findL key (x :: xs) i q
  | [], x, seen, last, i, q, h, hx => by
    have hw : withinB x.fr .empty key = true := by
      simp only [withinB, hx, Bool.not_false, Bool.true_and, emp_emp, Bool.true_or]
    simp only [rfindL, hdF, findL, hx, hw, if_true]
    rfl
  | y :: ys, x, seen, last, i, q, h, hx => by
    obtain ⟨-, -, -, h4⟩ := chk_cons h
    obtain ⟨-, -, h7, h8⟩ := chk_cons h4
    have hxy : ltS x.fr y.fr = true := h7
    have hem := lt_empty hxy
    cases hy : ltS key y.fr with
    | true =>
      have hall : ∀ z ∈ y :: ys, ltS key z.fr = true := fun z hz => by
        rcases List.mem_cons.1 hz with rfl | hz
        · exact hy
        · exact chk_gt h8 hy z hz
      have hw : withinB x.fr y.fr key = true := by simp only [withinB, hx, hy, Bool.or_true]; rfl
      obtain ⟨e1, e2⟩ := cnt_gt (key := key) (i + 1) i (0, 0) hall
      rw [rfindL, findL, hdF, hw, hx]
      simp only [if_true, Bool.false_eq_true, if_false]
      rw [e2]
    | false =>
      have hw : withinB x.fr y.fr key = false := by simp only [withinB, hx, hy, hem]; rfl
      have ih := rfind_one (i + 1) i h4 hy
      rw [rfindL, hdF, hw]
      simp only [Bool.false_eq_true, if_false]
      rw [ih]
      conv => rhs; rw [findL, hx]
      simp

theorem rfind_eq {l : List Pl} (key : ByteArray) (h : rightB l = true) : rfindL key l 0 = findL key l 0 0 := by
  cases l with
  | nil => cases h
  | cons x xs =>
    simp only [rightB, Bool.and_eq_true] at h
    exact rfind_one 0 0 h.2.2 (empty_lt h.2.1)

theorem ep_le : ∀ {l : List Pl} {seen : List Int} {last : Option ByteArray} (e : Int), e ≤ 4611686018427387904 → chk seen last l = true → l.foldl (fun e p => max e p.ep) e ≤ 4611686018427387904
  | [], _, _, e, h, _ => by simpa using h
  | x :: xs, seen, last, e, h, hc => by
    obtain ⟨h1, -, -, h4⟩ := chk_cons hc
    have : x.ep ≤ 4611686018427387904 := by
      simp only [plB, Bool.and_eq_true, decide_eq_true_eq] at h1
      exact h1.2.2.1
    exact ep_le (max e x.ep) (by omega) h4

theorem epoch_le {l : List Pl} (h : rightB l = true) : epochL l ≤ 4611686018427387904 := by
  simp only [rightB, Bool.and_eq_true] at h
  exact ep_le 0 (by omega) h.2.2

def rsF (f : Nat) (z : Pl) : Nat → List Pl → List Pl
  | _, [] => []
  | i, x :: xs => (if i = f then [{ x with ep := z.ep }, z] else [x]) ++ rsF f z (i + 1) xs

def rmF (f : Nat) (e : Int) : Nat → List Pl → List Pl
  | _, [] => []
  | i, x :: xs => (if i = f then [{ x with ep := e }] else if i = f + 1 then [] else [x]) ++ rmF f e (i + 1) xs

theorem rsF_eq (f : Nat) (z : Pl) : ∀ (xs : List Pl) (i : Nat), rsF f z i xs = if h : i ≤ f ∧ f - i < xs.length then xs.take (f - i) ++ { xs[f - i]'h.2 with ep := z.ep } :: z :: xs.drop (f - i + 1) else xs
  | [], i => by simp [rsF]
  | x :: xs, i => by
    have ih := rsF_eq f z xs (i + 1)
    simp only [rsF]
    rw [ih]
    by_cases e : i = f
    · subst e
      rw [dif_neg (by omega), dif_pos (by simp)]
      simp
    · rw [if_neg e]
      by_cases h : i ≤ f ∧ f - i < (x :: xs).length
      · have h' : i + 1 ≤ f ∧ f - (i + 1) < xs.length := by simp at h; omega
        obtain ⟨d, hd⟩ : ∃ d, f - i = d + 1 := ⟨f - i - 1, by omega⟩
        have hd' : f - (i + 1) = d := by omega
        rw [dif_pos h, dif_pos h']
        simp only [hd, hd', List.take_succ_cons, List.drop_succ_cons, List.getElem_cons_succ, List.cons_append, List.nil_append]
      · have h' : ¬ (i + 1 ≤ f ∧ f - (i + 1) < xs.length) := by simp at h ⊢; omega
        rw [dif_neg h, dif_neg h']
        rfl

theorem rsF_ins (l : List Pl) (key : ByteArray) (g : Int) (f : Nat) (e : Int) (hf : f < l.length) : rsF f ⟨g, key, e⟩ 0 l = insS l key g f e := by
  rw [rsF_eq, dif_pos ⟨Nat.zero_le _, by simpa using hf⟩]
  simp only [Nat.sub_zero, insS]
  rw [List.getElem?_eq_getElem hf, List.take_succ_eq_append_getElem hf]
  apply List.ext_getElem
  · simp; omega
  · intro i h1 h2
    by_cases e1 : i < f
    · rw [List.getElem_append_left (by simp; omega), List.getElem_set_ne (by omega), List.getElem_append_left (by simp; omega), List.getElem_append_left (by simp; omega)]
    · by_cases e2 : i = f
      · subst e2
        rw [List.getElem_set_self, List.getElem_append_right (by simp; omega)]
        simp [Nat.min_eq_left (Nat.le_of_lt hf)]
      · rw [List.getElem_append_right (by simp; omega), List.getElem_set_ne (by omega), List.getElem_append_right (by simp; omega)]
        simp only [List.length_take, List.length_append, List.length_cons, List.length_nil, Nat.min_eq_left (Nat.le_of_lt hf)]
        obtain ⟨d, hd⟩ : ∃ d, i = f + 1 + d := ⟨i - f - 1, by omega⟩
        subst hd
        simp [show f + 1 + d - f = d + 1 by omega, show f + 1 + d - (f + (0 + 1)) = d by omega]

theorem rf_err {l : List Pl} {key : ByteArray} {g : Int} {m : M} {e : Int} (h : splitL l key g = ([], e)) : Done (ResR (splitL l key g) (Value.tuple #[Value.slice none 0 0, I e]) m) := by
  rw [h]; exact ⟨res_no _ _⟩

structure OutX where
  i : Nat
  out : List Pl
  m : M
  a : Option Addr
  c : Nat

theorem rf_split (l : List Pl) (a : Option Addr) (c : Nat) (key : ByteArray) (g : Int) (hl : l.length ≤ 9223372036854775807) (m : M) (h : Row m a (pls l)) :
    Vc.Spec Try.prog 27 [.slice a l.length c, .string key, I g] m (fun v m' => ResR (splitL l key g) v m') := by
  refine Vc.Spec.of_vc Try.func27 (ann := fun _ => { A := OutX, inv := fun x => (x.i ≤ l.length ∧ rightB l = true ∧ x.out.length ≤ 2 * x.i ∧ epochL l < 4611686018427387904) ∧ (x.out ++ rsF (findL key l 0 0) ⟨g, key, epochL l + 1⟩ x.i (l.drop x.i) = rsF (findL key l 0 0) ⟨g, key, epochL l + 1⟩ 0 l ∧ splitL l key g = (insS l key g (findL key l 0 0) (epochL l + 1), 0)) ∧ (NewR m.sz (fun _ => False) x.m 3 x.a x.out.length x.c (pls x.out) ∧ Agree m.sz m x.m), st := fun x => [(12, .val (I x.i)), (0, .val (.slice a l.length c)), (1, .val (.string key)), (10, .val (I (epochL l))), (11, .val (.slice x.a x.out.length x.c)), (2, .val (I g))], own := fun _ => [], m := fun x => x.m, μ := fun x => l.length - x.i }) ?_
  refine vc_by (X :=
      true = true ∧
      ∃ (b : Bool),
      QSpec Try.prog (17 : Nat) [Value.slice a l.length c] m (Value.bool b) ∧
      ifB (!b) (Done (ResR (splitL l key g) (Value.tuple #[Value.slice none (0 : Nat) (0 : Nat), Value.int IntKind.i64 (21 : Int)]) m))
      (ifB (decide ((↑key.size : Int) < (1 : Int))) (Done (ResR (splitL l key g) (Value.tuple #[Value.slice none (0 : Nat) (0 : Nat), Value.int IntKind.i64 (1 : Int)]) m))
      (ifB (decide ((↑key.size : Int) > (16 : Int))) (Done (ResR (splitL l key g) (Value.tuple #[Value.slice none (0 : Nat) (0 : Nat), Value.int IntKind.i64 (1 : Int)]) m))
      (ifB (decide (g < (1 : Int))) (Done (ResR (splitL l key g) (Value.tuple #[Value.slice none (0 : Nat) (0 : Nat), Value.int IntKind.i64 (1 : Int)]) m))
      (ifB (decide (g ≥ (8 : Int))) (Done (ResR (splitL l key g) (Value.tuple #[Value.slice none (0 : Nat) (0 : Nat), Value.int IntKind.i64 (1 : Int)]) m))
      (∃ (n : Int),
      ∃ (b : Bool),
      QSpec Try.prog (20 : Nat) [Value.slice a l.length c, Value.int IntKind.i64 g] m (Value.tuple #[Value.int IntKind.i64 n, Value.bool b]) ∧
      ifB b (Done (ResR (splitL l key g) (Value.tuple #[Value.slice none (0 : Nat) (0 : Nat), Value.int IntKind.i64 (171 : Int)]) m))
      (∃ (n : Int),
      QSpec Try.prog (21 : Nat) [Value.slice a l.length c, Value.string key] m (Value.int IntKind.i64 n) ∧
      ∃ (b : Nat),
      ∃ (off : Nat),
      a = some { block := b, off := off : Addr } ∧
      ((0 : Int) ≤ n ∧ n < (↑l.length : Int)) ∧
      ∃ (s : ByteArray),
      CellsAt m b (off + n.toNat * (3 : Nat) + (1 : Nat)) [Value.string s] ∧
      ifB (s.toList == key.toList)
      (Done (ResR (splitL l key g) (Value.tuple #[Value.slice none (0 : Nat) (0 : Nat), Value.int IntKind.i64 (171 : Int)]) m))
      (∃ (n : Int),
      QSpec Try.prog (24 : Nat) [Value.slice a l.length c] m (Value.int IntKind.i64 n) ∧
      ifB (n == (4611686018427387904 : Int))
      (Done (ResR (splitL l key g) (Value.tuple #[Value.slice none (0 : Nat) (0 : Nat), Value.int IntKind.i64 (170 : Int)]) m))
      ((∃ (a_1 : OutX),
      ((a_1.i ≤ l.length ∧ rightB l = true ∧ a_1.out.length ≤ (2 : Nat) * a_1.i ∧ epochL l < (4611686018427387904 : Int)) ∧
      (a_1.out ++
      rsF (findL key l (0 : Nat) (0 : Nat)) { gr := g, fr := key, ep := epochL l + (1 : Int) : Pl } a_1.i
      (List.drop a_1.i l) =
      rsF (findL key l (0 : Nat) (0 : Nat)) { gr := g, fr := key, ep := epochL l + (1 : Int) : Pl } (0 : Nat) l ∧
      splitL l key g = (insS l key g (findL key l (0 : Nat) (0 : Nat)) (epochL l + (1 : Int)), (0 : Int))) ∧
      NewR m.sz (fun (x : Nat) => False) a_1.m (3 : Nat) a_1.a a_1.out.length a_1.c (pls a_1.out) ∧ Agree m.sz m a_1.m) ∧
      m = a_1.m ∧
      ((SV.val (Value.int IntKind.i64 (0 : Int)) = SV.val (Value.int IntKind.i64 (↑a_1.i : Int)) ∧ true = true) ∧
      (SV.val (Value.slice a l.length c) = SV.val (Value.slice a l.length c) ∧ true = true) ∧
      (SV.val (Value.string key) = SV.val (Value.string key) ∧ true = true) ∧
      (SV.val (Value.int IntKind.i64 n) = SV.val (Value.int IntKind.i64 (epochL l)) ∧ true = true) ∧
      (SV.val (Value.slice none (0 : Nat) (0 : Nat)) = SV.val (Value.slice a_1.a a_1.out.length a_1.c) ∧ true = true) ∧
      (SV.val (Value.int IntKind.i64 g) = SV.val (Value.int IntKind.i64 g) ∧ true = true) ∧ True) ∧
      True) ∧
      ∀ (a_1 : OutX),
      (a_1.i ≤ l.length ∧ rightB l = true ∧ a_1.out.length ≤ (2 : Nat) * a_1.i ∧ epochL l < (4611686018427387904 : Int)) ∧
      (a_1.out ++
      rsF (findL key l (0 : Nat) (0 : Nat)) { gr := g, fr := key, ep := epochL l + (1 : Int) : Pl } a_1.i
      (List.drop a_1.i l) =
      rsF (findL key l (0 : Nat) (0 : Nat)) { gr := g, fr := key, ep := epochL l + (1 : Int) : Pl } (0 : Nat) l ∧
      splitL l key g = (insS l key g (findL key l (0 : Nat) (0 : Nat)) (epochL l + (1 : Int)), (0 : Int))) ∧
      NewR m.sz (fun (x : Nat) => False) a_1.m (3 : Nat) a_1.a a_1.out.length a_1.c (pls a_1.out) ∧ Agree m.sz m a_1.m →
      ifB (decide ((↑a_1.i : Int) < (↑l.length : Int)))
      (∃ (b : Nat),
      ∃ (off : Nat),
      a = some { block := b, off := off : Addr } ∧
      ((0 : Int) ≤ (↑a_1.i : Int) ∧ (↑a_1.i : Int) < (↑l.length : Int)) ∧
      ∃ (n : Int),
      ∃ (s : ByteArray),
      ∃ (n_1 : Int),
      CellsAt a_1.m b (off + (↑a_1.i : Int).toNat * (3 : Nat))
      [Value.int IntKind.i64 n, Value.string s, Value.int IntKind.i64 n_1] ∧
      ∃ (n_2 : Int),
      QSpec Try.prog (21 : Nat) [Value.slice a l.length c, Value.string key] a_1.m (Value.int IntKind.i64 n_2) ∧
      ifB ((↑a_1.i : Int) == n_2)
      (true = true ∧
      ∀ (b : Nat),
      a_1.m.sz ≤ b →
      ∃ (old : List Value),
      ∃ (src : List Value),
      AppPre m.sz (fun (x : Nat) => False)
      (a_1.m.newBlock b
      [Value.int IntKind.i64 n, Value.string s,
      Value.int IntKind.i64 (IntKind.i64.wrap (epochL l + (1 : Int)))])
      (3 : Nat) (32 : Nat) a_1.a a_1.out.length a_1.c
      (some { block := b, off := (0 : Nat) : Addr }) (1 : Nat) old src ∧
      ∀ (a' : Option Addr) (c' : Nat) (m' : M),
      AppPost Try.prog (39 : Nat)
      (a_1.m.newBlock b
      [Value.int IntKind.i64 n, Value.string s,
      Value.int IntKind.i64 (IntKind.i64.wrap (epochL l + (1 : Int)))])
      (3 : Nat) a_1.a a_1.out.length a_1.c (1 : Nat) old src a' c' m' →
      ∃ (n : Int),
      QSpec Try.prog (21 : Nat) [Value.slice a l.length c, Value.string key] m'
      (Value.int IntKind.i64 n) ∧
      ifB ((↑a_1.i : Int) == n)
      (true = true ∧
      ∀ (b : Nat),
      m'.sz ≤ b →
      ∃ (old : List Value),
      ∃ (src : List Value),
      AppPre m.sz (fun (x : Nat) => False)
      (m'.newBlock b
      [Value.int IntKind.i64 g, Value.string key,
      Value.int IntKind.i64
      (IntKind.i64.wrap (epochL l + (1 : Int)))])
      (3 : Nat) (32 : Nat) a' (a_1.out.length + (1 : Nat)) c'
      (some { block := b, off := (0 : Nat) : Addr }) (1 : Nat) old src ∧
      ∀ (a'_1 : Option Addr) (c'_1 : Nat) (m'_1 : M),
      AppPost Try.prog (39 : Nat)
      (m'.newBlock b
      [Value.int IntKind.i64 g, Value.string key,
      Value.int IntKind.i64
      (IntKind.i64.wrap (epochL l + (1 : Int)))])
      (3 : Nat) a' (a_1.out.length + (1 : Nat)) c' (1 : Nat) old src
      a'_1 c'_1 m'_1 →
      ∃ (a' : OutX),
      (((a'.i ≤ l.length ∧
      rightB l = true ∧
      a'.out.length ≤ (2 : Nat) * a'.i ∧
      epochL l < (4611686018427387904 : Int)) ∧
      (a'.out ++
      rsF (findL key l (0 : Nat) (0 : Nat))
      { gr := g, fr := key, ep := epochL l + (1 : Int) : Pl }
      a'.i (List.drop a'.i l) =
      rsF (findL key l (0 : Nat) (0 : Nat))
      { gr := g, fr := key, ep := epochL l + (1 : Int) : Pl }
      (0 : Nat) l ∧
      splitL l key g =
      (insS l key g (findL key l (0 : Nat) (0 : Nat))
      (epochL l + (1 : Int)),
      (0 : Int))) ∧
      NewR m.sz (fun (x : Nat) => False) a'.m (3 : Nat) a'.a
      a'.out.length a'.c (pls a'.out) ∧
      Agree m.sz m a'.m) ∧
      m'_1 = a'.m ∧
      ((SV.val
      (Value.int IntKind.i64
      (IntKind.i64.wrap
      ((↑a_1.i : Int) + (1 : Int)))) =
      SV.val (Value.int IntKind.i64 (↑a'.i : Int)) ∧
      true = true) ∧
      (SV.val (Value.slice a l.length c) =
      SV.val (Value.slice a l.length c) ∧
      true = true) ∧
      (SV.val (Value.string key) =
      SV.val (Value.string key) ∧
      true = true) ∧
      (SV.val (Value.int IntKind.i64 (epochL l)) =
      SV.val
      (Value.int IntKind.i64 (epochL l)) ∧
      true = true) ∧
      (SV.val
      (Value.slice a'_1
      (a_1.out.length + (1 : Nat) +
      (1 : Nat))
      c'_1) =
      SV.val
      (Value.slice a'.a a'.out.length
      a'.c) ∧
      true = true) ∧
      (SV.val (Value.int IntKind.i64 g) =
      SV.val (Value.int IntKind.i64 g) ∧
      true = true) ∧
      True) ∧
      True) ∧
      l.length - a'.i < l.length - a_1.i)
      (∃ (a'_1 : OutX),
      (((a'_1.i ≤ l.length ∧
      rightB l = true ∧
      a'_1.out.length ≤ (2 : Nat) * a'_1.i ∧
      epochL l < (4611686018427387904 : Int)) ∧
      (a'_1.out ++
      rsF (findL key l (0 : Nat) (0 : Nat))
      { gr := g, fr := key, ep := epochL l + (1 : Int) : Pl } a'_1.i
      (List.drop a'_1.i l) =
      rsF (findL key l (0 : Nat) (0 : Nat))
      { gr := g, fr := key, ep := epochL l + (1 : Int) : Pl }
      (0 : Nat) l ∧
      splitL l key g =
      (insS l key g (findL key l (0 : Nat) (0 : Nat))
      (epochL l + (1 : Int)),
      (0 : Int))) ∧
      NewR m.sz (fun (x : Nat) => False) a'_1.m (3 : Nat) a'_1.a
      a'_1.out.length a'_1.c (pls a'_1.out) ∧
      Agree m.sz m a'_1.m) ∧
      m' = a'_1.m ∧
      ((SV.val
      (Value.int IntKind.i64
      (IntKind.i64.wrap ((↑a_1.i : Int) + (1 : Int)))) =
      SV.val (Value.int IntKind.i64 (↑a'_1.i : Int)) ∧
      true = true) ∧
      (SV.val (Value.slice a l.length c) =
      SV.val (Value.slice a l.length c) ∧
      true = true) ∧
      (SV.val (Value.string key) = SV.val (Value.string key) ∧
      true = true) ∧
      (SV.val (Value.int IntKind.i64 (epochL l)) =
      SV.val (Value.int IntKind.i64 (epochL l)) ∧
      true = true) ∧
      (SV.val (Value.slice a' (a_1.out.length + (1 : Nat)) c') =
      SV.val (Value.slice a'_1.a a'_1.out.length a'_1.c) ∧
      true = true) ∧
      (SV.val (Value.int IntKind.i64 g) =
      SV.val (Value.int IntKind.i64 g) ∧
      true = true) ∧
      True) ∧
      True) ∧
      l.length - a'_1.i < l.length - a_1.i))
      (true = true ∧
      ∀ (b : Nat),
      a_1.m.sz ≤ b →
      ∃ (old : List Value),
      ∃ (src : List Value),
      AppPre m.sz (fun (x : Nat) => False)
      (a_1.m.newBlock b [Value.int IntKind.i64 n, Value.string s, Value.int IntKind.i64 n_1])
      (3 : Nat) (32 : Nat) a_1.a a_1.out.length a_1.c
      (some { block := b, off := (0 : Nat) : Addr }) (1 : Nat) old src ∧
      ∀ (a' : Option Addr) (c' : Nat) (m' : M),
      AppPost Try.prog (39 : Nat)
      (a_1.m.newBlock b
      [Value.int IntKind.i64 n, Value.string s, Value.int IntKind.i64 n_1])
      (3 : Nat) a_1.a a_1.out.length a_1.c (1 : Nat) old src a' c' m' →
      ∃ (n : Int),
      QSpec Try.prog (21 : Nat) [Value.slice a l.length c, Value.string key] m'
      (Value.int IntKind.i64 n) ∧
      ifB ((↑a_1.i : Int) == n)
      (true = true ∧
      ∀ (b : Nat),
      m'.sz ≤ b →
      ∃ (old : List Value),
      ∃ (src : List Value),
      AppPre m.sz (fun (x : Nat) => False)
      (m'.newBlock b
      [Value.int IntKind.i64 g, Value.string key,
      Value.int IntKind.i64
      (IntKind.i64.wrap (epochL l + (1 : Int)))])
      (3 : Nat) (32 : Nat) a' (a_1.out.length + (1 : Nat)) c'
      (some { block := b, off := (0 : Nat) : Addr }) (1 : Nat) old src ∧
      ∀ (a'_1 : Option Addr) (c'_1 : Nat) (m'_1 : M),
      AppPost Try.prog (39 : Nat)
      (m'.newBlock b
      [Value.int IntKind.i64 g, Value.string key,
      Value.int IntKind.i64
      (IntKind.i64.wrap (epochL l + (1 : Int)))])
      (3 : Nat) a' (a_1.out.length + (1 : Nat)) c' (1 : Nat) old src
      a'_1 c'_1 m'_1 →
      ∃ (a' : OutX),
      (((a'.i ≤ l.length ∧
      rightB l = true ∧
      a'.out.length ≤ (2 : Nat) * a'.i ∧
      epochL l < (4611686018427387904 : Int)) ∧
      (a'.out ++
      rsF (findL key l (0 : Nat) (0 : Nat))
      { gr := g, fr := key, ep := epochL l + (1 : Int) : Pl }
      a'.i (List.drop a'.i l) =
      rsF (findL key l (0 : Nat) (0 : Nat))
      { gr := g, fr := key, ep := epochL l + (1 : Int) : Pl }
      (0 : Nat) l ∧
      splitL l key g =
      (insS l key g (findL key l (0 : Nat) (0 : Nat))
      (epochL l + (1 : Int)),
      (0 : Int))) ∧
      NewR m.sz (fun (x : Nat) => False) a'.m (3 : Nat) a'.a
      a'.out.length a'.c (pls a'.out) ∧
      Agree m.sz m a'.m) ∧
      m'_1 = a'.m ∧
      ((SV.val
      (Value.int IntKind.i64
      (IntKind.i64.wrap
      ((↑a_1.i : Int) + (1 : Int)))) =
      SV.val (Value.int IntKind.i64 (↑a'.i : Int)) ∧
      true = true) ∧
      (SV.val (Value.slice a l.length c) =
      SV.val (Value.slice a l.length c) ∧
      true = true) ∧
      (SV.val (Value.string key) =
      SV.val (Value.string key) ∧
      true = true) ∧
      (SV.val (Value.int IntKind.i64 (epochL l)) =
      SV.val
      (Value.int IntKind.i64 (epochL l)) ∧
      true = true) ∧
      (SV.val
      (Value.slice a'_1
      (a_1.out.length + (1 : Nat) +
      (1 : Nat))
      c'_1) =
      SV.val
      (Value.slice a'.a a'.out.length
      a'.c) ∧
      true = true) ∧
      (SV.val (Value.int IntKind.i64 g) =
      SV.val (Value.int IntKind.i64 g) ∧
      true = true) ∧
      True) ∧
      True) ∧
      l.length - a'.i < l.length - a_1.i)
      (∃ (a'_1 : OutX),
      (((a'_1.i ≤ l.length ∧
      rightB l = true ∧
      a'_1.out.length ≤ (2 : Nat) * a'_1.i ∧
      epochL l < (4611686018427387904 : Int)) ∧
      (a'_1.out ++
      rsF (findL key l (0 : Nat) (0 : Nat))
      { gr := g, fr := key, ep := epochL l + (1 : Int) : Pl } a'_1.i
      (List.drop a'_1.i l) =
      rsF (findL key l (0 : Nat) (0 : Nat))
      { gr := g, fr := key, ep := epochL l + (1 : Int) : Pl }
      (0 : Nat) l ∧
      splitL l key g =
      (insS l key g (findL key l (0 : Nat) (0 : Nat))
      (epochL l + (1 : Int)),
      (0 : Int))) ∧
      NewR m.sz (fun (x : Nat) => False) a'_1.m (3 : Nat) a'_1.a
      a'_1.out.length a'_1.c (pls a'_1.out) ∧
      Agree m.sz m a'_1.m) ∧
      m' = a'_1.m ∧
      ((SV.val
      (Value.int IntKind.i64
      (IntKind.i64.wrap ((↑a_1.i : Int) + (1 : Int)))) =
      SV.val (Value.int IntKind.i64 (↑a'_1.i : Int)) ∧
      true = true) ∧
      (SV.val (Value.slice a l.length c) =
      SV.val (Value.slice a l.length c) ∧
      true = true) ∧
      (SV.val (Value.string key) = SV.val (Value.string key) ∧
      true = true) ∧
      (SV.val (Value.int IntKind.i64 (epochL l)) =
      SV.val (Value.int IntKind.i64 (epochL l)) ∧
      true = true) ∧
      (SV.val (Value.slice a' (a_1.out.length + (1 : Nat)) c') =
      SV.val (Value.slice a'_1.a a'_1.out.length a'_1.c) ∧
      true = true) ∧
      (SV.val (Value.int IntKind.i64 g) =
      SV.val (Value.int IntKind.i64 g) ∧
      true = true) ∧
      True) ∧
      True) ∧
      l.length - a'_1.i < l.length - a_1.i)))
      (Done
      (ResR (splitL l key g) (Value.tuple #[Value.slice a_1.a a_1.out.length a_1.c, Value.int IntKind.i64 (0 : Int)])
      a_1.m))))))))))) (by kernel_rfl) ?_
  refine ⟨rfl, _, rf_right l a c hl m h, ifB_intro (fun h1 => ?_) (fun h1 => ?_)⟩
  · have : rightB l = false := by simpa using h1
    exact rf_err (by simp only [splitL, this, if_true])
  have hR : rightB l = true := by simpa using h1
  have h7 := right_len hR
  have hp := right_pos hR
  have hfl := findL_len key hp
  have hrf := rfind_eq key hR
  have hEl := epoch_le hR
  have hE0 : 0 ≤ epochL l := epoch_nn l 0
  refine ifB_intro (fun h2 => rf_err ?_) (fun h2 => ifB_intro (fun h3 => rf_err ?_) (fun h3 => ifB_intro (fun h4 => rf_err ?_) (fun h4 => ifB_intro (fun h5 => rf_err ?_) (fun h5 => ?_))))
  · have : ¬ 1 ≤ key.size := by simp at h2; omega
    simp only [splitL, hR, this]; rfl
  · have : ¬ key.size ≤ 16 := by simp at h3; omega
    simp only [splitL, hR, this, decide_false, Bool.false_and, Bool.and_false]; rfl
  · have : ¬ 1 ≤ g := by simp at h4; omega
    simp only [splitL, hR, grpB, this, decide_false, Bool.false_and, Bool.and_false]; rfl
  · have : ¬ g < 8 := by simp at h5; omega
    simp only [splitL, hR, grpB, this, decide_false, Bool.and_false]; rfl
  have hG : (decide (1 ≤ key.size) && (decide (key.size ≤ 16) && grpB g)) = true := by
    simp at h2 h3 h4 h5
    simp [grpB]; omega
  obtain ⟨b0, o0, rfl, hc⟩ := h.cells (by rw [pl_len]; omega)
  refine ⟨_, _, ofV_eq l g ▸ rf_of l _ c g hl m h, ifB_intro (fun h6 => rf_err ?_) (fun h6 => ⟨_, hrf ▸ rf_find l _ c key hl m h, b0, o0, rfl, by omega, _, by simpa using pl_frc hc hfl, ifB_intro (fun h8 => rf_err ?_) (fun h8 => ?_)⟩)⟩
  · simp only [splitL, hR, hG, h6, Bool.true_or, if_true]; rfl
  · have : l[findL key l 0 0].fr = key := toList_inj.1 (by simpa using h8)
    have e : (l[findL key l 0 0]?.getD pl0).fr = key := by rw [List.getElem?_eq_getElem hfl]; exact this
    simp only [splitL, hR, hG, e, decide_true, Bool.or_true, if_true]; rfl
  have hT : (decide (ofI l g < l.length) || decide ((l[findL key l 0 0]?.getD pl0).fr = key)) = false := by
    rw [List.getElem?_eq_getElem hfl, h6]
    have : ¬ l[findL key l 0 0].fr = key := fun e => by rw [e] at h8; simp at h8
    simp [this]
  refine ⟨_, rf_epoch l _ c hl m h, ifB_intro (fun h9 => rf_err ?_) (fun h9 => ?_)⟩
  · have : epochL l = 4611686018427387904 := by simpa using h9
    simp only [splitL, hR, hG, hT, this]; rfl
  have hE : epochL l < 4611686018427387904 := by
    have : ¬ epochL l = 4611686018427387904 := by simpa using h9
    omega
  have w1 : IntKind.i64.wrap (epochL l + 1) = epochL l + 1 := by rw [IntKind.wrap_i64]; omega
  have hsp : splitL l key g = (insS l key g (findL key l 0 0) (epochL l + 1), 0) := by
    simp only [splitL, hR, hG, hT, show ¬ epochL l ≥ 4611686018427387904 by omega]
    rfl
  rw [w1]
  refine ⟨⟨⟨0, [], m, none, 0⟩, ⟨⟨Nat.zero_le _, hR, by simp, hE⟩, ⟨rfl, hsp⟩, .nil _, ⟨fun _ _ => rfl, fun _ _ => Iff.rfl, Nat.le_refl _⟩⟩, rfl, by simp⟩, ?_⟩
  generalize hff : findL key l 0 0 = f at *
  generalize hee : epochL l + 1 = e at *
  rintro ⟨k, out, mx, ax, cx⟩ ⟨⟨hk, -, hol, -⟩, ⟨hout, -⟩, hY, hA⟩
  simp only at hk hol hout hY hA ⊢
  have hrow : Row mx (some ⟨b0, o0, none⟩) (pls l) := h.agree hA
  have hfind : ∀ mm : M, Row mm (some ⟨b0, o0, none⟩) (pls l) → QSpec Try.prog 21 [.slice (some ⟨b0, o0, none⟩) l.length c, .string key] mm (I f) := fun mm hm => by
    have := rf_find l _ c key hl mm hm
    rwa [hrf] at this
  refine ifB_intro (fun h10 => ?_) (fun h10 => ?_)
  · have hlt : k < l.length := by simpa using h10
    have hcx := (hrow.cells (by rw [pl_len]; omega))
    obtain ⟨b1, o1, e1, hcx⟩ := hcx
    obtain ⟨rfl, rfl⟩ : b0 = b1 ∧ o0 = o1 := by simpa using e1
    rw [List.drop_eq_getElem_cons hlt, rsF] at hout
    refine ⟨b0, o0, rfl, by omega, _, _, _, by simpa using pl_at hcx hlt, _, hfind mx hrow, ?_⟩
    rw [wrap1 hlt hl]
    by_cases hkf : k = f
    · have hb1 : ((k : Int) == (f : Int)) = true := by simp [hkf]
      rw [hb1]
      refine ifB_true ⟨by trivial, fun b hb => ?_⟩
      obtain ⟨p1, p2⟩ := NewR.push (P := Try.prog) (e := 39) (bytes := 32) (src := encPl { l[k] with ep := e }) hY hb hA.2.2 rfl rfl (by omega) pl_zr
      refine ⟨_, _, p1, fun a' c' m' hp => ?_⟩
      obtain ⟨q1, q2⟩ := p2 a' c' m' hp
      have hA' := hA.trans q2
      refine ⟨_, hfind m' (h.agree hA'), ?_⟩
      rw [hb1]
      refine ifB_true ⟨by trivial, fun b2 hb2 => ?_⟩
      have q1' : NewR m.sz (fun _ => False) m' 3 a' (out ++ [{ l[k] with ep := e }]).length c' (pls (out ++ [{ l[k] with ep := e }])) := by
        simpa [List.flatMap_append] using q1
      obtain ⟨p3, p4⟩ := NewR.push (P := Try.prog) (e := 39) (bytes := 32) (src := encPl ⟨g, key, e⟩) q1' hb2 hA'.2.2 rfl rfl (by simp; omega) pl_zr
      simp only [List.length_append, List.length_cons, List.length_nil] at p3 p4
      refine ⟨_, _, p3, fun a2 c2 m2 hp2 => ?_⟩
      obtain ⟨q3, q4⟩ := p4 a2 c2 m2 hp2
      refine ⟨⟨k + 1, out ++ [{ l[k] with ep := e }, ⟨g, key, e⟩], m2, a2, c2⟩, ⟨⟨⟨hlt, hR, by simp; omega, hE⟩, ⟨?_, hsp⟩, ?_, hA'.trans q4⟩, rfl, by simp⟩, by simp only; omega⟩
      · rw [if_pos hkf] at hout
        rw [← hout, List.append_assoc]
      · simpa [List.flatMap_append, Nat.add_assoc] using q3
    · have hb1 : ((k : Int) == (f : Int)) = false := by simp; omega
      rw [hb1]
      refine ifB_false ⟨by trivial, fun b hb => ?_⟩
      obtain ⟨p1, p2⟩ := NewR.push (P := Try.prog) (e := 39) (bytes := 32) (src := encPl l[k]) hY hb hA.2.2 rfl rfl (by omega) pl_zr
      refine ⟨_, _, p1, fun a' c' m' hp => ?_⟩
      obtain ⟨q1, q2⟩ := p2 a' c' m' hp
      have hA' := hA.trans q2
      refine ⟨_, hfind m' (h.agree hA'), ?_⟩
      rw [hb1]
      refine ifB_false ⟨⟨k + 1, out ++ [l[k]], m', a', c'⟩, ⟨⟨⟨hlt, hR, by simp; omega, hE⟩, ⟨?_, hsp⟩, ?_, hA'⟩, rfl, by simp⟩, by simp only; omega⟩
      · rw [if_neg hkf] at hout
        rw [← hout, List.append_assoc]
      · simpa [List.flatMap_append] using q1
  · have : k = l.length := by simp at h10; omega
    subst this
    rw [List.drop_length, rsF, List.append_nil, rsF_ins l key g f e hfl] at hout
    rw [hsp, ← hout]
    exact ⟨⟨_, _, rfl, hY.row⟩⟩

end Go.Proofs.Ytpnpebefcmgjoaa
set_option linter.unusedVariables false
set_option linter.unusedSimpArgs false
namespace Go.Proofs.Ytpnpebefcmgjoaa
open Go.Vc Go.RowKit
set_option maxRecDepth 100000

theorem rmF_eq (f : Nat) (e : Int) : ∀ (xs : List Pl) (i : Nat), (i ≤ f → rmF f e i xs = if h : f - i < xs.length then xs.take (f - i) ++ { xs[f - i]'h with ep := e } :: xs.drop (f - i + 2) else xs) ∧ (i = f + 1 → rmF f e i xs = xs.drop 1) ∧ (f + 1 < i → rmF f e i xs = xs)
  | [], i => by simp [rmF]
  | x :: xs, i => by
    obtain ⟨i1, i2, i3⟩ := rmF_eq f e xs (i + 1)
    refine ⟨fun h => ?_, fun h => ?_, fun h => ?_⟩
    · simp only [rmF]
      by_cases e1 : i = f
      · subst e1
        rw [if_pos rfl, i2 rfl, dif_pos (by simp)]
        simp
      · rw [if_neg e1, if_neg (by omega), i1 (by omega)]
        obtain ⟨d, hd⟩ : ∃ d, f - i = d + 1 := ⟨f - i - 1, by omega⟩
        have hd' : f - (i + 1) = d := by omega
        by_cases h2 : d < xs.length
        · have hc : f - i < (x :: xs).length := by simp only [List.length_cons]; omega
          have hc' : f - (i + 1) < xs.length := by omega
          rw [dif_pos hc', dif_pos hc]
          simp only [hd, hd', List.take_succ_cons, List.drop_succ_cons, List.getElem_cons_succ, List.cons_append, List.nil_append]
        · have hc : ¬ f - i < (x :: xs).length := by simp only [List.length_cons]; omega
          have hc' : ¬ f - (i + 1) < xs.length := by omega
          rw [dif_neg hc', dif_neg hc]
          rfl
    · simp only [rmF]
      rw [if_neg (by omega), if_pos h, i3 (by omega)]
      simp
    · simp only [rmF]
      rw [if_neg (by omega), if_neg (by omega), i3 (by omega)]
      rfl

theorem rmF_del (l : List Pl) (f : Nat) (e : Int) (hf : f < l.length) : rmF f e 0 l = delS l f e := by
  rw [(rmF_eq f e l 0).1 (Nat.zero_le _), dif_pos (by simpa using hf)]
  simp only [Nat.sub_zero, delS]
  rw [List.getElem?_eq_getElem hf, List.take_succ_eq_append_getElem hf]
  apply List.ext_getElem
  · simp; omega
  · intro i h1 h2
    by_cases e1 : i < f
    · rw [List.getElem_append_left (by simp; omega), List.getElem_set_ne (by omega), List.getElem_append_left (by simp; omega), List.getElem_append_left (by simp; omega)]
    · by_cases e2 : i = f
      · subst e2
        rw [List.getElem_set_self, List.getElem_append_right (by simp; omega)]
        simp [Nat.min_eq_left (Nat.le_of_lt hf)]
      · rw [List.getElem_append_right (by simp; omega), List.getElem_set_ne (by omega), List.getElem_append_right (by simp; omega)]
        simp only [List.length_take, List.length_append, List.length_cons, List.length_nil, Nat.min_eq_left (Nat.le_of_lt hf)]
        obtain ⟨d, hd⟩ : ∃ d, i = f + 1 + d := ⟨i - f - 1, by omega⟩
        subst hd
        simp [show f + 1 + d - f = d + 1 by omega, show f + 1 + d - (f + (0 + 1)) = d by omega]

theorem mg_err {l : List Pl} {i : Int} {m : M} {e : Int} (h : mergeL l i = ([], e)) : Done (ResR (mergeL l i) (Value.tuple #[Value.slice none 0 0, I e]) m) := by
  rw [h]; exact ⟨res_no _ _⟩

theorem rf_merge (l : List Pl) (a : Option Addr) (c : Nat) (i : Int) (hi : In64 i) (hl : l.length ≤ 9223372036854775807) (m : M) (h : Row m a (pls l)) :
    Vc.Spec Try.prog 29 [.slice a l.length c, I i] m (fun v m' => ResR (mergeL l i) v m') := by
  refine Vc.Spec.of_vc Try.func29 (ann := fun _ => { A := OutX, inv := fun x => (x.i ≤ l.length ∧ rightB l = true ∧ x.out.length ≤ x.i ∧ epochL l < 4611686018427387904) ∧ (x.out ++ rmF i.toNat (epochL l + 1) x.i (l.drop x.i) = rmF i.toNat (epochL l + 1) 0 l ∧ mergeL l i = (delS l i.toNat (epochL l + 1), 0) ∧ 0 ≤ i ∧ i.toNat < l.length - 1) ∧ (NewR m.sz (fun _ => False) x.m 3 x.a x.out.length x.c (pls x.out) ∧ Agree m.sz m x.m), st := fun x => [(8, .val (I x.i)), (0, .val (.slice a l.length c)), (1, .val (I i)), (6, .val (I (epochL l))), (7, .val (.slice x.a x.out.length x.c))], own := fun _ => [], m := fun x => x.m, μ := fun x => l.length - x.i }) ?_
  refine vc_by (X :=
      true = true ∧
      ∃ (b : Bool),
      QSpec Try.prog (17 : Nat) [Value.slice a l.length c] m (Value.bool b) ∧
      ifB (!b) (Done (ResR (mergeL l i) (Value.tuple #[Value.slice none (0 : Nat) (0 : Nat), Value.int IntKind.i64 (21 : Int)]) m))
      (∃ (n : Int),
      QSpec Try.prog (24 : Nat) [Value.slice a l.length c] m (Value.int IntKind.i64 n) ∧
      ifB (decide (i < (0 : Int))) (Done (ResR (mergeL l i) (Value.tuple #[Value.slice none (0 : Nat) (0 : Nat), Value.int IntKind.i64 (170 : Int)]) m))
      (ifB (decide (i ≥ IntKind.i64.wrap ((↑l.length : Int) - (1 : Int))))
      (Done (ResR (mergeL l i) (Value.tuple #[Value.slice none (0 : Nat) (0 : Nat), Value.int IntKind.i64 (170 : Int)]) m))
      (ifB (n == (4611686018427387904 : Int)) (Done (ResR (mergeL l i) (Value.tuple #[Value.slice none (0 : Nat) (0 : Nat), Value.int IntKind.i64 (170 : Int)]) m))
      ((∃ (a_1 : OutX),
      ((a_1.i ≤ l.length ∧ rightB l = true ∧ a_1.out.length ≤ a_1.i ∧ epochL l < (4611686018427387904 : Int)) ∧
      (a_1.out ++ rmF i.toNat (epochL l + (1 : Int)) a_1.i (List.drop a_1.i l) = rmF i.toNat (epochL l + (1 : Int)) (0 : Nat) l ∧
      mergeL l i = (delS l i.toNat (epochL l + (1 : Int)), (0 : Int)) ∧ (0 : Int) ≤ i ∧ i.toNat < l.length - (1 : Nat)) ∧
      NewR m.sz (fun (x : Nat) => False) a_1.m (3 : Nat) a_1.a a_1.out.length a_1.c (pls a_1.out) ∧ Agree m.sz m a_1.m) ∧
      m = a_1.m ∧
      ((SV.val (Value.int IntKind.i64 (0 : Int)) = SV.val (Value.int IntKind.i64 (↑a_1.i : Int)) ∧ true = true) ∧
      (SV.val (Value.slice a l.length c) = SV.val (Value.slice a l.length c) ∧ true = true) ∧
      (SV.val (Value.int IntKind.i64 i) = SV.val (Value.int IntKind.i64 i) ∧ true = true) ∧
      (SV.val (Value.int IntKind.i64 n) = SV.val (Value.int IntKind.i64 (epochL l)) ∧ true = true) ∧
      (SV.val (Value.slice none (0 : Nat) (0 : Nat)) = SV.val (Value.slice a_1.a a_1.out.length a_1.c) ∧ true = true) ∧ True) ∧
      True) ∧
      ∀ (a_1 : OutX),
      (a_1.i ≤ l.length ∧ rightB l = true ∧ a_1.out.length ≤ a_1.i ∧ epochL l < (4611686018427387904 : Int)) ∧
      (a_1.out ++ rmF i.toNat (epochL l + (1 : Int)) a_1.i (List.drop a_1.i l) = rmF i.toNat (epochL l + (1 : Int)) (0 : Nat) l ∧
      mergeL l i = (delS l i.toNat (epochL l + (1 : Int)), (0 : Int)) ∧ (0 : Int) ≤ i ∧ i.toNat < l.length - (1 : Nat)) ∧
      NewR m.sz (fun (x : Nat) => False) a_1.m (3 : Nat) a_1.a a_1.out.length a_1.c (pls a_1.out) ∧ Agree m.sz m a_1.m →
      ifB (decide ((↑a_1.i : Int) < (↑l.length : Int)))
      (∃ (b : Nat),
      ∃ (off : Nat),
      a = some { block := b, off := off : Addr } ∧
      ((0 : Int) ≤ (↑a_1.i : Int) ∧ (↑a_1.i : Int) < (↑l.length : Int)) ∧
      ∃ (n : Int),
      ∃ (s : ByteArray),
      ∃ (n_1 : Int),
      CellsAt a_1.m b (off + (↑a_1.i : Int).toNat * (3 : Nat)) [Value.int IntKind.i64 n, Value.string s, Value.int IntKind.i64 n_1] ∧
      ifB ((↑a_1.i : Int) == i)
      (ifB ((↑a_1.i : Int) != IntKind.i64.wrap (i + (1 : Int)))
      (true = true ∧
      ∀ (b : Nat),
      a_1.m.sz ≤ b →
      ∃ (old : List Value),
      ∃ (src : List Value),
      AppPre m.sz (fun (x : Nat) => False)
      (a_1.m.newBlock b
      [Value.int IntKind.i64 n, Value.string s, Value.int IntKind.i64 (IntKind.i64.wrap (epochL l + (1 : Int)))])
      (3 : Nat) (32 : Nat) a_1.a a_1.out.length a_1.c (some { block := b, off := (0 : Nat) : Addr }) (1 : Nat) old src ∧
      ∀ (a' : Option Addr) (c' : Nat) (m' : M),
      AppPost Try.prog (39 : Nat)
      (a_1.m.newBlock b
      [Value.int IntKind.i64 n, Value.string s, Value.int IntKind.i64 (IntKind.i64.wrap (epochL l + (1 : Int)))])
      (3 : Nat) a_1.a a_1.out.length a_1.c (1 : Nat) old src a' c' m' →
      ∃ (a'_1 : OutX),
      (((a'_1.i ≤ l.length ∧ rightB l = true ∧ a'_1.out.length ≤ a'_1.i ∧ epochL l < (4611686018427387904 : Int)) ∧
      (a'_1.out ++ rmF i.toNat (epochL l + (1 : Int)) a'_1.i (List.drop a'_1.i l) =
      rmF i.toNat (epochL l + (1 : Int)) (0 : Nat) l ∧
      mergeL l i = (delS l i.toNat (epochL l + (1 : Int)), (0 : Int)) ∧
      (0 : Int) ≤ i ∧ i.toNat < l.length - (1 : Nat)) ∧
      NewR m.sz (fun (x : Nat) => False) a'_1.m (3 : Nat) a'_1.a a'_1.out.length a'_1.c (pls a'_1.out) ∧
      Agree m.sz m a'_1.m) ∧
      m' = a'_1.m ∧
      ((SV.val (Value.int IntKind.i64 (IntKind.i64.wrap ((↑a_1.i : Int) + (1 : Int)))) =
      SV.val (Value.int IntKind.i64 (↑a'_1.i : Int)) ∧
      true = true) ∧
      (SV.val (Value.slice a l.length c) = SV.val (Value.slice a l.length c) ∧ true = true) ∧
      (SV.val (Value.int IntKind.i64 i) = SV.val (Value.int IntKind.i64 i) ∧ true = true) ∧
      (SV.val (Value.int IntKind.i64 (epochL l)) = SV.val (Value.int IntKind.i64 (epochL l)) ∧
      true = true) ∧
      (SV.val (Value.slice a' (a_1.out.length + (1 : Nat)) c') =
      SV.val (Value.slice a'_1.a a'_1.out.length a'_1.c) ∧
      true = true) ∧
      True) ∧
      True) ∧
      l.length - a'_1.i < l.length - a_1.i)
      (∃ (a' : OutX),
      (((a'.i ≤ l.length ∧ rightB l = true ∧ a'.out.length ≤ a'.i ∧ epochL l < (4611686018427387904 : Int)) ∧
      (a'.out ++ rmF i.toNat (epochL l + (1 : Int)) a'.i (List.drop a'.i l) = rmF i.toNat (epochL l + (1 : Int)) (0 : Nat) l ∧
      mergeL l i = (delS l i.toNat (epochL l + (1 : Int)), (0 : Int)) ∧ (0 : Int) ≤ i ∧ i.toNat < l.length - (1 : Nat)) ∧
      NewR m.sz (fun (x : Nat) => False) a'.m (3 : Nat) a'.a a'.out.length a'.c (pls a'.out) ∧ Agree m.sz m a'.m) ∧
      a_1.m = a'.m ∧
      ((SV.val (Value.int IntKind.i64 (IntKind.i64.wrap ((↑a_1.i : Int) + (1 : Int)))) =
      SV.val (Value.int IntKind.i64 (↑a'.i : Int)) ∧
      true = true) ∧
      (SV.val (Value.slice a l.length c) = SV.val (Value.slice a l.length c) ∧ true = true) ∧
      (SV.val (Value.int IntKind.i64 i) = SV.val (Value.int IntKind.i64 i) ∧ true = true) ∧
      (SV.val (Value.int IntKind.i64 (epochL l)) = SV.val (Value.int IntKind.i64 (epochL l)) ∧ true = true) ∧
      (SV.val (Value.slice a_1.a a_1.out.length a_1.c) = SV.val (Value.slice a'.a a'.out.length a'.c) ∧ true = true) ∧
      True) ∧
      True) ∧
      l.length - a'.i < l.length - a_1.i))
      (ifB ((↑a_1.i : Int) != IntKind.i64.wrap (i + (1 : Int)))
      (true = true ∧
      ∀ (b : Nat),
      a_1.m.sz ≤ b →
      ∃ (old : List Value),
      ∃ (src : List Value),
      AppPre m.sz (fun (x : Nat) => False) (a_1.m.newBlock b [Value.int IntKind.i64 n, Value.string s, Value.int IntKind.i64 n_1])
      (3 : Nat) (32 : Nat) a_1.a a_1.out.length a_1.c (some { block := b, off := (0 : Nat) : Addr }) (1 : Nat) old src ∧
      ∀ (a' : Option Addr) (c' : Nat) (m' : M),
      AppPost Try.prog (39 : Nat) (a_1.m.newBlock b [Value.int IntKind.i64 n, Value.string s, Value.int IntKind.i64 n_1])
      (3 : Nat) a_1.a a_1.out.length a_1.c (1 : Nat) old src a' c' m' →
      ∃ (a'_1 : OutX),
      (((a'_1.i ≤ l.length ∧ rightB l = true ∧ a'_1.out.length ≤ a'_1.i ∧ epochL l < (4611686018427387904 : Int)) ∧
      (a'_1.out ++ rmF i.toNat (epochL l + (1 : Int)) a'_1.i (List.drop a'_1.i l) =
      rmF i.toNat (epochL l + (1 : Int)) (0 : Nat) l ∧
      mergeL l i = (delS l i.toNat (epochL l + (1 : Int)), (0 : Int)) ∧
      (0 : Int) ≤ i ∧ i.toNat < l.length - (1 : Nat)) ∧
      NewR m.sz (fun (x : Nat) => False) a'_1.m (3 : Nat) a'_1.a a'_1.out.length a'_1.c (pls a'_1.out) ∧
      Agree m.sz m a'_1.m) ∧
      m' = a'_1.m ∧
      ((SV.val (Value.int IntKind.i64 (IntKind.i64.wrap ((↑a_1.i : Int) + (1 : Int)))) =
      SV.val (Value.int IntKind.i64 (↑a'_1.i : Int)) ∧
      true = true) ∧
      (SV.val (Value.slice a l.length c) = SV.val (Value.slice a l.length c) ∧ true = true) ∧
      (SV.val (Value.int IntKind.i64 i) = SV.val (Value.int IntKind.i64 i) ∧ true = true) ∧
      (SV.val (Value.int IntKind.i64 (epochL l)) = SV.val (Value.int IntKind.i64 (epochL l)) ∧
      true = true) ∧
      (SV.val (Value.slice a' (a_1.out.length + (1 : Nat)) c') =
      SV.val (Value.slice a'_1.a a'_1.out.length a'_1.c) ∧
      true = true) ∧
      True) ∧
      True) ∧
      l.length - a'_1.i < l.length - a_1.i)
      (∃ (a' : OutX),
      (((a'.i ≤ l.length ∧ rightB l = true ∧ a'.out.length ≤ a'.i ∧ epochL l < (4611686018427387904 : Int)) ∧
      (a'.out ++ rmF i.toNat (epochL l + (1 : Int)) a'.i (List.drop a'.i l) = rmF i.toNat (epochL l + (1 : Int)) (0 : Nat) l ∧
      mergeL l i = (delS l i.toNat (epochL l + (1 : Int)), (0 : Int)) ∧ (0 : Int) ≤ i ∧ i.toNat < l.length - (1 : Nat)) ∧
      NewR m.sz (fun (x : Nat) => False) a'.m (3 : Nat) a'.a a'.out.length a'.c (pls a'.out) ∧ Agree m.sz m a'.m) ∧
      a_1.m = a'.m ∧
      ((SV.val (Value.int IntKind.i64 (IntKind.i64.wrap ((↑a_1.i : Int) + (1 : Int)))) =
      SV.val (Value.int IntKind.i64 (↑a'.i : Int)) ∧
      true = true) ∧
      (SV.val (Value.slice a l.length c) = SV.val (Value.slice a l.length c) ∧ true = true) ∧
      (SV.val (Value.int IntKind.i64 i) = SV.val (Value.int IntKind.i64 i) ∧ true = true) ∧
      (SV.val (Value.int IntKind.i64 (epochL l)) = SV.val (Value.int IntKind.i64 (epochL l)) ∧ true = true) ∧
      (SV.val (Value.slice a_1.a a_1.out.length a_1.c) = SV.val (Value.slice a'.a a'.out.length a'.c) ∧ true = true) ∧
      True) ∧
      True) ∧
      l.length - a'.i < l.length - a_1.i)))
      (Done (ResR (mergeL l i) (Value.tuple #[Value.slice a_1.a a_1.out.length a_1.c, Value.int IntKind.i64 (0 : Int)]) a_1.m))))))) (by kernel_rfl) ?_
  refine ⟨rfl, _, rf_right l a c hl m h, ifB_intro (fun h1 => ?_) (fun h1 => ?_)⟩
  · have : rightB l = false := by simpa using h1
    exact mg_err (by simp only [mergeL, this, if_true])
  have hR : rightB l = true := by simpa using h1
  have h7 := right_len hR
  have hp := right_pos hR
  have hEl := epoch_le hR
  have hE0 : 0 ≤ epochL l := epoch_nn l 0
  have w0 : IntKind.i64.wrap ((l.length : Int) - 1) = (l.length : Int) - 1 := by rw [IntKind.wrap_i64]; omega
  rw [w0]
  refine ⟨_, rf_epoch l _ c hl m h, ifB_intro (fun h2 => mg_err ?_) (fun h2 => ifB_intro (fun h3 => mg_err ?_) (fun h3 => ifB_intro (fun h4 => mg_err ?_) (fun h4 => ?_)))⟩
  · simp only [mergeL, hR, h2, Bool.true_or, if_true]; rfl
  · simp only [mergeL, hR, h3, Bool.true_or, Bool.or_true, if_true]; rfl
  · have : epochL l = 4611686018427387904 := by simpa using h4
    simp only [mergeL, hR, this]; simp
  have h2' : 0 ≤ i := by simpa using h2
  have h3' : i < (l.length : Int) - 1 := by simpa using h3
  have hE : epochL l < 4611686018427387904 := by
    have : ¬ epochL l = 4611686018427387904 := by simpa using h4
    omega
  have w1 : IntKind.i64.wrap (epochL l + 1) = epochL l + 1 := by rw [IntKind.wrap_i64]; omega
  have w2 : IntKind.i64.wrap (i + 1) = i + 1 := by rw [IntKind.wrap_i64]; omega
  have hsp : mergeL l i = (delS l i.toNat (epochL l + 1), 0) := by
    simp only [mergeL, hR, h2, h3, show ¬ epochL l ≥ 4611686018427387904 by omega]
    rfl
  rw [w1, w2]
  refine ⟨⟨⟨0, [], m, none, 0⟩, ⟨⟨Nat.zero_le _, hR, by simp, hE⟩, ⟨rfl, hsp, h2', by omega⟩, .nil _, ⟨fun _ _ => rfl, fun _ _ => Iff.rfl, Nat.le_refl _⟩⟩, rfl, by simp⟩, ?_⟩
  generalize hee : epochL l + 1 = e at *
  rintro ⟨k, out, mx, ax, cx⟩ ⟨⟨hk, -, hol, -⟩, ⟨hout, -⟩, hY, hA⟩
  simp only at hk hol hout hY hA ⊢
  have hrow : Row mx a (pls l) := h.agree hA
  refine ifB_intro (fun h10 => ?_) (fun h10 => ?_)
  · have hlt : k < l.length := by simpa using h10
    obtain ⟨b0, o0, rfl, hcx⟩ := hrow.cells (by rw [pl_len]; omega)
    rw [List.drop_eq_getElem_cons hlt, rmF] at hout
    refine ⟨b0, o0, rfl, by omega, _, _, _, by simpa using pl_at hcx hlt, ?_⟩
    rw [wrap1 hlt hl]
    by_cases hkf : k = i.toNat
    · have hb1 : ((k : Int) == i) = true := by simp; omega
      have hb2 : ((k : Int) != i + 1) = true := by simp; omega
      rw [hb1, hb2]
      refine ifB_true (ifB_true ⟨by trivial, fun b hb => ?_⟩)
      obtain ⟨p1, p2⟩ := NewR.push (P := Try.prog) (e := 39) (bytes := 32) (src := encPl { l[k] with ep := e }) hY hb hA.2.2 rfl rfl (by omega) pl_zr
      refine ⟨_, _, p1, fun a' c' m' hp => ?_⟩
      obtain ⟨q1, q2⟩ := p2 a' c' m' hp
      refine ⟨⟨k + 1, out ++ [{ l[k] with ep := e }], m', a', c'⟩, ⟨⟨⟨hlt, hR, by simp; omega, hE⟩, ⟨?_, hsp, h2', by omega⟩, ?_, hA.trans q2⟩, rfl, by simp⟩, by simp only; omega⟩
      · rw [if_pos hkf] at hout
        rw [← hout, List.append_assoc]
      · simpa [List.flatMap_append] using q1
    · have hb1 : ((k : Int) == i) = false := by simp; omega
      rw [hb1]
      refine ifB_false ?_
      by_cases hk1 : k = i.toNat + 1
      · have hb2 : ((k : Int) != i + 1) = false := by simp; omega
        rw [hb2]
        refine ifB_false ⟨⟨k + 1, out, mx, ax, cx⟩, ⟨⟨⟨hlt, hR, by simp only; omega, hE⟩, ⟨?_, hsp, h2', by omega⟩, hY, hA⟩, rfl, by simp⟩, by simp only; omega⟩
        rw [if_neg hkf, if_pos hk1] at hout
        rw [← hout]; rfl
      · have hb2 : ((k : Int) != i + 1) = true := by simp; omega
        rw [hb2]
        refine ifB_true ⟨by trivial, fun b hb => ?_⟩
        obtain ⟨p1, p2⟩ := NewR.push (P := Try.prog) (e := 39) (bytes := 32) (src := encPl l[k]) hY hb hA.2.2 rfl rfl (by omega) pl_zr
        refine ⟨_, _, p1, fun a' c' m' hp => ?_⟩
        obtain ⟨q1, q2⟩ := p2 a' c' m' hp
        refine ⟨⟨k + 1, out ++ [l[k]], m', a', c'⟩, ⟨⟨⟨hlt, hR, by simp; omega, hE⟩, ⟨?_, hsp, h2', by omega⟩, ?_, hA.trans q2⟩, rfl, by simp⟩, by simp only; omega⟩
        · rw [if_neg hkf, if_neg hk1] at hout
          rw [← hout, List.append_assoc]
        · simpa [List.flatMap_append] using q1
  · have : k = l.length := by simp at h10; omega
    subst this
    rw [List.drop_length, rmF, List.append_nil, rmF_del l i.toNat e (by omega)] at hout
    rw [hsp, ← hout]
    exact ⟨⟨_, _, rfl, hY.row⟩⟩

end Go.Proofs.Ytpnpebefcmgjoaa
