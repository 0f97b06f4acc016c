/-
  Contracts of functions of this seat: what each hands back, and what it leaves of memory (acc8). Nothing here is trusted: Lean checks it.
-/
import Derived.Test.YtfkielfnceeedaaAcc6
import Derived.Test.YtfkielfnceeedaaOpn
set_option linter.unusedVariables false
set_option linter.unusedSimpArgs false
namespace Go.Proofs.Ytfkielfnceeedaa
open Go.Vc Go.RowKit Go.ChangeShapes Go.WideShapes Go.ChangeAt
set_option maxRecDepth 100000

theorem cells_acc : Try.prog.cellsOf 46 = 10 := by kernel_rfl

theorem cells_hd : Try.prog.cellsOf 67 = 4 := by kernel_rfl

theorem cells_lk : Try.prog.cellsOf 44 = 4 := by kernel_rfl

theorem cells_sp : Try.prog.cellsOf 41 = 2 := by kernel_rfl

theorem cells_int : Try.prog.cellsOf 3 = 1 := by kernel_rfl

theorem cells_str : Try.prog.cellsOf 9 = 1 := by kernel_rfl

theorem cells_hds : Try.prog.cellsOf 42 = 1 := by kernel_rfl

/-- cells that are read as an account -/
theorem rd_acc {m : M} {N d : Nat} {cs : List Value} (h : Rd Try.prog m N (d + 4) 46 cs) (hN : N ≤ 9223372036854775807) :
    ∃ (x : Ac) (a : Option Addr) (c : Nat), cs = acc x a c ∧ x.wf ∧ x.hs.length ≤ N ∧ x.hs.length ≤ c ∧ c ≤ N ∧ (a = none → x.hs = []) ∧ Row m a (hds x.hs) := by
  simp only [Rd, Try.underlying46, Try.underlying41, Try.underlying44, Try.underlying3, Try.underlying9, Try.underlying42, Try.underlying67, fieldsD, cells_acc, cells_hd, cells_lk, cells_sp, cells_int, cells_str, cells_hds] at h
  obtain ⟨hl, ⟨k, hk, hks⟩, ⟨-, ⟨lo, hlo, wlo⟩, ⟨hi, hhi, whi⟩, -⟩, ⟨base, hbase, wbase⟩, ⟨round, hround, wround⟩, ⟨a, c, rows, hsl, h1, h2, h3, h4, h5⟩, ⟨-, ⟨l1, hl1, w1⟩, ⟨l2, hl2, w2⟩, ⟨l3, hl3, w3⟩, ⟨l4, hl4, w4⟩, -⟩, -⟩ := h
  obtain ⟨z, hz, he, hw⟩ := rows_list (α := Hd) (e := encH) (p := Hd.wf) rows fun r hr => by
    obtain ⟨g0, ⟨-, ⟨n1, hn1, v1⟩, ⟨n2, hn2, v2⟩, ⟨n3, hn3, v3⟩, ⟨n4, hn4, v4⟩, -⟩⟩ := h4 r hr
    obtain ⟨c1, c2, c3, c4, rfl⟩ : ∃ c1 c2 c3 c4, r = [c1, c2, c3, c4] := by
      match r, g0 with
      | [c1, c2, c3, c4], _ => exact ⟨c1, c2, c3, c4, rfl⟩
    simp at hn1 hn2 hn3 hn4
    subst hn1 hn2 hn3 hn4
    exact ⟨⟨n1, n2, n3, n4⟩, rfl, in64_of v1, in64_of v2, in64_of v3, in64_of v4⟩
  obtain ⟨c1, c2, c3, c4, c5, c6, c7, c8, c9, c10, rfl⟩ : ∃ c1 c2 c3 c4 c5 c6 c7 c8 c9 c10, cs = [c1, c2, c3, c4, c5, c6, c7, c8, c9, c10] := by
    match cs, hl with
    | [c1, c2, c3, c4, c5, c6, c7, c8, c9, c10], _ => exact ⟨_, _, _, _, _, _, _, _, _, _, rfl⟩
  simp at hk hlo hhi hbase hround hsl hl1 hl2 hl3 hl4
  subst hk hlo hhi hbase hround hsl hl1 hl2 hl3 hl4
  refine ⟨⟨k, lo, hi, base, round, z, ⟨l1, l2, l3, l4⟩⟩, a, c, by simp [acc, hz], ⟨Nat.le_trans hks hN, in64_of wlo, in64_of whi, in64_of wbase, in64_of wround, hw, by simp only [hz]; omega, in64_of w1, in64_of w2, in64_of w3, in64_of w4⟩, by simp only [hz]; omega, by simp only [hz]; omega, h2, fun e => ?_, ?_⟩
  · have : z.length = 0 := by have := h3 e; omega
    simpa using this
  · rw [he] at h5; exact h5

variable {H : Type} {enc : TypeId × Value → H} {W : World} {r : Reach} {b0 : Nat} {v : Value} {d : DataW H} {p : List MemPlace} {N : Nat} {Bd : DataW H → Prop}

theorem open_acc (B : Bound N Bd) (hN : N ≤ 9223372036854775807) (hv : Value.okWide Try.prog W r b0 46 v) (h : DataW.Trod enc Try.prog W 0 (fun _ => true) true 46 v d p) (hb : Bd d) :
    ∃ (x : Ac) (a : Option Addr) (c : Nat), v = acv x a c ∧ x.wf ∧ x.hs.length ≤ N ∧ (a = none → x.hs = []) ∧ Row (M.all W) a (hds x.hs) := by
  obtain ⟨cs, rfl, hl⟩ := open_agg Try.underlying46 cells_acc hv
  obtain ⟨fuel, hf⟩ := h
  have hr := rd_of_trod B 4 fuel 46 _ _ hf hb
  simp only [Value.cells] at hr
  obtain ⟨x, a, c, he, hw, h1, h2, h3, h4, h5⟩ := rd_acc (d := 0) hr hN
  exact ⟨x, a, c, by rw [show cs = acc x a c from he], hw, h1, h4, h5⟩

theorem open_lk (hv : Value.okWide Try.prog W r b0 44 v) (h : DataW.Trod enc Try.prog W 0 (fun _ => true) true 44 v d p) :
    ∃ k : Lk, v = .agg #[I k.cl, I k.sq, I k.hm, I k.n] ∧ k.wf := by
  obtain ⟨cs, rfl, hl⟩ := open_agg Try.underlying44 cells_lk hv
  obtain ⟨fuel, hf⟩ := h
  have hr := rd_of_trod (bound_any H) 2 fuel 44 _ _ hf trivial
  simp only [Rd, Try.underlying44, Try.underlying3, fieldsD, cells_lk, cells_int] at hr
  obtain ⟨-, ⟨l1, hl1, w1⟩, ⟨l2, hl2, w2⟩, ⟨l3, hl3, w3⟩, ⟨l4, hl4, w4⟩, -⟩ := hr
  obtain ⟨c1, c2, c3, c4, rfl⟩ : ∃ c1 c2 c3 c4, cs = [c1, c2, c3, c4] := by
    match cs, hl with
    | [c1, c2, c3, c4], _ => exact ⟨_, _, _, _, rfl⟩
  simp [Value.cells] at hl1 hl2 hl3 hl4
  subst hl1 hl2 hl3 hl4
  exact ⟨⟨l1, l2, l3, l4⟩, rfl, in64_of w1, in64_of w2, in64_of w3, in64_of w4⟩

theorem open_sp (hv : Value.okWide Try.prog W r b0 41 v) (h : DataW.Trod enc Try.prog W 0 (fun _ => true) true 41 v d p) :
    ∃ lo hi : Int, v = sp lo hi ∧ In64 lo ∧ In64 hi := by
  obtain ⟨cs, rfl, hl⟩ := open_agg Try.underlying41 cells_sp hv
  obtain ⟨fuel, hf⟩ := h
  have hr := rd_of_trod (bound_any H) 2 fuel 41 _ _ hf trivial
  simp only [Rd, Try.underlying41, Try.underlying3, fieldsD, cells_sp, cells_int] at hr
  obtain ⟨-, ⟨l1, hl1, w1⟩, ⟨l2, hl2, w2⟩, -⟩ := hr
  obtain ⟨c1, c2, rfl⟩ : ∃ c1 c2, cs = [c1, c2] := by
    match cs, hl with
    | [c1, c2], _ => exact ⟨_, _, rfl⟩
  simp [Value.cells] at hl1 hl2
  subst hl1 hl2
  exact ⟨l1, l2, rfl, in64_of w1, in64_of w2⟩

end Go.Proofs.Ytfkielfnceeedaa
