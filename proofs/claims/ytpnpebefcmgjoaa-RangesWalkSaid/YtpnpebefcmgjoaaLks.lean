/-
  Contracts of functions of this seat: what each hands back, and what it leaves of memory (l_ks). Nothing here is trusted: Lean checks it.
-/
import Derived.Test.YtpnpebefcmgjoaaOpn
import Derived.Test.YtpnpebefcmgjoaaVcOver
set_option linter.unusedVariables false
set_option linter.unusedSimpArgs false
namespace Go.Proofs.Ytpnpebefcmgjoaa
open Go.Vc Go.RowKit Go.ChangeShapes Go.WideShapes Go.ChangeAt
set_option maxRecDepth 100000

abbrev encKs (s : ByteArray) : List Value := [.string s]

abbrev kss (l : List ByteArray) : List Value := l.flatMap encKs

theorem ks_k (x : ByteArray) : (encKs x).length = 1 := rfl

theorem ks_len (l : List ByteArray) : (kss l).length = l.length := by rw [flat_len ks_k]; omega

theorem ks_at {m : M} {b o i : Nat} {l : List ByteArray} (h : CellsAt m b o (kss l)) (hi : i < l.length) : CellsAt m b (o + i * 1) (encKs l[i]) := CellsAt.elem ks_k l o i hi h

theorem ks_rd {m : M} {N d : Nat} {cs : List Value} (h : Rd Try.prog m N (d + 1) 9 cs) (hN : N ≤ 9223372036854775807) : ∃ x : ByteArray, cs = encKs x ∧ x.size ≤ 9223372036854775807 := by
  simp only [Rd, Try.underlying9] at h
  obtain ⟨k1, e1, w1⟩ := h
  exact ⟨k1, e1, Nat.le_trans w1 hN⟩

theorem open_ks {H : Type} {enc : TypeId × Value → H} {W : World} {r : Reach} {b0 : Nat} {v : Value} {d : DataW H} {p : List MemPlace} {N : Nat} {Bd : DataW H → Prop} (B : Bound N Bd) (hN : N ≤ 9223372036854775807) (hv : Value.okWide Try.prog W r b0 24 v) (h : DataW.Trod enc Try.prog W 0 (fun _ => true) true 24 v d p) (hb : Bd d) :
    ∃ (a : Option Addr) (c : Nat) (z : List ByteArray), v = .slice a z.length c ∧ z.length ≤ N ∧ (∀ x ∈ z, x.size ≤ 9223372036854775807) ∧ (a = none → z = []) ∧ Row (M.all W) a (kss z) := by
  obtain ⟨a, len, cap, rfl⟩ := okWide_slice Try.underlying24 hv
  obtain ⟨fuel, hf⟩ := h
  have hr := rd_of_trod B 2 fuel 24 _ _ hf hb
  rw [Rd] at hr
  simp only [Try.underlying24] at hr
  obtain ⟨a', cap', rows, hcs, h1, h2, h3, h4, h5⟩ := hr
  obtain ⟨z, hz, he, hi⟩ := rows_list (α := ByteArray) (e := encKs) (p := fun x => x.size ≤ 9223372036854775807) rows fun r hr => ks_rd (d := 0) (h4 r hr).2 hN
  simp [Value.cells] at hcs
  obtain ⟨rfl, rfl, rfl⟩ := hcs
  rw [he] at h5
  exact ⟨a, cap, z, by rw [hz], by omega, hi, fun e => List.eq_nil_of_length_eq_zero (by have := h3 e; omega), h5⟩

end Go.Proofs.Ytpnpebefcmgjoaa
