/-
  Contracts of functions of this seat: what each hands back, and what it leaves of memory (xacc6). Nothing here is trusted: Lean checks it.
-/
import Derived.Test.YtoilbbfidnhekaaXacc5
set_option linter.unusedVariables false
set_option linter.unusedSimpArgs false
namespace Go.Proofs.Ytoilbbfidnhekaa.Acc
open Go.Vc Go.RowKit

theorem wf_key (k : ByteArray) (hk : k.size ≤ 9223372036854775807) : (⟨k, 0, 0, 0, 0, [], ⟨0, 0, 0, 0⟩⟩ : Ac).wf :=
  ⟨hk, (by decide : In64 0), (by decide : In64 0), (by decide : In64 0), (by decide : In64 0), fun h hh => (by simp at hh), Nat.zero_le _, ⟨(by decide : In64 0), (by decide : In64 0), (by decide : In64 0), (by decide : In64 0)⟩⟩

theorem hd_ext {a b : Hd} : a = b ↔ a.nd = b.nd ∧ a.le = b.le ∧ a.up = b.up ∧ a.dn = b.dn := by
  cases a; cases b; simp

instance : DecidableEq Hd := fun _ _ => decidable_of_iff' _ hd_ext

theorem lk_ext {a b : Lk} : a = b ↔ a.cl = b.cl ∧ a.sq = b.sq ∧ a.hm = b.hm ∧ a.n = b.n := by
  cases a; cases b; simp

instance : DecidableEq Lk := fun _ _ => decidable_of_iff' _ lk_ext

theorem ac_ext {a b : Ac} : a = b ↔ a.key = b.key ∧ a.lo = b.lo ∧ a.hi = b.hi ∧ a.base = b.base ∧ a.round = b.round ∧ a.hs = b.hs ∧ a.lk = b.lk := by
  cases a; cases b; simp

instance : DecidableEq Ac := fun _ _ => decidable_of_iff' _ ac_ext

/-- what 'Own' hands back: the list, two marks behind it, in a block of its own -/
structure Owned (m : M) (cs marks : List Value) (len cap : Nat) (v : Value) (m' : M) : Prop where
  out : ∃ b, v = .slice (some ⟨b, 0, none⟩) len cap ∧ m.sz ≤ b ∧ b < m'.sz ∧ m'.uf b ∧ CellsAt m' b 0 (cs ++ marks)

end Go.Proofs.Ytoilbbfidnhekaa.Acc
