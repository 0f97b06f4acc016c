/-
  Contracts of functions of this seat: what each hands back, and what it leaves of memory (spans). Nothing here is trusted: Lean checks it.
-/
import Derived.Test.YtfagpihpelgmiaaNum
import Derived.Test.YtfagpihpelgmiaaVcRow
set_option linter.unusedVariables false
set_option linter.unusedSimpArgs false
namespace Go.Proofs.Ytfagpihpelgmiaa
open Go.Vc Go.RowKit
set_option maxRecDepth 100000

theorem rroom_q (a b v : Int) (ha : In64 a) (hb : In64 b) (hv : In64 v) (m : M) : QSpec Try.prog 29 [sp a b, I v] m (.tuple #[U (roomD a b v), U (roomU a b v)]) := by
  refine QSpec.of_vc Try.func29 (ann := fun _ => noAnn) fun n hn => ?_
  refine vc_by (X :=
      true = true ∧
      ∃ (b_1 : Bool),
      QSpec Try.prog (33 : Nat) [Value.agg #[Value.int IntKind.i64 a, Value.int IntKind.i64 b], Value.int IntKind.i64 v] { π := m.π, sz := n, uf := m.uf : M } (Value.bool b_1) ∧
      ifB (!b_1)
      (Done
      (Value.tuple #[Value.int IntKind.u64 (0 : Int), Value.int IntKind.u64 (0 : Int)] =
      Value.tuple #[Value.int IntKind.u64 (roomD a b v), Value.int IntKind.u64 (roomU a b v)]))
      (true = true ∧
      (true = true ∧
      ∀ (b_2 : Nat),
      n ≤ b_2 →
      MLe { π := m.π, sz := n, uf := m.uf : M } ({ π := m.π, sz := n, uf := m.uf : M }.newBlock b_2 [Value.int IntKind.i64 v]) ∧
      ∃ (n_1 : Int),
      ∃ (n_2 : Int),
      QSpec Try.prog (35 : Nat) [Value.slice (some { block := b_2, off := (0 : Nat) : Addr }) (1 : Nat) (1 : Nat)]
      ({ π := m.π, sz := n, uf := m.uf : M }.newBlock b_2 [Value.int IntKind.i64 v]) (Value.agg #[Value.int IntKind.i64 n_1, Value.int IntKind.u64 n_2]) ∧
      ∃ (n_3 : Int),
      ∃ (n_4 : Int),
      QSpec Try.prog (36 : Nat) [Value.agg #[Value.int IntKind.i64 n_1, Value.int IntKind.u64 n_2], Value.int IntKind.i64 a]
      ({ π := m.π, sz := n, uf := m.uf : M }.newBlock b_2 [Value.int IntKind.i64 v])
      (Value.agg #[Value.int IntKind.i64 n_3, Value.int IntKind.u64 n_4]) ∧
      (true = true ∧
      ∀ (b_3 : Nat),
      max n (b_2 + (1 : Nat)) ≤ b_3 →
      MLe ({ π := m.π, sz := n, uf := m.uf : M }.newBlock b_2 [Value.int IntKind.i64 v])
      (({ π := m.π, sz := n, uf := m.uf : M }.newBlock b_2 [Value.int IntKind.i64 v]).newBlock b_3 [Value.int IntKind.i64 b]) ∧
      ∃ (n_5 : Int),
      ∃ (n_6 : Int),
      QSpec Try.prog (35 : Nat) [Value.slice (some { block := b_3, off := (0 : Nat) : Addr }) (1 : Nat) (1 : Nat)]
      (({ π := m.π, sz := n, uf := m.uf : M }.newBlock b_2 [Value.int IntKind.i64 v]).newBlock b_3 [Value.int IntKind.i64 b])
      (Value.agg #[Value.int IntKind.i64 n_5, Value.int IntKind.u64 n_6]) ∧
      ∃ (n_7 : Int),
      ∃ (n_8 : Int),
      QSpec Try.prog (36 : Nat) [Value.agg #[Value.int IntKind.i64 n_5, Value.int IntKind.u64 n_6], Value.int IntKind.i64 v]
      (({ π := m.π, sz := n, uf := m.uf : M }.newBlock b_2 [Value.int IntKind.i64 v]).newBlock b_3 [Value.int IntKind.i64 b])
      (Value.agg #[Value.int IntKind.i64 n_7, Value.int IntKind.u64 n_8]) ∧
      Done
      (Value.tuple #[Value.int IntKind.u64 n_4, Value.int IntKind.u64 n_8] =
      Value.tuple #[Value.int IntKind.u64 (roomD a b v), Value.int IntKind.u64 (roomU a b v)])) ∧
      True) ∧
      (true = true ∧
      ∀ (b_2 : Nat),
      n ≤ b_2 →
      MLe { π := m.π, sz := n, uf := m.uf : M } ({ π := m.π, sz := n, uf := m.uf : M }.newBlock b_2 [Value.int IntKind.i64 b]) ∧
      (true = true ∧
      ∀ (b_3 : Nat),
      max n (b_2 + (1 : Nat)) ≤ b_3 →
      MLe ({ π := m.π, sz := n, uf := m.uf : M }.newBlock b_2 [Value.int IntKind.i64 b])
      (({ π := m.π, sz := n, uf := m.uf : M }.newBlock b_2 [Value.int IntKind.i64 b]).newBlock b_3 [Value.int IntKind.i64 v]) ∧
      ∃ (n_1 : Int),
      ∃ (n_2 : Int),
      QSpec Try.prog (35 : Nat) [Value.slice (some { block := b_3, off := (0 : Nat) : Addr }) (1 : Nat) (1 : Nat)]
      (({ π := m.π, sz := n, uf := m.uf : M }.newBlock b_2 [Value.int IntKind.i64 b]).newBlock b_3 [Value.int IntKind.i64 v])
      (Value.agg #[Value.int IntKind.i64 n_1, Value.int IntKind.u64 n_2]) ∧
      ∃ (n_3 : Int),
      ∃ (n_4 : Int),
      QSpec Try.prog (36 : Nat) [Value.agg #[Value.int IntKind.i64 n_1, Value.int IntKind.u64 n_2], Value.int IntKind.i64 a]
      (({ π := m.π, sz := n, uf := m.uf : M }.newBlock b_2 [Value.int IntKind.i64 b]).newBlock b_3 [Value.int IntKind.i64 v])
      (Value.agg #[Value.int IntKind.i64 n_3, Value.int IntKind.u64 n_4]) ∧
      ∃ (n_5 : Int),
      ∃ (n_6 : Int),
      QSpec Try.prog (35 : Nat) [Value.slice (some { block := b_2, off := (0 : Nat) : Addr }) (1 : Nat) (1 : Nat)]
      (({ π := m.π, sz := n, uf := m.uf : M }.newBlock b_2 [Value.int IntKind.i64 b]).newBlock b_3 [Value.int IntKind.i64 v])
      (Value.agg #[Value.int IntKind.i64 n_5, Value.int IntKind.u64 n_6]) ∧
      ∃ (n_7 : Int),
      ∃ (n_8 : Int),
      QSpec Try.prog (36 : Nat) [Value.agg #[Value.int IntKind.i64 n_5, Value.int IntKind.u64 n_6], Value.int IntKind.i64 v]
      (({ π := m.π, sz := n, uf := m.uf : M }.newBlock b_2 [Value.int IntKind.i64 b]).newBlock b_3 [Value.int IntKind.i64 v])
      (Value.agg #[Value.int IntKind.i64 n_7, Value.int IntKind.u64 n_8]) ∧
      Done
      (Value.tuple #[Value.int IntKind.u64 n_4, Value.int IntKind.u64 n_8] =
      Value.tuple #[Value.int IntKind.u64 (roomD a b v), Value.int IntKind.u64 (roomU a b v)])) ∧
      True) ∧
      True)) (by kernel_rfl) ?_
  have sI : ∀ x : Int, sumI [x] = x := fun x => by simp [sumI]
  refine ⟨rfl, _, rhas_q a b v _, ifB_intro (fun q => ⟨?_⟩) (fun q => ?_)⟩
  · have q : hasB a b v = false := by simpa using q
    simp [roomD, roomU, q]
  have q : hasB a b v = true := by simpa using q
  have hq := q
  simp only [hasB, Bool.and_eq_true, decide_eq_true_eq] at hq
  have e1 : wideLo (v - a) = roomD a b v := by unfold In64 at *; simp only [roomD, q, if_true, wideLo]; omega
  have e2 : wideLo (b - v) = roomU a b v := by unfold In64 at *; simp only [roomU, q, if_true, wideLo]; omega
  refine ⟨rfl, ⟨rfl, fun b2 hb2 => ⟨MLe.newBlock hb2, ?_⟩⟩, ⟨rfl, fun b2 hb2 => ⟨MLe.newBlock hb2, ?_⟩⟩, trivial⟩
  · have g1 := of_q (some ⟨b2, 0, none⟩) 1 [v] (fun y hy => by simp at hy; subst hy; exact hv) (by simp) _ (Row.new (m := { m with sz := n }))
    have g2 := less_q (sumI [v]) a ha (({ m with sz := n } : M).newBlock b2 [I v])
    refine ⟨_, _, g1, _, _, g2, ⟨rfl, fun b3 hb3 => ⟨MLe.newBlock hb3, ?_⟩⟩, trivial⟩
    have g3 := of_q (some ⟨b3, 0, none⟩) 1 [b] (fun y hy => by simp at hy; subst hy; exact hb) (by simp) _ (Row.new (m := (({ m with sz := n } : M).newBlock b2 [I v])))
    have g4 := less_q (sumI [b]) v hv ((({ m with sz := n } : M).newBlock b2 [I v]).newBlock b3 [I b])
    refine ⟨_, _, g3, _, _, g4, ⟨?_⟩⟩
    rw [sI, sI, e1, e2]
  · refine ⟨⟨rfl, fun b3 hb3 => ⟨MLe.newBlock hb3, ?_⟩⟩, trivial⟩
    have g1 := of_q (some ⟨b3, 0, none⟩) 1 [v] (fun y hy => by simp at hy; subst hy; exact hv) (by simp) _ (Row.new (m := (({ m with sz := n } : M).newBlock b2 [I b])))
    have g2 := less_q (sumI [v]) a ha ((({ m with sz := n } : M).newBlock b2 [I b]).newBlock b3 [I v])
    have g3 := of_q (some ⟨b2, 0, none⟩) 1 [b] (fun y hy => by simp at hy; subst hy; exact hb) (by simp) _ ((Row.new (m := { m with sz := n }) (b := b2) (cs := [I b])).newBlock (ds := [I v]) hb3)
    have g4 := less_q (sumI [b]) v hv ((({ m with sz := n } : M).newBlock b2 [I b]).newBlock b3 [I v])
    refine ⟨_, _, g1, _, _, g2, _, _, g3, _, _, g4, ⟨?_⟩⟩
    rw [sI, sI, e1, e2]

theorem numspans (a b c d v k : Int) (ha : In64 a) (hb : In64 b) (hc : In64 c) (hd : In64 d) (hv : In64 v) (hk : In64 k) (m : M) : QSpec Try.prog 11 [sp a b, sp c d, I v, I k] m (.bool true) := by
  refine QSpec.of_vc Try.func11 (ann := fun _ => noAnn) fun n hn => ?_
  refine vc_by (X :=
      true = true ∧
      ∃ (n_1 : Int),
      ∃ (n_2 : Int),
      QSpec Try.prog (15 : Nat) [Value.agg #[Value.int IntKind.i64 a, Value.int IntKind.i64 b], Value.int IntKind.i64 v] { π := m.π, sz := n, uf := m.uf : M }
      (Value.tuple #[Value.int IntKind.u64 n_1, Value.int IntKind.u64 n_2]) ∧
      ∃ (n_3 : Int),
      ∃ (n_4 : Int),
      QSpec Try.prog (29 : Nat) [Value.agg #[Value.int IntKind.i64 a, Value.int IntKind.i64 b], Value.int IntKind.i64 v] { π := m.π, sz := n, uf := m.uf : M }
      (Value.tuple #[Value.int IntKind.u64 n_3, Value.int IntKind.u64 n_4]) ∧
      ∃ (n_5 : Int),
      ∃ (n_6 : Int),
      ∃ (b_1 : Bool),
      QSpec Try.prog (18 : Nat) [Value.agg #[Value.int IntKind.i64 a, Value.int IntKind.i64 b], Value.agg #[Value.int IntKind.i64 c, Value.int IntKind.i64 d]]
      { π := m.π, sz := n, uf := m.uf : M } (Value.tuple #[Value.agg #[Value.int IntKind.i64 n_5, Value.int IntKind.i64 n_6], Value.bool b_1]) ∧
      ∃ (n_7 : Int),
      ∃ (n_8 : Int),
      ∃ (b_2 : Bool),
      QSpec Try.prog (30 : Nat) [Value.agg #[Value.int IntKind.i64 a, Value.int IntKind.i64 b], Value.agg #[Value.int IntKind.i64 c, Value.int IntKind.i64 d]]
      { π := m.π, sz := n, uf := m.uf : M } (Value.tuple #[Value.agg #[Value.int IntKind.i64 n_7, Value.int IntKind.i64 n_8], Value.bool b_2]) ∧
      ∃ (n_9 : Int),
      ∃ (n_10 : Int),
      ∃ (n_11 : Int),
      QSpec Try.prog (31 : Nat) [Value.agg #[Value.int IntKind.i64 a, Value.int IntKind.i64 b], Value.int IntKind.i64 k]
      { π := m.π, sz := n, uf := m.uf : M }
      (Value.tuple #[Value.agg #[Value.int IntKind.i64 n_9, Value.int IntKind.i64 n_10], Value.int IntKind.i64 n_11]) ∧
      ∃ (n_12 : Int),
      ∃ (n_13 : Int),
      ∃ (n_14 : Int),
      QSpec Try.prog (32 : Nat) [Value.agg #[Value.int IntKind.i64 a, Value.int IntKind.i64 b], Value.int IntKind.i64 k]
      { π := m.π, sz := n, uf := m.uf : M }
      (Value.tuple #[Value.agg #[Value.int IntKind.i64 n_12, Value.int IntKind.i64 n_13], Value.int IntKind.i64 n_14]) ∧
      true = true ∧
      ∃ (b_3 : Bool),
      QSpec Try.prog (13 : Nat) [] { π := m.π, sz := n, uf := m.uf : M } (Value.bool b_3) ∧
      ifB b_3
      (∃ (b_4 : Bool),
      QSpec Try.prog (17 : Nat) [Value.agg #[Value.int IntKind.i64 a, Value.int IntKind.i64 b]]
      { π := m.π, sz := n, uf := m.uf : M } (Value.bool b_4) ∧
      ifB (b_4 == decide (a ≤ b))
      (∃ (b_5 : Bool),
      QSpec Try.prog (16 : Nat) [Value.agg #[Value.int IntKind.i64 a, Value.int IntKind.i64 b], Value.int IntKind.i64 v]
      { π := m.π, sz := n, uf := m.uf : M } (Value.bool b_5) ∧
      ∃ (b_6 : Bool),
      QSpec Try.prog (33 : Nat) [Value.agg #[Value.int IntKind.i64 a, Value.int IntKind.i64 b], Value.int IntKind.i64 v]
      { π := m.π, sz := n, uf := m.uf : M } (Value.bool b_6) ∧
      ifB (b_5 == b_6)
      (ifB (n_1 == n_3)
      (ifB (n_2 == n_4)
      (ifB (n_5 == n_7 && (n_6 == n_8 && true))
      (ifB (b_1 == b_2)
      (ifB (n_9 == n_12 && (n_10 == n_13 && true)) (Done (Value.bool (n_11 == n_14) = Value.bool true))
      (Done (Value.bool false = Value.bool true)))
      (Done (Value.bool false = Value.bool true)))
      (Done (Value.bool false = Value.bool true)))
      (Done (Value.bool false = Value.bool true)))
      (Done (Value.bool false = Value.bool true)))
      (Done (Value.bool false = Value.bool true)))
      (Done (Value.bool false = Value.bool true)))
      (Done (Value.bool false = Value.bool true))) (by kernel_rfl) ?_
  refine ⟨rfl, _, _, room_q a b v ha hb hv _, _, _, rroom_q a b v ha hb hv _, _, _, _, meet_q a b c d _, _, _, _, rmeet_q a b c d _, _, _, _, shift_q a b k ha hb hk _, _, _, _, rshift_q a b k ha hb hk _, rfl, _, awake_q _, ifB_true ⟨_, may_q a b _, ?_⟩⟩
  simp only [beq_self_eq_true, Bool.and_self]
  refine ifB_true ⟨_, has_q a b v _, _, rhas_q a b v _, ?_⟩
  simp only [beq_self_eq_true, Bool.and_self]
  exact ifB_true (ifB_true (ifB_true (ifB_true (ifB_true (ifB_true ⟨by trivial⟩)))))

end Go.Proofs.Ytfagpihpelgmiaa
