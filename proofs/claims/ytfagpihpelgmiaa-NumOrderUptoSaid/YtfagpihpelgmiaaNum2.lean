/-
  Contracts of functions of package num, its reference and its laws: what each hands back. Nothing here is trusted: Lean checks it.
-/
import Derived.Test.YtfagpihpelgmiaaNum1
namespace Go.Proofs.Ytfagpihpelgmiaa
open Go.Vc Go.RowKit

theorem row2 {m : M} {b : Nat} (a c : Int) : Row (m.newBlock b [I a, I c]) (some ⟨b, 0, none⟩) (ints [a, c]) := .at _ _ _ (by simp only [M.newBlock]; omega) cellsAt_new
theorem row1 {m : M} {b : Nat} (a : Int) : Row (m.newBlock b [I a]) (some ⟨b, 0, none⟩) (ints [a]) := .at _ _ _ (by simp only [M.newBlock]; omega) cellsAt_new

theorem radd_q (a b : Int) (ha : In64 a) (hb : In64 b) (m : M) : QSpec Try.prog 23 [I a, I b] m (.tuple #[I (addV a b), I (addE a b)]) := by
  refine QSpec.of_vc Try.func23 (ann := fun _ => noAnn) fun n hn => ?_
  refine vc_by (X :=
      true = true ∧
        true = true ∧
          ∀ (b_1 : Nat),
            n ≤ b_1 →
              ∃ (n_1 : Int),
                ∃ (n_2 : Int),
                  QSpec Try.prog (35 : Nat) [Value.slice (some { block := b_1, off := (0 : Nat) : Addr }) (2 : Nat) (2 : Nat)]
                      ({ π := m.π, sz := n, uf := m.uf : M }.newBlock b_1 [Value.int IntKind.i64 a, Value.int IntKind.i64 b])
                      (Value.agg #[Value.int IntKind.i64 n_1, Value.int IntKind.u64 n_2]) ∧
                    ∃ (n_3 : Int),
                      ∃ (n_4 : Int),
                        QSpec Try.prog (34 : Nat) [Value.agg #[Value.int IntKind.i64 n_1, Value.int IntKind.u64 n_2]]
                            ({ π := m.π, sz := n, uf := m.uf : M }.newBlock b_1 [Value.int IntKind.i64 a, Value.int IntKind.i64 b])
                            (Value.tuple #[Value.int IntKind.i64 n_3, Value.int IntKind.i64 n_4]) ∧
                          Done (Value.tuple #[Value.int IntKind.i64 n_3, Value.int IntKind.i64 n_4] = Value.tuple #[Value.int IntKind.i64 (addV a b), Value.int IntKind.i64 (addE a b)])) (by kernel_rfl) ?_
  have e : sumI [a, b] = a + b := by simp [sumI]
  refine ⟨rfl, rfl, fun k hk => ⟨_, _, of_q (some ⟨k, 0, none⟩) 2 [a, b] (by simp [ha, hb]) (by simp) _ (row2 a b), ?_⟩⟩
  rw [e]
  unfold In64 at ha hb
  exact ⟨_, _, told_q (a + b) (by omega) (by omega) _, ⟨rfl⟩⟩
theorem rsub_q (a b : Int) (ha : In64 a) (hb : In64 b) (m : M) : QSpec Try.prog 24 [I a, I b] m (.tuple #[I (subV a b), I (subE a b)]) := by
  refine QSpec.of_vc Try.func24 (ann := fun _ => noAnn) fun n hn => ?_
  refine vc_by (X :=
      true = true ∧
        true = true ∧
          ∀ (b_1 : Nat),
            n ≤ b_1 →
              ∃ (n_1 : Int),
                ∃ (n_2 : Int),
                  QSpec Try.prog (35 : Nat) [Value.slice (some { block := b_1, off := (0 : Nat) : Addr }) (1 : Nat) (1 : Nat)]
                      ({ π := m.π, sz := n, uf := m.uf : M }.newBlock b_1 [Value.int IntKind.i64 a]) (Value.agg #[Value.int IntKind.i64 n_1, Value.int IntKind.u64 n_2]) ∧
                    ∃ (n_3 : Int),
                      ∃ (n_4 : Int),
                        QSpec Try.prog (36 : Nat) [Value.agg #[Value.int IntKind.i64 n_1, Value.int IntKind.u64 n_2], Value.int IntKind.i64 b]
                            ({ π := m.π, sz := n, uf := m.uf : M }.newBlock b_1 [Value.int IntKind.i64 a]) (Value.agg #[Value.int IntKind.i64 n_3, Value.int IntKind.u64 n_4]) ∧
                          ∃ (n_5 : Int),
                            ∃ (n_6 : Int),
                              QSpec Try.prog (34 : Nat) [Value.agg #[Value.int IntKind.i64 n_3, Value.int IntKind.u64 n_4]]
                                  ({ π := m.π, sz := n, uf := m.uf : M }.newBlock b_1 [Value.int IntKind.i64 a]) (Value.tuple #[Value.int IntKind.i64 n_5, Value.int IntKind.i64 n_6]) ∧
                                Done
                                  (Value.tuple #[Value.int IntKind.i64 n_5, Value.int IntKind.i64 n_6] =
                                    Value.tuple #[Value.int IntKind.i64 (subV a b), Value.int IntKind.i64 (subE a b)])) (by kernel_rfl) ?_
  have e : sumI [a] = a := by simp [sumI]
  refine ⟨rfl, rfl, fun k hk => ⟨_, _, of_q (some ⟨k, 0, none⟩) 1 [a] (by simp [ha]) (by simp) _ (row1 a), ?_⟩⟩
  rw [e]
  refine ⟨_, _, less_q a b hb _, ?_⟩
  unfold In64 at ha hb
  exact ⟨_, _, told_q (a - b) (by omega) (by omega) _, ⟨rfl⟩⟩
theorem rmeet_q (a b c d : Int) (m : M) : QSpec Try.prog 30 [sp a b, sp c d] m (.tuple #[sp (meetLo a b c d) (meetHi a b c d), .bool (meetOk a b c d)]) := by
  have e1 : (if c > a then c else a) = max a c := by omega
  have e2 : (if d < b then d else b) = min b d := by omega
  refine QSpec.of_vc Try.func30 (ann := fun _ => noAnn) fun n hn => ?_
  refine vc_by (X :=
      true = true ∧
        ifB (decide ((if c > a then c else a) > if d < b then d else b))
          (Done
            (Value.tuple #[Value.agg #[Value.int IntKind.i64 (0 : Int), Value.int IntKind.i64 (0 : Int)], Value.bool false] =
              Value.tuple #[Value.agg #[Value.int IntKind.i64 (meetLo a b c d), Value.int IntKind.i64 (meetHi a b c d)], Value.bool (meetOk a b c d)]))
          (Done
            (Value.tuple #[Value.agg #[Value.int IntKind.i64 (if c > a then c else a), Value.int IntKind.i64 (if d < b then d else b)], Value.bool true] =
              Value.tuple #[Value.agg #[Value.int IntKind.i64 (meetLo a b c d), Value.int IntKind.i64 (meetHi a b c d)], Value.bool (meetOk a b c d)]))) (by kernel_rfl) ?_
  rw [e1, e2]
  refine ⟨rfl, ifB_intro (fun h => ⟨?_⟩) (fun h => ⟨?_⟩)⟩
  · have : meetOk a b c d = false := by simp [meetOk] at *; omega
    simp [meetLo, meetHi, this]
  · have : meetOk a b c d = true := by simp [meetOk] at *; omega
    simp [meetLo, meetHi, this]
theorem rshift_q (a b k : Int) (ha : In64 a) (hb : In64 b) (hk : In64 k) (m : M) : QSpec Try.prog 32 [sp a b, I k] m (.tuple #[sp (shiftLo a b k) (shiftHi a b k), I (shiftE a b k)]) := by
  refine QSpec.of_vc Try.func32 (ann := fun _ => noAnn) fun n hn => ?_
  refine vc_by (X :=
      true = true ∧
        ifB (decide (a > b))
          (Done
            (Value.tuple #[Value.agg #[Value.int IntKind.i64 (0 : Int), Value.int IntKind.i64 (0 : Int)], Value.int IntKind.i64 (1 : Int)] =
              Value.tuple #[Value.agg #[Value.int IntKind.i64 (shiftLo a b k), Value.int IntKind.i64 (shiftHi a b k)], Value.int IntKind.i64 (shiftE a b k)]))
          (∃ (n_1 : Int),
            ∃ (n_2 : Int),
              QSpec Try.prog (23 : Nat) [Value.int IntKind.i64 a, Value.int IntKind.i64 k] { π := m.π, sz := n, uf := m.uf : M }
                  (Value.tuple #[Value.int IntKind.i64 n_1, Value.int IntKind.i64 n_2]) ∧
                ∃ (n_3 : Int),
                  ∃ (n_4 : Int),
                    QSpec Try.prog (23 : Nat) [Value.int IntKind.i64 b, Value.int IntKind.i64 k] { π := m.π, sz := n, uf := m.uf : M }
                        (Value.tuple #[Value.int IntKind.i64 n_3, Value.int IntKind.i64 n_4]) ∧
                      ifB (n_2 != (0 : Int))
                        (Done
                          (Value.tuple #[Value.agg #[Value.int IntKind.i64 (0 : Int), Value.int IntKind.i64 (0 : Int)], Value.int IntKind.i64 (10 : Int)] =
                            Value.tuple #[Value.agg #[Value.int IntKind.i64 (shiftLo a b k), Value.int IntKind.i64 (shiftHi a b k)], Value.int IntKind.i64 (shiftE a b k)]))
                        (ifB (n_4 != (0 : Int))
                          (Done
                            (Value.tuple #[Value.agg #[Value.int IntKind.i64 (0 : Int), Value.int IntKind.i64 (0 : Int)], Value.int IntKind.i64 (10 : Int)] =
                              Value.tuple #[Value.agg #[Value.int IntKind.i64 (shiftLo a b k), Value.int IntKind.i64 (shiftHi a b k)], Value.int IntKind.i64 (shiftE a b k)]))
                          (Done
                            (Value.tuple #[Value.agg #[Value.int IntKind.i64 n_1, Value.int IntKind.i64 n_3], Value.int IntKind.i64 (0 : Int)] =
                              Value.tuple #[Value.agg #[Value.int IntKind.i64 (shiftLo a b k), Value.int IntKind.i64 (shiftHi a b k)], Value.int IntKind.i64 (shiftE a b k)]))))) (by kernel_rfl) ?_
  refine ⟨rfl, ifB_intro (fun h => ⟨?_⟩) (fun h => ⟨_, _, radd_q a k ha hk _, _, _, radd_q b k hb hk _, ?_⟩)⟩
  · simp at h; simp [shiftLo, shiftHi, shiftE, h]
  · simp at h
    have h' : ¬ b < a := by omega
    by_cases h1 : In64 (a + k) <;> by_cases h2 : In64 (b + k) <;> simp [addE, addV, shiftLo, shiftHi, shiftE, h', h1, h2, ifB, done_iff]
theorem rsum_q (a : Option Addr) (c : Nat) (l : List Int) (hl : ∀ x ∈ l, In64 x) (hn : l.length ≤ 140737488355328) (m : M) (h : Row m a (ints l)) :
    QSpec Try.prog 27 [.slice a l.length c] m (.tuple #[I (if In64 (sumI l) then sumI l else 0), I (if In64 (sumI l) then 0 else 10)]) := by
  refine QSpec.of_vc Try.func27 (ann := fun _ => noAnn) fun n hn => ?_
  refine vc_by (X :=
      true = true ∧
        ∃ (n_1 : Int),
          ∃ (n_2 : Int),
            QSpec Try.prog (35 : Nat) [Value.slice a l.length c] { π := m.π, sz := n, uf := m.uf : M } (Value.agg #[Value.int IntKind.i64 n_1, Value.int IntKind.u64 n_2]) ∧
              ∃ (n_3 : Int),
                ∃ (n_4 : Int),
                  QSpec Try.prog (34 : Nat) [Value.agg #[Value.int IntKind.i64 n_1, Value.int IntKind.u64 n_2]] { π := m.π, sz := n, uf := m.uf : M }
                      (Value.tuple #[Value.int IntKind.i64 n_3, Value.int IntKind.i64 n_4]) ∧
                    Done
                      (Value.tuple #[Value.int IntKind.i64 n_3, Value.int IntKind.i64 n_4] =
                        Value.tuple #[Value.int IntKind.i64 (if In64 (sumI l) then sumI l else (0 : Int)), Value.int IntKind.i64 (if In64 (sumI l) then (0 : Int) else (10 : Int))])) (by kernel_rfl) ?_
  have hb := sumI_bound l hl
  exact ⟨rfl, _, _, of_q a c l hl (by assumption) _ (h.sz hn), _, _, told_q _ (by omega) (by omega) _, ⟨rfl⟩⟩

theorem numback (a b : Int) (ha : In64 a) (hb : In64 b) (m : M) : QSpec Try.prog 3 [I a, I b] m (.bool true) := by
  refine QSpec.of_vc Try.func3 (ann := fun _ => noAnn) fun n hn => ?_
  refine vc_by (X :=
      true = true ∧
        ∃ (n_1 : Int),
          ∃ (n_2 : Int),
            QSpec Try.prog (12 : Nat) [Value.int IntKind.i64 a, Value.int IntKind.i64 b] { π := m.π, sz := n, uf := m.uf : M }
                (Value.tuple #[Value.int IntKind.i64 n_1, Value.int IntKind.i64 n_2]) ∧
              ∃ (n_3 : Int),
                ∃ (n_4 : Int),
                  QSpec Try.prog (12 : Nat) [Value.int IntKind.i64 b, Value.int IntKind.i64 a] { π := m.π, sz := n, uf := m.uf : M }
                      (Value.tuple #[Value.int IntKind.i64 n_3, Value.int IntKind.i64 n_4]) ∧
                    ∃ (b_1 : Bool),
                      QSpec Try.prog (13 : Nat) [] { π := m.π, sz := n, uf := m.uf : M } (Value.bool b_1) ∧
                        ifB (!b_1) (Done (Value.bool false = Value.bool true))
                          (ifB (n_1 != n_3) (Done (Value.bool false = Value.bool true))
                            (ifB (n_2 != n_4) (Done (Value.bool false = Value.bool true))
                              (ifB (n_2 != (0 : Int))
                                (∃ (n_5 : Int),
                                  ∃ (n_6 : Int),
                                    QSpec Try.prog (14 : Nat) [Value.int IntKind.i64 a, Value.int IntKind.i64 b] { π := m.π, sz := n, uf := m.uf : M }
                                        (Value.tuple #[Value.int IntKind.i64 n_5, Value.int IntKind.i64 n_6]) ∧
                                      ifB (n_1 == (0 : Int))
                                        (ifB (n_2 == (10 : Int)) (Done (Value.bool (n_6 == (0 : Int)) = Value.bool true)) (Done (Value.bool false = Value.bool true)))
                                        (Done (Value.bool false = Value.bool true)))
                                (∃ (n_5 : Int),
                                  ∃ (n_6 : Int),
                                    QSpec Try.prog (14 : Nat) [Value.int IntKind.i64 n_1, Value.int IntKind.i64 b] { π := m.π, sz := n, uf := m.uf : M }
                                        (Value.tuple #[Value.int IntKind.i64 n_5, Value.int IntKind.i64 n_6]) ∧
                                      ifB (n_6 == (0 : Int)) (Done (Value.bool (n_5 == a) = Value.bool true)) (Done (Value.bool false = Value.bool true))))))) (by kernel_rfl) ?_
  have hc : In64 (addV a b) := by unfold addV; split <;> simp_all [In64]
  have e : addV b a = addV a b ∧ addE b a = addE a b := by simp only [addV, addE, Int.add_comm b a, and_self]
  refine ⟨rfl, _, _, add_q a b ha hb _, _, _, add_q b a hb ha _, _, awake_q _, ?_⟩
  rw [e.1, e.2]
  simp only [bne_self_eq_false, Bool.not_true, ifB]
  refine ifB_intro (fun h => ⟨_, _, sub_q a b ha hb _, ?_⟩) (fun h => ⟨_, _, sub_q _ b hc hb _, ?_⟩)
  · simp only [bne_iff_ne, ne_eq, add_ok] at h
    have h2 : In64 (a - b) := by unfold In64 at *; omega
    simp [addV, addE, subE, h, h2, done_iff]
  · simp only [bne_eq_false_iff_eq, add_ok] at h
    have h3 : addV a b = a + b := by simp [addV, h]
    rw [h3]
    have h2 : a + b - b = a := by omega
    simp [subE, subV, h2, ha, done_iff]
theorem numrooms (a b v : Int) (ha : In64 a) (hb : In64 b) (hv : In64 v) (m : M) : QSpec Try.prog 4 [sp a b, I v] m (.bool true) := by
  refine QSpec.of_vc Try.func4 (ann := fun _ => noAnn) fun n hn => ?_
  refine vc_by (X :=
      true = true ∧
        ∃ (n_1 : Int),
          ∃ (n_2 : Int),
            QSpec Try.prog (15 : Nat) [Value.agg #[Value.int IntKind.i64 a, Value.int IntKind.i64 b], Value.int IntKind.i64 v] { π := m.π, sz := n, uf := m.uf : M }
                (Value.tuple #[Value.int IntKind.u64 n_1, Value.int IntKind.u64 n_2]) ∧
              ∃ (b_1 : Bool),
                QSpec Try.prog (13 : Nat) [] { π := m.π, sz := n, uf := m.uf : M } (Value.bool b_1) ∧
                  ifB (!b_1) (Done (Value.bool false = Value.bool true))
                    (∃ (b_2 : Bool),
                      QSpec Try.prog (16 : Nat) [Value.agg #[Value.int IntKind.i64 a, Value.int IntKind.i64 b], Value.int IntKind.i64 v] { π := m.π, sz := n, uf := m.uf : M }
                          (Value.bool b_2) ∧
                        ifB (!b_2) (ifB (n_1 == (0 : Int)) (Done (Value.bool (n_2 == (0 : Int)) = Value.bool true)) (Done (Value.bool false = Value.bool true)))
                          (∃ (b_3 : Bool),
                            QSpec Try.prog (17 : Nat) [Value.agg #[Value.int IntKind.i64 a, Value.int IntKind.i64 b]] { π := m.π, sz := n, uf := m.uf : M } (Value.bool b_3) ∧
                              ifB b_3
                                (ifB (IntKind.u64.wrap (IntKind.u64.wrap v - n_1) == IntKind.u64.wrap a)
                                  (ifB (IntKind.u64.wrap (IntKind.u64.wrap v + n_2) == IntKind.u64.wrap b)
                                    (Done (Value.bool (IntKind.u64.wrap (n_1 + n_2) == IntKind.u64.wrap (IntKind.u64.wrap b - IntKind.u64.wrap a)) = Value.bool true))
                                    (Done (Value.bool false = Value.bool true)))
                                  (Done (Value.bool false = Value.bool true)))
                                (Done (Value.bool false = Value.bool true))))) (by kernel_rfl) ?_
  refine ⟨rfl, _, _, room_q a b v ha hb hv _, _, awake_q _, ⟨_, has_q a b v _, ?_⟩⟩
  cases hh : hasB a b v
  · simp [roomD, roomU, hh, ifB, done_iff]
  · refine ⟨_, may_q a b _, ?_⟩
    simp [hasB] at hh
    have h1 : decide (a ≤ b) = true := by simp; omega
    rw [h1]
    unfold In64 at *
    refine ifB_true (ifB_intro (fun h => ifB_intro (fun h' => ⟨?_⟩) (fun h' => ⟨?_⟩)) (fun h => ⟨?_⟩))
    all_goals
      simp [roomD, roomU, hasB, hh, IntKind.wrap_u64] at *
      try omega
theorem nummeets (a b c d v : Int) (m : M) : QSpec Try.prog 5 [sp a b, sp c d, I v] m (.bool true) := by
  refine QSpec.of_vc Try.func5 (ann := fun _ => noAnn) fun n hn => ?_
  refine vc_by (X :=
      true = true ∧
        ∃ (n_1 : Int),
          ∃ (n_2 : Int),
            ∃ (b_1 : Bool),
              QSpec Try.prog (18 : Nat) [Value.agg #[Value.int IntKind.i64 a, Value.int IntKind.i64 b], Value.agg #[Value.int IntKind.i64 c, Value.int IntKind.i64 d]]
                  { π := m.π, sz := n, uf := m.uf : M } (Value.tuple #[Value.agg #[Value.int IntKind.i64 n_1, Value.int IntKind.i64 n_2], Value.bool b_1]) ∧
                ∃ (n_3 : Int),
                  ∃ (n_4 : Int),
                    ∃ (b_2 : Bool),
                      QSpec Try.prog (18 : Nat) [Value.agg #[Value.int IntKind.i64 c, Value.int IntKind.i64 d], Value.agg #[Value.int IntKind.i64 a, Value.int IntKind.i64 b]]
                          { π := m.π, sz := n, uf := m.uf : M } (Value.tuple #[Value.agg #[Value.int IntKind.i64 n_3, Value.int IntKind.i64 n_4], Value.bool b_2]) ∧
                        ∃ (b_3 : Bool),
                          QSpec Try.prog (13 : Nat) [] { π := m.π, sz := n, uf := m.uf : M } (Value.bool b_3) ∧
                            ifB (!b_3) (Done (Value.bool false = Value.bool true))
                              (ifB (!(n_1 == n_3 && (n_2 == n_4 && true))) (Done (Value.bool false = Value.bool true))
                                (ifB (!b_1 == b_2) (Done (Value.bool false = Value.bool true))
                                  (ifB (!b_1)
                                    (ifB (n_1 == (0 : Int) && (n_2 == (0 : Int) && true))
                                      (∃ (b_4 : Bool),
                                        QSpec Try.prog (16 : Nat) [Value.agg #[Value.int IntKind.i64 a, Value.int IntKind.i64 b], Value.int IntKind.i64 v]
                                            { π := m.π, sz := n, uf := m.uf : M } (Value.bool b_4) ∧
                                          ifB b_4
                                            (∃ (b : Bool),
                                              QSpec Try.prog (16 : Nat) [Value.agg #[Value.int IntKind.i64 c, Value.int IntKind.i64 d], Value.int IntKind.i64 v]
                                                  { π := m.π, sz := n, uf := m.uf : M } (Value.bool b) ∧
                                                Done ((Value.bool !b) = Value.bool true))
                                            (Done (Value.bool true = Value.bool true)))
                                      (Done (Value.bool false = Value.bool true)))
                                    (true = true ∧
                                      ∃ (b_4 : Bool),
                                        QSpec Try.prog (17 : Nat) [Value.agg #[Value.int IntKind.i64 n_1, Value.int IntKind.i64 n_2]] { π := m.π, sz := n, uf := m.uf : M }
                                            (Value.bool b_4) ∧
                                          ifB b_4
                                            (∃ (b_5 : Bool),
                                              QSpec Try.prog (16 : Nat) [Value.agg #[Value.int IntKind.i64 n_1, Value.int IntKind.i64 n_2], Value.int IntKind.i64 v]
                                                  { π := m.π, sz := n, uf := m.uf : M } (Value.bool b_5) ∧
                                                ∃ (b_6 : Bool),
                                                  QSpec Try.prog (16 : Nat) [Value.agg #[Value.int IntKind.i64 a, Value.int IntKind.i64 b], Value.int IntKind.i64 v]
                                                      { π := m.π, sz := n, uf := m.uf : M } (Value.bool b_6) ∧
                                                    ifB b_6
                                                      (∃ (b_7 : Bool),
                                                        QSpec Try.prog (16 : Nat) [Value.agg #[Value.int IntKind.i64 c, Value.int IntKind.i64 d], Value.int IntKind.i64 v]
                                                            { π := m.π, sz := n, uf := m.uf : M } (Value.bool b_7) ∧
                                                          ifB (b_5 == b_7)
                                                            (∃ (b_8 : Bool),
                                                              QSpec Try.prog (16 : Nat) [Value.agg #[Value.int IntKind.i64 n_1, Value.int IntKind.i64 n_2], Value.int IntKind.i64 n_1]
                                                                  { π := m.π, sz := n, uf := m.uf : M } (Value.bool b_8) ∧
                                                                ifB b_8
                                                                  (∃ (b_9 : Bool),
                                                                    QSpec Try.prog (16 : Nat) [Value.agg #[Value.int IntKind.i64 a, Value.int IntKind.i64 b], Value.int IntKind.i64 n_2]
                                                                        { π := m.π, sz := n, uf := m.uf : M } (Value.bool b_9) ∧
                                                                      ifB b_9
                                                                        (∃ (b : Bool),
                                                                          QSpec Try.prog (16 : Nat)
                                                                              [Value.agg #[Value.int IntKind.i64 c, Value.int IntKind.i64 d], Value.int IntKind.i64 n_1]
                                                                              { π := m.π, sz := n, uf := m.uf : M } (Value.bool b) ∧
                                                                            Done (Value.bool b = Value.bool true))
                                                                        (Done (Value.bool false = Value.bool true)))
                                                                  (Done (Value.bool false = Value.bool true)))
                                                            (Done (Value.bool false = Value.bool true)))
                                                      (ifB (b_5 == false)
                                                        (∃ (b_7 : Bool),
                                                          QSpec Try.prog (16 : Nat) [Value.agg #[Value.int IntKind.i64 n_1, Value.int IntKind.i64 n_2], Value.int IntKind.i64 n_1]
                                                              { π := m.π, sz := n, uf := m.uf : M } (Value.bool b_7) ∧
                                                            ifB b_7
                                                              (∃ (b_8 : Bool),
                                                                QSpec Try.prog (16 : Nat) [Value.agg #[Value.int IntKind.i64 a, Value.int IntKind.i64 b], Value.int IntKind.i64 n_2]
                                                                    { π := m.π, sz := n, uf := m.uf : M } (Value.bool b_8) ∧
                                                                  ifB b_8
                                                                    (∃ (b : Bool),
                                                                      QSpec Try.prog (16 : Nat) [Value.agg #[Value.int IntKind.i64 c, Value.int IntKind.i64 d], Value.int IntKind.i64 n_1]
                                                                          { π := m.π, sz := n, uf := m.uf : M } (Value.bool b) ∧
                                                                        Done (Value.bool b = Value.bool true))
                                                                    (Done (Value.bool false = Value.bool true)))
                                                              (Done (Value.bool false = Value.bool true)))
                                                        (Done (Value.bool false = Value.bool true))))
                                            (Done (Value.bool false = Value.bool true))))))) (by kernel_rfl) ?_
  have e : meetOk c d a b = meetOk a b c d := by rw [Bool.eq_iff_iff]; simp [meetOk]; omega
  have e1 : meetLo c d a b = meetLo a b c d := by simp only [meetLo, e, Int.max_comm c a]
  have e2 : meetHi c d a b = meetHi a b c d := by simp only [meetHi, e, Int.min_comm d b]
  refine ⟨rfl, _, _, _, meet_q a b c d _, _, _, _, meet_q c d a b _, _, awake_q _, ?_⟩
  rw [e, e1, e2]
  cases hm : meetOk a b c d
  · have h0 : meetLo a b c d = 0 ∧ meetHi a b c d = 0 := by simp [meetLo, meetHi, hm]
    rw [h0.1, h0.2]
    refine ⟨_, has_q _ _ _ _, ifB_intro (fun h => ⟨_, has_q _ _ _ _, ⟨?_⟩⟩) (fun h => ⟨rfl⟩)⟩
    simp [meetOk, hasB] at *
    omega
  · have h0 : meetLo a b c d = max a c ∧ meetHi a b c d = min b d := by simp [meetLo, meetHi, hm]
    rw [h0.1, h0.2]
    simp only [beq_self_eq_true, Bool.and_self, Bool.not_true, ifB]
    simp [meetOk] at hm
    have h1 : decide (max a c ≤ min b d) = true := by simp; omega
    refine ⟨trivial, _, may_q _ _ _, ?_⟩
    rw [h1]
    refine ⟨_, has_q _ _ _ _, _, has_q _ _ _ _, ?_⟩
    have h2 : hasB (max a c) (min b d) (max a c) = true := by simp [hasB]; omega
    have h3 : hasB a b (min b d) = true := by simp [hasB]; omega
    have h4 : hasB c d (max a c) = true := by simp [hasB]; omega
    refine ifB_intro (fun h => ⟨_, has_q _ _ _ _, ifB_intro (fun h5 => ⟨_, has_q _ _ _ _, ?_⟩) (fun h5 => ⟨?_⟩)⟩) (fun h => ifB_intro (fun h5 => ⟨_, has_q _ _ _ _, ?_⟩) (fun h5 => ⟨?_⟩))
    · rw [h2]; refine ⟨_, has_q _ _ _ _, ?_⟩; rw [h3]; exact ⟨_, has_q _ _ _ _, ⟨by rw [h4]⟩⟩
    · rw [beq_eq_false_iff_ne] at h5
      exact absurd (by rw [Bool.eq_iff_iff]; simp [hasB] at *; omega) h5
    · rw [h2]; refine ⟨_, has_q _ _ _ _, ?_⟩; rw [h3]; exact ⟨_, has_q _ _ _ _, ⟨by rw [h4]⟩⟩
    · rw [beq_eq_false_iff_ne] at h5
      exact absurd (by rw [Bool.eq_iff_iff]; simp [hasB] at *; omega) h5
theorem numshares (a b c : Int) (ha : InU a) (hb : In64 b) (hc : In64 c) (m : M) : QSpec Try.prog 7 [U a, I b, I c] m (.bool true) := by
  refine QSpec.of_vc Try.func7 (ann := fun _ => noAnn) fun n hn => ?_
  refine vc_by (X :=
      true = true ∧
        ∃ (b_1 : Bool),
          QSpec Try.prog (13 : Nat) [] { π := m.π, sz := n, uf := m.uf : M } (Value.bool b_1) ∧
            ifB b_1
              (∃ (n_1 : Int),
                QSpec Try.prog (20 : Nat) [Value.int IntKind.u64 a] { π := m.π, sz := n, uf := m.uf : M } (Value.int IntKind.i64 n_1) ∧
                  ∃ (n_2 : Int),
                    QSpec Try.prog (21 : Nat) [Value.int IntKind.u64 a] { π := m.π, sz := n, uf := m.uf : M } (Value.int IntKind.i64 n_2) ∧
                      ifB (n_1 == n_2)
                        (∃ (n_3 : Int),
                          QSpec Try.prog (19 : Nat) [Value.int IntKind.u64 a, Value.int IntKind.i64 b, Value.int IntKind.i64 c] { π := m.π, sz := n, uf := m.uf : M }
                              (Value.int IntKind.u64 n_3) ∧
                            ∃ (n_4 : Int),
                              QSpec Try.prog (22 : Nat) [Value.int IntKind.u64 a, Value.int IntKind.i64 b, Value.int IntKind.i64 c] { π := m.π, sz := n, uf := m.uf : M }
                                  (Value.int IntKind.u64 n_4) ∧
                                Done (Value.bool (n_3 == n_4) = Value.bool true))
                        (Done (Value.bool false = Value.bool true)))
              (Done (Value.bool false = Value.bool true))) (by kernel_rfl) ?_
  refine ⟨rfl, _, awake_q _, _, fit_q a ha _, _, rfit_q a ha _, ?_⟩
  simp only [beq_self_eq_true, ifB]
  exact ⟨_, share_q a b c ha hb hc _, _, rshare_q a b c ha hb hc _, ⟨by simp⟩⟩
theorem numadds (a b : Int) (ha : In64 a) (hb : In64 b) (m : M) : QSpec Try.prog 8 [I a, I b] m (.bool true) := by
  refine QSpec.of_vc Try.func8 (ann := fun _ => noAnn) fun n hn => ?_
  refine vc_by (X :=
      true = true ∧
        ∃ (n_1 : Int),
          ∃ (n_2 : Int),
            QSpec Try.prog (12 : Nat) [Value.int IntKind.i64 a, Value.int IntKind.i64 b] { π := m.π, sz := n, uf := m.uf : M }
                (Value.tuple #[Value.int IntKind.i64 n_1, Value.int IntKind.i64 n_2]) ∧
              ∃ (n_3 : Int),
                ∃ (n_4 : Int),
                  QSpec Try.prog (14 : Nat) [Value.int IntKind.i64 a, Value.int IntKind.i64 b] { π := m.π, sz := n, uf := m.uf : M }
                      (Value.tuple #[Value.int IntKind.i64 n_3, Value.int IntKind.i64 n_4]) ∧
                    ∃ (n_5 : Int),
                      ∃ (n_6 : Int),
                        QSpec Try.prog (23 : Nat) [Value.int IntKind.i64 a, Value.int IntKind.i64 b] { π := m.π, sz := n, uf := m.uf : M }
                            (Value.tuple #[Value.int IntKind.i64 n_5, Value.int IntKind.i64 n_6]) ∧
                          ∃ (n_7 : Int),
                            ∃ (n_8 : Int),
                              QSpec Try.prog (24 : Nat) [Value.int IntKind.i64 a, Value.int IntKind.i64 b] { π := m.π, sz := n, uf := m.uf : M }
                                  (Value.tuple #[Value.int IntKind.i64 n_7, Value.int IntKind.i64 n_8]) ∧
                                ∃ (b : Bool),
                                  QSpec Try.prog (13 : Nat) [] { π := m.π, sz := n, uf := m.uf : M } (Value.bool b) ∧
                                    ifB b
                                      (ifB (n_1 == n_5)
                                        (ifB (n_2 == n_6) (ifB (n_3 == n_7) (Done (Value.bool (n_4 == n_8) = Value.bool true)) (Done (Value.bool false = Value.bool true)))
                                          (Done (Value.bool false = Value.bool true)))
                                        (Done (Value.bool false = Value.bool true)))
                                      (Done (Value.bool false = Value.bool true))) (by kernel_rfl) ?_
  refine ⟨rfl, _, _, add_q a b ha hb _, _, _, sub_q a b ha hb _, _, _, radd_q a b ha hb _, _, _, rsub_q a b ha hb _, _, awake_q _, ?_⟩
  simp [ifB, done_iff]
end Go.Proofs.Ytfagpihpelgmiaa
