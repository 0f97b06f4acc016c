/-
  Contracts of functions of this seat: what each hands back, and what it leaves of memory (rng12). Nothing here is trusted: Lean checks it.
-/
import Derived.Test.YtpnpebefcmgjoaaRng11
set_option linter.unusedVariables false
set_option linter.unusedSimpArgs false
namespace Go.Proofs.Ytpnpebefcmgjoaa
open Go.Vc Go.RowKit
set_option maxRecDepth 100000

theorem rg_own (a : Option Addr) (c : Nat) (l : List Pl) (hn : l.length ≤ 1048576) (m : M) (h : Row m a (pls l)) :
    Vc.Spec Try.prog 9 [.slice a l.length c] m (fun v m' => ∃ b, v = .slice (some ⟨b, 0, none⟩) l.length (l.length + 2) ∧ Row m' (some ⟨b, 0, none⟩) (pls l ++ (encPl ⟨71, .empty, 0⟩ ++ encPl ⟨71, .empty, 0⟩))) := by
  refine Vc.Spec.of_vc Try.func9 (ann := noAnn) ?_
  refine vc_by (X :=
      true = true ∧
      ∃ (S' : Nat → Prop),
      (∀ (b : Nat), S' b → m.uf b ∧ (m.sz ≤ b ∨ False)) ∧
      ∀ (n : Nat),
      m.sz ≤ n →
      SpecW Try.prog (30 : Nat)
      [Value.slice a l.length c, Value.agg #[Value.int IntKind.i64 (71 : Int), Value.string { data := #[] : ByteArray }, Value.int IntKind.i64 (0 : Int)]]
      { π := m.π, sz := n, uf := m.uf : M } S' fun (v : Value) (m' : M) =>
      ∃ (a : Option Addr),
      ∃ (n : Nat),
      ∃ (c : Nat),
      v = Value.slice a n c ∧
      Done
      (∃ (b : Nat),
      Value.slice a n c = Value.slice (some { block := b, off := (0 : Nat) : Addr }) l.length (l.length + (2 : Nat)) ∧
      Row m' (some { block := b, off := (0 : Nat) : Addr })
      (pls l ++
      [Value.int IntKind.i64 (71 : Int), Value.string ByteArray.empty, Value.int IntKind.i64 (0 : Int), Value.int IntKind.i64 (71 : Int),
      Value.string ByteArray.empty, Value.int IntKind.i64 (0 : Int)]))) (by kernel_rfl) ?_
  refine ⟨rfl, _, noS, fun n hn1 => (pl_own a c l ⟨71, .empty, 0⟩ hn _ (h.sz hn1)).monoW fun v m' hag ho => ?_⟩
  obtain ⟨b, hv, hr⟩ := ho.row
  exact ⟨_, _, _, hv, ⟨⟨b, rfl, hr⟩⟩⟩

theorem rg_kept (b : Nat) (l : List Pl) (a2 : Option Addr) (c2 : Nat) (hl : l.length ≤ 1048576) (m : M) (h : Row m (some ⟨b, 0, none⟩) (pls l ++ (encPl ⟨71, .empty, 0⟩ ++ encPl ⟨71, .empty, 0⟩))) (h2 : Row m a2 (pls l)) :
    QSpec Try.prog 15 [.slice (some ⟨b, 0, none⟩) l.length (l.length + 2), .slice a2 l.length c2] m (.bool true) := by
  refine QSpec.of_vc Try.func15 (ann := fun _ => noAnn) fun n hn => ?_
  refine vc_by (X :=
      true = true ∧
      ∃ (b_1 : Bool),
      QSpec Try.prog (32 : Nat)
      [Value.slice (some { block := b, off := (0 : Nat) : Addr }) l.length (l.length + (2 : Nat)), Value.slice a2 l.length c2,
      Value.agg #[Value.int IntKind.i64 (71 : Int), Value.string { data := #[] : ByteArray }, Value.int IntKind.i64 (0 : Int)]]
      { π := m.π, sz := n, uf := m.uf : M } (Value.bool b_1) ∧
      Done (Value.bool b_1 = Value.bool true)) (by kernel_rfl) ?_
  exact ⟨rfl, true, pl_keptr b l a2 c2 ⟨71, .empty, 0⟩ hl _ (h.sz hn) (h2.sz hn), ⟨rfl⟩⟩

theorem split_len (l : List Pl) (key : ByteArray) (g : Int) : (splitL l key g).1.length ≤ 8 := by
  unfold splitL
  split
  · simp
  · rename_i h
    have hR : rightB l = true := by simpa using h
    have h7 := right_len hR
    split
    · simp
    · split
      · simp
      · split
        · simp
        · rw [ins_len _ _ _ _ _ (findL_len key (right_pos hR))]
          omega

theorem merge_len (l : List Pl) (i : Int) : (mergeL l i).1.length ≤ 8 := by
  unfold mergeL
  split
  · simp
  · rename_i h
    have hR : rightB l = true := by simpa using h
    have h7 := right_len hR
    split
    · simp
    · simp [delS]; omega

theorem rangesmoves (l : List Pl) (a : Option Addr) (c : Nat) (key : ByteArray) (g i : Int) (hi : In64 i) (hl : l.length ≤ 1048576) (m : M) (h : Row m a (pls l)) :
    QSpec Try.prog 6 [.slice a l.length c, .string key, I g, I i] m (.bool true) := by
  refine QSpec.of_vc Try.func6 (ann := fun _ => noAnn) fun n hn => ?_
  refine vc_by (X :=
      true = true ∧
      ∃ (S' : Nat → Prop),
      (∀ (b : Nat), S' b → m.uf b ∧ (n ≤ b ∨ False)) ∧
      ∀ (n_1 : Nat),
      n ≤ n_1 →
      SpecW Try.prog (9 : Nat) [Value.slice a l.length c] { π := m.π, sz := n_1, uf := m.uf : M } S' fun (v : Value) (m' : M) =>
      ∃ (a_2 : Option Addr),
      ∃ (n_2 : Nat),
      ∃ (c_1 : Nat),
      v = Value.slice a_2 n_2 c_1 ∧
      ∃ (S' : Nat → Prop),
      (∀ (b : Nat), S' b → m'.uf b ∧ (n ≤ b ∨ False)) ∧
      ∀ (n_3 : Nat),
      m'.sz ≤ n_3 →
      SpecW Try.prog (26 : Nat) [Value.slice a_2 n_2 c_1, Value.string key, Value.int IntKind.i64 g] { π := m'.π, sz := n_3, uf := m'.uf : M } S'
      fun (v : Value) (m' : M) =>
      ∃ (a_4 : Option Addr),
      ∃ (n_4 : Nat),
      ∃ (c_2 : Nat),
      ∃ (n_5 : Int),
      v = Value.tuple #[Value.slice a_4 n_4 c_2, Value.int IntKind.i64 n_5] ∧
      ∃ (S' : Nat → Prop),
      (∀ (b : Nat), S' b → m'.uf b ∧ (n ≤ b ∨ False)) ∧
      ∀ (n_6 : Nat),
      m'.sz ≤ n_6 →
      SpecW Try.prog (27 : Nat) [Value.slice a l.length c, Value.string key, Value.int IntKind.i64 g]
      { π := m'.π, sz := n_6, uf := m'.uf : M } S' fun (v : Value) (m' : M) =>
      ∃ (a_6 : Option Addr),
      ∃ (n_7 : Nat),
      ∃ (c_3 : Nat),
      ∃ (n_8 : Int),
      v = Value.tuple #[Value.slice a_6 n_7 c_3, Value.int IntKind.i64 n_8] ∧
      ∃ (S' : Nat → Prop),
      (∀ (b : Nat), S' b → m'.uf b ∧ (n ≤ b ∨ False)) ∧
      ∀ (n_9 : Nat),
      m'.sz ≤ n_9 →
      SpecW Try.prog (28 : Nat) [Value.slice a_2 n_2 c_1, Value.int IntKind.i64 i]
      { π := m'.π, sz := n_9, uf := m'.uf : M } S' fun (v : Value) (m' : M) =>
      ∃ (a_8 : Option Addr),
      ∃ (n_10 : Nat),
      ∃ (c_4 : Nat),
      ∃ (n_11 : Int),
      v = Value.tuple #[Value.slice a_8 n_10 c_4, Value.int IntKind.i64 n_11] ∧
      ∃ (S' : Nat → Prop),
      (∀ (b : Nat), S' b → m'.uf b ∧ (n ≤ b ∨ False)) ∧
      ∀ (n : Nat),
      m'.sz ≤ n →
      SpecW Try.prog (29 : Nat) [Value.slice a l.length c, Value.int IntKind.i64 i]
      { π := m'.π, sz := n, uf := m'.uf : M } S' fun (v : Value) (m' : M) =>
      ∃ (a_10 : Option Addr),
      ∃ (n : Nat),
      ∃ (c_5 : Nat),
      ∃ (n_12 : Int),
      v = Value.tuple #[Value.slice a_10 n c_5, Value.int IntKind.i64 n_12] ∧
      ∃ (b : Bool),
      QSpec Try.prog (12 : Nat) [] m' (Value.bool b) ∧
      ifB b
      (∃ (b : Bool),
      QSpec Try.prog (25 : Nat)
      [Value.slice a_4 n_4 c_2, Value.slice a_6 n_7 c_3] m'
      (Value.bool b) ∧
      ifB b
      (ifB (n_5 == n_8)
      (∃ (b : Bool),
      QSpec Try.prog (25 : Nat)
      [Value.slice a_8 n_10 c_4, Value.slice a_10 n c_5] m'
      (Value.bool b) ∧
      ifB b
      (ifB (n_11 == n_12)
      (∃ (b : Bool),
      QSpec Try.prog (15 : Nat)
      [Value.slice a_2 n_2 c_1, Value.slice a l.length c]
      m' (Value.bool b) ∧
      Done (Value.bool b = Value.bool true))
      (Done (Value.bool false = Value.bool true)))
      (Done (Value.bool false = Value.bool true)))
      (Done (Value.bool false = Value.bool true)))
      (Done (Value.bool false = Value.bool true)))
      (Done (Value.bool false = Value.bool true))) (by kernel_rfl) ?_
  have h0 := h.sz hn
  refine ⟨rfl, _, noS, fun n1 hn1 => (rg_own a c l hl _ (h0.sz hn1)).monoW fun v1 m1 g1 ⟨b, hv1, ro⟩ => ⟨_, _, _, hv1, ?_⟩⟩
  have r1 := (h0.sz hn1).agree g1
  refine ⟨_, noS, fun n2 hn2 => (rg_split l _ _ key g (by omega) _ (ro.take.sz hn2)).monoW fun v2 m2 g2 ⟨ax, cx, hv2, rx⟩ => ⟨_, _, _, _, hv2, ?_⟩⟩
  have r2 := (r1.sz hn2).agree g2
  have ro2 := (ro.sz hn2).agree g2
  refine ⟨_, noS, fun n3 hn3 => (rf_split l _ _ key g (by omega) _ (r2.sz hn3)).monoW fun v3 m3 g3 ⟨ay, cy, hv3, ry⟩ => ⟨_, _, _, _, hv3, ?_⟩⟩
  have r3 := (r2.sz hn3).agree g3
  have ro3 := (ro2.sz hn3).agree g3
  have rx3 := (rx.sz hn3).agree g3
  refine ⟨_, noS, fun n4 hn4 => (rg_merge l _ _ i hi (by omega) _ (ro3.take.sz hn4)).monoW fun v4 m4 g4 ⟨am, cm, hv4, rm⟩ => ⟨_, _, _, _, hv4, ?_⟩⟩
  have r4 := (r3.sz hn4).agree g4
  have ro4 := (ro3.sz hn4).agree g4
  have rx4 := (rx3.sz hn4).agree g4
  have ry4 := (ry.sz hn4).agree g4
  refine ⟨_, noS, fun n5 hn5 => (rf_merge l _ _ i hi (by omega) _ (r4.sz hn5)).monoW fun v5 m5 g5 ⟨an, cn, hv5, rn⟩ => ⟨_, _, _, _, hv5, ?_⟩⟩
  have r5 := (r4.sz hn5).agree g5
  have ro5 := (ro4.sz hn5).agree g5
  have rx5 := (rx4.sz hn5).agree g5
  have ry5 := (ry4.sz hn5).agree g5
  have rm5 := (rm.sz hn5).agree g5
  have s8 := split_len l key g
  have m8 := merge_len l i
  refine ⟨_, rg_awake _, ifB_true ⟨_, pl_plain _ _ _ _ _ _ (by omega) _ rx5 ry5, ?_⟩⟩
  have e1 : decide ((splitL l key g).1 = (splitL l key g).1) = true := by simp
  rw [e1]
  refine ifB_true ?_
  have e2 : ((splitL l key g).2 == (splitL l key g).2) = true := by simp
  rw [e2]
  refine ifB_true ⟨_, pl_plain _ _ _ _ _ _ (by omega) _ rm5 rn, ?_⟩
  have e3 : decide ((mergeL l i).1 = (mergeL l i).1) = true := by simp
  rw [e3]
  refine ifB_true ?_
  have e4 : ((mergeL l i).2 == (mergeL l i).2) = true := by simp
  rw [e4]
  exact ifB_true ⟨_, rg_kept b l a c hl _ ro5 r5, ⟨rfl⟩⟩

end Go.Proofs.Ytpnpebefcmgjoaa
