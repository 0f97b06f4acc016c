/-
  Contracts of functions of package num, its reference and its laws: what each hands back. Nothing here is trusted: Lean checks it.
-/
import Derived.Test.YtfagpihpelgmiaaNum3
import Derived.Test.YtfagpihpelgmiaaVcOwned
namespace Go.Proofs.Ytfagpihpelgmiaa
open Go.Vc Go.RowKit
theorem plain_q (a a2 : Option Addr) (c c2 : Nat) (l : List Int) (l2 : List Int) (hn1 : l.length ≤ 140737488355328) (m : M) (h : Row m a (ints l)) (h2 : Row m a2 (ints l2)) :
    QSpec Try.prog 38 [.slice a l.length c, .slice a2 l2.length c2] m (.bool (decide (l = l2))) := by
  refine QSpec.of_vc Try.func38 (ann := fun n _ => { A := Nat, inv := fun k => k ≤ l.length ∧ l.take k = l2.take k, st := fun k => [(5, .val (I k)), (0, .val (.slice a l.length c)), (1, .val (.slice a2 l2.length c2))], own := fun _ => [], m := fun _ => { m with sz := n }, μ := fun k => (l.length - k) }) fun n hn => ?_
  refine vc_by (X :=
      true = true ∧
        ifB ((↑l.length : Int) != (↑l2.length : Int)) (Done (Value.bool false = Value.bool (decide (l = l2))))
          ((∃ (a_1 : Nat),
              (a_1 ≤ l.length ∧ List.take a_1 l = List.take a_1 l2) ∧
                { π := m.π, sz := n, uf := m.uf : M } = { π := m.π, sz := n, uf := m.uf : M } ∧
                  ((SV.val (Value.int IntKind.i64 (0 : Int)) = SV.val (Value.int IntKind.i64 (↑a_1 : Int)) ∧ true = true) ∧
                      (SV.val (Value.slice a l.length c) = SV.val (Value.slice a l.length c) ∧ true = true) ∧
                        (SV.val (Value.slice a2 l2.length c2) = SV.val (Value.slice a2 l2.length c2) ∧ true = true) ∧ True) ∧
                    True) ∧
            ∀ (a_1 : Nat),
              a_1 ≤ l.length ∧ List.take a_1 l = List.take a_1 l2 →
                ifB (decide ((↑a_1 : Int) < (↑l.length : Int)))
                  (true = true ∧
                    ∃ (b : Nat),
                      ∃ (off : Nat),
                        a = some { block := b, off := off : Addr } ∧
                          ((0 : Int) ≤ (↑a_1 : Int) ∧ (↑a_1 : Int) < (↑l.length : Int)) ∧
                            ∃ (n_1 : Int),
                              CellsAt { π := m.π, sz := n, uf := m.uf : M } b (off + (↑a_1 : Int).toNat * (1 : Nat)) [Value.int IntKind.i64 n_1] ∧
                                ∃ (b : Nat),
                                  ∃ (off : Nat),
                                    a2 = some { block := b, off := off : Addr } ∧
                                      ((0 : Int) ≤ (↑a_1 : Int) ∧ (↑a_1 : Int) < (↑l2.length : Int)) ∧
                                        ∃ (n_2 : Int),
                                          CellsAt { π := m.π, sz := n, uf := m.uf : M } b (off + (↑a_1 : Int).toNat * (1 : Nat)) [Value.int IntKind.i64 n_2] ∧
                                            ifB (n_1 != n_2) (Done (Value.bool false = Value.bool (decide (l = l2))))
                                              (∃ (a' : Nat),
                                                ((a' ≤ l.length ∧ List.take a' l = List.take a' l2) ∧
                                                    { π := m.π, sz := n, uf := m.uf : M } = { π := m.π, sz := n, uf := m.uf : M } ∧
                                                      ((SV.val (Value.int IntKind.i64 (IntKind.i64.wrap ((↑a_1 : Int) + (1 : Int)))) = SV.val (Value.int IntKind.i64 (↑a' : Int)) ∧
                                                            true = true) ∧
                                                          (SV.val (Value.slice a l.length c) = SV.val (Value.slice a l.length c) ∧ true = true) ∧
                                                            (SV.val (Value.slice a2 l2.length c2) = SV.val (Value.slice a2 l2.length c2) ∧ true = true) ∧ True) ∧
                                                        True) ∧
                                                  l.length - a' < l.length - a_1))
                  (Done (Value.bool true = Value.bool (decide (l = l2)))))) (by kernel_rfl) ?_
  have h' := h.sz hn
  have h2' := h2.sz hn
  refine ⟨rfl, ifB_intro (fun hb => ⟨?_⟩) (fun hb => ⟨⟨0, by simp⟩, fun k hk => ifB_intro (fun hb2 => ?_) (fun hb2 => ⟨?_⟩)⟩)⟩
  · have : l ≠ l2 := fun e => by subst e; simp at hb
    simp [this]
  · have hlen : l.length = l2.length := by simp at hb; omega
    have hk2 : k < l.length := by simpa using hb2
    obtain ⟨b, o, rfl, hc⟩ := h'.cells (by rw [ints_len]; omega)
    obtain ⟨b2, o2, rfl, hc2⟩ := h2'.cells (by rw [ints_len]; omega)
    refine ⟨rfl, b, o, rfl, by omega, l[k], by simpa using ints_at hc hk2, b2, o2, rfl, by omega, l2[k], by simpa using ints_at hc2 (by omega : k < l2.length), ifB_intro (fun h3 => ⟨?_⟩) (fun h3 => ⟨k + 1, ⟨⟨hk2, ?_⟩, rfl, ⟨⟨?_, rfl⟩, ⟨rfl, rfl⟩, ⟨rfl, rfl⟩, trivial⟩, trivial⟩, by omega⟩)⟩
    · have : l ≠ l2 := fun e => by subst e; simp at h3
      simp [this]
    · have h3 : l[k] = l2[k] := by simpa using h3
      rw [List.take_succ_eq_append_getElem hk2, List.take_succ_eq_append_getElem (by omega : k < l2.length), hk.2, h3]
    · simp [IntKind.wrap_i64]; omega
  · have hlen : l.length = l2.length := by simp at hb; omega
    have : k = l.length := by simp at hb2; omega
    have e := hk.2
    rw [this, List.take_length, hlen, List.take_length] at e
    simp [e]

/-- what 'Own' hands back -/
structure Owned (m : M) (cs marks : List Value) (len cap : Nat) (v : Value) (m' : M) : Prop where
  out : ∃ b, v = .slice (some ⟨b, 0, none⟩) len cap ∧ m.sz ≤ b ∧ b < m'.sz ∧ CellsAt m' b 0 (cs ++ marks)
theorem one_ints (l : List Int) : oneCells (ints l) = true := by
  induction l with
  | nil => rfl
  | cons x r ih => exact Bool.and_eq_true_iff.2 ⟨rfl, ih⟩
theorem own_q (a : Option Addr) (c : Nat) (l : List Int) (mk : Int) (hn : l.length ≤ 1048576) (m : M) (h : Row m a (ints l)) :
    Vc.Spec Try.prog 25 [.slice a l.length c, I mk] m (Owned m (ints l) [I mk, I mk] l.length (l.length + 2)) := by
  refine Vc.Spec.of_vc Try.func25 (ann := noAnn) ?_
  refine vc_by (X :=
      true = true ∧
        ((0 : Int) ≤ (0 : Int) ∧
            (0 : Int) ≤ IntKind.i64.wrap ((↑l.length : Int) + (2 : Int)) ∧
              (↑(8 : Nat) : Int) * IntKind.i64.wrap ((↑l.length : Int) + (2 : Int)) ≤ (281474976710656 : Int) ∧
                IntKind.i64.wrap ((↑l.length : Int) + (2 : Int)) ≤ (9223372036854775807 : Int)) ∧
          ∀ (b : Nat),
            m.sz ≤ b →
              ∃ (old : List Value),
                ∃ (src : List Value),
                  AppPre m.sz (fun (x : Nat) => False)
                      (m.newBlock b (madeCells #[Value.int IntKind.i64 (0 : Int)] ((IntKind.i64.wrap ((↑l.length : Int) + (2 : Int))).toNat * (1 : Nat))).toList) (1 : Nat) (8 : Nat)
                      (some { block := b, off := (0 : Nat) : Addr }) (0 : Nat) (IntKind.i64.wrap ((↑l.length : Int) + (2 : Int))).toNat a l.length old src ∧
                    ∀ (a' : Option Addr) (c' : Nat) (m' : M),
                      AppPost Try.prog (3 : Nat)
                          (m.newBlock b (madeCells #[Value.int IntKind.i64 (0 : Int)] ((IntKind.i64.wrap ((↑l.length : Int) + (2 : Int))).toNat * (1 : Nat))).toList) (1 : Nat)
                          (some { block := b, off := (0 : Nat) : Addr }) (0 : Nat) (IntKind.i64.wrap ((↑l.length : Int) + (2 : Int))).toNat l.length old src a' c' m' →
                        true = true ∧
                          ∀ (b : Nat),
                            m'.sz ≤ b →
                              ∃ (old : List Value),
                                ∃ (src : List Value),
                                  AppPre m.sz (fun (x : Nat) => False) (m'.newBlock b [Value.int IntKind.i64 mk, Value.int IntKind.i64 mk]) (1 : Nat) (8 : Nat) a' ((0 : Nat) + l.length)
                                      c' (some { block := b, off := (0 : Nat) : Addr }) (2 : Nat) old src ∧
                                    ∀ (a'_1 : Option Addr) (c'_1 : Nat) (m'_1 : M),
                                      AppPost Try.prog (3 : Nat) (m'.newBlock b [Value.int IntKind.i64 mk, Value.int IntKind.i64 mk]) (1 : Nat) a' ((0 : Nat) + l.length) c' (2 : Nat) old
                                          src a'_1 c'_1 m'_1 →
                                        (true = true ∧ (0 : Int) ≤ (0 : Int) ∧ (0 : Int) ≤ (↑l.length : Int) ∧ (↑l.length : Int) ≤ (↑c'_1 : Int) ∧ True) ∧
                                          Done
                                            (Owned m (ints l) [Value.int IntKind.i64 mk, Value.int IntKind.i64 mk] l.length (l.length + (2 : Nat))
                                              (Value.slice (if (↑c'_1 : Int).toNat = (0 : Nat) then a'_1 else Option.map (fun (x : Addr) => x) a'_1) ((↑l.length : Int).toNat - (0 : Nat))
                                                ((↑c'_1 : Int).toNat - (0 : Nat)))
                                              m'_1)) (by kernel_rfl) ?_
  have e : IntKind.i64.wrap ((l.length : Int) + 2) = ((l.length + 2 : Nat) : Int) := by simp [IntKind.wrap_i64]; omega
  rw [e]
  simp only [Int.toNat_natCast]
  refine ⟨trivial, by omega, fun b hb => ?_⟩
  have hz : ∀ k, (zeroRow Try.prog 3 k).length = k * 1 := zeroRow_len (z := I 0) rfl rfl rfl
  obtain ⟨p1, p2⟩ := owned_calc (P := Try.prog) (e := 3) (size := 1) (bytes := 8) (len := l.length) (m := m) (b := b) (z := (madeCells #[I 0] ((l.length + 2) * 1)).toList) (cs := ints l) (marks := [I mk, I mk]) hb h (by rw [ints_len]; omega) (one_ints l) rfl rfl hz (by simp [madeCells]) (by omega)
  refine ⟨[], ints l, p1, fun a' c' m' hp => ⟨trivial, fun b2 hb2 => ?_⟩⟩
  obtain ⟨p3, p4⟩ := p2 a' c' m' hp b2 hb2
  refine ⟨ints l, [I mk, I mk], p3, fun a'' c'' m'' hp2 => ?_⟩
  obtain ⟨rfl, rfl, q3, q4⟩ := p4 a'' c'' m'' hp2
  exact ⟨⟨trivial, by omega, by omega, by omega, trivial⟩, ⟨⟨b, by simp, hb, q3, q4⟩⟩⟩
theorem kept_q (b : Nat) (l : List Int) (a2 : Option Addr) (c2 : Nat) (mk : Int) (hn : l.length ≤ 1048576) (m : M) (hb : b < m.sz) (h : CellsAt m b 0 (ints l ++ [I mk, I mk])) (h2 : Row m a2 (ints l)) :
    QSpec Try.prog 28 [.slice (some ⟨b, 0, none⟩) l.length (l.length + 2), .slice a2 l.length c2, I mk] m (.bool true) := by
  refine QSpec.of_vc Try.func28 (ann := fun _ => noAnn) fun n hn => ?_
  refine vc_by (X :=
      true = true ∧
        ifB ((↑l.length : Int) != (↑l.length : Int)) (Done (Value.bool false = Value.bool true))
          (ifB (decide ((↑(l.length + (2 : Nat)) : Int) < IntKind.i64.wrap ((↑l.length : Int) + (2 : Int)))) (Done (Value.bool false = Value.bool true))
            ((true = true ∧
                (0 : Int) ≤ (0 : Int) ∧
                  (0 : Int) ≤ IntKind.i64.wrap ((↑l.length : Int) + (2 : Int)) ∧ IntKind.i64.wrap ((↑l.length : Int) + (2 : Int)) ≤ (↑(l.length + (2 : Nat)) : Int) ∧ True) ∧
              ∃ (b_1 : Bool),
                QSpec Try.prog (38 : Nat) [Value.slice (some { block := b, off := (0 : Nat) : Addr }) l.length (l.length + (2 : Nat)), Value.slice a2 l.length c2]
                    { π := m.π, sz := n, uf := m.uf : M } (Value.bool b_1) ∧
                  ifB b_1
                    (∃ (b_2 : Nat),
                      ∃ (off : Nat),
                        some { block := b, off := (0 : Nat) : Addr } = some { block := b_2, off := off : Addr } ∧
                          ((0 : Int) ≤ (↑l.length : Int) ∧ (↑l.length : Int) < (↑((IntKind.i64.wrap ((↑l.length : Int) + (2 : Int))).toNat - (0 : Nat)) : Int)) ∧
                            ∃ (n_1 : Int),
                              CellsAt { π := m.π, sz := n, uf := m.uf : M } b_2 (off + (↑l.length : Int).toNat * (1 : Nat)) [Value.int IntKind.i64 n_1] ∧
                                ifB (n_1 == mk)
                                  (∃ (b_3 : Nat),
                                    ∃ (off : Nat),
                                      some { block := b, off := (0 : Nat) : Addr } = some { block := b_3, off := off : Addr } ∧
                                        ((0 : Int) ≤ IntKind.i64.wrap ((↑l.length : Int) + (1 : Int)) ∧
                                            IntKind.i64.wrap ((↑l.length : Int) + (1 : Int)) < (↑((IntKind.i64.wrap ((↑l.length : Int) + (2 : Int))).toNat - (0 : Nat)) : Int)) ∧
                                          ∃ (n_2 : Int),
                                            CellsAt { π := m.π, sz := n, uf := m.uf : M } b_3 (off + (IntKind.i64.wrap ((↑l.length : Int) + (1 : Int))).toNat * (1 : Nat))
                                                [Value.int IntKind.i64 n_2] ∧
                                              Done (Value.bool (n_2 == mk) = Value.bool true))
                                  (Done (Value.bool false = Value.bool true)))
                    (Done (Value.bool false = Value.bool true))))) (by kernel_rfl) ?_
  have e : IntKind.i64.wrap ((l.length : Int) + 2) = ((l.length + 2 : Nat) : Int) := by simp [IntKind.wrap_i64]; omega
  have e1 : IntKind.i64.wrap ((l.length : Int) + 1) = ((l.length + 1 : Nat) : Int) := by simp [IntKind.wrap_i64]; omega
  rw [e, e1]
  simp only [Int.toNat_natCast]
  have hk := h.drop
  rw [ints_len] at hk
  have hq := plain_q (some ⟨b, 0, none⟩) a2 (l.length + 2) c2 l l (by omega) { m with sz := n } (.at _ _ _ (Nat.lt_of_lt_of_le hb hn) ⟨h.take.out⟩) (h2.sz hn)
  refine ⟨trivial, ifB_intro (fun h3 => by simp at h3) (fun h3 => ifB_intro (fun h4 => by simp at h4) (fun h4 => ⟨⟨trivial, by omega, by omega, by omega, trivial⟩, _, hq, ?_⟩))⟩
  have et : decide (l = l) = true := by simp
  rw [et]
  refine ⟨b, 0, by simp, by constructor <;> simp <;> omega, mk, ⟨fun j hj => ?_⟩, ifB_intro (fun h5 => ⟨b, 0, by simp, by constructor <;> simp <;> omega, mk, ⟨fun j hj => ?_⟩, ⟨by simp⟩⟩) (fun h5 => by simp at h5)⟩
  · have := hk.out 0 (by simp)
    simp at hj; subst hj
    simpa using this
  · have := hk.out 1 (by simp)
    simp at hj; subst hj
    simpa [Nat.add_assoc] using this
theorem numsums (a : Option Addr) (c : Nat) (l : List Int) (hl : ∀ x ∈ l, In64 x) (hn : l.length ≤ 1048576) (m : M) (h : Row m a (ints l)) : QSpec Try.prog 9 [.slice a l.length c] m (.bool true) := by
  refine QSpec.of_vc Try.func9 (ann := fun _ => noAnn) fun n hn => ?_
  refine vc_by (X :=
      true = true ∧
        ∀ (n_1 : Nat),
          n ≤ n_1 →
            Vc.Spec Try.prog (25 : Nat) [Value.slice a l.length c, Value.int IntKind.i64 (71 : Int)] { π := m.π, sz := n_1, uf := m.uf : M } fun (v : Value) (m' : M) =>
              ∃ (a_2 : Option Addr),
                ∃ (n : Nat),
                  ∃ (c_1 : Nat),
                    v = Value.slice a_2 n c_1 ∧
                      ∃ (n_2 : Int),
                        ∃ (n_3 : Int),
                          QSpec Try.prog (26 : Nat) [Value.slice a_2 n c_1] m' (Value.tuple #[Value.int IntKind.i64 n_2, Value.int IntKind.i64 n_3]) ∧
                            ∃ (n_4 : Int),
                              ∃ (n_5 : Int),
                                QSpec Try.prog (27 : Nat) [Value.slice a l.length c] m' (Value.tuple #[Value.int IntKind.i64 n_4, Value.int IntKind.i64 n_5]) ∧
                                  ∃ (b : Bool),
                                    QSpec Try.prog (13 : Nat) [] m' (Value.bool b) ∧
                                      ifB b
                                        (ifB (n_2 == n_4)
                                          (ifB (n_3 == n_5)
                                            (∃ (b : Bool),
                                              QSpec Try.prog (28 : Nat) [Value.slice a_2 n c_1, Value.slice a l.length c, Value.int IntKind.i64 (71 : Int)] m' (Value.bool b) ∧
                                                Done (Value.bool b = Value.bool true))
                                            (Done (Value.bool false = Value.bool true)))
                                          (Done (Value.bool false = Value.bool true)))
                                        (Done (Value.bool false = Value.bool true))) (by kernel_rfl) ?_
  refine ⟨rfl, fun n1 hn1 => (own_q a c l 71 (by assumption) _ (h.sz (by omega))).mono fun v m' hag ⟨b, hv, hb1, hb2, hc⟩ => ⟨_, _, _, hv, ?_⟩⟩
  have hr := (h.sz (n := n1) (by omega)).agree hag
  refine ⟨_, _, sum_q _ _ l hl (by omega) m' (.at _ _ _ hb2 hc.take), _, _, rsum_q a c l hl (by omega) m' hr, _, awake_q _, ?_⟩
  refine ifB_true ?_
  simp only [beq_self_eq_true]
  exact ifB_true (ifB_true ⟨_, kept_q b l a c 71 (by assumption) m' hb2 hc hr, ⟨rfl⟩⟩)
end Go.Proofs.Ytfagpihpelgmiaa
