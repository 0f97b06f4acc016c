/-
  Contracts of functions of this seat: what each hands back, and what it leaves of memory (wit9). Nothing here is trusted: Lean checks it.
-/
import Derived.Test.YtbhlhnkjmncloaaSrt3
set_option linter.unusedVariables false
set_option linter.unusedSimpArgs false
namespace Go.Proofs.Ytbhlhnkjmncloaa
open Go.Vc Go.RowKit
set_option maxRecDepth 100000

theorem isnan_q (x : Int) (m : M) : QSpec Try.prog 69 [I x] m (.bool false) := by
  refine QSpec.of_vc Try.func69 (ann := fun _ => noAnn) fun n hn => ?_
  refine vc_by (X :=
      true = true ∧ Done (Value.bool (x != x) = Value.bool false)) (by kernel_rfl) ?_
  exact ⟨rfl, ⟨by simp⟩⟩

def cmpI (x y : Int) : Int := if x < y then -1 else if x > y then 1 else 0

theorem cmpI_lt (x y : Int) : cmpI x y < 0 ↔ x < y := by unfold cmpI; split; simp; assumption; split <;> simp <;> omega

theorem compareI_q (x y : Int) (m : M) : QSpec Try.prog 59 [I x, I y] m (I (cmpI x y)) := by
  refine QSpec.of_vc Try.func59 (ann := fun _ => noAnn) fun n hn => ?_
  refine vc_by (X :=
      true = true ∧
      ∃ (b : Bool),
      QSpec Try.prog (69 : Nat) [Value.int IntKind.i64 x] { π := m.π, sz := n, uf := m.uf : M } (Value.bool b) ∧
      ∃ (b_1 : Bool),
      QSpec Try.prog (69 : Nat) [Value.int IntKind.i64 y] { π := m.π, sz := n, uf := m.uf : M } (Value.bool b_1) ∧
      ifB b (ifB b_1 (Done (Value.int IntKind.i64 (0 : Int) = Value.int IntKind.i64 (cmpI x y))) (Done (Value.int IntKind.i64 (-1 : Int) = Value.int IntKind.i64 (cmpI x y))))
      (ifB b_1 (Done (Value.int IntKind.i64 (1 : Int) = Value.int IntKind.i64 (cmpI x y)))
      (ifB (decide (x < y)) (Done (Value.int IntKind.i64 (-1 : Int) = Value.int IntKind.i64 (cmpI x y)))
      (ifB (decide (x > y)) (Done (Value.int IntKind.i64 (1 : Int) = Value.int IntKind.i64 (cmpI x y)))
      (Done (Value.int IntKind.i64 (0 : Int) = Value.int IntKind.i64 (cmpI x y))))))) (by kernel_rfl) ?_
  refine ⟨rfl, _, isnan_q x _, _, isnan_q y _, ifB_false (ifB_false (ifB_intro (fun h => ⟨?_⟩) (fun h => ifB_intro (fun h2 => ⟨?_⟩) (fun h2 => ⟨?_⟩))))⟩
  · simp at h; simp [cmpI, h]
  · simp at h h2; simp [cmpI, h2]; omega
  · simp at h h2; simp [cmpI]; omega

/-- what the comparing closure looks at -/
structure EnvC (bl : Nat) (al : Option Addr) (cl : Nat) (l : List Cl) (m : M) : Prop where
  box : CellsAt m bl 0 [.slice al l.length cl]
  row : Row m al (cls l)

theorem order1_q (bl : Nat) (al : Option Addr) (cl : Nat) (l : List Cl) (x y : Nat) (hx : x < l.length) (hy : y < l.length) (hn : l.length ≤ 9223372036854775807) (m : M) (E : EnvC bl al cl l m) :
    QSpec Try.prog 58 [I x, I y, .pointer (some ⟨bl, 0, none⟩)] m (I (cmpI (moA l x) (moA l y))) := by
  refine QSpec.of_vc Try.func58 (ann := fun _ => noAnn) fun n hn => ?_
  refine vc_by (X :=
      true = true ∧
      true = true ∧
      ∃ (a : Option Addr),
      ∃ (n_1 : Nat),
      ∃ (c : Nat),
      CellsAt { π := m.π, sz := n, uf := m.uf : M } bl (0 : Nat) [Value.slice a n_1 c] ∧
      ∃ (b : Nat),
      ∃ (off : Nat),
      a = some { block := b, off := off : Addr } ∧
      ((0 : Int) ≤ (↑x : Int) ∧ (↑x : Int) < (↑n_1 : Int)) ∧
      ∃ (n_2 : Int),
      CellsAt { π := m.π, sz := n, uf := m.uf : M } b (off + (↑x : Int).toNat * (16 : Nat) + (10 : Nat)) [Value.int IntKind.i64 n_2] ∧
      ∃ (a : Option Addr),
      ∃ (n_3 : Nat),
      ∃ (c : Nat),
      CellsAt { π := m.π, sz := n, uf := m.uf : M } bl (0 : Nat) [Value.slice a n_3 c] ∧
      ∃ (b : Nat),
      ∃ (off : Nat),
      a = some { block := b, off := off : Addr } ∧
      ((0 : Int) ≤ (↑y : Int) ∧ (↑y : Int) < (↑n_3 : Int)) ∧
      ∃ (n_4 : Int),
      CellsAt { π := m.π, sz := n, uf := m.uf : M } b (off + (↑y : Int).toNat * (16 : Nat) + (10 : Nat)) [Value.int IntKind.i64 n_4] ∧
      ∃ (n_5 : Int),
      QSpec Try.prog (59 : Nat) [Value.int IntKind.i64 n_2, Value.int IntKind.i64 n_4] { π := m.π, sz := n, uf := m.uf : M }
      (Value.int IntKind.i64 n_5) ∧
      Done (Value.int IntKind.i64 n_5 = Value.int IntKind.i64 (cmpI (moA l x) (moA l y)))) (by kernel_rfl) ?_
  have h' := E.row.sz hn
  obtain ⟨b, o, rfl, hc⟩ := h'.cells (by rw [cl_len]; omega)
  have c1 := CellsAt.field cl_k hc hx (p := [I l[x].cl, I l[x].sq, I l[x].nd, I l[x].op_kd, .string l[x].op_ky, .string l[x].op_ot, I l[x].op_n, I l[x].op_lo, I l[x].op_hi, I l[x].ca]) (old := [I l[x].mo]) (q := [I l[x].aw, I l[x].an_er, I l[x].an_va, I l[x].an_le, I l[x].an_mo]) rfl
  have c2 := CellsAt.field cl_k hc hy (p := [I l[y].cl, I l[y].sq, I l[y].nd, I l[y].op_kd, .string l[y].op_ky, .string l[y].op_ot, I l[y].op_n, I l[y].op_lo, I l[y].op_hi, I l[y].ca]) (old := [I l[y].mo]) (q := [I l[y].aw, I l[y].an_er, I l[y].an_va, I l[y].an_le, I l[y].an_mo]) rfl
  refine ⟨rfl, rfl, _, _, _, ⟨E.box.out⟩, b, o, rfl, by omega, _, by simpa using c1, _, _, _, ⟨E.box.out⟩, b, o, rfl, by omega, _, by simpa using c2, _, compareI_q _ _ _, ⟨?_⟩⟩
  rw [moA_at hx, moA_at hy]

theorem EnvC.sz {bl : Nat} {al : Option Addr} {cl : Nat} {l : List Cl} {m : M} (E : EnvC bl al cl l m) {n : Nat} (hn : m.sz ≤ n) : EnvC bl al cl l { m with sz := n } := ⟨⟨E.box.out⟩, E.row.sz hn⟩

def mofI (l : List Cl) (x : Int) : Int := moA l x.toNat

theorem cmpC (b bl : Nat) (al : Option Addr) (cl : Nat) (l : List Cl) (hn : l.length ≤ 9223372036854775807) (h1 : bl ≠ b) (h2 : l ≠ [] → ∀ b' o', al = some ⟨b', o', none⟩ → b' ≠ b) : CmpC b bl (EnvC bl al cl l) (fun x => 0 ≤ x ∧ x < l.length) (mofI l) := by
  refine ⟨fun m E x y ⟨x0, x1⟩ ⟨y0, y1⟩ => ?_, fun m n E hn => E.sz hn, fun m o cs E => ⟨E.box.of (setCells_other h1), ?_⟩⟩
  · obtain ⟨i, rfl⟩ := Int.eq_ofNat_of_zero_le x0
    obtain ⟨j, rfl⟩ := Int.eq_ofNat_of_zero_le y0
    exact ⟨_, order1_q bl al cl l i j (by omega) (by omega) hn m E, cmpI_lt _ _⟩
  · by_cases e : l = []
    · subst e; have := E.row; rw [show cls [] = [] from rfl]; exact .nil _
    · exact E.row.of (Nat.le_refl _) fun b' o' e2 _ => setCells_other (h2 e b' o' e2)

abbrev encN (i : Nat) : List Value := [I i]
abbrev nsv (l : List Nat) : List Value := l.flatMap encN
theorem ns_k (i : Nat) : (encN i).length = 1 := rfl
theorem ns_len (l : List Nat) : (nsv l).length = l.length := by rw [flat_len ns_k]; omega
theorem ns_at {m : M} {b o i : Nat} {l : List Nat} (h : CellsAt m b o (nsv l)) (hi : i < l.length) : CellsAt m b (o + i * 1) (encN l[i]) := CellsAt.elem ns_k l o i hi h
theorem ns_zr (k : Nat) : (zeroRow Try.prog 3 k).length = k * 1 := zrLen (by kernel_rfl) k

/-- the numbers, as the sort has them -/
def gN (l : List Nat) (j : Nat) : Int := ((l[j]?).getD 0 : Nat)

theorem srt_list {l : List Cl} {L : List Nat} {g' : Nat → Int} (hL : ∀ i, i ∈ L ↔ i < l.length ∧ 0 < moA l i) (hm : Go.Proofs.Ytbhlhnkjmncloaa.Mem 0 L.length (gN L) g') (hs : Srt (mofI l) 0 L.length g') : ∀ j (h : j < (ordL l).length), j < L.length ∧ g' j = ((ordL l)[j] : Nat) := by
  have hnn : ∀ j, j < L.length → 0 ≤ g' j := fun j hj => by
    obtain ⟨k, -, h2, h3⟩ := hm.into j (Nat.zero_le _) hj
    rw [h3]; unfold gN; omega
  have e : (List.range L.length).map (fun j => (g' j).toNat) = ordL l := by
    refine IsOrd.uniq (l := l) (p := fun i => i < l.length ∧ 0 < moA l i) ⟨?_, fun i => ?_⟩ (ordL_is l)
    · rw [List.pairwise_map]
      refine (List.Pairwise.and_mem.1 List.pairwise_lt_range).imp fun {a b} ⟨ha, hb, hab⟩ => ?_
      rw [List.mem_range] at ha hb
      have := hs a b (Nat.zero_le _) hab hb
      have h1 := hnn a ha
      have h2 := hnn b hb
      unfold lexN mofI at this
      unfold lexC
      omega
    · rw [← hL, List.mem_map]
      constructor
      · rintro ⟨j, hj, rfl⟩
        rw [List.mem_range] at hj
        obtain ⟨k, -, h2, h3⟩ := hm.into j (Nat.zero_le _) hj
        rw [h3]
        simp only [gN, List.getElem?_eq_getElem h2, Option.getD_some, Int.toNat_natCast]
        exact List.getElem_mem _
      · intro hi
        obtain ⟨k, hk, rfl⟩ := List.mem_iff_getElem.1 hi
        obtain ⟨j, -, h2, h3⟩ := hm.back k (Nat.zero_le _) hk
        refine ⟨j, List.mem_range.2 h2, ?_⟩
        rw [h3]
        simp only [gN, List.getElem?_eq_getElem hk, Option.getD_some, Int.toNat_natCast]
  intro j hj
  have hlen : (ordL l).length = L.length := by rw [← e]; simp
  refine ⟨by omega, ?_⟩
  have h1 : (ordL l)[j]? = some (g' j).toNat := by rw [← e]; simp [show j < L.length by omega]
  rw [List.getElem?_eq_getElem hj] at h1
  have h2 : (ordL l)[j] = (g' j).toNat := Option.some.inj h1
  rw [h2]
  have := hnn j (by omega)
  omega

theorem nsv_map : ∀ L : List Nat, nsv L = L.map fun i => I (i : Nat)
  | [] => rfl
  | x :: xs => by
    show encN x ++ nsv xs = _
    rw [nsv_map xs]; rfl

theorem own_data {B n c : Nat} {m : M} {a : Option Addr} {L : List Nat} {cs : List Value} (h : NewR B (fun _ => False) m 1 a n c cs) (hn : n = L.length) (hcs : cs = nsv L) : ∃ b o, (0 < L.length → a = some ⟨b, o, none⟩) ∧ (∀ j, j < L.length → m.π b (o + j) = some (I (gN L j))) ∧ (0 < L.length → m.uf b) ∧ (B ≤ b) ∧ (0 < L.length → b < m.sz) := by
  have z : ∀ P : Prop, n = 0 → (0 < L.length → P) := fun P h1 h2 => by omega
  cases h with
  | nil => exact ⟨B, 0, z _ rfl, fun j hj => by omega, z _ rfl, Nat.le_refl _, z _ rfl⟩
  | own ho =>
    cases ho with
    | nil => exact ⟨B, 0, z _ rfl, fun j hj => by omega, z _ rfl, Nat.le_refl _, z _ rfl⟩
    | «at» b o len cap cs rest lo lt uf hc hl hr hcap =>
      refine ⟨b, o, fun _ => rfl, fun j hj => ?_, fun _ => uf, lo.resolve_right id, fun _ => lt⟩
      have := hc.take.out j (by rw [hcs, ns_len]; exact hj)
      rw [this, hcs, nsv_map]
      simp [gN, List.getElem?_eq_getElem hj]

structure OrX where
  k : Nat
  a : Option Addr
  c : Nat
  m : M

structure OrI (l : List Cl) (m : M) (y : OrX) : Prop where
  k : y.k ≤ l.length
  out : NewR m.sz (fun _ => False) y.m 1 y.a (idxL l y.k).length y.c (nsv (idxL l y.k))
  ag : Agree m.sz m y.m

theorem worder_s (a : Option Addr) (cp : Nat) (l : List Cl) (hn : l.length ≤ 4194304) (m : M) (h : Row m a (cls l)) : Vc.Spec Try.prog 46 [.slice a l.length cp] m fun v m' => ∃ a' c', v = .slice a' (ordL l).length c' ∧ Row m' a' (nsv (ordL l)) := by
  refine Vc.Spec.of_vc Try.func46 (ann := fun _ => { A := OrX, inv := OrI l m, st := fun y => [(8, .val (I y.k)), (7, .val (I l.length)), (6, .val (.slice a l.length cp)), (3, .val (.slice y.a (idxL l y.k).length y.c)), (1, .own 0 0)], own := fun _ => [(0, ⟨48, [.slice a l.length cp]⟩)], m := fun y => y.m, μ := fun y => l.length - y.k }) ?_
  refine vc_by (X :=
      true = true ∧
      (∃ (a_1 : OrX),
      OrI l m a_1 ∧
      m = a_1.m ∧
      ((SV.val (Value.int IntKind.i64 (0 : Int)) = SV.val (Value.int IntKind.i64 (↑a_1.k : Int)) ∧ true = true) ∧
      (SV.val (Value.int IntKind.i64 (↑l.length : Int)) = SV.val (Value.int IntKind.i64 (↑l.length : Int)) ∧ true = true) ∧
      (SV.val (Value.slice a l.length cp) = SV.val (Value.slice a l.length cp) ∧ true = true) ∧
      (SV.val (Value.slice none (0 : Nat) (0 : Nat)) = SV.val (Value.slice a_1.a (idxL l a_1.k).length a_1.c) ∧ true = true) ∧
      (SV.own ((0 : Nat) + (0 : Nat)) (0 : Nat) = SV.own (0 : Nat) (0 : Nat) ∧ true = true) ∧ True) ∧
      (some { ty := (48 : Nat), cs := [Value.slice a l.length cp] : Bx } = some { ty := (48 : TypeId), cs := [Value.slice a l.length cp] : Bx } ∧ true = true) ∧ True) ∧
      ∀ (a_1 : OrX),
      OrI l m a_1 →
      ifB (decide ((↑a_1.k : Int) < (↑l.length : Int)))
      (∃ (b : Nat),
      ∃ (off : Nat),
      a = some { block := b, off := off : Addr } ∧
      ((0 : Int) ≤ (↑a_1.k : Int) ∧ (↑a_1.k : Int) < (↑l.length : Int)) ∧
      ∃ (n : Int),
      ∃ (n_1 : Int),
      ∃ (n_2 : Int),
      ∃ (n_3 : Int),
      ∃ (s : ByteArray),
      ∃ (s_1 : ByteArray),
      ∃ (n_4 : Int),
      ∃ (n_5 : Int),
      ∃ (n_6 : Int),
      ∃ (n_7 : Int),
      ∃ (n_8 : Int),
      ∃ (n_9 : Int),
      ∃ (n_10 : Int),
      ∃ (n_11 : Int),
      ∃ (n_12 : Int),
      ∃ (n_13 : Int),
      CellsAt a_1.m b (off + (↑a_1.k : Int).toNat * (16 : Nat))
      [Value.int IntKind.i64 n, Value.int IntKind.i64 n_1, Value.int IntKind.i64 n_2, Value.int IntKind.i64 n_3, Value.string s,
      Value.string s_1, Value.int IntKind.i64 n_4, Value.int IntKind.i64 n_5, Value.int IntKind.i64 n_6,
      Value.int IntKind.i64 n_7, Value.int IntKind.i64 n_8, Value.int IntKind.i64 n_9, Value.int IntKind.i64 n_10,
      Value.int IntKind.i64 n_11, Value.int IntKind.i64 n_12, Value.int IntKind.i64 n_13] ∧
      ifB (decide (n_8 > (0 : Int)))
      (true = true ∧
      ∀ (b : Nat),
      a_1.m.sz ≤ b →
      ∃ (old : List Value),
      ∃ (src : List Value),
      AppPre m.sz (fun (x : Nat) => False) (a_1.m.newBlock b [Value.int IntKind.i64 (↑a_1.k : Int)]) (1 : Nat) (8 : Nat)
      a_1.a (idxL l a_1.k).length a_1.c (some { block := b, off := (0 : Nat) : Addr }) (1 : Nat) old src ∧
      ∀ (a' : Option Addr) (c' : Nat) (m' : M),
      AppPost Try.prog (3 : Nat) (a_1.m.newBlock b [Value.int IntKind.i64 (↑a_1.k : Int)]) (1 : Nat) a_1.a
      (idxL l a_1.k).length a_1.c (1 : Nat) old src a' c' m' →
      ∃ (a'_1 : OrX),
      (OrI l m a'_1 ∧
      m' = a'_1.m ∧
      ((SV.val (Value.int IntKind.i64 (IntKind.i64.wrap ((↑a_1.k : Int) + (1 : Int)))) =
      SV.val (Value.int IntKind.i64 (↑a'_1.k : Int)) ∧
      true = true) ∧
      (SV.val (Value.int IntKind.i64 (↑l.length : Int)) =
      SV.val (Value.int IntKind.i64 (↑l.length : Int)) ∧
      true = true) ∧
      (SV.val (Value.slice a l.length cp) = SV.val (Value.slice a l.length cp) ∧ true = true) ∧
      (SV.val (Value.slice a' ((idxL l a_1.k).length + (1 : Nat)) c') =
      SV.val (Value.slice a'_1.a (idxL l a'_1.k).length a'_1.c) ∧
      true = true) ∧
      (SV.own (0 : Nat) (0 : Nat) = SV.own (0 : Nat) (0 : Nat) ∧ true = true) ∧ True) ∧
      (some { ty := (48 : TypeId), cs := [Value.slice a l.length cp] : Bx } =
      some { ty := (48 : TypeId), cs := [Value.slice a l.length cp] : Bx } ∧
      true = true) ∧
      True) ∧
      l.length - a'_1.k < l.length - a_1.k)
      (∃ (a' : OrX),
      (OrI l m a' ∧
      a_1.m = a'.m ∧
      ((SV.val (Value.int IntKind.i64 (IntKind.i64.wrap ((↑a_1.k : Int) + (1 : Int)))) =
      SV.val (Value.int IntKind.i64 (↑a'.k : Int)) ∧
      true = true) ∧
      (SV.val (Value.int IntKind.i64 (↑l.length : Int)) = SV.val (Value.int IntKind.i64 (↑l.length : Int)) ∧
      true = true) ∧
      (SV.val (Value.slice a l.length cp) = SV.val (Value.slice a l.length cp) ∧ true = true) ∧
      (SV.val (Value.slice a_1.a (idxL l a_1.k).length a_1.c) =
      SV.val (Value.slice a'.a (idxL l a'.k).length a'.c) ∧
      true = true) ∧
      (SV.own (0 : Nat) (0 : Nat) = SV.own (0 : Nat) (0 : Nat) ∧ true = true) ∧ True) ∧
      (some { ty := (48 : TypeId), cs := [Value.slice a l.length cp] : Bx } =
      some { ty := (48 : TypeId), cs := [Value.slice a l.length cp] : Bx } ∧
      true = true) ∧
      True) ∧
      l.length - a'.k < l.length - a_1.k))
      (∀ (b : Nat),
      Fresh m.sz a_1.m b →
      ∃ (S' : Nat → Prop),
      (∀ (b_1 : Nat), S' b_1 → (a_1.m.newBlock b [Value.slice a l.length cp]).uf b_1 ∧ (m.sz ≤ b_1 ∨ False)) ∧
      ∀ (n : Nat),
      max a_1.m.sz (b + (1 : Nat)) ≤ n →
      SpecW Try.prog (57 : Nat)
      [Value.slice a_1.a (idxL l a_1.k).length a_1.c, Value.func (Fn.func (58 : Nat)) #[] #[Value.pointer (some { block := b, off := (0 : Nat) : Addr })]]
      { π := (a_1.m.newBlock b [Value.slice a l.length cp]).π, sz := n, uf := (a_1.m.newBlock b [Value.slice a l.length cp]).uf : M } S'
      fun (v : Value) (m' : M) =>
      v = Value.tuple #[] ∧
      Done (∃ (a' : Option Addr), ∃ (c' : Nat), Value.slice a_1.a (idxL l a_1.k).length a_1.c = Value.slice a' (ordL l).length c' ∧ Row m' a' (nsv (ordL l))))) (by kernel_rfl) ?_
  have mv : ∀ k (hk : k < l.length), moA l k = l[k].mo := fun k hk => moA_at hk
  refine ⟨rfl, ⟨⟨0, none, 0, m⟩, ⟨Nat.zero_le _, .nil _, Agree.refl _ _⟩, rfl, by simp [idxL], by simp⟩, fun y Y => ifB_intro (fun hb => ?_) (fun hb bx hbx => ?_)⟩
  · have hk : y.k < l.length := by simpa using hb
    obtain ⟨b, o, rfl, hc⟩ := (h.agree Y.ag).cells (by rw [cl_len]; omega)
    have w1 : IntKind.i64.wrap ((y.k : Int) + 1) = ((y.k + 1 : Nat) : Int) := by simp [IntKind.wrap_i64]; omega
    have es := idxL_succ l y.k
    have hle := idxL_len l y.k
    refine ⟨b, o, rfl, by omega, _, _, _, _, _, _, _, _, _, _, _, _, _, _, _, _, by simpa using cl_at hc hk, ifB_intro (fun h1 => ⟨rfl, fun b2 hb2 => ?_⟩) (fun h1 => ?_)⟩
    · have h1 : 0 < moA l y.k := by rw [mv _ hk]; simpa using h1
      rw [if_pos h1] at es
      obtain ⟨p1, p2⟩ := Y.out.push (P := Try.prog) (e := 3) (bytes := 8) (src := encN y.k) hb2 Y.ag.2.2 rfl rfl (by omega) ns_zr
      refine ⟨_, _, p1, fun a' c' m' hp => ?_⟩
      obtain ⟨g1, g2⟩ := p2 a' c' m' hp
      refine ⟨⟨y.k + 1, a', c', m'⟩, ⟨⟨hk, ?_, Y.ag.trans g2⟩, rfl, by simp [w1, es], by simp⟩, by simp only; omega⟩
      simp only
      rw [es, List.length_append, show nsv (idxL l y.k ++ [y.k]) = nsv (idxL l y.k) ++ encN y.k by simp [nsv]]
      exact g1
    · have h1 : ¬ 0 < moA l y.k := by rw [mv _ hk]; simpa using h1
      rw [if_neg h1, List.append_nil] at es
      exact ⟨⟨y.k + 1, y.a, y.c, y.m⟩, ⟨⟨hk, by simp only; rw [es]; exact Y.out, Y.ag⟩, rfl, by simp [w1, es], by simp⟩, by simp only; omega⟩
  · have hk : y.k = l.length := by have := Y.k; simp at hb; omega
    have hout := Y.out
    rw [hk] at hout ⊢
    have hle := idxL_len l l.length
    have hlt : ∀ hne : cls l ≠ [], ∀ b' o', a = some ⟨b', o', none⟩ → b' < m.sz := fun hne b' o' e => h.lt hne e
    have hr : Row (y.m.newBlock bx [.slice a l.length cp]) a (cls l) := (h.agree Y.ag).fresh hbx fun hne b' o' e => hlt hne b' o' e
    have hbox : CellsAt (y.m.newBlock bx [.slice a l.length cp]) bx 0 [.slice a l.length cp] := cellsAt_new
    have hne : l ≠ [] → cls l ≠ [] := fun h e => h (List.eq_nil_of_length_eq_zero (by have := cl_len l; rw [e] at this; simp at this; omega))
    obtain ⟨b, o, hav, hcell, huf, hlo, hblt⟩ : ∃ b o, (0 < (idxL l l.length).length → y.a = some ⟨b, o, none⟩) ∧ (∀ j, j < (idxL l l.length).length → y.m.π b (o + j) = some (I (gN (idxL l l.length) j))) ∧ (0 < (idxL l l.length).length → y.m.uf b) ∧ (m.sz ≤ b) ∧ (0 < (idxL l l.length).length → b < y.m.sz) := own_data hout rfl rfl
    have hS : ∀ z, (0 < (idxL l l.length).length ∧ z = b) → (y.m.newBlock bx [.slice a l.length cp]).uf z ∧ (m.sz ≤ z ∨ False) := fun z ⟨h0, e⟩ => by subst e; exact ⟨.inr (huf h0), .inl hlo⟩
    by_cases h0 : 0 < (idxL l l.length).length
    · have hbb : bx ≠ b := fun e => by subst e; exact hbx.uf (huf h0)
      have hC := cmpC b bx a cp l (by omega) hbb (fun hl b' o' e e2 => by have := hlt (hne hl) b' o' e; omega)
      refine ⟨fun z => 0 < (idxL l l.length).length ∧ z = b, hS, fun N hN => (sortstable_s y.a b o (idxL l l.length).length y.c bx hav _ _ _ hC (gN (idxL l l.length)) (by omega) ?_ { y.m.newBlock bx [.slice a l.length cp] with sz := N } ⟨fun j hj => ?_, fun h0 => .inr (huf h0), fun h0 => ?_, ⟨⟨hbox.out⟩, hr.sz (by simp only [M.newBlock]; exact hN)⟩, fun j hj => ?_⟩).mono fun v m' hag ⟨e, g', hd, hm, hs⟩ => ⟨e, ?_⟩⟩
      · intro i j h1 h2 h3 _
        have hlt2 := List.pairwise_iff_getElem.1 (idxL_lt l l.length) i j (by omega) h3 h2
        simp only [gN, List.getElem?_eq_getElem h3, List.getElem?_eq_getElem (show i < (idxL l l.length).length by omega), Option.getD_some]
        omega
      · simp only
        rw [newBlock_other (Ne.symm hbb)]; exact hcell j hj
      · have := hblt h0
        simp only [M.newBlock] at hN ⊢; omega
      · have := (idxL_mem.1 (List.getElem_mem hj)).1
        simp only [gN, List.getElem?_eq_getElem hj, Option.getD_some]
        omega
      · have hs2 := srt_list (L := idxL l l.length) (fun i => idxL_mem) hm hs
        have hlen : (ordL l).length = (idxL l l.length).length := (List.mergeSort_perm _ _).length_eq
        refine ⟨⟨y.a, y.c, by rw [hlen], ?_⟩⟩
        rw [hav h0]
        refine .at _ _ _ (hd.lt h0) ⟨fun j hj => ?_⟩
        rw [ns_len] at hj
        obtain ⟨h1, h2⟩ := hs2 j hj
        rw [hd.cell j h1, h2, nsv_map]
        simp [List.getElem?_eq_getElem hj]
    · have hz : (idxL l l.length).length = 0 := by omega
      have hL : idxL l l.length = [] := List.eq_nil_of_length_eq_zero hz
      have ho : ordL l = [] := by unfold ordL; rw [hL]; simp
      have hC := cmpC (bx + 1 + y.m.sz + m.sz) bx a cp l (by omega) (by omega) (fun hl b' o' e e2 => by have := hlt (hne hl) b' o' e; omega)
      rw [hz]
      refine ⟨fun z => 0 < 0 ∧ z = bx + 1 + y.m.sz + m.sz, fun z ⟨h0, _⟩ => by omega, fun N hN => (sortstable_s y.a _ 0 0 y.c bx (by omega) _ _ _ hC (gN []) (by omega) (fun i j h1 h2 h3 => by omega) { y.m.newBlock bx [.slice a l.length cp] with sz := N } ⟨fun j hj => by omega, fun h0 => by omega, fun h0 => by omega, ⟨⟨hbox.out⟩, hr.sz (by simp only [M.newBlock]; exact hN)⟩, fun j hj => by omega⟩).mono fun v m' hag ⟨e, g', hd, hm, hs⟩ => ⟨e, ⟨⟨y.a, y.c, by rw [ho]; rfl, by rw [ho]; exact .nil _⟩⟩⟩⟩

end Go.Proofs.Ytbhlhnkjmncloaa
