/-
  Contracts of functions of this seat: what each hands back, and what it leaves of memory (acc25). Nothing here is trusted: Lean checks it.
-/
import Derived.Test.YtlifpjllhibdpaaAcc24
set_option linter.unusedVariables false
set_option linter.unusedSimpArgs false
namespace Go.Proofs.Ytlifpjllhibdpaa
open Go.Vc Go.RowKit
set_option maxRecDepth 100000

theorem netOf_in {h : Hd} (h1 : 0 ≤ h.up) (h2 : 0 ≤ h.dn) (ns : List Int) (i : Nat) : -h.dn ≤ netOf h ns i ∧ netOf h ns i ≤ h.up := by
  unfold netOf
  split <;> omega

theorem sumI_take_le (l : List Int) (h : ∀ z ∈ l, 0 ≤ z) (k : Nat) : sumI (l.take k) ≤ sumI l := by
  have e := sumI_append (l.take k) (l.drop k)
  rw [List.take_append_drop] at e
  have := sumI_nonneg (l.drop k) fun z hz => h z (List.mem_of_mem_drop hz)
  omega

theorem nets_in (hs : List Hd) (ns : List Int) (h : ∀ z ∈ hs, 0 ≤ z.up ∧ 0 ≤ z.dn) : ∀ k, k ≤ hs.length → -(sumI ((hs.map (·.dn)).take k)) ≤ netsSum hs ns k ∧ netsSum hs ns k ≤ sumI ((hs.map (·.up)).take k)
  | 0, _ => by simp [netsSum, sumI]
  | k + 1, hk => by
    have ih := nets_in hs ns h k (by omega)
    have hk' : k < hs.length := by omega
    have hm := h _ (List.getElem_mem hk')
    have hn := netOf_in hm.1 hm.2 ns k
    rw [sumI_take _ k (by simpa using hk'), sumI_take _ k (by simpa using hk')]
    simp only [netsSum, List.getElem?_eq_getElem hk', List.getElem_map]
    omega

/-- whatever the holders spend, within what they have: the total is within the bounds -/
theorem nets_bound {x : Ac} (hr : rightB x = true) (ns : List Int) {k : Nat} (hk : k ≤ x.hs.length) : x.lo ≤ x.base + netsSum x.hs ns k ∧ x.base + netsSum x.hs ns k ≤ x.hi := by
  have hp := (right_iff x).1 hr
  have hm := hold_mem _ _ hp.hold
  have h1 := nets_in x.hs ns (fun z hz => ⟨(hm z hz).2.2.2.1, (hm z hz).2.2.2.2⟩) k hk
  have h2 := sumI_take_le (x.hs.map (·.up)) (fun z hz => by obtain ⟨w, hw, rfl⟩ := List.mem_map.1 hz; exact (hm w hw).2.2.2.1) k
  have h3 := sumI_take_le (x.hs.map (·.dn)) (fun z hz => by obtain ⟨w, hw, rfl⟩ := List.mem_map.1 hz; exact (hm w hw).2.2.2.2) k
  have h4 := hp.up
  have h5 := hp.dn
  have h6 := sumI_neg x.hs (·.dn)
  simp only [upsL, dnsL, sumI_cons] at h4 h5
  omega

def leAnn (x : Ac) (ap : Option Addr) (cs len : Nat) (ns : Int) (sp : Option Addr) (cp : Nat) (ss : List Int) (m : M) : Nat → Ann
  | 14 => {
    A := StX
    inv := fun y => StI x ss.length m { y with k := 0 } ∧ y.k ≤ y.X.hs.length
    st := fun y => [(18, .val (I y.k)), (13, .own 6 0), (5, .val (.slice sp ss.length cp)), (17, .own 22 0)]
    own := fun y => [(6, ⟨28, acc y.X y.a y.c⟩), (22, ⟨52, [I (wideHi (y.X.base + netsSum y.X.hs ss y.k)), U (wideLo (y.X.base + netsSum y.X.hs ss y.k))]⟩)]
    m := fun y => y.m
    μ := fun y => y.X.hs.length - y.k }
  | _ => {
    A := StX
    inv := StI x len m
    st := fun y => [(14, .val (I y.k)), (3, .val (.slice ap len cs)), (13, .own 6 0), (4, .val (I ns)), (5, .val (.slice sp ss.length cp))]
    own := fun y => [(6, ⟨28, acc y.X y.a y.c⟩)]
    m := fun y => y.m
    μ := fun y => len - y.k }

theorem accountlent (key : ByteArray) (lo hi base : Int) (ap : Option Addr) (cs : Nat) (ops : List OpA) (ns : Int) (pp : Option Addr) (cp : Nat) (ss : List Int) (hkey : key.size ≤ 9223372036854775807) (hlo : In64 lo) (hhi : In64 hi) (hba : In64 base) (hops : ∀ o ∈ ops, o.wf) (hol : ops.length ≤ 9223372036854775807) (hsl : ss.length ≤ 9223372036854775807)
    (m : M) (hs : Row m ap (opsC ops)) (hp : Row m pp (ints ss)) :
    QSpec Try.prog 10 [.string key, sp lo hi, I base, .slice ap ops.length cs, I ns, .slice pp ss.length cp] m (.bool true) := by
  refine QSpec.of_vc Try.func10 (ann := fun n => leAnn ⟨key, lo, hi, base, 0, [], lk0⟩ ap cs ops.length ns pp cp ss { m with sz := n }) fun N hN => ?_
  refine vc_by (X :=
      true = true ∧
      ∃ (b : Bool),
      QSpec Try.prog (21 : Nat) [] { π := m.π, sz := N, uf := m.uf : M } (Value.bool b) ∧
      ifB (!b) (Done (Value.bool false = Value.bool true))
      (∃ (n : Int),
      QSpec Try.prog (22 : Nat)
      [Value.agg
      #[Value.string key, Value.int IntKind.i64 lo, Value.int IntKind.i64 hi, Value.int IntKind.i64 base, Value.int IntKind.i64 (0 : Int),
      Value.slice none (0 : Nat) (0 : Nat), Value.int IntKind.i64 (0 : Int), Value.int IntKind.i64 (0 : Int), Value.int IntKind.i64 (0 : Int),
      Value.int IntKind.i64 (0 : Int)]]
      { π := m.π, sz := N, uf := m.uf : M } (Value.int IntKind.i64 n) ∧
      ifB (n != (0 : Int))
      (∃ (b : Bool),
      QSpec Try.prog (12 : Nat)
      [Value.agg
      #[Value.string key, Value.int IntKind.i64 lo, Value.int IntKind.i64 hi, Value.int IntKind.i64 base, Value.int IntKind.i64 (0 : Int),
      Value.slice none (0 : Nat) (0 : Nat), Value.int IntKind.i64 (0 : Int), Value.int IntKind.i64 (0 : Int), Value.int IntKind.i64 (0 : Int),
      Value.int IntKind.i64 (0 : Int)]]
      { π := m.π, sz := N, uf := m.uf : M } (Value.bool b) ∧
      Done ((Value.bool !b) = Value.bool true))
      ((∃ (a : StX),
      StI { key := key, lo := lo, hi := hi, base := base, round := (0 : Int), hs := [], lk := lk0 : Ac } ops.length { π := m.π, sz := N, uf := m.uf : M } a ∧
      { π := m.π, sz := N, uf := m.uf : M } = a.m ∧
      ((SV.val (Value.int IntKind.i64 (0 : Int)) = SV.val (Value.int IntKind.i64 (↑a.k : Int)) ∧ true = true) ∧
      (SV.val (Value.slice ap ops.length cs) = SV.val (Value.slice ap ops.length cs) ∧ true = true) ∧
      (SV.own ((0 : Nat) + (2 : Nat) + (4 : Nat)) (0 : Nat) = SV.own (6 : Nat) (0 : Nat) ∧ true = true) ∧
      (SV.val (Value.int IntKind.i64 ns) = SV.val (Value.int IntKind.i64 ns) ∧ true = true) ∧
      (SV.val (Value.slice pp ss.length cp) = SV.val (Value.slice pp ss.length cp) ∧ true = true) ∧ True) ∧
      (some
      { ty := (28 : Nat), cs := [Value.string key, Value.int IntKind.i64 lo, Value.int IntKind.i64 hi, Value.int IntKind.i64 base, Value.int IntKind.i64 (0 : Int), Value.slice none (0 : Nat) (0 : Nat), Value.int IntKind.i64 (0 : Int), Value.int IntKind.i64 (0 : Int), Value.int IntKind.i64 (0 : Int), Value.int IntKind.i64 (0 : Int)] : Bx } =
      some
      { ty := (28 : TypeId), cs := [Value.string a.X.key, Value.int IntKind.i64 a.X.lo, Value.int IntKind.i64 a.X.hi, Value.int IntKind.i64 a.X.base, Value.int IntKind.i64 a.X.round, Value.slice a.a a.X.hs.length a.c, Value.int IntKind.i64 a.X.lk.cl, Value.int IntKind.i64 a.X.lk.sq, Value.int IntKind.i64 a.X.lk.hm, Value.int IntKind.i64 a.X.lk.n] : Bx } ∧
      true = true) ∧
      True) ∧
      ∀ (a : StX),
      StI { key := key, lo := lo, hi := hi, base := base, round := (0 : Int), hs := [], lk := lk0 : Ac } ops.length { π := m.π, sz := N, uf := m.uf : M } a →
      ifB (decide ((↑a.k : Int) < (↑ops.length : Int)))
      (true = true ∧
      ∃ (b : Nat),
      ∃ (off : Nat),
      ap = some { block := b, off := off : Addr } ∧
      ((0 : Int) ≤ (↑a.k : Int) ∧ (↑a.k : Int) < (↑ops.length : Int)) ∧
      ∃ (n : Int),
      ∃ (n_1 : Int),
      ∃ (n_2 : Int),
      ∃ (n_3 : Int),
      ∃ (n_4 : Int),
      ∃ (n_5 : Int),
      ∃ (n_6 : Int),
      ∃ (n_7 : Int),
      ∃ (n_8 : Int),
      ∃ (n_9 : Int),
      ∃ (n_10 : Int),
      ∃ (b_1 : Bool),
      CellsAt a.m b (off + (↑a.k : Int).toNat * (12 : Nat))
      [Value.int IntKind.i64 n, Value.int IntKind.i64 n_1, Value.int IntKind.i64 n_2, Value.int IntKind.i64 n_3,
      Value.int IntKind.i64 n_4, Value.int IntKind.i64 n_5, Value.int IntKind.i64 n_6, Value.int IntKind.i64 n_7,
      Value.int IntKind.i64 n_8, Value.int IntKind.i64 n_9, Value.int IntKind.i64 n_10, Value.bool b_1] ∧
      (∀ (n_11 : Nat),
      a.m.sz ≤ n_11 →
      Vc.Spec Try.prog (37 : Nat)
      [Value.agg
      #[Value.string a.X.key, Value.int IntKind.i64 a.X.lo, Value.int IntKind.i64 a.X.hi,
      Value.int IntKind.i64 a.X.base, Value.int IntKind.i64 a.X.round, Value.slice a.a a.X.hs.length a.c,
      Value.int IntKind.i64 a.X.lk.cl, Value.int IntKind.i64 a.X.lk.sq, Value.int IntKind.i64 a.X.lk.hm,
      Value.int IntKind.i64 a.X.lk.n],
      Value.agg
      #[Value.int IntKind.i64 n, Value.int IntKind.i64 n_1, Value.int IntKind.i64 n_2, Value.int IntKind.i64 n_3,
      Value.int IntKind.i64 n_4, Value.int IntKind.i64 n_5, Value.int IntKind.i64 n_6, Value.int IntKind.i64 n_7,
      Value.int IntKind.i64 n_8, Value.int IntKind.i64 n_9, Value.int IntKind.i64 n_10, Value.bool b_1],
      Value.int IntKind.i64 ns]
      { π := a.m.π, sz := n_11, uf := a.m.uf : M } fun (v : Value) (m' : M) =>
      ∃ (s : ByteArray),
      ∃ (n : Int),
      ∃ (n_12 : Int),
      ∃ (n_13 : Int),
      ∃ (n_14 : Int),
      ∃ (a_3 : Option Addr),
      ∃ (n_15 : Nat),
      ∃ (c : Nat),
      ∃ (n_16 : Int),
      ∃ (n_17 : Int),
      ∃ (n_18 : Int),
      ∃ (n_19 : Int),
      ∃ (n_20 : Int),
      v =
      Value.tuple
      #[Value.agg
      #[Value.string s, Value.int IntKind.i64 n, Value.int IntKind.i64 n_12,
      Value.int IntKind.i64 n_13, Value.int IntKind.i64 n_14,
      Value.slice a_3 n_15 c, Value.int IntKind.i64 n_16,
      Value.int IntKind.i64 n_17, Value.int IntKind.i64 n_18,
      Value.int IntKind.i64 n_19],
      Value.int IntKind.i64 n_20] ∧
      MLe a.m m' ∧
      ifB (n_20 == (0 : Int))
      (∃ (a' : StX),
      (StI
      { key := key, lo := lo, hi := hi, base := base, round := (0 : Int), hs := [], lk := lk0 : Ac }
      ops.length { π := m.π, sz := N, uf := m.uf : M } a' ∧
      m' = a'.m ∧
      ((SV.val
      (Value.int IntKind.i64
      (IntKind.i64.wrap ((↑a.k : Int) + (1 : Int)))) =
      SV.val (Value.int IntKind.i64 (↑a'.k : Int)) ∧
      true = true) ∧
      (SV.val (Value.slice ap ops.length cs) =
      SV.val (Value.slice ap ops.length cs) ∧
      true = true) ∧
      (SV.own (6 : Nat) (0 : Nat) = SV.own (6 : Nat) (0 : Nat) ∧
      true = true) ∧
      (SV.val (Value.int IntKind.i64 ns) =
      SV.val (Value.int IntKind.i64 ns) ∧
      true = true) ∧
      (SV.val (Value.slice pp ss.length cp) =
      SV.val (Value.slice pp ss.length cp) ∧
      true = true) ∧
      True) ∧
      (some
      { ty := (28 : TypeId), cs := [Value.string s, Value.int IntKind.i64 n, Value.int IntKind.i64 n_12, Value.int IntKind.i64 n_13, Value.int IntKind.i64 n_14, Value.slice a_3 n_15 c, Value.int IntKind.i64 n_16, Value.int IntKind.i64 n_17, Value.int IntKind.i64 n_18, Value.int IntKind.i64 n_19] : Bx } =
      some
      { ty := (28 : TypeId), cs := [Value.string a'.X.key, Value.int IntKind.i64 a'.X.lo, Value.int IntKind.i64 a'.X.hi, Value.int IntKind.i64 a'.X.base, Value.int IntKind.i64 a'.X.round, Value.slice a'.a a'.X.hs.length a'.c, Value.int IntKind.i64 a'.X.lk.cl, Value.int IntKind.i64 a'.X.lk.sq, Value.int IntKind.i64 a'.X.lk.hm, Value.int IntKind.i64 a'.X.lk.n] : Bx } ∧
      true = true) ∧
      True) ∧
      ops.length - a'.k < ops.length - a.k)
      (∃ (a' : StX),
      (StI
      { key := key, lo := lo, hi := hi, base := base, round := (0 : Int), hs := [], lk := lk0 : Ac }
      ops.length { π := m.π, sz := N, uf := m.uf : M } a' ∧
      m' = a'.m ∧
      ((SV.val
      (Value.int IntKind.i64
      (IntKind.i64.wrap ((↑a.k : Int) + (1 : Int)))) =
      SV.val (Value.int IntKind.i64 (↑a'.k : Int)) ∧
      true = true) ∧
      (SV.val (Value.slice ap ops.length cs) =
      SV.val (Value.slice ap ops.length cs) ∧
      true = true) ∧
      (SV.own (6 : Nat) (0 : Nat) = SV.own (6 : Nat) (0 : Nat) ∧
      true = true) ∧
      (SV.val (Value.int IntKind.i64 ns) =
      SV.val (Value.int IntKind.i64 ns) ∧
      true = true) ∧
      (SV.val (Value.slice pp ss.length cp) =
      SV.val (Value.slice pp ss.length cp) ∧
      true = true) ∧
      True) ∧
      (some
      { ty := (28 : TypeId), cs := [Value.string a.X.key, Value.int IntKind.i64 a.X.lo, Value.int IntKind.i64 a.X.hi, Value.int IntKind.i64 a.X.base, Value.int IntKind.i64 a.X.round, Value.slice a.a a.X.hs.length a.c, Value.int IntKind.i64 a.X.lk.cl, Value.int IntKind.i64 a.X.lk.sq, Value.int IntKind.i64 a.X.lk.hm, Value.int IntKind.i64 a.X.lk.n] : Bx } =
      some
      { ty := (28 : TypeId), cs := [Value.string a'.X.key, Value.int IntKind.i64 a'.X.lo, Value.int IntKind.i64 a'.X.hi, Value.int IntKind.i64 a'.X.base, Value.int IntKind.i64 a'.X.round, Value.slice a'.a a'.X.hs.length a'.c, Value.int IntKind.i64 a'.X.lk.cl, Value.int IntKind.i64 a'.X.lk.sq, Value.int IntKind.i64 a'.X.lk.hm, Value.int IntKind.i64 a'.X.lk.n] : Bx } ∧
      true = true) ∧
      True) ∧
      ops.length - a'.k < ops.length - a.k)) ∧
      True)
      (true = true ∧
      ∀ (b : Nat),
      a.m.sz ≤ b →
      ∃ (n : Int),
      ∃ (n_1 : Int),
      QSpec Try.prog (29 : Nat) [Value.slice (some { block := b, off := (0 : Nat) : Addr }) (1 : Nat) (1 : Nat)]
      (a.m.newBlock b [Value.int IntKind.i64 a.X.base]) (Value.agg #[Value.int IntKind.i64 n, Value.int IntKind.u64 n_1]) ∧
      (∃ (a_3 : StX),
      (StI { key := key, lo := lo, hi := hi, base := base, round := (0 : Int), hs := [], lk := lk0 : Ac } ss.length
      { π := m.π, sz := N, uf := m.uf : M } { k := (0 : Nat), X := a_3.X, a := a_3.a, c := a_3.c, m := a_3.m : StX } ∧
      a_3.k ≤ a_3.X.hs.length) ∧
      a.m.newBlock b [Value.int IntKind.i64 a.X.base] = a_3.m ∧
      ((SV.val (Value.int IntKind.i64 (0 : Int)) = SV.val (Value.int IntKind.i64 (↑a_3.k : Int)) ∧ true = true) ∧
      (SV.own (6 : Nat) (0 : Nat) = SV.own (6 : Nat) (0 : Nat) ∧ true = true) ∧
      (SV.val (Value.slice pp ss.length cp) = SV.val (Value.slice pp ss.length cp) ∧ true = true) ∧
      (SV.own ((0 : Nat) + (2 : Nat) + (6 : Nat) + (2 : Nat) + (3 : Nat) + (1 : Nat) + (4 : Nat) + (4 : Nat)) (0 : Nat) =
      SV.own (22 : Nat) (0 : Nat) ∧
      true = true) ∧
      True) ∧
      (some
      { ty := (28 : TypeId), cs := [Value.string a.X.key, Value.int IntKind.i64 a.X.lo, Value.int IntKind.i64 a.X.hi, Value.int IntKind.i64 a.X.base, Value.int IntKind.i64 a.X.round, Value.slice a.a a.X.hs.length a.c, Value.int IntKind.i64 a.X.lk.cl, Value.int IntKind.i64 a.X.lk.sq, Value.int IntKind.i64 a.X.lk.hm, Value.int IntKind.i64 a.X.lk.n] : Bx } =
      some
      { ty := (28 : TypeId), cs := [Value.string a_3.X.key, Value.int IntKind.i64 a_3.X.lo, Value.int IntKind.i64 a_3.X.hi, Value.int IntKind.i64 a_3.X.base, Value.int IntKind.i64 a_3.X.round, Value.slice a_3.a a_3.X.hs.length a_3.c, Value.int IntKind.i64 a_3.X.lk.cl, Value.int IntKind.i64 a_3.X.lk.sq, Value.int IntKind.i64 a_3.X.lk.hm, Value.int IntKind.i64 a_3.X.lk.n] : Bx } ∧
      true = true) ∧
      (some { ty := (52 : Nat), cs := [Value.int IntKind.i64 n, Value.int IntKind.u64 n_1] : Bx } =
      some
      { ty := (52 : TypeId), cs := [Value.int IntKind.i64 (wideHi (a_3.X.base + netsSum a_3.X.hs ss a_3.k)), Value.int IntKind.u64 (wideLo (a_3.X.base + netsSum a_3.X.hs ss a_3.k))] : Bx } ∧
      true = true) ∧
      True) ∧
      ∀ (a : StX),
      StI { key := key, lo := lo, hi := hi, base := base, round := (0 : Int), hs := [], lk := lk0 : Ac } ss.length
      { π := m.π, sz := N, uf := m.uf : M } { k := (0 : Nat), X := a.X, a := a.a, c := a.c, m := a.m : StX } ∧
      a.k ≤ a.X.hs.length →
      ifB (decide ((↑a.k : Int) < (↑a.X.hs.length : Int)))
      (ifB (decide ((↑a.k : Int) < (↑ss.length : Int)))
      (true = true ∧
      ∃ (b : Nat),
      ∃ (off : Nat),
      a.a = some { block := b, off := off : Addr } ∧
      ((0 : Int) ≤ (↑a.k : Int) ∧ (↑a.k : Int) < (↑a.X.hs.length : Int)) ∧
      ∃ (n : Int),
      CellsAt a.m b (off + (↑a.k : Int).toNat * (4 : Nat) + (3 : Nat)) [Value.int IntKind.i64 n] ∧
      ∃ (b : Nat),
      ∃ (off : Nat),
      pp = some { block := b, off := off : Addr } ∧
      ((0 : Int) ≤ (↑a.k : Int) ∧ (↑a.k : Int) < (↑ss.length : Int)) ∧
      ∃ (n_2 : Int),
      CellsAt a.m b (off + (↑a.k : Int).toNat * (1 : Nat)) [Value.int IntKind.i64 n_2] ∧
      ∃ (b : Nat),
      ∃ (off : Nat),
      a.a = some { block := b, off := off : Addr } ∧
      ((0 : Int) ≤ (↑a.k : Int) ∧ (↑a.k : Int) < (↑a.X.hs.length : Int)) ∧
      ∃ (n_3 : Int),
      CellsAt a.m b (off + (↑a.k : Int).toNat * (4 : Nat) + (2 : Nat)) [Value.int IntKind.i64 n_3] ∧
      ∃ (n_4 : Int),
      ∃ (n_5 : Int),
      QSpec Try.prog (31 : Nat)
      [Value.agg
      #[Value.int IntKind.i64 (wideHi (a.X.base + netsSum a.X.hs ss a.k)),
      Value.int IntKind.u64 (wideLo (a.X.base + netsSum a.X.hs ss a.k))],
      Value.int IntKind.i64
      (if (if n_3 < n_2 then n_3 else n_2) > IntKind.i64.wrap ((0 : Int) - n) then
      if n_3 < n_2 then n_3 else n_2
      else IntKind.i64.wrap ((0 : Int) - n))]
      a.m (Value.agg #[Value.int IntKind.i64 n_4, Value.int IntKind.u64 n_5]) ∧
      ∃ (a' : StX),
      ((StI
      { key := key, lo := lo, hi := hi, base := base, round := (0 : Int), hs := [], lk := lk0 : Ac }
      ss.length { π := m.π, sz := N, uf := m.uf : M }
      { k := (0 : Nat), X := a'.X, a := a'.a, c := a'.c, m := a'.m : StX } ∧
      a'.k ≤ a'.X.hs.length) ∧
      a.m = a'.m ∧
      ((SV.val (Value.int IntKind.i64 (IntKind.i64.wrap ((↑a.k : Int) + (1 : Int)))) =
      SV.val (Value.int IntKind.i64 (↑a'.k : Int)) ∧
      true = true) ∧
      (SV.own (6 : Nat) (0 : Nat) = SV.own (6 : Nat) (0 : Nat) ∧ true = true) ∧
      (SV.val (Value.slice pp ss.length cp) = SV.val (Value.slice pp ss.length cp) ∧
      true = true) ∧
      (SV.own (22 : Nat) (0 : Nat) = SV.own (22 : Nat) (0 : Nat) ∧ true = true) ∧
      True) ∧
      (some
      { ty := (28 : TypeId), cs := [Value.string a.X.key, Value.int IntKind.i64 a.X.lo, Value.int IntKind.i64 a.X.hi, Value.int IntKind.i64 a.X.base, Value.int IntKind.i64 a.X.round, Value.slice a.a a.X.hs.length a.c, Value.int IntKind.i64 a.X.lk.cl, Value.int IntKind.i64 a.X.lk.sq, Value.int IntKind.i64 a.X.lk.hm, Value.int IntKind.i64 a.X.lk.n] : Bx } =
      some
      { ty := (28 : TypeId), cs := [Value.string a'.X.key, Value.int IntKind.i64 a'.X.lo, Value.int IntKind.i64 a'.X.hi, Value.int IntKind.i64 a'.X.base, Value.int IntKind.i64 a'.X.round, Value.slice a'.a a'.X.hs.length a'.c, Value.int IntKind.i64 a'.X.lk.cl, Value.int IntKind.i64 a'.X.lk.sq, Value.int IntKind.i64 a'.X.lk.hm, Value.int IntKind.i64 a'.X.lk.n] : Bx } ∧
      true = true) ∧
      (some
      { ty := (52 : TypeId), cs := [Value.int IntKind.i64 n_4, Value.int IntKind.u64 n_5] : Bx } =
      some
      { ty := (52 : TypeId), cs := [Value.int IntKind.i64 (wideHi (a'.X.base + netsSum a'.X.hs ss a'.k)), Value.int IntKind.u64 (wideLo (a'.X.base + netsSum a'.X.hs ss a'.k))] : Bx } ∧
      true = true) ∧
      True) ∧
      a'.X.hs.length - a'.k < a.X.hs.length - a.k)
      (∃ (n : Int),
      ∃ (b : Bool),
      QSpec Try.prog (32 : Nat)
      [Value.agg
      #[Value.int IntKind.i64 (wideHi (a.X.base + netsSum a.X.hs ss a.k)),
      Value.int IntKind.u64 (wideLo (a.X.base + netsSum a.X.hs ss a.k))]]
      a.m (Value.tuple #[Value.int IntKind.i64 n, Value.bool b]) ∧
      ifB b
      (ifB (decide (n ≥ a.X.lo)) (Done (Value.bool (decide (n ≤ a.X.hi)) = Value.bool true))
      (Done (Value.bool false = Value.bool true)))
      (Done (Value.bool false = Value.bool true))))
      (∃ (n : Int),
      ∃ (b : Bool),
      QSpec Try.prog (32 : Nat)
      [Value.agg
      #[Value.int IntKind.i64 (wideHi (a.X.base + netsSum a.X.hs ss a.k)),
      Value.int IntKind.u64 (wideLo (a.X.base + netsSum a.X.hs ss a.k))]]
      a.m (Value.tuple #[Value.int IntKind.i64 n, Value.bool b]) ∧
      ifB b
      (ifB (decide (n ≥ a.X.lo)) (Done (Value.bool (decide (n ≤ a.X.hi)) = Value.bool true))
      (Done (Value.bool false = Value.bool true)))
      (Done (Value.bool false = Value.bool true))))))) (by kernel_rfl) ?_
  have hx : (⟨key, lo, hi, base, 0, [], lk0⟩ : Ac).wf := ⟨hkey, hlo, hhi, hba, (by decide : In64 0), fun h hh => by simp at hh, Nat.zero_le _, lk0_wf⟩
  refine ⟨rfl, _, awake_q _, ifB_false ⟨_, check_q ⟨key, lo, hi, base, 0, [], lk0⟩ none 0 hx _ (.nil _), ?_⟩⟩
  cases hr : rightB ⟨key, lo, hi, base, 0, [], lk0⟩
  · exact ifB_true ⟨_, rright_q ⟨key, lo, hi, base, 0, [], lk0⟩ none 0 hx _ (.nil _), ⟨by simp [hr]⟩⟩
  refine ifB_false ⟨⟨⟨0, _, none, 0, { m with sz := N }⟩, ⟨Nat.zero_le _, hr, hx, rfl, .nil _, fun _ => rfl, Agree.refl _ _⟩, rfl, by simp, ⟨rfl, rfl⟩, trivial⟩, fun y hy => ifB_intro (fun hb => ?_) (fun hb => ?_)⟩
  · have hk2 : y.k < ops.length := by simpa using hb
    obtain ⟨b, o, rfl, hc⟩ := ((hs.sz hN).agree hy.ag).cells (by rw [flat_len (k := 12) (fun _ => rfl)]; omega)
    have w1 : IntKind.i64.wrap ((y.k : Int) + 1) = ((y.k + 1 : Nat) : Int) := by simp [IntKind.wrap_i64]; omega
    have hwo := hops _ (List.getElem_mem hk2)
    have hym := hy.ag.2.2
    simp only at hym
    refine ⟨rfl, b, o, rfl, by omega, _, _, _, _, _, _, _, _, _, _, _, _, by simpa using op_at hc hk2, fun N2 hN2 => ?_, trivial⟩
    refine (call_s y.X y.a y.c ops[y.k] ns hy.wf hwo hy.nil _ (hy.row.sz hN2)).mono fun v m' hag ⟨a', c', hv, hr'⟩ => ⟨_, _, _, _, _, _, _, _, _, _, _, _, _, hv, MLe.ofAgree hN2 hag, ?_⟩
    have A1 : Agree N { m with sz := N } m' := hy.ag.trans ((Agree.szl (B := N) (m := y.m) hN2).trans (hag.mono (by simp only; omega)))
    by_cases he : (aCall y.X ops[y.k] ns).2 = 0
    · obtain ⟨g1, S⟩ := call_stay hy.wf hwo he
      rw [he]
      refine ifB_true ⟨⟨y.k + 1, (aCall y.X ops[y.k] ns).1, a', c', m'⟩, ⟨⟨hk2, S.right, S.wf, S.key.trans hy.key, hr'.row, fun e => by subst e; exact newr_none hr', A1⟩, rfl, ?_, ⟨rfl, rfl⟩, trivial⟩, by simp only; omega⟩
      rw [w1]; simp
    · have hbn : ((aCall y.X ops[y.k] ns).2 == 0) = false := by simpa using he
      rw [hbn]
      refine ifB_false ⟨⟨y.k + 1, y.X, y.a, y.c, m'⟩, ⟨⟨hk2, hy.right, hy.wf, hy.key, (hy.row.sz hN2).agree hag, hy.nil, A1⟩, rfl, ?_, ⟨rfl, rfl⟩, trivial⟩, by simp only; omega⟩
      rw [w1]; simp
  · have s1 : sumI [y.X.base] = y.X.base := by simp [sumI]
    refine ⟨rfl, fun b hb => ⟨_, _, of_q (some ⟨b, 0, none⟩) 1 [y.X.base] (by simpa using hy.wf.base) (by simp) _ (.at _ _ _ (by simp only [M.newBlock]; omega) cellsAt_new), ⟨⟨0, y.X, y.a, y.c, y.m.newBlock b [I y.X.base]⟩, ⟨⟨Nat.zero_le _, hy.right, hy.wf, hy.key, hy.row.newBlock hb, hy.nil, hy.ag.trans (newBlock_agreeB (B := N) (Nat.le_trans hy.ag.2.2 hb))⟩, Nat.zero_le _⟩, rfl, by simp, ⟨rfl, rfl⟩, ⟨by simp [netsSum, s1], rfl⟩, trivial⟩, fun z ⟨hz, hzk⟩ => ifB_intro (fun h1 => ifB_intro (fun h2 => ?_) (fun h2 => ?_)) (fun h1 => ?_)⟩⟩
    · have hz1 := hz.right
      have hz2 := hz.wf
      have hz3 := hz.row
      simp only at hz1 hz2 hz3
      have hk1 : z.k < z.X.hs.length := by simpa using h1
      have hk2 : z.k < ss.length := by simpa using h2
      obtain ⟨b1, o1, e1, hc1⟩ := hz3.cells (by rw [hds_len]; omega)
      obtain ⟨b2, o2, e2, hc2⟩ := ((hp.sz hN).agree hz.ag).cells (by rw [ints_len]; omega)
      have hcell := hd_at hc1 hk1
      have cd : CellsAt z.m b1 (o1 + z.k * 4 + 3) [I z.X.hs[z.k].dn] := CellsAt.drop (cs := [I z.X.hs[z.k].nd, I z.X.hs[z.k].le, I z.X.hs[z.k].up]) hcell
      have cu : CellsAt z.m b1 (o1 + z.k * 4 + 2) [I z.X.hs[z.k].up] := (CellsAt.drop (cs := [I z.X.hs[z.k].nd, I z.X.hs[z.k].le]) (ds := [I z.X.hs[z.k].up, I z.X.hs[z.k].dn]) hcell).take (ds := [I z.X.hs[z.k].dn])
      have hm := hold_mem _ _ ((right_iff _).1 hz1).hold _ (List.getElem_mem hk1)
      have hwh := hz2.hs _ (List.getElem_mem hk1)
      have hni := netOf_in hm.2.2.2.1 hm.2.2.2.2 ss z.k
      have wd : IntKind.i64.wrap (0 - z.X.hs[z.k].dn) = - z.X.hs[z.k].dn := by have := hwh.2.2.2; unfold In64 at this; simp [IntKind.wrap_i64]; omega
      have en : (if (if z.X.hs[z.k].up < ss[z.k] then z.X.hs[z.k].up else ss[z.k]) > IntKind.i64.wrap (0 - z.X.hs[z.k].dn) then if z.X.hs[z.k].up < ss[z.k] then z.X.hs[z.k].up else ss[z.k] else IntKind.i64.wrap (0 - z.X.hs[z.k].dn)) = netOf z.X.hs[z.k] ss z.k := by
        rw [wd]
        simp only [netOf, List.getElem?_eq_getElem hk2]
        split <;> split <;> omega
      have w1 : IntKind.i64.wrap ((z.k : Int) + 1) = ((z.k + 1 : Nat) : Int) := by simp [IntKind.wrap_i64]; omega
      have en64 : In64 (netOf z.X.hs[z.k] ss z.k) := by
        have h3 := hwh.2.2.1
        have h4 := hwh.2.2.2
        unfold In64 at *; omega
      have eb : z.X.base + netsSum z.X.hs ss z.k + netOf z.X.hs[z.k] ss z.k = z.X.base + netsSum z.X.hs ss (z.k + 1) := by
        simp only [netsSum, List.getElem?_eq_getElem hk1]; omega
      refine ⟨rfl, b1, o1, e1, by omega, _, by simpa using cd, b2, o2, e2, by omega, ss[z.k], by simpa using ints_at hc2 hk2, b1, o1, e1, by omega, _, by simpa using cu, ?_⟩
      rw [en]
      refine ⟨_, _, plus_q _ _ en64 _, ⟨z.k + 1, z.X, z.a, z.c, z.m⟩, ⟨⟨hz, hk1⟩, rfl, ⟨⟨by rw [w1], rfl⟩, ⟨rfl, rfl⟩, ⟨rfl, rfl⟩, ⟨rfl, rfl⟩, trivial⟩, ⟨rfl, rfl⟩, ⟨by rw [← eb], rfl⟩, trivial⟩, by simp only; omega⟩
    all_goals
      have hz1 := hz.right
      have hz2 := hz.wf
      simp only at hz1 hz2
      have hbd := nets_bound hz1 ss hzk
      have h3 := hz2.lo
      have h4 := hz2.hi
      have h5 : In64 (z.X.base + netsSum z.X.hs ss z.k) := by unfold In64 at *; omega
      have wb : IntKind.i64.wrap (z.X.base + netsSum z.X.hs ss z.k) = z.X.base + netsSum z.X.hs ss z.k := by unfold In64 at h5; simp [IntKind.wrap_i64]; omega
      refine ⟨_, _, int_q _ (by unfold In64 at h5; omega) (by unfold In64 at h5; omega) _, ?_⟩
      rw [wb]
      simp only [h5, decide_true]
      refine ifB_true (ifB_intro (fun _ => ⟨?_⟩) (fun h6 => ?_))
      · simp; omega
      · simp at h6; omega

end Go.Proofs.Ytlifpjllhibdpaa
