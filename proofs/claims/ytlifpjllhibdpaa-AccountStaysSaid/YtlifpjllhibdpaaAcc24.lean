/-
  Contracts of functions of this seat: what each hands back, and what it leaves of memory (acc24). Nothing here is trusted: Lean checks it.
-/
import Derived.Test.YtlifpjllhibdpaaAcc22
set_option linter.unusedVariables false
set_option linter.unusedSimpArgs false
namespace Go.Proofs.Ytlifpjllhibdpaa
open Go.Vc Go.RowKit
set_option maxRecDepth 100000

abbrev opsC (l : List OpA) : List Value := l.flatMap encO

theorem op_at {m : M} {b o i : Nat} {l : List OpA} (h : CellsAt m b o (opsC l)) (hi : i < l.length) : CellsAt m b (o + i * 12) (encO l[i]) :=
  CellsAt.elem (k := 12) (enc := encO) (fun _ => rfl) l o i hi h

structure StX where
  k : Nat
  X : Ac
  a : Option Addr
  c : Nat
  m : M

structure StI (x : Ac) (len : Nat) (m : M) (y : StX) : Prop where
  k : y.k ≤ len
  right : rightB y.X = true
  wf : y.X.wf
  key : y.X.key = x.key
  row : Row y.m y.a (hds y.X.hs)
  nil : y.a = none → y.X.hs = []
  ag : Agree m.sz m y.m

def stAnn (x : Ac) (ap : Option Addr) (cs len : Nat) (ns : Int) (m : M) : Ann := {
    A := StX
    inv := StI x len m
    st := fun y => [(7, .val (I y.k)), (1, .val (.slice ap len cs)), (3, .own 0 0), (2, .val (I ns))]
    own := fun y => [(0, ⟨28, acc y.X y.a y.c⟩)]
    m := fun y => y.m
    μ := fun y => len - y.k }

theorem accountstays (x : Ac) (a : Option Addr) (c : Nat) (ap : Option Addr) (cs : Nat) (ops : List OpA) (ns : Int) (hx : x.wf) (hops : ∀ o ∈ ops, o.wf) (hol : ops.length ≤ 9223372036854775807) (h0 : a = none → x.hs = []) (m : M) (h : Row m a (hds x.hs)) (hs : Row m ap (opsC ops)) :
    QSpec Try.prog 9 [acv x a c, .slice ap ops.length cs, I ns] m (.bool true) := by
  refine QSpec.of_vc Try.func9 (ann := fun n _ => stAnn x ap cs ops.length ns { m with sz := n }) fun N hN => ?_
  refine vc_by (X :=
      true = true ∧
      ∃ (b : Bool),
      QSpec Try.prog (21 : Nat) [] { π := m.π, sz := N, uf := m.uf : M } (Value.bool b) ∧
      ifB (!b) (Done (Value.bool false = Value.bool true))
      (∃ (b : Bool),
      QSpec Try.prog (12 : Nat)
      [Value.agg
      #[Value.string x.key, Value.int IntKind.i64 x.lo, Value.int IntKind.i64 x.hi, Value.int IntKind.i64 x.base, Value.int IntKind.i64 x.round,
      Value.slice a x.hs.length c, Value.int IntKind.i64 x.lk.cl, Value.int IntKind.i64 x.lk.sq, Value.int IntKind.i64 x.lk.hm, Value.int IntKind.i64 x.lk.n]]
      { π := m.π, sz := N, uf := m.uf : M } (Value.bool b) ∧
      ifB (!b)
      (∃ (n : Int),
      QSpec Try.prog (22 : Nat)
      [Value.agg
      #[Value.string x.key, Value.int IntKind.i64 x.lo, Value.int IntKind.i64 x.hi, Value.int IntKind.i64 x.base, Value.int IntKind.i64 x.round,
      Value.slice a x.hs.length c, Value.int IntKind.i64 x.lk.cl, Value.int IntKind.i64 x.lk.sq, Value.int IntKind.i64 x.lk.hm, Value.int IntKind.i64 x.lk.n]]
      { π := m.π, sz := N, uf := m.uf : M } (Value.int IntKind.i64 n) ∧
      Done (Value.bool (n == (21 : Int)) = Value.bool true))
      ((∃ (a_1 : StX),
      StI x ops.length { π := m.π, sz := N, uf := m.uf : M } a_1 ∧
      { π := m.π, sz := N, uf := m.uf : M } = a_1.m ∧
      ((SV.val (Value.int IntKind.i64 (0 : Int)) = SV.val (Value.int IntKind.i64 (↑a_1.k : Int)) ∧ true = true) ∧
      (SV.val (Value.slice ap ops.length cs) = SV.val (Value.slice ap ops.length cs) ∧ true = true) ∧
      (SV.own ((0 : Nat) + (0 : Nat)) (0 : Nat) = SV.own (0 : Nat) (0 : Nat) ∧ true = true) ∧
      (SV.val (Value.int IntKind.i64 ns) = SV.val (Value.int IntKind.i64 ns) ∧ true = true) ∧ True) ∧
      (some
      { ty := (28 : Nat), cs := [Value.string x.key, Value.int IntKind.i64 x.lo, Value.int IntKind.i64 x.hi, Value.int IntKind.i64 x.base, Value.int IntKind.i64 x.round, Value.slice a x.hs.length c, Value.int IntKind.i64 x.lk.cl, Value.int IntKind.i64 x.lk.sq, Value.int IntKind.i64 x.lk.hm, Value.int IntKind.i64 x.lk.n] : Bx } =
      some
      { ty := (28 : TypeId), cs := [Value.string a_1.X.key, Value.int IntKind.i64 a_1.X.lo, Value.int IntKind.i64 a_1.X.hi, Value.int IntKind.i64 a_1.X.base, Value.int IntKind.i64 a_1.X.round, Value.slice a_1.a a_1.X.hs.length a_1.c, Value.int IntKind.i64 a_1.X.lk.cl, Value.int IntKind.i64 a_1.X.lk.sq, Value.int IntKind.i64 a_1.X.lk.hm, Value.int IntKind.i64 a_1.X.lk.n] : Bx } ∧
      true = true) ∧
      True) ∧
      ∀ (a : StX),
      StI x ops.length { π := m.π, sz := N, uf := m.uf : M } a →
      ifB (decide ((↑a.k : Int) < (↑ops.length : Int)))
      (true = true ∧
      ∃ (b : Nat),
      ∃ (off : Nat),
      ap = some { block := b, off := off : Addr } ∧
      ((0 : Int) ≤ (↑a.k : Int) ∧ (↑a.k : Int) < (↑ops.length : Int)) ∧
      ∃ (n : Int),
      ∃ (n_1 : Int),
      ∃ (n_2 : Int),
      ∃ (n_3 : Int),
      ∃ (n_4 : Int),
      ∃ (n_5 : Int),
      ∃ (n_6 : Int),
      ∃ (n_7 : Int),
      ∃ (n_8 : Int),
      ∃ (n_9 : Int),
      ∃ (n_10 : Int),
      ∃ (b_1 : Bool),
      CellsAt a.m b (off + (↑a.k : Int).toNat * (12 : Nat))
      [Value.int IntKind.i64 n, Value.int IntKind.i64 n_1, Value.int IntKind.i64 n_2, Value.int IntKind.i64 n_3,
      Value.int IntKind.i64 n_4, Value.int IntKind.i64 n_5, Value.int IntKind.i64 n_6, Value.int IntKind.i64 n_7,
      Value.int IntKind.i64 n_8, Value.int IntKind.i64 n_9, Value.int IntKind.i64 n_10, Value.bool b_1] ∧
      (∀ (n_11 : Nat),
      a.m.sz ≤ n_11 →
      Vc.Spec Try.prog (37 : Nat)
      [Value.agg
      #[Value.string a.X.key, Value.int IntKind.i64 a.X.lo, Value.int IntKind.i64 a.X.hi,
      Value.int IntKind.i64 a.X.base, Value.int IntKind.i64 a.X.round, Value.slice a.a a.X.hs.length a.c,
      Value.int IntKind.i64 a.X.lk.cl, Value.int IntKind.i64 a.X.lk.sq, Value.int IntKind.i64 a.X.lk.hm,
      Value.int IntKind.i64 a.X.lk.n],
      Value.agg
      #[Value.int IntKind.i64 n, Value.int IntKind.i64 n_1, Value.int IntKind.i64 n_2, Value.int IntKind.i64 n_3,
      Value.int IntKind.i64 n_4, Value.int IntKind.i64 n_5, Value.int IntKind.i64 n_6, Value.int IntKind.i64 n_7,
      Value.int IntKind.i64 n_8, Value.int IntKind.i64 n_9, Value.int IntKind.i64 n_10, Value.bool b_1],
      Value.int IntKind.i64 ns]
      { π := a.m.π, sz := n_11, uf := a.m.uf : M } fun (v : Value) (m' : M) =>
      ∃ (s : ByteArray),
      ∃ (n : Int),
      ∃ (n_12 : Int),
      ∃ (n_13 : Int),
      ∃ (n_14 : Int),
      ∃ (a_3 : Option Addr),
      ∃ (n_15 : Nat),
      ∃ (c : Nat),
      ∃ (n_16 : Int),
      ∃ (n_17 : Int),
      ∃ (n_18 : Int),
      ∃ (n_19 : Int),
      ∃ (n_20 : Int),
      v =
      Value.tuple
      #[Value.agg
      #[Value.string s, Value.int IntKind.i64 n, Value.int IntKind.i64 n_12,
      Value.int IntKind.i64 n_13, Value.int IntKind.i64 n_14,
      Value.slice a_3 n_15 c, Value.int IntKind.i64 n_16,
      Value.int IntKind.i64 n_17, Value.int IntKind.i64 n_18,
      Value.int IntKind.i64 n_19],
      Value.int IntKind.i64 n_20] ∧
      MLe a.m m' ∧
      ifB (n_20 != (0 : Int))
      (∃ (b : Bool),
      QSpec Try.prog (23 : Nat)
      [Value.agg
      #[Value.string s, Value.int IntKind.i64 n, Value.int IntKind.i64 n_12,
      Value.int IntKind.i64 n_13, Value.int IntKind.i64 n_14,
      Value.slice a_3 n_15 c, Value.int IntKind.i64 n_16,
      Value.int IntKind.i64 n_17, Value.int IntKind.i64 n_18,
      Value.int IntKind.i64 n_19],
      Value.agg
      #[Value.string { data := #[] : ByteArray },
      Value.int IntKind.i64 (0 : Int), Value.int IntKind.i64 (0 : Int),
      Value.int IntKind.i64 (0 : Int), Value.int IntKind.i64 (0 : Int),
      Value.slice none (0 : Nat) (0 : Nat), Value.int IntKind.i64 (0 : Int),
      Value.int IntKind.i64 (0 : Int), Value.int IntKind.i64 (0 : Int),
      Value.int IntKind.i64 (0 : Int)]]
      m' (Value.bool b) ∧
      ifB (!b) (Done (Value.bool false = Value.bool true))
      (∃ (a' : StX),
      (StI x ops.length { π := m.π, sz := N, uf := m.uf : M } a' ∧
      m' = a'.m ∧
      ((SV.val
      (Value.int IntKind.i64
      (IntKind.i64.wrap ((↑a.k : Int) + (1 : Int)))) =
      SV.val (Value.int IntKind.i64 (↑a'.k : Int)) ∧
      true = true) ∧
      (SV.val (Value.slice ap ops.length cs) =
      SV.val (Value.slice ap ops.length cs) ∧
      true = true) ∧
      (SV.own (0 : Nat) (0 : Nat) = SV.own (0 : Nat) (0 : Nat) ∧
      true = true) ∧
      (SV.val (Value.int IntKind.i64 ns) =
      SV.val (Value.int IntKind.i64 ns) ∧
      true = true) ∧
      True) ∧
      (some
      { ty := (28 : TypeId), cs := [Value.string a.X.key, Value.int IntKind.i64 a.X.lo, Value.int IntKind.i64 a.X.hi, Value.int IntKind.i64 a.X.base, Value.int IntKind.i64 a.X.round, Value.slice a.a a.X.hs.length a.c, Value.int IntKind.i64 a.X.lk.cl, Value.int IntKind.i64 a.X.lk.sq, Value.int IntKind.i64 a.X.lk.hm, Value.int IntKind.i64 a.X.lk.n] : Bx } =
      some
      { ty := (28 : TypeId), cs := [Value.string a'.X.key, Value.int IntKind.i64 a'.X.lo, Value.int IntKind.i64 a'.X.hi, Value.int IntKind.i64 a'.X.base, Value.int IntKind.i64 a'.X.round, Value.slice a'.a a'.X.hs.length a'.c, Value.int IntKind.i64 a'.X.lk.cl, Value.int IntKind.i64 a'.X.lk.sq, Value.int IntKind.i64 a'.X.lk.hm, Value.int IntKind.i64 a'.X.lk.n] : Bx } ∧
      true = true) ∧
      True) ∧
      ops.length - a'.k < ops.length - a.k))
      (∃ (n_21 : Int),
      QSpec Try.prog (22 : Nat)
      [Value.agg
      #[Value.string s, Value.int IntKind.i64 n, Value.int IntKind.i64 n_12,
      Value.int IntKind.i64 n_13, Value.int IntKind.i64 n_14,
      Value.slice a_3 n_15 c, Value.int IntKind.i64 n_16,
      Value.int IntKind.i64 n_17, Value.int IntKind.i64 n_18,
      Value.int IntKind.i64 n_19]]
      m' (Value.int IntKind.i64 n_21) ∧
      ifB (n_21 != (0 : Int)) (Done (Value.bool false = Value.bool true))
      (∃ (b : Bool),
      QSpec Try.prog (12 : Nat)
      [Value.agg
      #[Value.string s, Value.int IntKind.i64 n,
      Value.int IntKind.i64 n_12, Value.int IntKind.i64 n_13,
      Value.int IntKind.i64 n_14, Value.slice a_3 n_15 c,
      Value.int IntKind.i64 n_16, Value.int IntKind.i64 n_17,
      Value.int IntKind.i64 n_18, Value.int IntKind.i64 n_19]]
      m' (Value.bool b) ∧
      ifB (!b) (Done (Value.bool false = Value.bool true))
      (ifB (!s.toList == a.X.key.toList)
      (Done (Value.bool false = Value.bool true))
      (∃ (a' : StX),
      (StI x ops.length { π := m.π, sz := N, uf := m.uf : M } a' ∧
      m' = a'.m ∧
      ((SV.val
      (Value.int IntKind.i64
      (IntKind.i64.wrap ((↑a.k : Int) + (1 : Int)))) =
      SV.val (Value.int IntKind.i64 (↑a'.k : Int)) ∧
      true = true) ∧
      (SV.val (Value.slice ap ops.length cs) =
      SV.val (Value.slice ap ops.length cs) ∧
      true = true) ∧
      (SV.own (0 : Nat) (0 : Nat) =
      SV.own (0 : Nat) (0 : Nat) ∧
      true = true) ∧
      (SV.val (Value.int IntKind.i64 ns) =
      SV.val (Value.int IntKind.i64 ns) ∧
      true = true) ∧
      True) ∧
      (some
      { ty := (28 : TypeId), cs := [Value.string s, Value.int IntKind.i64 n, Value.int IntKind.i64 n_12, Value.int IntKind.i64 n_13, Value.int IntKind.i64 n_14, Value.slice a_3 n_15 c, Value.int IntKind.i64 n_16, Value.int IntKind.i64 n_17, Value.int IntKind.i64 n_18, Value.int IntKind.i64 n_19] : Bx } =
      some
      { ty := (28 : TypeId), cs := [Value.string a'.X.key, Value.int IntKind.i64 a'.X.lo, Value.int IntKind.i64 a'.X.hi, Value.int IntKind.i64 a'.X.base, Value.int IntKind.i64 a'.X.round, Value.slice a'.a a'.X.hs.length a'.c, Value.int IntKind.i64 a'.X.lk.cl, Value.int IntKind.i64 a'.X.lk.sq, Value.int IntKind.i64 a'.X.lk.hm, Value.int IntKind.i64 a'.X.lk.n] : Bx } ∧
      true = true) ∧
      True) ∧
      ops.length - a'.k < ops.length - a.k))))) ∧
      True)
      (Done (Value.bool true = Value.bool true))))) (by kernel_rfl) ?_
  refine ⟨rfl, _, awake_q _, ifB_false ⟨_, rright_q x a c hx _ (h.sz hN), ?_⟩⟩
  cases hr : rightB x
  · exact ifB_true ⟨_, check_q x a c hx _ (h.sz hN), ⟨by simp [hr]⟩⟩
  refine ifB_false ?_
  refine ⟨⟨⟨0, x, a, c, { m with sz := N }⟩, ⟨Nat.zero_le _, hr, hx, rfl, h.sz hN, h0, Agree.refl _ _⟩, rfl, by simp, ⟨rfl, rfl⟩, trivial⟩, fun y hy => ifB_intro (fun hb => ?_) (fun hb => ⟨rfl⟩)⟩
  have hk2 : y.k < ops.length := by simpa using hb
  obtain ⟨b, o, rfl, hc⟩ := ((hs.sz hN).agree hy.ag).cells (by rw [flat_len (k := 12) (fun _ => rfl)]; omega)
  have w1 : IntKind.i64.wrap ((y.k : Int) + 1) = ((y.k + 1 : Nat) : Int) := by simp [IntKind.wrap_i64]; omega
  have hwo := hops _ (List.getElem_mem hk2)
  have hym := hy.ag.2.2
  simp only at hym
  refine ⟨rfl, b, o, rfl, by omega, _, _, _, _, _, _, _, _, _, _, _, _, by simpa using op_at hc hk2, fun N2 hN2 => ?_, trivial⟩
  refine (call_s y.X y.a y.c ops[y.k] ns hy.wf hwo hy.nil _ (hy.row.sz hN2)).mono fun v m' hag ⟨a', c', hv, hr'⟩ => ⟨_, _, _, _, _, _, _, _, _, _, _, _, _, hv, MLe.ofAgree hN2 hag, ?_⟩
  have A1 : Agree N { m with sz := N } m' := hy.ag.trans ((Agree.szl (B := N) (m := y.m) hN2).trans (hag.mono (by simp only; omega)))
  by_cases he : (aCall y.X ops[y.k] ns).2 = 0
  · obtain ⟨g1, S⟩ := call_stay hy.wf hwo he
    rw [he]
    refine ifB_false ⟨_, check_q _ a' c' S.wf _ hr'.row, ?_⟩
    rw [S.right]
    refine ifB_false ⟨_, rright_q _ a' c' S.wf _ hr'.row, ?_⟩
    rw [S.right]
    refine ifB_false ?_
    rw [S.key, bytes_beq]
    simp only [decide_true]
    refine ifB_false ⟨⟨y.k + 1, (aCall y.X ops[y.k] ns).1, a', c', m'⟩, ⟨⟨hk2, S.right, S.wf, S.key.trans hy.key, hr'.row, fun e => by subst e; exact newr_none hr', A1⟩, rfl, ?_, ?_⟩, ?_⟩
    · rw [w1]; simp
    · simp [S.key]
    · simp only; omega
  · have hbn : ((aCall y.X ops[y.k] ns).2 != 0) = true := by simpa using he
    rw [hbn]
    have e := call_err he
    rw [e] at hr' ⊢
    refine ifB_true ⟨_, saccount_q ac0 ac0 a' none c' 0 (wf_key _ (by decide)) (wf_key _ (by decide)) m' hr'.row (.nil _), ?_⟩
    rw [show (!decide (ac0 = ac0)) = false by simp]
    refine ifB_false ⟨⟨y.k + 1, y.X, y.a, y.c, m'⟩, ⟨⟨hk2, hy.right, hy.wf, hy.key, (hy.row.sz hN2).agree hag, hy.nil, A1⟩, rfl, ?_, ⟨rfl, rfl⟩, trivial⟩, ?_⟩
    · rw [w1]; simp
    · simp only; omega

end Go.Proofs.Ytlifpjllhibdpaa
