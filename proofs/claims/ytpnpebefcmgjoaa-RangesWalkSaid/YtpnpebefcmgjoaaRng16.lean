/-
  Contracts of functions of this seat: what each hands back, and what it leaves of memory (rng16). Nothing here is trusted: Lean checks it.
-/
import Derived.Test.YtpnpebefcmgjoaaRng2
set_option linter.unusedVariables false
set_option linter.unusedSimpArgs false
namespace Go.Proofs.Ytpnpebefcmgjoaa
open Go.Vc Go.RowKit
set_option maxRecDepth 100000

structure LkX where
  k : Nat
  m : M
  ea : Option Addr
  ec : Nat

theorem stv_len (l : List Pl) : (stv (endsL l)).length = l.length := by simp [stv, endsL]

theorem stv_at {m : M} {b o k : Nat} {l : List Pl} (h : CellsAt m b o (stv (endsL l))) (hk : k < l.length) : CellsAt m b (o + k * 1) [.string (endP l k)] :=
  ⟨fun j hj => by
    have hj : j = 0 := by simpa using hj
    subst hj
    have := h.out k (by rw [stv_len]; exact hk)
    simpa [stv, endsL, hk] using this⟩

theorem rangeslooks (l : List Pl) (a : Option Addr) (c : Nat) (key : ByteArray) (g i : Int) (lo hi : ByteArray) (hi64 : In64 i) (hl : l.length ≤ 1048576) (m : M) (h : Row m a (pls l)) :
    QSpec Try.prog 3 [.slice a l.length c, .string key, I g, I i, .string lo, .string hi] m (.bool true) := by
  refine QSpec.of_vc Try.func3 (ann := fun n _ => { A := LkX, inv := fun x => x.k ≤ l.length ∧ Row x.m x.ea (stv (endsL l)) ∧ Row x.m a (pls l), st := fun x => [(21, .val (I x.k)), (14, .val (.slice x.ea l.length x.ec)), (0, .val (.slice a l.length c))], own := fun _ => [], m := fun x => x.m, μ := fun x => l.length - x.k }) fun n hn => ?_
  refine vc_by (X :=
      true = true ∧
      ∃ (S' : Nat → Prop),
      (∀ (b : Nat), S' b → m.uf b ∧ (n ≤ b ∨ False)) ∧
      ∀ (n_1 : Nat),
      n ≤ n_1 →
      SpecW Try.prog (9 : Nat) [Value.slice a l.length c] { π := m.π, sz := n_1, uf := m.uf : M } S' fun (v : Value) (m' : M) =>
      ∃ (a_2 : Option Addr),
      ∃ (n_2 : Nat),
      ∃ (c_1 : Nat),
      v = Value.slice a_2 n_2 c_1 ∧
      ∃ (S' : Nat → Prop),
      (∀ (b : Nat), S' b → m'.uf b ∧ (n ≤ b ∨ False)) ∧
      ∀ (n : Nat),
      m'.sz ≤ n →
      SpecW Try.prog (10 : Nat) [Value.slice a_2 n_2 c_1] { π := m'.π, sz := n, uf := m'.uf : M } S' fun (v : Value) (m' : M) =>
      ∃ (a_4 : Option Addr),
      ∃ (n : Nat),
      ∃ (c_2 : Nat),
      ∃ (a_5 : Option Addr),
      ∃ (n_3 : Nat),
      ∃ (c_3 : Nat),
      ∃ (b : Bool),
      v = Value.tuple #[Value.slice a_4 n c_2, Value.slice a_5 n_3 c_3, Value.bool b] ∧
      ∃ (n_4 : Int),
      ∃ (b_1 : Bool),
      QSpec Try.prog (11 : Nat) [Value.slice a_2 n_2 c_1, Value.int IntKind.i64 g] m'
      (Value.tuple #[Value.int IntKind.i64 n_4, Value.bool b_1]) ∧
      ∃ (b_2 : Bool),
      QSpec Try.prog (12 : Nat) [] m' (Value.bool b_2) ∧
      ifB (!b_2) (Done (Value.bool false = Value.bool true))
      (∃ (b_3 : Bool),
      QSpec Try.prog (13 : Nat) [Value.string lo, Value.string hi, Value.string key] m' (Value.bool b_3) ∧
      ∃ (b_4 : Bool),
      QSpec Try.prog (14 : Nat) [Value.string lo, Value.string hi, Value.string key] m' (Value.bool b_4) ∧
      ifB (!b_3 == b_4) (Done (Value.bool false = Value.bool true))
      (∃ (b_5 : Bool),
      QSpec Try.prog (15 : Nat) [Value.slice a_2 n_2 c_1, Value.slice a l.length c] m' (Value.bool b_5) ∧
      ifB (!b_5) (Done (Value.bool false = Value.bool true))
      (∃ (n_5 : Int),
      QSpec Try.prog (16 : Nat) [Value.slice a_2 n_2 c_1, Value.string key] m' (Value.int IntKind.i64 n_5) ∧
      ∃ (b_6 : Bool),
      QSpec Try.prog (17 : Nat) [Value.slice a l.length c] m' (Value.bool b_6) ∧
      ifB (!b_6)
      (∃ (s : ByteArray),
      QSpec Try.prog (18 : Nat) [Value.slice a_2 n_2 c_1, Value.int IntKind.i64 i] m'
      (Value.string s) ∧
      ∃ (n : Int),
      QSpec Try.prog (19 : Nat) [Value.slice a_2 n_2 c_1] m' (Value.int IntKind.i64 n) ∧
      Done (Value.bool (n == (21 : Int)) = Value.bool true))
      (∃ (n_6 : Int),
      ∃ (b_7 : Bool),
      QSpec Try.prog (20 : Nat) [Value.slice a l.length c, Value.int IntKind.i64 g] m'
      (Value.tuple #[Value.int IntKind.i64 n_6, Value.bool b_7]) ∧
      ifB (!b) (Done (Value.bool false = Value.bool true))
      (∃ (n_7 : Int),
      QSpec Try.prog (19 : Nat) [Value.slice a_2 n_2 c_1] m' (Value.int IntKind.i64 n_7) ∧
      ifB (n_7 != (0 : Int)) (Done (Value.bool false = Value.bool true))
      (∃ (n_8 : Int),
      QSpec Try.prog (16 : Nat) [Value.slice a_2 n_2 c_1, Value.string key] m'
      (Value.int IntKind.i64 n_8) ∧
      ∃ (n_9 : Int),
      QSpec Try.prog (21 : Nat) [Value.slice a l.length c, Value.string key] m'
      (Value.int IntKind.i64 n_9) ∧
      ifB (n_8 != n_9) (Done (Value.bool false = Value.bool true))
      (ifB (n_4 != n_6) (Done (Value.bool false = Value.bool true))
      (ifB (!b_1 == b_7) (Done (Value.bool false = Value.bool true))
      (∃ (s : ByteArray),
      QSpec Try.prog (18 : Nat)
      [Value.slice a_2 n_2 c_1, Value.int IntKind.i64 i] m'
      (Value.string s) ∧
      ∃ (s_1 : ByteArray),
      QSpec Try.prog (22 : Nat)
      [Value.slice a l.length c, Value.int IntKind.i64 i] m'
      (Value.string s_1) ∧
      ifB (!s.toList == s_1.toList)
      (Done (Value.bool false = Value.bool true))
      (∃ (n_10 : Int),
      QSpec Try.prog (23 : Nat) [Value.slice a_2 n_2 c_1] m'
      (Value.int IntKind.i64 n_10) ∧
      ∃ (n_11 : Int),
      QSpec Try.prog (24 : Nat) [Value.slice a l.length c]
      m' (Value.int IntKind.i64 n_11) ∧
      ifB (n_10 != n_11)
      (Done (Value.bool false = Value.bool true))
      (∃ (b : Bool),
      QSpec Try.prog (25 : Nat)
      [Value.slice a_5 n_3 c_3,
      Value.slice a l.length c]
      m' (Value.bool b) ∧
      ifB (!b)
      (Done
      (Value.bool false = Value.bool true))
      ((∃ (a_6 : LkX),
      (a_6.k ≤ l.length ∧
      Row a_6.m a_6.ea (stv (endsL l)) ∧
      Row a_6.m a (pls l)) ∧
      m' = a_6.m ∧
      ((SV.val
      (Value.int IntKind.i64
      (0 : Int)) =
      SV.val
      (Value.int IntKind.i64
      (↑a_6.k : Int)) ∧
      true = true) ∧
      (SV.val
      (Value.slice a_4 n
      c_2) =
      SV.val
      (Value.slice a_6.ea
      l.length a_6.ec) ∧
      true = true) ∧
      (SV.val
      (Value.slice a
      l.length c) =
      SV.val
      (Value.slice a
      l.length c) ∧
      true = true) ∧
      True) ∧
      True) ∧
      ∀ (a_6 : LkX),
      a_6.k ≤ l.length ∧
      Row a_6.m a_6.ea (stv (endsL l)) ∧
      Row a_6.m a (pls l) →
      ifB
      (decide
      ((↑a_6.k : Int) <
      (↑l.length : Int)))
      (true = true ∧
      ∃ (b : Nat),
      ∃ (off : Nat),
      a_6.ea =
      some
      { block := b, off := off : Addr } ∧
      ((0 : Int) ≤
      (↑a_6.k : Int) ∧
      (↑a_6.k : Int) <
      (↑l.length : Int)) ∧
      ∃ (s : ByteArray),
      CellsAt a_6.m b
      (off +
      (↑a_6.k :
      Int).toNat *
      (1 : Nat))
      [Value.string s] ∧
      ∃ (s_2 : ByteArray),
      QSpec Try.prog
      (22 : Nat)
      [Value.slice a
      l.length
      c,
      Value.int
      IntKind.i64
      (↑a_6.k :
      Int)]
      a_6.m
      (Value.string
      s_2) ∧
      ifB
      (!s.toList ==
      s_2.toList)
      (Done
      (Value.bool
      false =
      Value.bool
      true))
      (∃ (a' : LkX),
      ((a'.k ≤
      l.length ∧
      Row
      a'.m
      a'.ea
      (stv
      (endsL
      l)) ∧
      Row
      a'.m
      a
      (pls
      l)) ∧
      a_6.m =
      a'.m ∧
      ((SV.val
      (Value.int
      IntKind.i64
      (IntKind.i64.wrap
      ((↑a_6.k :
      Int) +
      (1 :
      Int)))) =
      SV.val
      (Value.int
      IntKind.i64
      (↑a'.k :
      Int)) ∧
      true =
      true) ∧
      (SV.val
      (Value.slice
      a_6.ea
      l.length
      a_6.ec) =
      SV.val
      (Value.slice
      a'.ea
      l.length
      a'.ec) ∧
      true =
      true) ∧
      (SV.val
      (Value.slice
      a
      l.length
      c) =
      SV.val
      (Value.slice
      a
      l.length
      c) ∧
      true =
      true) ∧
      True) ∧
      True) ∧
      l.length -
      a'.k <
      l.length -
      a_6.k))
      (Done
      (Value.bool true =
      Value.bool true))))))))))))))) (by kernel_rfl) ?_
  have h0 := h.sz hn
  have hl2 : l.length ≤ 9223372036854775807 := by omega
  refine ⟨rfl, _, noS, fun n1 hn1 => (rg_own a c l hl _ (h0.sz hn1)).monoW fun v1 m1 g1 ⟨b, hv1, ro⟩ => ⟨_, _, _, hv1, ?_⟩⟩
  have r1 := (h0.sz hn1).agree g1
  refine ⟨_, noS, fun n2 hn2 => (rg_told l _ _ hl (fun e => by cases e) _ (ro.take.sz hn2)).monoW fun v2 m2 g2 ⟨ea, ec, pa, pc, hv2, re, rp⟩ => ⟨_, _, _, _, _, _, _, hv2, ?_⟩⟩
  have r2 := (r1.sz hn2).agree g2
  have ro2 := (ro.sz hn2).agree g2
  have rt := ro2.take
  refine ⟨_, _, ofV_eq l g ▸ rg_of l _ _ g hl2 m2 rt, _, rg_awake _, ifB_intro (fun h1 => by cases h1) (fun _ => ⟨_, rg_within _ _ _ m2, _, rf_within _ _ _ m2, ifB_intro (fun h1 => by simp at h1) (fun _ => ⟨_, rg_kept b l a c hl _ ro2 r2, ifB_intro (fun h1 => by cases h1) (fun _ => ⟨_, rg_find l _ _ key hl2 m2 rt, _, rf_right l a c hl2 m2 r2, ifB_intro (fun h1 => ⟨_, pl_end l _ _ i hi64 hl2 m2 rt, _, rg_check l _ _ hl2 m2 rt, ⟨?_⟩⟩) (fun h1 => ?_)⟩)⟩)⟩)⟩
  · have : rightB l = false := by simpa using h1
    rw [this]; rfl
  have hR : rightB l = true := by simpa using h1
  have hfe := rfind_eq key hR
  have hpl := pl_plain pa a pc c l l hl2 m2 rp r2
  have et : decide (l = l) = true := by simp
  rw [et] at hpl
  refine ⟨_, _, ofV_eq l g ▸ rf_of l a c g hl2 m2 r2, ifB_intro (fun h1 => by cases h1) (fun _ => ⟨_, rg_check l _ _ hl2 m2 rt, ifB_intro (fun h1 => by simp [hR] at h1) (fun _ => ⟨_, rg_find l _ _ key hl2 m2 rt, _, hfe ▸ rf_find l a c key hl2 m2 r2, ifB_intro (fun h1 => by simp at h1) (fun _ => ifB_intro (fun h1 => by simp at h1) (fun _ => ifB_intro (fun h1 => by simp at h1) (fun _ => ⟨_, pl_end l _ _ i hi64 hl2 m2 rt, _, rf_end l a c i hi64 hl2 m2 r2, ifB_intro (fun h1 => by simp at h1) (fun _ => ⟨_, rg_epoch l _ _ hl (row_h0 rt) m2 rt, _, rf_epoch l a c hl2 m2 r2, ifB_intro (fun h1 => by simp at h1) (fun _ => ⟨_, hpl, ifB_intro (fun h1 => by cases h1) (fun _ => ⟨⟨⟨0, m2, ea, ec⟩, ⟨Nat.zero_le _, re, r2⟩, rfl, by simp⟩, ?_⟩)⟩)⟩)⟩)))⟩)⟩)⟩
  rintro ⟨k, mk, eak, eck⟩ ⟨hk, hre, hrl⟩
  simp only at hk hre hrl ⊢
  refine ifB_intro (fun h6 => ?_) (fun h6 => ⟨by trivial⟩)
  have hlt : k < l.length := by simpa using h6
  obtain ⟨be, oe, rfl, hce⟩ := hre.cells (by rw [stv_len]; omega)
  have he : endI l (k : Int) = endP l k := by simp [endI]
  have hE := rf_end l a c (k : Int) ⟨by omega, by omega⟩ hl2 mk hrl
  rw [he] at hE
  refine ⟨by trivial, be, oe, rfl, by omega, _, by simpa using stv_at hce hlt, _, hE, ?_⟩
  have q2 : (!(endP l k).toList == (endP l k).toList) = false := by simp
  rw [q2]
  exact ifB_false ⟨⟨k + 1, mk, _, eck⟩, ⟨⟨hlt, hre, hrl⟩, rfl, by simp [wrap1 hlt hl2]⟩, by simp only; omega⟩

end Go.Proofs.Ytpnpebefcmgjoaa
