/-
  Contracts of functions of this seat: what each hands back, and what it leaves of memory (rng18). Nothing here is trusted: Lean checks it.
-/
import Derived.Test.YtpnpebefcmgjoaaRng17
set_option linter.unusedVariables false
set_option linter.unusedSimpArgs false
namespace Go.Proofs.Ytpnpebefcmgjoaa
open Go.Vc Go.RowKit
set_option maxRecDepth 100000

/-- what is known between two changes -/
structure WkX where
  i : Nat
  nx : Nat
  m : M
  l : List Pl
  a : Option Addr
  c : Nat

/-- .. when a new map has come -/
structure WkY where
  i : Nat
  nx : Nat
  m : M
  l : List Pl
  a : Option Addr
  c : Nat
  x : List Pl
  xa : Option Addr
  xc : Nat

/-- .. when a split or a merge has answered -/
structure WkV where
  i : Nat
  nx : Nat
  m : M
  l : List Pl
  a : Option Addr
  c : Nat
  x : List Pl
  xa : Option Addr
  xc : Nat
  e : Int

/-- .. when it has been told -/
structure WkZ where
  i : Nat
  nx : Nat
  m : M
  l : List Pl
  a : Option Addr
  c : Nat
  ea : Option Addr
  ec : Nat
  pa : Option Addr
  pc : Nat
  k : Nat
  j : Nat
  n : Nat

structure WkI (zs : List Ch) (ks : List ByteArray) (za ka : Option Addr) (i nx : Nat) (m : M) (l : List Pl) (a : Option Addr) : Prop where
  ib : i ≤ zs.length ∧ i ≤ 60
  nb : nx ≤ i + 2
  r : rightB l = true
  rl : Row m a (pls l)
  rz : Row m za (chs zs)
  rk : Row m ka (kss ks)

theorem cnt_mono {y : ByteArray} : ∀ {xs : List Pl} {i : Nat} {r : Nat × Int} {v : Int}, cntO y xs i r = (1, v) → 1 ≤ r.1 → r = (1, v)
  | [], _, _, _, h, _ => h
  | x :: xs, i, r, v, h, hr => by
    simp only [cntO] at h
    split at h
    · have := cnt_mono h (by simp only; omega)
      simp only [Prod.mk.injEq] at this
      omega
    · exact cnt_mono h hr

theorem rangeswalk (zs : List Ch) (za : Option Addr) (zc : Nat) (ks : List ByteArray) (ka : Option Addr) (kc : Nat) (hw : ∀ x ∈ zs, x.wf) (hz : zs.length ≤ 9223372036854775807) (hk : ks.length ≤ 9223372036854775807) (m : M) (h : Row m za (chs zs)) (h2 : Row m ka (kss ks)) :
    QSpec Try.prog 7 [.slice za zs.length zc, .slice ka ks.length kc] m (.bool true) := by
  refine QSpec.of_vc Try.func7 (ann := fun n r =>
    if r = 6 then { A := WkX, inv := fun x => WkI zs ks za ka x.i x.nx x.m x.l x.a, st := fun x => [(7, .val (I x.i)), (0, .val (.slice za zs.length zc)), (5, .val (.slice x.a x.l.length x.c)), (6, .val (I x.nx)), (1, .val (.slice ka ks.length kc))], own := fun _ => [], m := fun x => x.m, μ := fun x => 60 - x.i }
    else if r = 13 then { A := WkV, inv := fun x => WkI zs ks za ka x.i x.nx x.m x.l x.a ∧ (x.i < zs.length ∧ x.i < 60) ∧ ((x.e ≠ 0 → x.x = []) ∧ (x.e = 0 → rightB x.x = true ∧ epochL x.x = epochL x.l + 1) ∧ Row x.m x.xa (pls x.x)), st := fun x => [(7, .val (I x.i)), (0, .val (.slice za zs.length zc)), (5, .val (.slice x.a x.l.length x.c)), (8, .val (.slice x.xa x.x.length x.xc)), (9, .val (I x.e)), (6, .val (I x.nx)), (1, .val (.slice ka ks.length kc))], own := fun _ => [], m := fun x => x.m, μ := fun _ => 0, cut := true, link := some fun x ctx => ctx = [60 - x.i] }
    else if r = 18 then { A := WkY, inv := fun x => WkI zs ks za ka (x.i + 1) x.nx x.m x.l x.a ∧ (rightB x.x = true ∧ epochL x.x = epochL x.l + 1 ∧ Row x.m x.xa (pls x.x)), st := fun x => [(7, .val (I x.i)), (0, .val (.slice za zs.length zc)), (5, .val (.slice x.a x.l.length x.c)), (8, .val (.slice x.xa x.x.length x.xc)), (6, .val (I x.nx)), (1, .val (.slice ka ks.length kc))], own := fun _ => [], m := fun x => x.m, μ := fun _ => 0, cut := true, link := some fun x ctx => ctx = [60 - x.i] }
    else if r = 25 then { A := WkZ, inv := fun x => WkI zs ks za ka (x.i + 1) x.nx x.m x.l x.a ∧ (Row x.m x.ea (stv (endsL x.l)) ∧ Row x.m x.pa (pls x.l)) ∧ x.k ≤ x.l.length, st := fun x => [(13, .val (I x.k)), (11, .val (.slice x.pa x.l.length x.pc)), (10, .val (.slice x.ea x.l.length x.ec)), (7, .val (I x.i)), (0, .val (.slice za zs.length zc)), (5, .val (.slice x.a x.l.length x.c)), (6, .val (I x.nx)), (1, .val (.slice ka ks.length kc))], own := fun _ => [], m := fun x => x.m, μ := fun x => x.l.length - x.k, link := some fun x ctx => ctx = [60 - x.i] }
    else if r = 30 then { A := WkZ, inv := fun x => WkI zs ks za ka (x.i + 1) x.nx x.m x.l x.a ∧ (Row x.m x.ea (stv (endsL x.l)) ∧ Row x.m x.pa (pls x.l)) ∧ x.k ≤ ks.length ∧ x.k ≤ 8, st := fun x => [(14, .val (I x.k)), (11, .val (.slice x.pa x.l.length x.pc)), (10, .val (.slice x.ea x.l.length x.ec)), (7, .val (I x.i)), (0, .val (.slice za zs.length zc)), (5, .val (.slice x.a x.l.length x.c)), (6, .val (I x.nx)), (1, .val (.slice ka ks.length kc))], own := fun _ => [], m := fun x => x.m, μ := fun x => 8 - x.k, link := some fun x ctx => ctx = [60 - x.i] }
    else { A := WkZ, inv := fun x => WkI zs ks za ka (x.i + 1) x.nx x.m x.l x.a ∧ (Row x.m x.ea (stv (endsL x.l)) ∧ Row x.m x.pa (pls x.l)) ∧ (x.k < ks.length ∧ x.k < 8) ∧ (x.j ≤ x.l.length ∧ x.n ≤ x.j) ∧ ∀ y, ks[x.k]? = some y → ∃ q, cntO y (x.l.drop x.j) x.j (x.n, q) = (1, ((findL y x.l 0 0 : Nat) : Int)), st := fun x => [(16, .val (I x.j)), (15, .val (I x.n)), (14, .val (I x.k)), (11, .val (.slice x.pa x.l.length x.pc)), (10, .val (.slice x.ea x.l.length x.ec)), (7, .val (I x.i)), (0, .val (.slice za zs.length zc)), (5, .val (.slice x.a x.l.length x.c)), (6, .val (I x.nx)), (1, .val (.slice ka ks.length kc))], own := fun _ => [], m := fun x => x.m, μ := fun x => x.l.length - x.j, link := some fun x ctx => ctx = [8 - x.k, 60 - x.i] }) fun n hn => ?_
  refine vc_by (X :=
      true = true ∧
      ∃ (b : Bool),
      QSpec Try.prog (12 : Nat) [] { π := m.π, sz := n, uf := m.uf : M } (Value.bool b) ∧
      ifB (!b) (Done (Value.bool false = Value.bool true))
      (true = true ∧
      ∀ (b : Nat),
      n ≤ b →
      (∃ (a : WkX),
      WkI zs ks za ka a.i a.nx a.m a.l a.a ∧
      { π := m.π, sz := n, uf := m.uf : M }.newBlock b [Value.int IntKind.i64 (1 : Int), Value.string { data := #[] : ByteArray }, Value.int IntKind.i64 (1 : Int)] =
      a.m ∧
      ((SV.val (Value.int IntKind.i64 (0 : Int)) = SV.val (Value.int IntKind.i64 (↑a.i : Int)) ∧ true = true) ∧
      (SV.val (Value.slice za zs.length zc) = SV.val (Value.slice za zs.length zc) ∧ true = true) ∧
      (SV.val (Value.slice (some { block := b, off := (0 : Nat) : Addr }) (1 : Nat) (1 : Nat)) = SV.val (Value.slice a.a a.l.length a.c) ∧ true = true) ∧
      (SV.val (Value.int IntKind.i64 (2 : Int)) = SV.val (Value.int IntKind.i64 (↑a.nx : Int)) ∧ true = true) ∧
      (SV.val (Value.slice ka ks.length kc) = SV.val (Value.slice ka ks.length kc) ∧ true = true) ∧ True) ∧
      True) ∧
      ∀ (a : WkX),
      WkI zs ks za ka a.i a.nx a.m a.l a.a →
      ifB (decide ((↑a.i : Int) < (↑zs.length : Int)))
      (ifB (decide ((↑a.i : Int) < (60 : Int)))
      ((∃ (b : Nat),
      ∃ (off : Nat),
      za = some { block := b, off := off : Addr } ∧
      ((0 : Int) ≤ (↑a.i : Int) ∧ (↑a.i : Int) < (↑zs.length : Int)) ∧
      ∃ (b_1 : Bool),
      CellsAt a.m b (off + (↑a.i : Int).toNat * (3 : Nat) + (0 : Nat)) [Value.bool b_1] ∧
      ifB b_1
      (∃ (b : Nat),
      ∃ (off : Nat),
      za = some { block := b, off := off : Addr } ∧
      ((0 : Int) ≤ (↑a.i : Int) ∧ (↑a.i : Int) < (↑zs.length : Int)) ∧
      ∃ (n_1 : Int),
      CellsAt a.m b (off + (↑a.i : Int).toNat * (3 : Nat) + (1 : Nat)) [Value.int IntKind.i64 n_1] ∧
      ∃ (S' : Nat → Prop),
      (∀ (b : Nat), S' b → a.m.uf b ∧ (n ≤ b ∨ False)) ∧
      ∀ (n : Nat),
      a.m.sz ≤ n →
      SpecW Try.prog (28 : Nat) [Value.slice a.a a.l.length a.c, Value.int IntKind.i64 n_1]
      { π := a.m.π, sz := n, uf := a.m.uf : M } S' fun (v : Value) (m' : M) =>
      ∃ (a_3 : Option Addr),
      ∃ (n : Nat),
      ∃ (c : Nat),
      ∃ (n_2 : Int),
      v = Value.tuple #[Value.slice a_3 n c, Value.int IntKind.i64 n_2] ∧
      ∃ (x : WkV),
      ((WkI zs ks za ka x.i x.nx x.m x.l x.a ∧
      (x.i < zs.length ∧ x.i < (60 : Nat)) ∧
      (x.e ≠ (0 : Int) → x.x = []) ∧
      (x.e = (0 : Int) → rightB x.x = true ∧ epochL x.x = epochL x.l + (1 : Int)) ∧
      Row x.m x.xa (pls x.x)) ∧
      m' = x.m ∧
      ((SV.val (Value.int IntKind.i64 (↑a.i : Int)) = SV.val (Value.int IntKind.i64 (↑x.i : Int)) ∧
      true = true) ∧
      (SV.val (Value.slice za zs.length zc) = SV.val (Value.slice za zs.length zc) ∧ true = true) ∧
      (SV.val (Value.slice a.a a.l.length a.c) = SV.val (Value.slice x.a x.l.length x.c) ∧
      true = true) ∧
      (SV.val (Value.slice a_3 n c) = SV.val (Value.slice x.xa x.x.length x.xc) ∧ true = true) ∧
      (SV.val (Value.int IntKind.i64 n_2) = SV.val (Value.int IntKind.i64 x.e) ∧ true = true) ∧
      (SV.val (Value.int IntKind.i64 (↑a.nx : Int)) =
      SV.val (Value.int IntKind.i64 (↑x.nx : Int)) ∧
      true = true) ∧
      (SV.val (Value.slice ka ks.length kc) = SV.val (Value.slice ka ks.length kc) ∧
      true = true) ∧
      True) ∧
      True) ∧
      [(60 : Nat) - a.i] = [(60 : Nat) - x.i])
      (∃ (b : Nat),
      ∃ (off : Nat),
      za = some { block := b, off := off : Addr } ∧
      ((0 : Int) ≤ (↑a.i : Int) ∧ (↑a.i : Int) < (↑zs.length : Int)) ∧
      ∃ (s : ByteArray),
      CellsAt a.m b (off + (↑a.i : Int).toNat * (3 : Nat) + (2 : Nat)) [Value.string s] ∧
      ∃ (S' : Nat → Prop),
      (∀ (b : Nat), S' b → a.m.uf b ∧ (n ≤ b ∨ False)) ∧
      ∀ (n : Nat),
      a.m.sz ≤ n →
      SpecW Try.prog (26 : Nat) [Value.slice a.a a.l.length a.c, Value.string s, Value.int IntKind.i64 (↑a.nx : Int)]
      { π := a.m.π, sz := n, uf := a.m.uf : M } S' fun (v : Value) (m' : M) =>
      ∃ (a_3 : Option Addr),
      ∃ (n : Nat),
      ∃ (c : Nat),
      ∃ (n_1 : Int),
      v = Value.tuple #[Value.slice a_3 n c, Value.int IntKind.i64 n_1] ∧
      ∃ (x : WkV),
      ((WkI zs ks za ka x.i x.nx x.m x.l x.a ∧
      (x.i < zs.length ∧ x.i < (60 : Nat)) ∧
      (x.e ≠ (0 : Int) → x.x = []) ∧
      (x.e = (0 : Int) → rightB x.x = true ∧ epochL x.x = epochL x.l + (1 : Int)) ∧
      Row x.m x.xa (pls x.x)) ∧
      m' = x.m ∧
      ((SV.val (Value.int IntKind.i64 (↑a.i : Int)) = SV.val (Value.int IntKind.i64 (↑x.i : Int)) ∧
      true = true) ∧
      (SV.val (Value.slice za zs.length zc) = SV.val (Value.slice za zs.length zc) ∧ true = true) ∧
      (SV.val (Value.slice a.a a.l.length a.c) = SV.val (Value.slice x.a x.l.length x.c) ∧
      true = true) ∧
      (SV.val (Value.slice a_3 n c) = SV.val (Value.slice x.xa x.x.length x.xc) ∧ true = true) ∧
      (SV.val (Value.int IntKind.i64 n_1) = SV.val (Value.int IntKind.i64 x.e) ∧ true = true) ∧
      (SV.val (Value.int IntKind.i64 (↑a.nx : Int)) =
      SV.val (Value.int IntKind.i64 (↑x.nx : Int)) ∧
      true = true) ∧
      (SV.val (Value.slice ka ks.length kc) = SV.val (Value.slice ka ks.length kc) ∧
      true = true) ∧
      True) ∧
      True) ∧
      [(60 : Nat) - a.i] = [(60 : Nat) - x.i])) ∧
      ∀ (x : WkV),
      (WkI zs ks za ka x.i x.nx x.m x.l x.a ∧
      (x.i < zs.length ∧ x.i < (60 : Nat)) ∧
      (x.e ≠ (0 : Int) → x.x = []) ∧ (x.e = (0 : Int) → rightB x.x = true ∧ epochL x.x = epochL x.l + (1 : Int)) ∧ Row x.m x.xa (pls x.x)) ∧
      [(60 : Nat) - a.i] = [(60 : Nat) - x.i] →
      ifB (x.e != (0 : Int))
      (ifB (decide ((↑x.x.length : Int) > (0 : Int))) (Done (Value.bool false = Value.bool true))
      (∃ (a' : WkX),
      (WkI zs ks za ka a'.i a'.nx a'.m a'.l a'.a ∧
      x.m = a'.m ∧
      ((SV.val (Value.int IntKind.i64 (IntKind.i64.wrap ((↑x.i : Int) + (1 : Int)))) = SV.val (Value.int IntKind.i64 (↑a'.i : Int)) ∧
      true = true) ∧
      (SV.val (Value.slice za zs.length zc) = SV.val (Value.slice za zs.length zc) ∧ true = true) ∧
      (SV.val (Value.slice x.a x.l.length x.c) = SV.val (Value.slice a'.a a'.l.length a'.c) ∧ true = true) ∧
      (SV.val (Value.int IntKind.i64 (↑x.nx : Int)) = SV.val (Value.int IntKind.i64 (↑a'.nx : Int)) ∧ true = true) ∧
      (SV.val (Value.slice ka ks.length kc) = SV.val (Value.slice ka ks.length kc) ∧ true = true) ∧ True) ∧
      True) ∧
      (60 : Nat) - a'.i < (60 : Nat) - a.i))
      ((∃ (b : Nat),
      ∃ (off : Nat),
      za = some { block := b, off := off : Addr } ∧
      ((0 : Int) ≤ (↑x.i : Int) ∧ (↑x.i : Int) < (↑zs.length : Int)) ∧
      ∃ (b_1 : Bool),
      CellsAt x.m b (off + (↑x.i : Int).toNat * (3 : Nat) + (0 : Nat)) [Value.bool b_1] ∧
      ifB (!b_1)
      (∃ (x_1 : WkY),
      ((WkI zs ks za ka (x_1.i + (1 : Nat)) x_1.nx x_1.m x_1.l x_1.a ∧
      rightB x_1.x = true ∧ epochL x_1.x = epochL x_1.l + (1 : Int) ∧ Row x_1.m x_1.xa (pls x_1.x)) ∧
      x.m = x_1.m ∧
      ((SV.val (Value.int IntKind.i64 (↑x.i : Int)) = SV.val (Value.int IntKind.i64 (↑x_1.i : Int)) ∧ true = true) ∧
      (SV.val (Value.slice za zs.length zc) = SV.val (Value.slice za zs.length zc) ∧ true = true) ∧
      (SV.val (Value.slice x.a x.l.length x.c) = SV.val (Value.slice x_1.a x_1.l.length x_1.c) ∧ true = true) ∧
      (SV.val (Value.slice x.xa x.x.length x.xc) = SV.val (Value.slice x_1.xa x_1.x.length x_1.xc) ∧ true = true) ∧
      (SV.val (Value.int IntKind.i64 (IntKind.i64.wrap ((↑x.nx : Int) + (1 : Int)))) =
      SV.val (Value.int IntKind.i64 (↑x_1.nx : Int)) ∧
      true = true) ∧
      (SV.val (Value.slice ka ks.length kc) = SV.val (Value.slice ka ks.length kc) ∧ true = true) ∧ True) ∧
      True) ∧
      [(60 : Nat) - a.i] = [(60 : Nat) - x_1.i])
      (∃ (x_1 : WkY),
      ((WkI zs ks za ka (x_1.i + (1 : Nat)) x_1.nx x_1.m x_1.l x_1.a ∧
      rightB x_1.x = true ∧ epochL x_1.x = epochL x_1.l + (1 : Int) ∧ Row x_1.m x_1.xa (pls x_1.x)) ∧
      x.m = x_1.m ∧
      ((SV.val (Value.int IntKind.i64 (↑x.i : Int)) = SV.val (Value.int IntKind.i64 (↑x_1.i : Int)) ∧ true = true) ∧
      (SV.val (Value.slice za zs.length zc) = SV.val (Value.slice za zs.length zc) ∧ true = true) ∧
      (SV.val (Value.slice x.a x.l.length x.c) = SV.val (Value.slice x_1.a x_1.l.length x_1.c) ∧ true = true) ∧
      (SV.val (Value.slice x.xa x.x.length x.xc) = SV.val (Value.slice x_1.xa x_1.x.length x_1.xc) ∧ true = true) ∧
      (SV.val (Value.int IntKind.i64 (↑x.nx : Int)) = SV.val (Value.int IntKind.i64 (↑x_1.nx : Int)) ∧ true = true) ∧
      (SV.val (Value.slice ka ks.length kc) = SV.val (Value.slice ka ks.length kc) ∧ true = true) ∧ True) ∧
      True) ∧
      [(60 : Nat) - a.i] = [(60 : Nat) - x_1.i])) ∧
      ∀ (x : WkY),
      (WkI zs ks za ka (x.i + (1 : Nat)) x.nx x.m x.l x.a ∧ rightB x.x = true ∧ epochL x.x = epochL x.l + (1 : Int) ∧ Row x.m x.xa (pls x.x)) ∧
      [(60 : Nat) - a.i] = [(60 : Nat) - x.i] →
      ∃ (n_1 : Int),
      QSpec Try.prog (19 : Nat) [Value.slice x.xa x.x.length x.xc] x.m (Value.int IntKind.i64 n_1) ∧
      ifB (n_1 != (0 : Int)) (Done (Value.bool false = Value.bool true))
      (∃ (n_2 : Int),
      QSpec Try.prog (23 : Nat) [Value.slice x.xa x.x.length x.xc] x.m (Value.int IntKind.i64 n_2) ∧
      ∃ (n_3 : Int),
      QSpec Try.prog (23 : Nat) [Value.slice x.a x.l.length x.c] x.m (Value.int IntKind.i64 n_3) ∧
      ifB (n_2 != IntKind.i64.wrap (n_3 + (1 : Int))) (Done (Value.bool false = Value.bool true))
      (∃ (S' : Nat → Prop),
      (∀ (b : Nat), S' b → x.m.uf b ∧ (n ≤ b ∨ False)) ∧
      ∀ (n : Nat),
      x.m.sz ≤ n →
      SpecW Try.prog (10 : Nat) [Value.slice x.xa x.x.length x.xc] { π := x.m.π, sz := n, uf := x.m.uf : M } S'
      fun (v : Value) (m' : M) =>
      ∃ (a_5 : Option Addr),
      ∃ (n : Nat),
      ∃ (c : Nat),
      ∃ (a_6 : Option Addr),
      ∃ (n_4 : Nat),
      ∃ (c_1 : Nat),
      ∃ (b : Bool),
      v = Value.tuple #[Value.slice a_5 n c, Value.slice a_6 n_4 c_1, Value.bool b] ∧
      ifB (!b) (Done (Value.bool false = Value.bool true))
      (ifB ((↑n_4 : Int) != (↑x.x.length : Int)) (Done (Value.bool false = Value.bool true))
      (∃ (b : Nat),
      ∃ (off : Nat),
      a_5 = some { block := b, off := off : Addr } ∧
      ((0 : Int) ≤ IntKind.i64.wrap ((↑n : Int) - (1 : Int)) ∧
      IntKind.i64.wrap ((↑n : Int) - (1 : Int)) < (↑n : Int)) ∧
      ∃ (s : ByteArray),
      CellsAt m' b (off + (IntKind.i64.wrap ((↑n : Int) - (1 : Int))).toNat * (1 : Nat))
      [Value.string s] ∧
      ifB (!s.toList == []) (Done (Value.bool false = Value.bool true))
      (∃ (b : Nat),
      ∃ (off : Nat),
      a_6 = some { block := b, off := off : Addr } ∧
      ((0 : Int) ≤ (0 : Int) ∧ (0 : Int) < (↑n_4 : Int)) ∧
      ∃ (s : ByteArray),
      CellsAt m' b (off + (0 : Nat) + (1 : Nat)) [Value.string s] ∧
      ifB (!s.toList == []) (Done (Value.bool false = Value.bool true))
      ((∃ (a_7 : WkZ),
      ((WkI zs ks za ka (a_7.i + (1 : Nat)) a_7.nx a_7.m a_7.l a_7.a ∧
      (Row a_7.m a_7.ea (stv (endsL a_7.l)) ∧
      Row a_7.m a_7.pa (pls a_7.l)) ∧
      a_7.k ≤ a_7.l.length) ∧
      m' = a_7.m ∧
      ((SV.val (Value.int IntKind.i64 (0 : Int)) =
      SV.val (Value.int IntKind.i64 (↑a_7.k : Int)) ∧
      true = true) ∧
      (SV.val (Value.slice a_6 n_4 c_1) =
      SV.val
      (Value.slice a_7.pa a_7.l.length a_7.pc) ∧
      true = true) ∧
      (SV.val (Value.slice a_5 n c) =
      SV.val
      (Value.slice a_7.ea a_7.l.length a_7.ec) ∧
      true = true) ∧
      (SV.val (Value.int IntKind.i64 (↑x.i : Int)) =
      SV.val
      (Value.int IntKind.i64 (↑a_7.i : Int)) ∧
      true = true) ∧
      (SV.val (Value.slice za zs.length zc) =
      SV.val (Value.slice za zs.length zc) ∧
      true = true) ∧
      (SV.val (Value.slice x.xa x.x.length x.xc) =
      SV.val
      (Value.slice a_7.a a_7.l.length
      a_7.c) ∧
      true = true) ∧
      (SV.val
      (Value.int IntKind.i64
      (↑x.nx : Int)) =
      SV.val
      (Value.int IntKind.i64
      (↑a_7.nx : Int)) ∧
      true = true) ∧
      (SV.val (Value.slice ka ks.length kc) =
      SV.val
      (Value.slice ka ks.length kc) ∧
      true = true) ∧
      True) ∧
      True) ∧
      [(60 : Nat) - a.i] = [(60 : Nat) - a_7.i]) ∧
      ∀ (a_7 : WkZ),
      (WkI zs ks za ka (a_7.i + (1 : Nat)) a_7.nx a_7.m a_7.l a_7.a ∧
      (Row a_7.m a_7.ea (stv (endsL a_7.l)) ∧
      Row a_7.m a_7.pa (pls a_7.l)) ∧
      a_7.k ≤ a_7.l.length) ∧
      [(60 : Nat) - a.i] = [(60 : Nat) - a_7.i] →
      ifB
      (decide
      (IntKind.i64.wrap ((↑a_7.k : Int) + (1 : Int)) <
      (↑a_7.l.length : Int)))
      (true = true ∧
      ∃ (b : Nat),
      ∃ (off : Nat),
      a_7.ea = some { block := b, off := off : Addr } ∧
      ((0 : Int) ≤ (↑a_7.k : Int) ∧
      (↑a_7.k : Int) < (↑a_7.l.length : Int)) ∧
      ∃ (s : ByteArray),
      CellsAt a_7.m b
      (off + (↑a_7.k : Int).toNat * (1 : Nat))
      [Value.string s] ∧
      ∃ (b : Nat),
      ∃ (off : Nat),
      a_7.pa =
      some
      { block := b, off := off : Addr } ∧
      ((0 : Int) ≤
      IntKind.i64.wrap
      ((↑a_7.k : Int) + (1 : Int)) ∧
      IntKind.i64.wrap
      ((↑a_7.k : Int) + (1 : Int)) <
      (↑a_7.l.length : Int)) ∧
      ∃ (s_1 : ByteArray),
      CellsAt a_7.m b
      (off +
      (IntKind.i64.wrap
      ((↑a_7.k : Int) +
      (1 : Int))).toNat *
      (3 : Nat) +
      (1 : Nat))
      [Value.string s_1] ∧
      ifB (!s.toList == s_1.toList)
      (Done
      (Value.bool false =
      Value.bool true))
      (∃ (a' : WkZ),
      (((WkI zs ks za ka
      (a'.i + (1 : Nat))
      a'.nx a'.m a'.l
      a'.a ∧
      (Row a'.m a'.ea
      (stv
      (endsL
      a'.l)) ∧
      Row a'.m a'.pa
      (pls a'.l)) ∧
      a'.k ≤
      a'.l.length) ∧
      a_7.m = a'.m ∧
      ((SV.val
      (Value.int
      IntKind.i64
      (IntKind.i64.wrap
      ((↑a_7.k :
      Int) +
      (1 :
      Int)))) =
      SV.val
      (Value.int
      IntKind.i64
      (↑a'.k :
      Int)) ∧
      true = true) ∧
      (SV.val
      (Value.slice
      a_7.pa
      a_7.l.length
      a_7.pc) =
      SV.val
      (Value.slice
      a'.pa
      a'.l.length
      a'.pc) ∧
      true = true) ∧
      (SV.val
      (Value.slice
      a_7.ea
      a_7.l.length
      a_7.ec) =
      SV.val
      (Value.slice
      a'.ea
      a'.l.length
      a'.ec) ∧
      true =
      true) ∧
      (SV.val
      (Value.int
      IntKind.i64
      (↑a_7.i :
      Int)) =
      SV.val
      (Value.int
      IntKind.i64
      (↑a'.i :
      Int)) ∧
      true =
      true) ∧
      (SV.val
      (Value.slice
      za
      zs.length
      zc) =
      SV.val
      (Value.slice
      za
      zs.length
      zc) ∧
      true =
      true) ∧
      (SV.val
      (Value.slice
      a_7.a
      a_7.l.length
      a_7.c) =
      SV.val
      (Value.slice
      a'.a
      a'.l.length
      a'.c) ∧
      true =
      true) ∧
      (SV.val
      (Value.int
      IntKind.i64
      (↑a_7.nx :
      Int)) =
      SV.val
      (Value.int
      IntKind.i64
      (↑a'.nx :
      Int)) ∧
      true =
      true) ∧
      (SV.val
      (Value.slice
      ka
      ks.length
      kc) =
      SV.val
      (Value.slice
      ka
      ks.length
      kc) ∧
      true =
      true) ∧
      True) ∧
      True) ∧
      [(60 : Nat) - a.i] =
      [(60 : Nat) - a'.i]) ∧
      a'.l.length - a'.k <
      a_7.l.length - a_7.k))
      ((∃ (a_9 : WkZ),
      ((WkI zs ks za ka (a_9.i + (1 : Nat)) a_9.nx a_9.m a_9.l
      a_9.a ∧
      (Row a_9.m a_9.ea (stv (endsL a_9.l)) ∧
      Row a_9.m a_9.pa (pls a_9.l)) ∧
      a_9.k ≤ ks.length ∧ a_9.k ≤ (8 : Nat)) ∧
      a_7.m = a_9.m ∧
      ((SV.val (Value.int IntKind.i64 (0 : Int)) =
      SV.val
      (Value.int IntKind.i64 (↑a_9.k : Int)) ∧
      true = true) ∧
      (SV.val
      (Value.slice a_7.pa a_7.l.length
      a_7.pc) =
      SV.val
      (Value.slice a_9.pa a_9.l.length
      a_9.pc) ∧
      true = true) ∧
      (SV.val
      (Value.slice a_7.ea a_7.l.length
      a_7.ec) =
      SV.val
      (Value.slice a_9.ea a_9.l.length
      a_9.ec) ∧
      true = true) ∧
      (SV.val
      (Value.int IntKind.i64
      (↑a_7.i : Int)) =
      SV.val
      (Value.int IntKind.i64
      (↑a_9.i : Int)) ∧
      true = true) ∧
      (SV.val (Value.slice za zs.length zc) =
      SV.val
      (Value.slice za zs.length zc) ∧
      true = true) ∧
      (SV.val
      (Value.slice a_7.a
      a_7.l.length a_7.c) =
      SV.val
      (Value.slice a_9.a
      a_9.l.length a_9.c) ∧
      true = true) ∧
      (SV.val
      (Value.int IntKind.i64
      (↑a_7.nx : Int)) =
      SV.val
      (Value.int IntKind.i64
      (↑a_9.nx : Int)) ∧
      true = true) ∧
      (SV.val
      (Value.slice ka ks.length
      kc) =
      SV.val
      (Value.slice ka ks.length
      kc) ∧
      true = true) ∧
      True) ∧
      True) ∧
      [(60 : Nat) - a.i] = [(60 : Nat) - a_9.i]) ∧
      ∀ (a_9 : WkZ),
      (WkI zs ks za ka (a_9.i + (1 : Nat)) a_9.nx a_9.m a_9.l
      a_9.a ∧
      (Row a_9.m a_9.ea (stv (endsL a_9.l)) ∧
      Row a_9.m a_9.pa (pls a_9.l)) ∧
      a_9.k ≤ ks.length ∧ a_9.k ≤ (8 : Nat)) ∧
      [(60 : Nat) - a.i] = [(60 : Nat) - a_9.i] →
      ifB (decide ((↑a_9.k : Int) < (↑ks.length : Int)))
      (ifB (decide ((↑a_9.k : Int) < (8 : Int)))
      ((∃ (a_11 : WkZ),
      ((WkI zs ks za ka (a_11.i + (1 : Nat)) a_11.nx
      a_11.m a_11.l a_11.a ∧
      (Row a_11.m a_11.ea
      (stv (endsL a_11.l)) ∧
      Row a_11.m a_11.pa (pls a_11.l)) ∧
      (a_11.k < ks.length ∧
      a_11.k < (8 : Nat)) ∧
      (a_11.j ≤ a_11.l.length ∧
      a_11.n ≤ a_11.j) ∧
      ∀ (y : ByteArray),
      ks[a_11.k]? = some y →
      ∃ (q : Int),
      cntO y
      (List.drop a_11.j
      a_11.l)
      a_11.j (a_11.n, q) =
      ((1 : Nat),
      (↑(findL y a_11.l
      (0 : Nat)
      (0 : Nat)) :
      Int))) ∧
      a_9.m = a_11.m ∧
      ((SV.val
      (Value.int IntKind.i64
      (0 : Int)) =
      SV.val
      (Value.int IntKind.i64
      (↑a_11.j : Int)) ∧
      true = true) ∧
      (SV.val
      (Value.int IntKind.i64
      (0 : Int)) =
      SV.val
      (Value.int IntKind.i64
      (↑a_11.n : Int)) ∧
      true = true) ∧
      (SV.val
      (Value.int IntKind.i64
      (↑a_9.k : Int)) =
      SV.val
      (Value.int IntKind.i64
      (↑a_11.k : Int)) ∧
      true = true) ∧
      (SV.val
      (Value.slice a_9.pa
      a_9.l.length a_9.pc) =
      SV.val
      (Value.slice a_11.pa
      a_11.l.length
      a_11.pc) ∧
      true = true) ∧
      (SV.val
      (Value.slice a_9.ea
      a_9.l.length
      a_9.ec) =
      SV.val
      (Value.slice a_11.ea
      a_11.l.length
      a_11.ec) ∧
      true = true) ∧
      (SV.val
      (Value.int
      IntKind.i64
      (↑a_9.i : Int)) =
      SV.val
      (Value.int
      IntKind.i64
      (↑a_11.i : Int)) ∧
      true = true) ∧
      (SV.val
      (Value.slice za
      zs.length zc) =
      SV.val
      (Value.slice za
      zs.length zc) ∧
      true = true) ∧
      (SV.val
      (Value.slice
      a_9.a
      a_9.l.length
      a_9.c) =
      SV.val
      (Value.slice
      a_11.a
      a_11.l.length
      a_11.c) ∧
      true = true) ∧
      (SV.val
      (Value.int
      IntKind.i64
      (↑a_9.nx :
      Int)) =
      SV.val
      (Value.int
      IntKind.i64
      (↑a_11.nx :
      Int)) ∧
      true = true) ∧
      (SV.val
      (Value.slice
      ka
      ks.length
      kc) =
      SV.val
      (Value.slice
      ka
      ks.length
      kc) ∧
      true = true) ∧
      True) ∧
      True) ∧
      [(8 : Nat) - a_9.k, (60 : Nat) - a.i] =
      [(8 : Nat) - a_11.k,
      (60 : Nat) - a_11.i]) ∧
      ∀ (a_11 : WkZ),
      (WkI zs ks za ka (a_11.i + (1 : Nat)) a_11.nx
      a_11.m a_11.l a_11.a ∧
      (Row a_11.m a_11.ea
      (stv (endsL a_11.l)) ∧
      Row a_11.m a_11.pa (pls a_11.l)) ∧
      (a_11.k < ks.length ∧
      a_11.k < (8 : Nat)) ∧
      (a_11.j ≤ a_11.l.length ∧
      a_11.n ≤ a_11.j) ∧
      ∀ (y : ByteArray),
      ks[a_11.k]? = some y →
      ∃ (q : Int),
      cntO y
      (List.drop a_11.j
      a_11.l)
      a_11.j (a_11.n, q) =
      ((1 : Nat),
      (↑(findL y a_11.l
      (0 : Nat)
      (0 : Nat)) :
      Int))) ∧
      [(8 : Nat) - a_9.k, (60 : Nat) - a.i] =
      [(8 : Nat) - a_11.k,
      (60 : Nat) - a_11.i] →
      ifB
      (decide
      ((↑a_11.j : Int) <
      (↑a_11.l.length : Int)))
      (true = true ∧
      ∃ (b : Nat),
      ∃ (off : Nat),
      a_11.pa =
      some
      { block := b, off := off : Addr } ∧
      ((0 : Int) ≤ (↑a_11.j : Int) ∧
      (↑a_11.j : Int) <
      (↑a_11.l.length : Int)) ∧
      ∃ (s : ByteArray),
      CellsAt a_11.m b
      (off +
      (↑a_11.j :
      Int).toNat *
      (3 : Nat) +
      (1 : Nat))
      [Value.string s] ∧
      ∃ (b : Nat),
      ∃ (off : Nat),
      a_11.ea =
      some
      { block := b, off := off : Addr } ∧
      ((0 : Int) ≤
      (↑a_11.j :
      Int) ∧
      (↑a_11.j : Int) <
      (↑a_11.l.length :
      Int)) ∧
      ∃ (s_1 : ByteArray),
      CellsAt a_11.m b
      (off +
      (↑a_11.j :
      Int).toNat *
      (1 : Nat))
      [Value.string
      s_1] ∧
      ∃ (b : Nat),
      ∃ (off : Nat),
      ka =
      some
      { block := b, off := off : Addr } ∧
      ((0 :
      Int) ≤
      (↑a_11.k :
      Int) ∧
      (↑a_11.k :
      Int) <
      (↑ks.length :
      Int)) ∧
      ∃ (s_2 :
      ByteArray),
      CellsAt
      a_11.m
      b
      (off +
      (↑a_11.k :
      Int).toNat *
      (1 :
      Nat))
      [Value.string
      s_2] ∧
      ∃ (b
      :
      Bool),
      QSpec
      Try.prog
      (14 :
      Nat)
      [Value.string
      s,
      Value.string
      s_1,
      Value.string
      s_2]
      a_11.m
      (Value.bool
      b) ∧
      ifB
      b
      (∃
      (b
      :
      Nat),
      ∃
      (off
      :
      Nat),
      ka =
      some
      { block := b, off := off : Addr } ∧
      ((0 :
      Int) ≤
      (↑a_11.k :
      Int) ∧
      (↑a_11.k :
      Int) <
      (↑ks.length :
      Int)) ∧
      ∃
      (s
      :
      ByteArray),
      CellsAt
      a_11.m
      b
      (off +
      (↑a_11.k :
      Int).toNat *
      (1 :
      Nat))
      [Value.string
      s] ∧
      ∃
      (n
      :
      Int),
      QSpec
      Try.prog
      (16 :
      Nat)
      [Value.slice
      a_11.a
      a_11.l.length
      a_11.c,
      Value.string
      s]
      a_11.m
      (Value.int
      IntKind.i64
      n) ∧
      ifB
      (n !=
      (↑a_11.j :
      Int))
      (Done
      (Value.bool
      false =
      Value.bool
      true))
      (∃
      (a'
      :
      WkZ),
      (((WkI
      zs
      ks
      za
      ka
      (a'.i +
      (1 :
      Nat))
      a'.nx
      a'.m
      a'.l
      a'.a ∧
      (Row
      a'.m
      a'.ea
      (stv
      (endsL
      a'.l)) ∧
      Row
      a'.m
      a'.pa
      (pls
      a'.l)) ∧
      (a'.k <
      ks.length ∧
      a'.k <
      (8 :
      Nat)) ∧
      (a'.j ≤
      a'.l.length ∧
      a'.n ≤
      a'.j) ∧
      ∀
      (y :
      ByteArray),
      ks[a'.k]? =
      some
      y →
      ∃
      (q
      :
      Int),
      cntO
      y
      (List.drop
      a'.j
      a'.l)
      a'.j
      (a'.n,
      q) =
      ((1 :
      Nat),
      (↑(findL
      y
      a'.l
      (0 :
      Nat)
      (0 :
      Nat)) :
      Int))) ∧
      a_11.m =
      a'.m ∧
      ((SV.val
      (Value.int
      IntKind.i64
      (IntKind.i64.wrap
      ((↑a_11.j :
      Int) +
      (1 :
      Int)))) =
      SV.val
      (Value.int
      IntKind.i64
      (↑a'.j :
      Int)) ∧
      true =
      true) ∧
      (SV.val
      (Value.int
      IntKind.i64
      (IntKind.i64.wrap
      ((↑a_11.n :
      Int) +
      (1 :
      Int)))) =
      SV.val
      (Value.int
      IntKind.i64
      (↑a'.n :
      Int)) ∧
      true =
      true) ∧
      (SV.val
      (Value.int
      IntKind.i64
      (↑a_11.k :
      Int)) =
      SV.val
      (Value.int
      IntKind.i64
      (↑a'.k :
      Int)) ∧
      true =
      true) ∧
      (SV.val
      (Value.slice
      a_11.pa
      a_11.l.length
      a_11.pc) =
      SV.val
      (Value.slice
      a'.pa
      a'.l.length
      a'.pc) ∧
      true =
      true) ∧
      (SV.val
      (Value.slice
      a_11.ea
      a_11.l.length
      a_11.ec) =
      SV.val
      (Value.slice
      a'.ea
      a'.l.length
      a'.ec) ∧
      true =
      true) ∧
      (SV.val
      (Value.int
      IntKind.i64
      (↑a_11.i :
      Int)) =
      SV.val
      (Value.int
      IntKind.i64
      (↑a'.i :
      Int)) ∧
      true =
      true) ∧
      (SV.val
      (Value.slice
      za
      zs.length
      zc) =
      SV.val
      (Value.slice
      za
      zs.length
      zc) ∧
      true =
      true) ∧
      (SV.val
      (Value.slice
      a_11.a
      a_11.l.length
      a_11.c) =
      SV.val
      (Value.slice
      a'.a
      a'.l.length
      a'.c) ∧
      true =
      true) ∧
      (SV.val
      (Value.int
      IntKind.i64
      (↑a_11.nx :
      Int)) =
      SV.val
      (Value.int
      IntKind.i64
      (↑a'.nx :
      Int)) ∧
      true =
      true) ∧
      (SV.val
      (Value.slice
      ka
      ks.length
      kc) =
      SV.val
      (Value.slice
      ka
      ks.length
      kc) ∧
      true =
      true) ∧
      True) ∧
      True) ∧
      [(8 :
      Nat) -
      a_9.k,
      (60 :
      Nat) -
      a.i] =
      [(8 :
      Nat) -
      a'.k,
      (60 :
      Nat) -
      a'.i]) ∧
      a'.l.length -
      a'.j <
      a_11.l.length -
      a_11.j))
      (∃
      (a'
      :
      WkZ),
      (((WkI
      zs
      ks
      za
      ka
      (a'.i +
      (1 :
      Nat))
      a'.nx
      a'.m
      a'.l
      a'.a ∧
      (Row
      a'.m
      a'.ea
      (stv
      (endsL
      a'.l)) ∧
      Row
      a'.m
      a'.pa
      (pls
      a'.l)) ∧
      (a'.k <
      ks.length ∧
      a'.k <
      (8 :
      Nat)) ∧
      (a'.j ≤
      a'.l.length ∧
      a'.n ≤
      a'.j) ∧
      ∀
      (y :
      ByteArray),
      ks[a'.k]? =
      some
      y →
      ∃
      (q
      :
      Int),
      cntO
      y
      (List.drop
      a'.j
      a'.l)
      a'.j
      (a'.n,
      q) =
      ((1 :
      Nat),
      (↑(findL
      y
      a'.l
      (0 :
      Nat)
      (0 :
      Nat)) :
      Int))) ∧
      a_11.m =
      a'.m ∧
      ((SV.val
      (Value.int
      IntKind.i64
      (IntKind.i64.wrap
      ((↑a_11.j :
      Int) +
      (1 :
      Int)))) =
      SV.val
      (Value.int
      IntKind.i64
      (↑a'.j :
      Int)) ∧
      true =
      true) ∧
      (SV.val
      (Value.int
      IntKind.i64
      (↑a_11.n :
      Int)) =
      SV.val
      (Value.int
      IntKind.i64
      (↑a'.n :
      Int)) ∧
      true =
      true) ∧
      (SV.val
      (Value.int
      IntKind.i64
      (↑a_11.k :
      Int)) =
      SV.val
      (Value.int
      IntKind.i64
      (↑a'.k :
      Int)) ∧
      true =
      true) ∧
      (SV.val
      (Value.slice
      a_11.pa
      a_11.l.length
      a_11.pc) =
      SV.val
      (Value.slice
      a'.pa
      a'.l.length
      a'.pc) ∧
      true =
      true) ∧
      (SV.val
      (Value.slice
      a_11.ea
      a_11.l.length
      a_11.ec) =
      SV.val
      (Value.slice
      a'.ea
      a'.l.length
      a'.ec) ∧
      true =
      true) ∧
      (SV.val
      (Value.int
      IntKind.i64
      (↑a_11.i :
      Int)) =
      SV.val
      (Value.int
      IntKind.i64
      (↑a'.i :
      Int)) ∧
      true =
      true) ∧
      (SV.val
      (Value.slice
      za
      zs.length
      zc) =
      SV.val
      (Value.slice
      za
      zs.length
      zc) ∧
      true =
      true) ∧
      (SV.val
      (Value.slice
      a_11.a
      a_11.l.length
      a_11.c) =
      SV.val
      (Value.slice
      a'.a
      a'.l.length
      a'.c) ∧
      true =
      true) ∧
      (SV.val
      (Value.int
      IntKind.i64
      (↑a_11.nx :
      Int)) =
      SV.val
      (Value.int
      IntKind.i64
      (↑a'.nx :
      Int)) ∧
      true =
      true) ∧
      (SV.val
      (Value.slice
      ka
      ks.length
      kc) =
      SV.val
      (Value.slice
      ka
      ks.length
      kc) ∧
      true =
      true) ∧
      True) ∧
      True) ∧
      [(8 :
      Nat) -
      a_9.k,
      (60 :
      Nat) -
      a.i] =
      [(8 :
      Nat) -
      a'.k,
      (60 :
      Nat) -
      a'.i]) ∧
      a'.l.length -
      a'.j <
      a_11.l.length -
      a_11.j))
      (ifB ((↑a_11.n : Int) != (1 : Int))
      (Done
      (Value.bool false = Value.bool true))
      (∃ (a' : WkZ),
      (((WkI zs ks za ka (a'.i + (1 : Nat))
      a'.nx a'.m a'.l a'.a ∧
      (Row a'.m a'.ea
      (stv (endsL a'.l)) ∧
      Row a'.m a'.pa
      (pls a'.l)) ∧
      a'.k ≤ ks.length ∧
      a'.k ≤ (8 : Nat)) ∧
      a_11.m = a'.m ∧
      ((SV.val
      (Value.int
      IntKind.i64
      (IntKind.i64.wrap
      ((↑a_11.k :
      Int) +
      (1 : Int)))) =
      SV.val
      (Value.int
      IntKind.i64
      (↑a'.k : Int)) ∧
      true = true) ∧
      (SV.val
      (Value.slice
      a_11.pa
      a_11.l.length
      a_11.pc) =
      SV.val
      (Value.slice a'.pa
      a'.l.length
      a'.pc) ∧
      true = true) ∧
      (SV.val
      (Value.slice
      a_11.ea
      a_11.l.length
      a_11.ec) =
      SV.val
      (Value.slice
      a'.ea
      a'.l.length
      a'.ec) ∧
      true = true) ∧
      (SV.val
      (Value.int
      IntKind.i64
      (↑a_11.i :
      Int)) =
      SV.val
      (Value.int
      IntKind.i64
      (↑a'.i :
      Int)) ∧
      true = true) ∧
      (SV.val
      (Value.slice
      za
      zs.length
      zc) =
      SV.val
      (Value.slice
      za
      zs.length
      zc) ∧
      true = true) ∧
      (SV.val
      (Value.slice
      a_11.a
      a_11.l.length
      a_11.c) =
      SV.val
      (Value.slice
      a'.a
      a'.l.length
      a'.c) ∧
      true = true) ∧
      (SV.val
      (Value.int
      IntKind.i64
      (↑a_11.nx :
      Int)) =
      SV.val
      (Value.int
      IntKind.i64
      (↑a'.nx :
      Int)) ∧
      true =
      true) ∧
      (SV.val
      (Value.slice
      ka
      ks.length
      kc) =
      SV.val
      (Value.slice
      ka
      ks.length
      kc) ∧
      true =
      true) ∧
      True) ∧
      True) ∧
      [(60 : Nat) - a.i] =
      [(60 : Nat) - a'.i]) ∧
      (8 : Nat) - a'.k <
      (8 : Nat) - a_9.k)))
      (∃ (a' : WkX),
      (WkI zs ks za ka a'.i a'.nx a'.m a'.l a'.a ∧
      a_9.m = a'.m ∧
      ((SV.val
      (Value.int IntKind.i64
      (IntKind.i64.wrap
      ((↑a_9.i : Int) +
      (1 : Int)))) =
      SV.val
      (Value.int IntKind.i64
      (↑a'.i : Int)) ∧
      true = true) ∧
      (SV.val
      (Value.slice za zs.length
      zc) =
      SV.val
      (Value.slice za zs.length
      zc) ∧
      true = true) ∧
      (SV.val
      (Value.slice a_9.a
      a_9.l.length a_9.c) =
      SV.val
      (Value.slice a'.a
      a'.l.length a'.c) ∧
      true = true) ∧
      (SV.val
      (Value.int IntKind.i64
      (↑a_9.nx : Int)) =
      SV.val
      (Value.int IntKind.i64
      (↑a'.nx : Int)) ∧
      true = true) ∧
      (SV.val
      (Value.slice ka
      ks.length kc) =
      SV.val
      (Value.slice ka
      ks.length kc) ∧
      true = true) ∧
      True) ∧
      True) ∧
      (60 : Nat) - a'.i < (60 : Nat) - a.i))
      (∃ (a' : WkX),
      (WkI zs ks za ka a'.i a'.nx a'.m a'.l a'.a ∧
      a_9.m = a'.m ∧
      ((SV.val
      (Value.int IntKind.i64
      (IntKind.i64.wrap
      ((↑a_9.i : Int) +
      (1 : Int)))) =
      SV.val
      (Value.int IntKind.i64
      (↑a'.i : Int)) ∧
      true = true) ∧
      (SV.val (Value.slice za zs.length zc) =
      SV.val
      (Value.slice za zs.length zc) ∧
      true = true) ∧
      (SV.val
      (Value.slice a_9.a
      a_9.l.length a_9.c) =
      SV.val
      (Value.slice a'.a a'.l.length
      a'.c) ∧
      true = true) ∧
      (SV.val
      (Value.int IntKind.i64
      (↑a_9.nx : Int)) =
      SV.val
      (Value.int IntKind.i64
      (↑a'.nx : Int)) ∧
      true = true) ∧
      (SV.val
      (Value.slice ka ks.length
      kc) =
      SV.val
      (Value.slice ka ks.length
      kc) ∧
      true = true) ∧
      True) ∧
      True) ∧
      (60 : Nat) - a'.i < (60 : Nat) - a.i))))))))))
      (Done (Value.bool true = Value.bool true)))
      (Done (Value.bool true = Value.bool true)))) (by kernel_rfl) ?_
  have h0 := h.sz hn
  have h20 := h2.sz hn
  refine ⟨rfl, _, rg_awake _, ifB_intro (fun h1 => by cases h1) (fun _ => ⟨by trivial, fun b hb => ⟨⟨⟨0, 2, _, aw0, some ⟨b, 0, none⟩, 1⟩, ⟨⟨Nat.zero_le _, Nat.zero_le _⟩, Nat.le_refl 2, by kernel_rfl, Row.new, h0.newBlock hb, h20.newBlock hb⟩, rfl, by simp⟩, ?_⟩⟩)⟩
  rintro ⟨i, nx, mx, l, a, c⟩ ⟨⟨hi1, hi2⟩, hnx, hR, hrl, hrz, hrk⟩
  simp only at hi1 hi2 hnx hR hrl hrz hrk ⊢
  have h7 := right_len hR
  have hp := right_pos hR
  refine ifB_intro (fun g1 => ifB_intro (fun g2 => ?_) (fun _ => ⟨by trivial⟩)) (fun _ => ⟨by trivial⟩)
  have hlt : i < zs.length := by simpa using g1
  have h60 : i < 60 := by simp at g2; omega
  have wi : IntKind.i64.wrap ((i : Int) + 1) = ((i + 1 : Nat) : Int) := by rw [IntKind.wrap_i64]; omega
  obtain ⟨bz, oz, rfl, hcz⟩ := hrz.cells (by rw [ch_len]; omega)
  have czm : CellsAt mx bz (oz + i * 3 + 0) [.bool zs[i].mg] := ⟨fun j hj => by
    have hj : j = 0 := by simpa using hj
    subst hj
    have := (ch_at hcz hlt).out 0 (by simp [encCh])
    simpa [encCh] using this⟩
  have czi : CellsAt mx bz (oz + i * 3 + 1) [I zs[i].ix] := ⟨fun j hj => by
    have hj : j = 0 := by simpa using hj
    subst hj
    have := (ch_at hcz hlt).out 1 (by simp [encCh])
    simpa [encCh] using this⟩
  have czk : CellsAt mx bz (oz + i * 3 + 2) [.string zs[i].ky] := ⟨fun j hj => by
    have hj : j = 0 := by simpa using hj
    subst hj
    have := (ch_at hcz hlt).out 2 (by simp [encCh])
    simpa [encCh] using this⟩
  have hwz := (hw zs[i] (List.getElem_mem hlt)).1
  obtain ⟨z, hzz⟩ : ∃ z, zs[i] = z := ⟨_, rfl⟩
  rw [hzz] at czm czi czk hwz
  refine ⟨⟨bz, oz, rfl, by omega, _, by simpa using czm, ifB_intro (fun g3 => ?_) (fun g3 => ?_)⟩, ?_⟩
  · refine ⟨bz, oz, rfl, by omega, _, by simpa using czi, _, noS, fun n2 hn2 => (rg_merge l a c z.ix hwz (by omega) _ (hrl.sz hn2)).monoW fun v2 m2 g2' ⟨ax, cx, hv2, rx⟩ => ⟨_, _, _, _, hv2, ⟨i, nx, m2, l, a, c, (mergeL l z.ix).1, ax, cx, (mergeL l z.ix).2⟩, ⟨⟨⟨⟨hi1, hi2⟩, hnx, hR, (hrl.sz hn2).agree g2', (hrz.sz hn2).agree g2', (hrk.sz hn2).agree g2'⟩, ⟨hlt, h60⟩, fun he => (merge_bad he).1, fun he => ?_, rx⟩, rfl, by simp⟩, rfl⟩⟩
    obtain ⟨-, k0, k1, k2, k3⟩ := merge_ok (l := l) (i := z.ix) he
    have hE0 : 0 ≤ epochL l := epoch_nn l 0
    simp only [k3]
    exact ⟨del_right hR ⟨by omega, by omega⟩ k1, del_epoch (by omega)⟩
  · refine ⟨bz, oz, rfl, by omega, _, by simpa using czk, _, noS, fun n2 hn2 => (rg_split l a c z.ky (nx : Int) (by omega) _ (hrl.sz hn2)).monoW fun v2 m2 g2' ⟨ax, cx, hv2, rx⟩ => ⟨_, _, _, _, hv2, ⟨i, nx, m2, l, a, c, (splitL l z.ky nx).1, ax, cx, (splitL l z.ky nx).2⟩, ⟨⟨⟨⟨hi1, hi2⟩, hnx, hR, (hrl.sz hn2).agree g2', (hrz.sz hn2).agree g2', (hrk.sz hn2).agree g2'⟩, ⟨hlt, h60⟩, fun he => split_bad he, fun he => ?_, rx⟩, rfl, by simp⟩, rfl⟩⟩
    obtain ⟨-, k1, k2, k3, k4, k5, k6⟩ := split_ok (l := l) (key := z.ky) (g := nx) he
    have hE0 : 0 ≤ epochL l := epoch_nn l 0
    simp only [k6]
    exact ⟨ins_right hR k1 k2 ⟨by omega, by omega⟩ k3 k4, ins_epoch (findL_len _ hp)⟩
  · rintro ⟨i', nx', mv, l', a', c', x, xa, xc, e⟩ ⟨⟨⟨⟨vi1, vi2⟩, vnx, vR, vl, vz, vk⟩, ⟨vlt, v60⟩, ve1, ve2, vx⟩, hctx⟩
    simp only at vi1 vi2 vnx vR vl vz vk vlt v60 ve1 ve2 vx hctx ⊢
    obtain rfl : i' = i := by simp at hctx; omega
    have v7 := right_len vR
    refine ifB_intro (fun q1 => ?_) (fun q1 => ?_)
    · have he : e ≠ 0 := by simpa using q1
      have hx0 := ve1 he
      subst hx0
      refine ifB_false ⟨⟨i' + 1, nx', mv, l', a', c'⟩, ⟨⟨⟨hlt, h60⟩, by simp only; omega, vR, vl, vz, vk⟩, rfl, by simp [wi]⟩, by simp only; omega⟩
    · have he : e = 0 := by simpa using q1
      obtain ⟨xR, xE⟩ := ve2 he
      have wn : IntKind.i64.wrap ((nx' : Int) + 1) = ((nx' + 1 : Nat) : Int) := by rw [IntKind.wrap_i64]; omega
      obtain ⟨bz', oz', ez, hcz'⟩ := vz.cells (by rw [ch_len]; omega)
      obtain ⟨rfl, rfl⟩ : bz = bz' ∧ oz = oz' := by simpa using ez
      have czm' : CellsAt mv bz (oz + i' * 3 + 0) [.bool zs[i'].mg] := ⟨fun j hj => by
        have hj : j = 0 := by simpa using hj
        subst hj
        have := (ch_at hcz' hlt).out 0 (by simp [encCh])
        simpa [encCh] using this⟩
      refine ⟨⟨bz, oz, rfl, by omega, _, by simpa using czm', ifB_intro (fun q2 => ⟨⟨i', nx' + 1, mv, l', a', c', x, xa, xc⟩, ⟨⟨⟨⟨hlt, h60⟩, by simp only; omega, vR, vl, vz, vk⟩, xR, xE, vx⟩, rfl, by simp [wn]⟩, by trivial⟩) (fun q2 => ⟨⟨i', nx', mv, l', a', c', x, xa, xc⟩, ⟨⟨⟨⟨hlt, h60⟩, by simp only; omega, vR, vl, vz, vk⟩, xR, xE, vx⟩, rfl, by simp⟩, by trivial⟩)⟩, ?_⟩
      clear vl vz vk vx xR xE ve1 ve2 vR vnx he q1 hcz' czm' wn
      rintro ⟨i2, nx2, m2, l2, a2, c2, x2, xa2, xc2⟩ ⟨⟨⟨⟨ui1, ui2⟩, unx, uR, ul, uz, uk⟩, xR, xE, ux⟩, hctx2⟩
      simp only at ui1 ui2 unx uR ul uz uk xR xE ux hctx2 ⊢
      obtain rfl : i2 = i' := by simp at hctx2; omega
      have u7 := right_len uR
      have x7 := right_len xR
      have xp := right_pos xR
      have hEl := epoch_le xR
      have hE0 : 0 ≤ epochL l2 := epoch_nn l2 0
      have wE : IntKind.i64.wrap (epochL l2 + 1) = epochL l2 + 1 := by rw [IntKind.wrap_i64]; omega
      refine ⟨_, rg_check x2 xa2 xc2 (by omega) m2 ux, ifB_intro (fun q => by simp [xR] at q) (fun _ => ⟨_, rg_epoch x2 xa2 xc2 (by omega) (row_h0 ux) m2 ux, _, rg_epoch l2 a2 c2 (by omega) (row_h0 ul) m2 ul, ?_⟩)⟩
      rw [wE, xE]
      refine ifB_intro (fun q => by simp at q) (fun _ => ⟨_, noS, fun n3 hn3 => (rg_told x2 xa2 xc2 (by omega) (row_h0 ux) _ (ux.sz hn3)).monoW fun v3 m3 g3 ⟨ea, ec, pa, pc, hv3, re, rp⟩ => ⟨_, _, _, _, _, _, _, hv3, ifB_intro (fun q => by cases q) (fun _ => ifB_intro (fun q => by simp at q) (fun _ => ?_))⟩⟩)
      have wl : IntKind.i64.wrap ((x2.length : Int) - 1) = ((x2.length - 1 : Nat) : Int) := by rw [IntKind.wrap_i64]; omega
      have sx := (ux.sz hn3).agree g3
      have sz := (uz.sz hn3).agree g3
      have sk := (uk.sz hn3).agree g3
      have re0 := re
      have rp0 := rp
      obtain ⟨be, oe, rfl, hce⟩ := re.cells (by rw [stv_len]; omega)
      obtain ⟨bp, op, rfl, hcp⟩ := rp.cells (by rw [pl_len]; omega)
      have hend : endP x2 (x2.length - 1) = .empty := end_none (by simp; omega)
      have hhd : hdF x2 = x2[0].fr := by cases x2 with | nil => simp at xp | cons y ys => rfl
      have hem : (!x2[0].fr.toList == []) = false := by
        have := (right_iff.1 xR).1.2
        rw [hhd] at this
        simpa [emptyB] using this
      rw [wl]
      refine ⟨be, oe, rfl, by omega, endP x2 (x2.length - 1), by simpa using stv_at hce (by omega : x2.length - 1 < x2.length), ?_⟩
      have q5 : (!(endP x2 (x2.length - 1)).toList == []) = false := by rw [hend]; kernel_rfl
      rw [q5]
      refine ifB_false ⟨bp, op, rfl, by omega, x2[0].fr, by simpa using pl_frc hcp xp, ?_⟩
      rw [hem]
      refine ifB_false ⟨⟨⟨i2, nx2, m3, x2, xa2, xc2, _, ec, _, pc, 0, 0, 0⟩, ⟨⟨⟨⟨ui1, ui2⟩, unx, xR, sx, sz, sk⟩, ⟨re0, rp0⟩, Nat.zero_le _⟩, rfl, by simp⟩, by trivial⟩, ?_⟩
      clear re0 rp0 hce hcp hend hhd hem q5 sx sz sk wl
      rintro ⟨i3, nx3, m4, l3, a3, c3, ea3, ec3, pa3, pc3, k, j0, n0⟩ ⟨⟨⟨⟨wi1, wi2⟩, wnx, wR, wl3, wz, wk⟩, ⟨we, wp⟩, hkk⟩, hctx3⟩
      simp only at wi1 wi2 wnx wR wl3 wz wk we wp hkk hctx3 ⊢
      obtain rfl : i3 = i2 := by simp at hctx3; omega
      have w7 := right_len wR
      have wpos := right_pos wR
      have wkk : IntKind.i64.wrap ((k : Int) + 1) = ((k + 1 : Nat) : Int) := by rw [IntKind.wrap_i64]; omega
      have we0 := we
      have wp0 := wp
      obtain ⟨be3, oe3, rfl, hce⟩ := we.cells (by rw [stv_len]; omega)
      obtain ⟨bp3, op3, rfl, hcp⟩ := wp.cells (by rw [pl_len]; omega)
      rw [wkk]
      refine ifB_intro (fun q => ?_) (fun q => ?_)
      · have hk2 : k + 1 < l3.length := by simp at q; omega
        refine ⟨by trivial, be3, oe3, rfl, by omega, endP l3 k, by simpa using stv_at hce (by omega : k < l3.length), bp3, op3, rfl, by omega, l3[k + 1].fr, by simpa using pl_frc hcp hk2, ?_⟩
        have e6 : endP l3 k = l3[k + 1].fr := by simp [endP, hk2]
        have q6 : (!(endP l3 k).toList == l3[k + 1].fr.toList) = false := by rw [e6]; simp
        rw [q6]
        exact ifB_false ⟨⟨i3, nx3, m4, l3, a3, c3, _, ec3, _, pc3, k + 1, j0, n0⟩, ⟨⟨⟨⟨⟨wi1, wi2⟩, wnx, wR, wl3, wz, wk⟩, ⟨we0, wp0⟩, by simp only; omega⟩, rfl, by simp⟩, by trivial⟩, by simp only; omega⟩
      · refine ⟨⟨⟨i3, nx3, m4, l3, a3, c3, _, ec3, _, pc3, 0, 0, 0⟩, ⟨⟨⟨⟨wi1, wi2⟩, wnx, wR, wl3, wz, wk⟩, ⟨we0, wp0⟩, Nat.zero_le _, Nat.zero_le _⟩, rfl, by simp⟩, by trivial⟩, ?_⟩
        clear we0 wp0 hce hcp q wkk
        rintro ⟨i4, nx4, m5, l4, a4, c4, ea4, ec4, pa4, pc4, k4, j4, n4⟩ ⟨⟨⟨⟨yi1, yi2⟩, ynx, yR, yl, yz, yk⟩, ⟨ye, yp⟩, hk1, hk8⟩, hctx4⟩
        simp only at yi1 yi2 ynx yR yl yz yk ye yp hk1 hk8 hctx4 ⊢
        obtain rfl : i4 = i3 := by simp at hctx4; omega
        have y7 := right_len yR
        have wi4 : IntKind.i64.wrap ((i4 : Int) + 1) = ((i4 + 1 : Nat) : Int) := by rw [IntKind.wrap_i64]; omega
        have wk4 : IntKind.i64.wrap ((k4 : Int) + 1) = ((k4 + 1 : Nat) : Int) := by rw [IntKind.wrap_i64]; omega
        refine ifB_intro (fun q => ifB_intro (fun q2 => ?_) (fun _ => ⟨⟨i4 + 1, nx4, m5, l4, a4, c4⟩, ⟨⟨⟨yi1, yi2⟩, ynx, yR, yl, yz, yk⟩, rfl, by simp [wi4]⟩, by simp only; omega⟩)) (fun _ => ⟨⟨i4 + 1, nx4, m5, l4, a4, c4⟩, ⟨⟨⟨yi1, yi2⟩, ynx, yR, yl, yz, yk⟩, rfl, by simp [wi4]⟩, by simp only; omega⟩)
        have kl : k4 < ks.length := by simpa using q
        have k8 : k4 < 8 := by simp at q2; omega
        refine ⟨⟨⟨i4, nx4, m5, l4, a4, c4, ea4, ec4, pa4, pc4, k4, 0, 0⟩, ⟨⟨⟨⟨yi1, yi2⟩, ynx, yR, yl, yz, yk⟩, ⟨ye, yp⟩, ⟨kl, k8⟩, ⟨Nat.zero_le _, Nat.zero_le _⟩, fun y _ => ⟨-1, one_law y yR⟩⟩, rfl, by simp⟩, by trivial⟩, ?_⟩
        clear ye yp yl yz yk ynx
        rintro ⟨i5, nx5, m6, l5, a5, c5, ea5, ec5, pa5, pc5, k5, j5, n5⟩ ⟨⟨⟨⟨zi1, zi2⟩, znx, zR, zl, zz, zk⟩, ⟨ze, zp⟩, ⟨zkl, zk8⟩, ⟨zj, zn⟩, zc⟩, hctx5⟩
        simp only at zi1 zi2 znx zR zl zz zk ze zp zkl zk8 zj zn zc hctx5 ⊢
        have hik : k5 = k4 ∧ i5 = i4 := by simp at hctx5; omega
        obtain ⟨rfl, rfl⟩ := hik
        have z7 := right_len zR
        have keyk : ks[k5]? = some ks[k5] := List.getElem?_eq_getElem zkl
        obtain ⟨key, hkey⟩ : ∃ key, ks[k5] = key := ⟨_, rfl⟩
        rw [hkey] at keyk
        obtain ⟨qv, hcnt⟩ := zc _ keyk
        refine ifB_intro (fun q => ?_) (fun q => ?_)
        · have hj : j5 < l5.length := by simpa using q
          have wj : IntKind.i64.wrap ((j5 : Int) + 1) = ((j5 + 1 : Nat) : Int) := by rw [IntKind.wrap_i64]; omega
          have wn : IntKind.i64.wrap ((n5 : Int) + 1) = ((n5 + 1 : Nat) : Int) := by rw [IntKind.wrap_i64]; omega
          have ze0 := ze
          have zp0 := zp
          have zk0 := zk
          obtain ⟨be, oe, rfl, hce⟩ := ze.cells (by rw [stv_len]; omega)
          obtain ⟨bp, op, rfl, hcp⟩ := zp.cells (by rw [pl_len]; omega)
          obtain ⟨bk, ok, rfl, hck⟩ := zk.cells (by rw [ks_len]; omega)
          have ck := ks_at hck zkl
          rw [hkey] at ck
          rw [List.drop_eq_getElem_cons hj, cntO, hdF_drop] at hcnt
          refine ⟨by trivial, bp, op, rfl, by omega, l5[j5].fr, by simpa using pl_frc hcp hj, be, oe, rfl, by omega, endP l5 j5, by simpa using stv_at hce hj, bk, ok, rfl, by omega, key, by simpa using ck, _, rf_within _ _ _ m6, ifB_intro (fun q3 => ?_) (fun q3 => ?_)⟩
          · rw [q3] at hcnt
            simp only [if_true] at hcnt
            have hm := cnt_mono hcnt (by simp only; omega)
            simp only [Prod.mk.injEq] at hm
            refine ⟨bk, ok, rfl, by omega, key, by simpa using ck, _, rg_find l5 a5 c5 key (by omega) m6 zl, ?_⟩
            have q6 : (((findL key l5 0 0 : Nat) : Int) != (j5 : Int)) = false := by rw [← hm.2]; simp
            rw [q6]
            exact ifB_false ⟨⟨i5, nx5, m6, l5, a5, c5, _, ec5, _, pc5, k5, j5 + 1, n5 + 1⟩, ⟨⟨⟨⟨⟨zi1, zi2⟩, znx, zR, zl, zz, zk0⟩, ⟨ze0, zp0⟩, ⟨zkl, zk8⟩, ⟨hj, by simp only; omega⟩, fun y hy => ⟨j5, by rw [keyk] at hy; cases hy; exact hcnt⟩⟩, rfl, by simp [wj, wn]⟩, by trivial⟩, by simp only; omega⟩
          · rw [q3] at hcnt
            simp only [Bool.false_eq_true, if_false] at hcnt
            exact ⟨⟨i5, nx5, m6, l5, a5, c5, _, ec5, _, pc5, k5, j5 + 1, n5⟩, ⟨⟨⟨⟨⟨zi1, zi2⟩, znx, zR, zl, zz, zk0⟩, ⟨ze0, zp0⟩, ⟨zkl, zk8⟩, ⟨hj, by simp only; omega⟩, fun y hy => ⟨qv, by rw [keyk] at hy; cases hy; exact hcnt⟩⟩, rfl, by simp [wj]⟩, by trivial⟩, by simp only; omega⟩
        · have : j5 = l5.length := by simp at q; omega
          subst this
          rw [List.drop_length, cntO] at hcnt
          simp only [Prod.mk.injEq] at hcnt
          have q6 : ((n5 : Int) != 1) = false := by rw [hcnt.1]; rfl
          rw [q6]
          exact ifB_false ⟨⟨i5, nx5, m6, l5, a5, c5, ea5, ec5, pa5, pc5, k5 + 1, 0, 0⟩, ⟨⟨⟨⟨⟨zi1, zi2⟩, znx, zR, zl, zz, zk⟩, ⟨ze, zp⟩, zkl, zk8⟩, rfl, by simp [wk4]⟩, by trivial⟩, by simp only; omega⟩

end Go.Proofs.Ytpnpebefcmgjoaa
