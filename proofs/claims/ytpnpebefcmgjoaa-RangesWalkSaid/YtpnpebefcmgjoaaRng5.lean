/-
  Contracts of functions of this seat: what each hands back, and what it leaves of memory (rng5). Nothing here is trusted: Lean checks it.
-/
import Derived.Test.YtpnpebefcmgjoaaRng3
set_option linter.unusedVariables false
set_option linter.unusedSimpArgs false
namespace Go.Proofs.Ytpnpebefcmgjoaa
open Go.Vc Go.RowKit
set_option maxRecDepth 100000

def grpB (g : Int) : Bool := decide (1 ≤ g) && decide (g < 8)

def plB (x : Pl) : Bool := grpB x.gr && (decide (1 ≤ x.ep) && (decide (x.ep ≤ 4611686018427387904) && decide (x.fr.size ≤ 16)))

def aftB (s : Option ByteArray) (x : Pl) : Bool := match s with | none => true | some s => ltS s x.fr

def chk (seen : List Int) (last : Option ByteArray) : List Pl → Bool
  | [] => true
  | x :: xs => plB x && (!seen.contains x.gr && (aftB last x && chk (seen ++ [x.gr]) (some x.fr) xs))

def lastF (l : List Pl) (k : Nat) : Option ByteArray := if k = 0 then none else (l[k - 1]?).map (·.fr)

def gsL (l : List Pl) (k : Nat) : List Int := (l.take k).map (·.gr)

def rightB (l : List Pl) : Bool := !l.isEmpty && (emptyB (hdF l) && chk [] none l)

def seenRow (s : List Int) : List Value := (List.range 8).map fun i : Nat => .bool (s.contains (i : Int))

theorem rg_group (g : Int) (m : M) :
    QSpec Try.prog 33 [I g] m (.bool (grpB g)) := by
  refine QSpec.of_vc Try.func33 (ann := fun _ => noAnn) fun n hn => ?_
  refine vc_by (X :=
      true = true ∧ ifB (decide (g ≥ (1 : Int))) (Done (Value.bool (decide (g < (8 : Int))) = Value.bool (grpB g))) (Done (Value.bool false = Value.bool (grpB g)))) (by kernel_rfl) ?_
  refine ⟨rfl, ifB_intro (fun h1 => ⟨?_⟩) (fun h1 => ⟨?_⟩)⟩
  · have : decide (1 ≤ g) = true := by simpa using h1
    simp [grpB, this]
  · have : decide (1 ≤ g) = false := by simpa using h1
    simp [grpB, this]

theorem seen_get (s : List Int) {j : Nat} (h : j < 8) : (seenRow s)[j]? = some (.bool (s.contains (j : Int))) := by
  simp [seenRow, h]

theorem seen_len (s : List Int) : (seenRow s).length = 8 := by simp [seenRow]

theorem gs_succ {l : List Pl} {k : Nat} (h : k < l.length) : gsL l (k + 1) = gsL l k ++ [l[k].gr] := by
  unfold gsL
  rw [List.take_succ_eq_append_getElem h, List.map_append]
  rfl

theorem last_succ {l : List Pl} {k : Nat} (h : k < l.length) : lastF l (k + 1) = some l[k].fr := by
  unfold lastF
  rw [if_neg (Nat.succ_ne_zero k), Nat.add_sub_cancel, List.getElem?_eq_getElem h]
  rfl

theorem chk_at {l : List Pl} {k : Nat} (h : k < l.length) : chk (gsL l k) (lastF l k) (l.drop k) = (plB l[k] && (!(gsL l k).contains l[k].gr && (aftB (lastF l k) l[k] && chk (gsL l (k + 1)) (lastF l (k + 1)) (l.drop (k + 1))))) := by
  rw [List.drop_eq_getElem_cons h, gs_succ h, last_succ h]
  rfl

structure SeenC (m : M) (b : Nat) (s : List Int) : Prop where
  out : CellsAt m b 0 (seenRow s)

structure CkX where
  k : Nat
  b : Nat
  m : M

theorem rg_check (l : List Pl) (a : Option Addr) (c : Nat) (hl : l.length ≤ 9223372036854775807) (m : M) (h : Row m a (pls l)) :
    QSpec Try.prog 19 [.slice a l.length c] m (I (if rightB l then 0 else 21)) := by
  refine QSpec.of_vc Try.func19 (ann := fun n _ => { A := CkX, inv := fun x => x.k ≤ l.length ∧ (emptyB (hdF l) = true ∧ chk (gsL l x.k) (lastF l x.k) (l.drop x.k) = chk [] none l) ∧ (n ≤ x.b ∧ x.m.uf x.b ∧ SeenC x.m x.b (gsL l x.k) ∧ Row x.m a (pls l)), st := fun x => [(18, .val (I x.k)), (17, .val (I l.length)), (16, .val (.slice a l.length c)), (3, .val (.pointer (some ⟨x.b, 0, none⟩))), (0, .val (.slice a l.length c))], own := fun _ => [], m := fun x => x.m, μ := fun x => l.length - x.k, esc := [11] }) fun n hn => ?_
  refine vc_by (X :=
      true = true ∧
      ifB (decide ((↑l.length : Int) < (1 : Int))) (Done (Value.int IntKind.i64 (21 : Int) = Value.int IntKind.i64 (if rightB l = true then (0 : Int) else (21 : Int))))
      (∃ (b : Nat),
      ∃ (off : Nat),
      a = some { block := b, off := off : Addr } ∧
      ((0 : Int) ≤ (0 : Int) ∧ (0 : Int) < (↑l.length : Int)) ∧
      ∃ (s : ByteArray),
      CellsAt { π := m.π, sz := n, uf := m.uf : M } b (off + (0 : Nat) + (1 : Nat)) [Value.string s] ∧
      ifB (!s.toList == []) (Done (Value.int IntKind.i64 (21 : Int) = Value.int IntKind.i64 (if rightB l = true then (0 : Int) else (21 : Int))))
      (∀ (b : Nat),
      Fresh n { π := m.π, sz := n, uf := m.uf : M } b →
      (∃ (a_2 : CkX),
      (a_2.k ≤ l.length ∧
      (emptyB (hdF l) = true ∧ chk (gsL l a_2.k) (lastF l a_2.k) (List.drop a_2.k l) = chk [] none l) ∧
      n ≤ a_2.b ∧ a_2.m.uf a_2.b ∧ SeenC a_2.m a_2.b (gsL l a_2.k) ∧ Row a_2.m a (pls l)) ∧
      { π := m.π, sz := n, uf := m.uf : M }.newBlock b
      [Value.bool false, Value.bool false, Value.bool false, Value.bool false, Value.bool false, Value.bool false, Value.bool false, Value.bool false] =
      a_2.m ∧
      ((SV.val (Value.int IntKind.i64 (0 : Int)) = SV.val (Value.int IntKind.i64 (↑a_2.k : Int)) ∧ true = true) ∧
      (SV.val (Value.int IntKind.i64 (↑l.length : Int)) = SV.val (Value.int IntKind.i64 (↑l.length : Int)) ∧ true = true) ∧
      (SV.val (Value.slice a l.length c) = SV.val (Value.slice a l.length c) ∧ true = true) ∧
      (SV.val (Value.pointer (some { block := b, off := (0 : Nat) : Addr })) =
      SV.val (Value.pointer (some { block := a_2.b, off := (0 : Nat) : Addr })) ∧
      true = true) ∧
      (SV.val (Value.slice a l.length c) = SV.val (Value.slice a l.length c) ∧ true = true) ∧ True) ∧
      True) ∧
      ∀ (a_2 : CkX),
      a_2.k ≤ l.length ∧
      (emptyB (hdF l) = true ∧ chk (gsL l a_2.k) (lastF l a_2.k) (List.drop a_2.k l) = chk [] none l) ∧
      n ≤ a_2.b ∧ a_2.m.uf a_2.b ∧ SeenC a_2.m a_2.b (gsL l a_2.k) ∧ Row a_2.m a (pls l) →
      ifB (decide ((↑a_2.k : Int) < (↑l.length : Int)))
      (∃ (b : Nat),
      ∃ (off : Nat),
      a = some { block := b, off := off : Addr } ∧
      ((0 : Int) ≤ (↑a_2.k : Int) ∧ (↑a_2.k : Int) < (↑l.length : Int)) ∧
      ∃ (n_1 : Int),
      ∃ (s : ByteArray),
      ∃ (n_2 : Int),
      CellsAt a_2.m b (off + (↑a_2.k : Int).toNat * (3 : Nat)) [Value.int IntKind.i64 n_1, Value.string s, Value.int IntKind.i64 n_2] ∧
      true = true ∧
      ∃ (b : Bool),
      QSpec Try.prog (33 : Nat) [Value.int IntKind.i64 n_1] a_2.m (Value.bool b) ∧
      ifB (!b) (Done (Value.int IntKind.i64 (21 : Int) = Value.int IntKind.i64 (if rightB l = true then (0 : Int) else (21 : Int))))
      (((0 : Int) ≤ n_1 ∧ n_1 < (↑(8 : Nat) : Int)) ∧
      ∃ (b : Bool),
      CellsAt a_2.m a_2.b ((0 : Nat) + n_1.toNat * (1 : Nat)) [Value.bool b] ∧
      ifB b
      (Done (Value.int IntKind.i64 (21 : Int) = Value.int IntKind.i64 (if rightB l = true then (0 : Int) else (21 : Int))))
      (ifB (decide (n_2 < (1 : Int)))
      (Done
      (Value.int IntKind.i64 (21 : Int) = Value.int IntKind.i64 (if rightB l = true then (0 : Int) else (21 : Int))))
      (ifB (decide (n_2 > (4611686018427387904 : Int)))
      (Done
      (Value.int IntKind.i64 (21 : Int) = Value.int IntKind.i64 (if rightB l = true then (0 : Int) else (21 : Int))))
      (ifB (decide ((↑s.size : Int) > (16 : Int)))
      (Done
      (Value.int IntKind.i64 (21 : Int) =
      Value.int IntKind.i64 (if rightB l = true then (0 : Int) else (21 : Int))))
      (ifB (decide ((↑a_2.k : Int) > (0 : Int)))
      (∃ (b : Nat),
      ∃ (off : Nat),
      a = some { block := b, off := off : Addr } ∧
      ((0 : Int) ≤ IntKind.i64.wrap ((↑a_2.k : Int) - (1 : Int)) ∧
      IntKind.i64.wrap ((↑a_2.k : Int) - (1 : Int)) < (↑l.length : Int)) ∧
      ∃ (s_1 : ByteArray),
      CellsAt a_2.m b
      (off + (IntKind.i64.wrap ((↑a_2.k : Int) - (1 : Int))).toNat * (3 : Nat) + (1 : Nat))
      [Value.string s_1] ∧
      ifB (Op.bytesLess s.toList s_1.toList || s.toList == s_1.toList)
      (Done
      (Value.int IntKind.i64 (21 : Int) =
      Value.int IntKind.i64 (if rightB l = true then (0 : Int) else (21 : Int))))
      (((0 : Int) ≤ n_1 ∧ n_1 < (↑(8 : Nat) : Int)) ∧
      Wr n (fun (x : Nat) => False) a_2.m a_2.b ((0 : Nat) + n_1.toNat * (1 : Nat)) (1 : Nat) ∧
      ∃ (a' : CkX),
      ((a'.k ≤ l.length ∧
      (emptyB (hdF l) = true ∧
      chk (gsL l a'.k) (lastF l a'.k) (List.drop a'.k l) = chk [] none l) ∧
      n ≤ a'.b ∧ a'.m.uf a'.b ∧ SeenC a'.m a'.b (gsL l a'.k) ∧ Row a'.m a (pls l)) ∧
      a_2.m.setCells a_2.b ((0 : Nat) + n_1.toNat * (1 : Nat)) [Value.bool true] = a'.m ∧
      ((SV.val (Value.int IntKind.i64 (IntKind.i64.wrap ((↑a_2.k : Int) + (1 : Int)))) =
      SV.val (Value.int IntKind.i64 (↑a'.k : Int)) ∧
      true = true) ∧
      (SV.val (Value.int IntKind.i64 (↑l.length : Int)) =
      SV.val (Value.int IntKind.i64 (↑l.length : Int)) ∧
      true = true) ∧
      (SV.val (Value.slice a l.length c) = SV.val (Value.slice a l.length c) ∧
      true = true) ∧
      (SV.val (Value.pointer (some { block := a_2.b, off := (0 : Nat) : Addr })) =
      SV.val
      (Value.pointer (some { block := a'.b, off := (0 : Nat) : Addr })) ∧
      true = true) ∧
      (SV.val (Value.slice a l.length c) = SV.val (Value.slice a l.length c) ∧
      true = true) ∧
      True) ∧
      True) ∧
      l.length - a'.k < l.length - a_2.k))
      (((0 : Int) ≤ n_1 ∧ n_1 < (↑(8 : Nat) : Int)) ∧
      Wr n (fun (x : Nat) => False) a_2.m a_2.b ((0 : Nat) + n_1.toNat * (1 : Nat)) (1 : Nat) ∧
      ∃ (a' : CkX),
      ((a'.k ≤ l.length ∧
      (emptyB (hdF l) = true ∧ chk (gsL l a'.k) (lastF l a'.k) (List.drop a'.k l) = chk [] none l) ∧
      n ≤ a'.b ∧ a'.m.uf a'.b ∧ SeenC a'.m a'.b (gsL l a'.k) ∧ Row a'.m a (pls l)) ∧
      a_2.m.setCells a_2.b ((0 : Nat) + n_1.toNat * (1 : Nat)) [Value.bool true] = a'.m ∧
      ((SV.val (Value.int IntKind.i64 (IntKind.i64.wrap ((↑a_2.k : Int) + (1 : Int)))) =
      SV.val (Value.int IntKind.i64 (↑a'.k : Int)) ∧
      true = true) ∧
      (SV.val (Value.int IntKind.i64 (↑l.length : Int)) =
      SV.val (Value.int IntKind.i64 (↑l.length : Int)) ∧
      true = true) ∧
      (SV.val (Value.slice a l.length c) = SV.val (Value.slice a l.length c) ∧ true = true) ∧
      (SV.val (Value.pointer (some { block := a_2.b, off := (0 : Nat) : Addr })) =
      SV.val (Value.pointer (some { block := a'.b, off := (0 : Nat) : Addr })) ∧
      true = true) ∧
      (SV.val (Value.slice a l.length c) = SV.val (Value.slice a l.length c) ∧ true = true) ∧
      True) ∧
      True) ∧
      l.length - a'.k < l.length - a_2.k)))))))
      (Done (Value.int IntKind.i64 (0 : Int) = Value.int IntKind.i64 (if rightB l = true then (0 : Int) else (21 : Int))))))) (by kernel_rfl) ?_
  have hr0 := h.sz hn
  refine ⟨rfl, ifB_intro (fun h1 => ⟨?_⟩) (fun h1 => ?_)⟩
  · have : l = [] := List.eq_nil_of_length_eq_zero (by simp at h1; omega)
    subst this
    rfl
  · have hlen : 0 < l.length := by simp at h1; omega
    obtain ⟨b0, o0, rfl, hc0⟩ := hr0.cells (by rw [pl_len]; omega)
    have hb0 : b0 < m.sz := h.lt (by intro e; have := congrArg List.length e; rw [pl_len] at this; simp at this; omega) rfl
    have hhd : hdF l = l[0].fr := by cases l with | nil => simp at hlen | cons x xs => rfl
    have hne : l.isEmpty = false := by cases l with | nil => simp at hlen | cons x xs => rfl
    refine ⟨b0, o0, rfl, by omega, l[0].fr, by simpa using pl_frc hc0 hlen, ifB_intro (fun h2 => ⟨?_⟩) (fun h2 => fun b hb => ?_)⟩
    · have : emptyB (hdF l) = false := by rw [hhd]; simpa [emptyB] using h2
      simp [rightB, this]
    · have hemp : emptyB (hdF l) = true := by rw [hhd]; simpa [emptyB] using h2
      refine ⟨⟨⟨0, b, _⟩, ⟨⟨Nat.zero_le _, ⟨hemp, rfl⟩, hb.lo, ?_, ?_, ?_⟩, rfl, by simp⟩⟩, fun x ⟨hk, ⟨_, hf⟩, hxb, huf, hcs, hrow⟩ => ?_⟩
      · simp [M.newBlock]
      · exact ⟨cellsAt_new⟩
      · exact hr0.fresh hb fun _ b' o' e => by cases e; omega
      · obtain ⟨k, bs, mx⟩ := x
        simp only at hk hf hxb huf hcs hrow ⊢
        refine ifB_intro (fun h3 => ?_) (fun h3 => ⟨?_⟩)
        · have hlt : k < l.length := by simpa using h3
          obtain ⟨b1, o1, e1, hc⟩ := hrow.cells (by rw [pl_len]; omega)
          obtain ⟨rfl, rfl⟩ : b0 = b1 ∧ o0 = o1 := by simpa using e1
          rw [chk_at hlt] at hf
          have bad : ∀ x : Bool, x = false → chk [] none l = x → I 21 = I (if rightB l = true then 0 else 21) := fun x hx e => by
            have : rightB l = false := by simp [rightB, e, hx]
            rw [this]; rfl
          refine ⟨b0, o0, rfl, by omega, _, _, _, by simpa using pl_at hc hlt, by trivial, _, rg_group _ _, ifB_intro (fun h4 => ⟨?_⟩) (fun h4 => ?_)⟩
          · refine bad _ ?_ hf.symm
            have : grpB l[k].gr = false := by simpa using h4
            simp [plB, this]
          · have hg : grpB l[k].gr = true := by simpa using h4
            have hg2 : 1 ≤ l[k].gr ∧ l[k].gr < 8 := by simpa [grpB] using hg
            have hcell := hcs.out.out l[k].gr.toNat (by rw [seen_len]; omega)
            rw [seen_get _ (by omega), show ((l[k].gr.toNat : Nat) : Int) = l[k].gr by omega] at hcell
            refine ⟨by omega, (gsL l k).contains l[k].gr, ⟨fun j hj => ?_⟩, ifB_intro (fun h5 => ⟨?_⟩) (fun h5 => ifB_intro (fun h6 => ⟨?_⟩) (fun h6 => ifB_intro (fun h7 => ⟨?_⟩) (fun h7 => ifB_intro (fun h8 => ⟨?_⟩) (fun h8 => ?_))))⟩
            · have hj : j = 0 := by simpa using hj
              subst hj
              simpa using hcell
            · exact bad _ (by rw [h5]; simp) hf.symm
            · refine bad _ ?_ hf.symm
              have : ¬ 1 ≤ l[k].ep := by simp at h6; omega
              simp [plB, this]
            · refine bad _ ?_ hf.symm
              have : ¬ l[k].ep ≤ 4611686018427387904 := by simp at h7; omega
              simp [plB, this]
            · refine bad _ ?_ hf.symm
              have : ¬ l[k].fr.size ≤ 16 := by simp at h8; omega
              simp [plB, this]
            · have hpl : plB l[k] = true := by
                simp at h6 h7 h8
                simp [plB, hg]
                omega
              have hW : Wr n (fun _ => False) mx bs (0 + l[k].gr.toNat * 1) 1 := ⟨.inl hxb, huf, fun j hj => ⟨.bool ((gsL l k).contains l[k].gr), by
                have hj : j = 0 := by omega
                subst hj
                simpa using hcell⟩⟩
              have hrow' : Row (mx.setCells bs (0 + l[k].gr.toNat * 1) [.bool true]) (some ⟨b0, o0, none⟩) (pls l) := hrow.of (Nat.le_refl _) fun b' o' e _ => by
                cases e
                funext o
                simp only [M.setCells]
                rw [if_neg fun hh => absurd hh.1 (by omega)]
              have hcs' : CellsAt (mx.setCells bs (0 + l[k].gr.toNat * 1) [.bool true]) bs 0 (seenRow (gsL l (k + 1))) := ⟨fun j hj => by
                rw [seen_len] at hj
                rw [seen_get _ hj, gs_succ hlt]
                simp only [M.setCells, List.length_cons, List.length_nil]
                by_cases e : j = l[k].gr.toNat
                · rw [if_pos (show True ∧ 0 + l[k].gr.toNat * 1 ≤ 0 + j ∧ 0 + j < 0 + l[k].gr.toNat * 1 + (0 + 1) from ⟨trivial, by omega, by omega⟩)]
                  have : ((j : Nat) : Int) = l[k].gr := by omega
                  rw [this]
                  simp [e]
                · rw [if_neg (show ¬ (True ∧ 0 + l[k].gr.toNat * 1 ≤ 0 + j ∧ 0 + j < 0 + l[k].gr.toNat * 1 + (0 + 1)) from fun hh => by have h21 := hh.2.1; have h22 := hh.2.2; omega)]
                  have h9 := hcs.out.out j (by rw [seen_len]; exact hj)
                  rw [seen_get _ hj] at h9
                  rw [h9]
                  have : ¬ ((j : Nat) : Int) = l[k].gr := by omega
                  simp [this]⟩
              have hinv : aftB (lastF l k) l[k] = true → chk (gsL l (k + 1)) (lastF l (k + 1)) (l.drop (k + 1)) = chk [] none l := fun ha => by
                rw [← hf, hpl, h5, ha]; simp
              rw [wrap1 hlt hl]
              refine ifB_intro (fun h9 => ?_) (fun h9 => ?_)
              · have hk0 : 0 < k := by simp at h9; omega
                have wm : IntKind.i64.wrap ((k : Int) - 1) = ((k - 1 : Nat) : Int) := by rw [IntKind.wrap_i64]; omega
                have hla : lastF l k = some l[k - 1].fr := by
                  unfold lastF
                  rw [if_neg (by omega), List.getElem?_eq_getElem (by omega)]
                  rfl
                rw [wm]
                refine ⟨b0, o0, rfl, by omega, l[k - 1].fr, by simpa using pl_frc hc (by omega : k - 1 < l.length), ?_⟩
                rw [ltS_leq]
                refine ifB_intro (fun h10 => ⟨?_⟩) (fun h10 => ?_)
                · refine bad _ ?_ hf.symm
                  have : aftB (lastF l k) l[k] = false := by rw [hla]; simpa [aftB] using h10
                  rw [this]; simp
                · have ha : aftB (lastF l k) l[k] = true := by rw [hla]; simpa [aftB] using h10
                  exact ⟨by omega, hW, ⟨k + 1, bs, mx.setCells bs (0 + l[k].gr.toNat * 1) [.bool true]⟩, ⟨⟨by simp only; omega, ⟨hemp, hinv ha⟩, hxb, huf, ⟨hcs'⟩, hrow'⟩, rfl, by simp⟩, by simp only; omega⟩
              · have hk0 : k = 0 := by simp at h9; omega
                have ha : aftB (lastF l k) l[k] = true := by
                  have : lastF l k = none := by rw [hk0]; rfl
                  rw [this]; rfl
                exact ⟨by omega, hW, ⟨k + 1, bs, mx.setCells bs (0 + l[k].gr.toNat * 1) [.bool true]⟩, ⟨⟨by simp only; omega, ⟨hemp, hinv ha⟩, hxb, huf, ⟨hcs'⟩, hrow'⟩, rfl, by simp⟩, by simp only; omega⟩
        · have : k = l.length := by simp at h3; omega
          subst this
          rw [List.drop_length] at hf
          have hch : chk [] none l = true := hf.symm
          simp [rightB, hne, hemp, hch]

end Go.Proofs.Ytpnpebefcmgjoaa
