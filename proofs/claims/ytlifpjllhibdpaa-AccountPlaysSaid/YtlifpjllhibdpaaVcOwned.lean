/-
  A list of its own with two marks behind it. Nothing here is trusted: Lean checks it. It names no program.
-/
import Derived.Test.YtlifpjllhibdpaaVcLem
set_option linter.unusedVariables false
set_option linter.unusedSimpArgs false
namespace Go.Vc
open Go.RowKit

theorem AppPost.inplace {P : Program} {e : TypeId} {m m' : M} {size len cap n c' : Nat} {a a' : Option Addr} {cs src : List Value} (hp : AppPost P e m size a len cap n cs src a' c' m') (h : len + n ≤ cap) : a' = a ∧ c' = cap ∧ m'.sz = m.sz := by
  rcases hp with ⟨-, rfl, rfl, ⟨-, rfl⟩ | ⟨b, o, -, rfl⟩⟩ | ⟨h2, -⟩
  · exact ⟨rfl, rfl, rfl⟩
  · exact ⟨rfl, rfl, rfl⟩
  · omega

theorem Row.new {m : M} {b : Nat} {cs : List Value} : Row (m.newBlock b cs) (some ⟨b, 0, none⟩) cs := .at _ _ _ (by simp only [M.newBlock]; omega) cellsAt_new

theorem Row.newBlock {m : M} {a : Option Addr} {b : Nat} {cs ds : List Value} (h : Row m a cs) (hb : m.sz ≤ b) : Row (m.newBlock b ds) a cs :=
  h.of (by simp only [M.newBlock]; omega) fun b' _ _ hb' => newBlock_other (by omega)

/-- a list of its own with two marks behind it: made with room, and filled by two appends -/
theorem owned_calc {P : Program} {e : TypeId} {size bytes len : Nat} {m : M} {b : Nat} {a : Option Addr} {z cs marks : List Value} (hb : m.sz ≤ b) (hrow : Row m a cs) (hl : cs.length = len * size) (ho : oneCells cs = true)
    (hm : marks.length = 2 * size) (hom : oneCells marks = true) (hz : ∀ k, (zeroRow P e k).length = k * size) (hzl : z.length = (len + 2) * size) (hbd : (len + 2) * bytes ≤ 140737488355328 ∧ len + 2 ≤ 140737488355328) :
    AppPre m.sz (fun _ => False) (m.newBlock b z) size bytes (some ⟨b, 0, none⟩) 0 (len + 2) a len [] cs ∧
    ∀ a' c' m', AppPost P e (m.newBlock b z) size (some ⟨b, 0, none⟩) 0 (len + 2) len [] cs a' c' m' → ∀ b2, m'.sz ≤ b2 →
      AppPre m.sz (fun _ => False) (m'.newBlock b2 marks) size bytes a' (0 + len) c' (some ⟨b2, 0, none⟩) 2 cs marks ∧
      ∀ a'' c'' m'', AppPost P e (m'.newBlock b2 marks) size a' (0 + len) c' 2 cs marks a'' c'' m'' → a'' = some ⟨b, 0, none⟩ ∧ c'' = len + 2 ∧ b < m''.sz ∧ m''.uf b ∧ CellsAt m'' b 0 (cs ++ marks) := by
  have o1 : OwnB m.sz (fun _ => False) (m.newBlock b z) size (some ⟨b, 0, none⟩) 0 (len + 2) [] := by
    have := OwnB.new (B := m.sz) (S := fun _ => False) (m := m) (size := size) (len := 0) (cap := len + 2) (cs := []) (rest := z) hb (by simp) (by simpa using hzl) (by omega)
    simpa using this
  have hmul : (0 + len) * bytes ≤ (len + 2) * bytes := Nat.mul_le_mul_right _ (by omega)
  refine ⟨o1.appPre (hrow.newBlock hb) hl ho ⟨by omega, by omega⟩, fun a' c' m' hp b2 hb2 => ?_⟩
  have o2 := o1.append hp hl hz (by simp only [M.newBlock]; omega)
  obtain ⟨rfl, rfl, hsz⟩ := hp.inplace (by omega)
  have hbs : b < m'.sz := by rw [hsz]; simp only [M.newBlock]; omega
  have o3 : OwnB m.sz (fun _ => False) (m'.newBlock b2 marks) size (some ⟨b, 0, none⟩) (0 + len) (len + 2) cs := by
    have := o2.of (m' := m'.newBlock b2 marks) (by simp only [M.newBlock]; omega) fun b' o' _ hb' => ⟨newBlock_other (by omega), .inr⟩
    simpa using this
  refine ⟨o3.appPre Row.new hm hom ⟨?_, by omega⟩, fun a'' c'' m'' hp2 => ?_⟩
  · have : (0 + len + 2) * bytes = (len + 2) * bytes := by rw [Nat.zero_add]
    omega
  have o4 := o3.append hp2 hm hz (by simp only [M.newBlock]; have := Nat.le_of_lt hbs; omega)
  obtain ⟨rfl, rfl, hsz2⟩ := hp2.inplace (by omega)
  refine ⟨rfl, rfl, by rw [hsz2]; simp only [M.newBlock]; omega, ?_⟩
  cases o4 with
  | «at» b o len cap cs rest lo lt uf h hl hrr hc => exact ⟨uf, h.take⟩
end Go.Vc
