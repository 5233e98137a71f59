/- THE ARGUMENTS OF SpanGrows, OPENED. -/
import Derived.Test.YtemfhipofgafiaaGreatDoorLawGrows
import Derived.ProofKit
import Derived.Deep.Slices
set_option linter.unusedVariables false
set_option linter.unusedSimpArgs false
namespace Go.Proofs.YtemfhipofgafiaaGreatDoor
open Go.ChangeShapes Go.WideShapes Go.ChangeAt Go.RowKit
theorem list_three {α : Type} {l : List α} (h : l.length = 3) : ∃ a b c, l = [a, b, c] := by
  match l, h with
  | [a, b, c], _ => exact ⟨a, b, c, rfl⟩
theorem list_seven {α : Type} {l : List α} (h : l.length = 7) : ∃ a b c d e f g, l = [a, b, c, d, e, f, g] := by
  match l, h with
  | [a, b, c, d, e, f, g], _ => exact ⟨a, b, c, d, e, f, g, rfl⟩
section
variable {H : Type} {enc : TypeId × Value → H} {w : World} {base : Nat} {spare : Nat → Bool} {held : Bool}
theorem cells_pos : Tryz.prog.cellsOf 29 = 3 := by kernel_rfl
theorem cells_item : Tryz.prog.cellsOf 95 = 7 := by kernel_rfl
set_option maxRecDepth 100000 in
/-- A position's cells. -/
theorem pos_of {fuel : Nat} {cs : List Value} {x : DataW H × List MemPlace} (h : DataW.trod enc Tryz.prog w base spare held fuel 29 cs = some x) : ∃ t r y, cs = [.int .u64 t, .int .u32 r, .int .u32 y] := by
  obtain ⟨xs, n, rfl, _, hlen, hxl, hf⟩ := DataW.trod_struct Tryz.underlying29 h
  rw [cells_pos] at hlen
  have hxl3 : xs.length = 3 := hxl
  clear hxl
  obtain ⟨c0, c1, c2, rfl⟩ := list_three hlen
  obtain ⟨x0, x1, x2, rfl⟩ := list_three hxl3
  · skip
    have h0 := hf 0 _ rfl
    have h1 := hf 1 _ rfl
    have h2 := hf 2 _ rfl
    have k0 : DataW.trod enc Tryz.prog w base spare held n 26 [c0] = some x0 := h0
    have k1 : DataW.trod enc Tryz.prog w base spare held n 27 [c1] = some x1 := h1
    have k2 : DataW.trod enc Tryz.prog w base spare held n 27 [c2] = some x2 := h2
    obtain ⟨t, e0, _⟩ := DataW.trod_int Tryz.underlying26 k0
    obtain ⟨r, e1, _⟩ := DataW.trod_int Tryz.underlying27 k1
    obtain ⟨y, e2, _⟩ := DataW.trod_int Tryz.underlying27 k2
    simp only [List.cons.injEq, and_true] at e0 e1 e2
    subst e0 e1 e2
    exact ⟨t, r, y, rfl⟩
set_option maxRecDepth 100000 in
theorem item_of {fuel : Nat} {cs : List Value} {x : DataW H × List MemPlace} (h : DataW.trod enc Tryz.prog w base spare held fuel 95 cs = some x) : ∃ it : It, cs = it.cells := by
  obtain ⟨xs, n, rfl, _, hlen, hxl, hf⟩ := DataW.trod_struct Tryz.underlying95 h
  rw [cells_item] at hlen
  have hxl3 : xs.length = 3 := hxl
  clear hxl
  obtain ⟨c0, c1, c2, c3, c4, c5, c6, rfl⟩ := list_seven hlen
  obtain ⟨x0, x1, x2, rfl⟩ := list_three hxl3
  · skip
    have h0 := hf 0 _ rfl
    have h1 := hf 1 _ rfl
    have h2 := hf 2 _ rfl
    have k0 : DataW.trod enc Tryz.prog w base spare held n 29 [c0, c1, c2] = some x0 := by
      have h0' : DataW.trod enc Tryz.prog w base spare held n 29 (List.take (Tryz.prog.cellsOf 29) (List.drop 0 [c0, c1, c2, c3, c4, c5, c6])) = some x0 := h0
      rw [cells_pos] at h0'
      exact h0'
    have k1 : DataW.trod enc Tryz.prog w base spare held n 3 [c3] = some x1 := h1
    have k2 : DataW.trod enc Tryz.prog w base spare held n 29 [c4, c5, c6] = some x2 := by
      have h2' : DataW.trod enc Tryz.prog w base spare held n 29 (List.take (Tryz.prog.cellsOf 29) (List.drop 4 [c0, c1, c2, c3, c4, c5, c6])) = some x2 := h2
      rw [cells_pos] at h2'
      exact h2'
    obtain ⟨t, r, y, e0⟩ := pos_of k0
    obtain ⟨i, e1, _⟩ := DataW.trod_int Tryz.underlying3 k1
    obtain ⟨u, s, z, e2⟩ := pos_of k2
    simp only [List.cons.injEq, and_true] at e0 e1 e2
    obtain ⟨rfl, rfl, rfl⟩ := e0
    obtain ⟨rfl, rfl, rfl⟩ := e2
    subst e1
    exact ⟨⟨t, r, y, i, u, s, z⟩, rfl⟩
end
theorem add_add (a : Addr) (m n : Nat) : (a.add m).add n = a.add (m + n) := by
  unfold Addr.add
  by_cases h : m = 0
  · subst h; simp
  · by_cases h2 : n = 0
    · subst h2; simp [h]
    · have h3 : ¬ m + n = 0 := by omega
      simp only [h, h2, h3, if_false, Addr.mk.injEq, true_and, and_true]
      omega
theorem cellsI_inv : ∀ (l : List It) (j : Nat) (u : Value), (cellsI l)[j]? = some u → ∃ i o p, l[i]? = some p ∧ p.cells[o]? = some u ∧ j = i * 7 + o ∧ o < 7
  | [], j, u, h => by simp [cellsI] at h
  | p :: l, j, u, h => by
    simp only [cellsI, List.flatMap_cons] at h
    rcases Nat.lt_or_ge j 7 with hj | hj
    · rw [List.getElem?_append_left (by simp [It.cells]; omega)] at h
      exact ⟨0, j, p, rfl, h, by omega, hj⟩
    · rw [List.getElem?_append_right (by simp [It.cells]; omega)] at h
      obtain ⟨i, o, q, h1, h2, h3, h4⟩ := cellsI_inv l _ u h
      refine ⟨i + 1, o, q, by simpa using h1, h2, ?_, h4⟩
      simp only [It.cells, List.length_cons, List.length_nil] at h3
      omega
instance : Inhabited It := ⟨⟨0, 0, 0, 0, 0, 0, 0⟩⟩

end Go.Proofs.YtemfhipofgafiaaGreatDoor
