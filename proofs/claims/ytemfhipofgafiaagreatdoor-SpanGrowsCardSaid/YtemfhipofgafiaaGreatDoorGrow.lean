/- THE MATHEMATICS OF SpanGrows: with one more there is no more room. -/
import Derived.Test.YtemfhipofgafiaaGreatDoorRight
import Derived.Test.YtemfhipofgafiaaGreatDoorSpan
set_option linter.unusedVariables false
set_option linter.unusedSimpArgs false
namespace Go.Proofs.YtemfhipofgafiaaGreatDoor
open Go.RowKit
theorem since_I (t u : Int) : I64 (since t u) := by unfold since; exact I64_wrap _
theorem fl_bounds : ∀ (l : List Int), (∀ d ∈ l, I64 d) → I64 (fl l).1 ∧ I64 (fl l).2 := by
  intro l
  cases l with
  | nil => intro _; simp [fl, I64, P63]
  | cons d l =>
    intro h
    have h0 := h d (by simp)
    have hl : ∀ e ∈ l, I64 e := fun e he => h e (List.mem_cons_of_mem _ he)
    simp only [fl]
    clear h
    have key : ∀ (l : List Int) (p : Int × Int), I64 p.1 → I64 p.2 → (∀ e ∈ l, I64 e) → I64 (l.foldl (fun a e => (min a.1 e, max a.2 e)) p).1 ∧ I64 (l.foldl (fun a e => (min a.1 e, max a.2 e)) p).2 := by
      intro l
      induction l with
      | nil => intro p h1 h2 _; exact ⟨h1, h2⟩
      | cons e l ih =>
        intro p h1 h2 h
        have he := h e (by simp)
        exact ih _ (by unfold I64 at *; simp only []; omega) (by unfold I64 at *; simp only []; omega) (fun x hx => h x (List.mem_cons_of_mem _ hx))
    exact key l (d, d) h0 h0 hl
theorem fold_le : ∀ (l : List Int) (p : Int × Int), (l.foldl (fun a e => (min a.1 e, max a.2 e)) p).1 ≤ p.1 ∧ p.2 ≤ (l.foldl (fun a e => (min a.1 e, max a.2 e)) p).2
  | [], p => ⟨Int.le_refl _, Int.le_refl _⟩
  | e :: l, p => by
    have := fold_le l (min p.1 e, max p.2 e)
    simp only [List.foldl_cons]
    omega
theorem fl_append {l : List Int} (h : l ≠ []) (m : List Int) : (fl (l ++ m)).1 ≤ (fl l).1 ∧ (fl l).2 ≤ (fl (l ++ m)).2 := by
  cases l with
  | nil => exact absurd rfl h
  | cons d l =>
    simp only [fl, List.cons_append, List.foldl_append]
    exact fold_le m _
/-- Each of a list lies between the least and the greatest. -/
theorem fl_mem {l : List Int} {d : Int} (h : d ∈ l) : (fl l).1 ≤ d ∧ d ≤ (fl l).2 := by
  obtain ⟨a, b, rfl⟩ := List.append_of_mem h
  cases a with
  | nil =>
    have := fold_le b (d, d)
    simpa [fl] using this
  | cons x a =>
    have h1 := fold_le b (min (fl (x :: a)).1 d, max (fl (x :: a)).2 d)
    have e : fl ((x :: a) ++ d :: b) = b.foldl (fun a e => (min a.1 e, max a.2 e)) (min (fl (x :: a)).1 d, max (fl (x :: a)).2 d) := by
      simp [fl, List.foldl_append]
    rw [e]
    simp only [] at h1
    omega
theorem diffs_I (base : Int) (ps : List (Int × Int × Int)) : ∀ d ∈ diffs base ps, I64 d := by
  intro d hd
  simp only [diffs, List.mem_map] at hd
  obtain ⟨p, _, rfl⟩ := hd
  exact since_I _ _
/-- The greatest is no less than the least. -/
theorem spread_ge (base : Int) {l : List It} (h : l ≠ []) : (fl (diffs base (poss l))).1 ≤ (fl (diffs base (boths l))).2 := by
  cases l with
  | nil => exact absurd rfl h
  | cons a l =>
    have h1 : since a.t base ∈ diffs base (poss (a :: l)) := by simp [diffs, poss, It.pos]
    have h2 : since a.t base ∈ diffs base (boths (a :: l)) := by simp [diffs, boths, It.pos]
    have := (fl_mem h1).1
    have := (fl_mem h2).2
    omega
theorem spread_eq (base : Int) {l : List It} (h : l ≠ []) : spreadI base l = (fl (diffs base (boths l))).2 - (fl (diffs base (poss l))).1 := by
  have h1 := (fl_bounds _ (diffs_I base (poss l))).1
  have h2 := (fl_bounds _ (diffs_I base (boths l))).2
  have h3 := spread_ge base h
  unfold spreadI
  rw [IntKind.wrap_u64, IntKind.wrap_u64, IntKind.wrap_u64]
  unfold I64 P63 at *
  omega
theorem spread_grows (base : Int) {l : List It} (h : l ≠ []) (a : It) : spreadI base l ≤ spreadI base (l ++ [a]) := by
  rw [spread_eq base h, spread_eq base (by simp)]
  have n1 : diffs base (poss l) ≠ [] := by cases l <;> simp [diffs, poss] at *
  have n2 : diffs base (boths l) ≠ [] := by cases l <;> simp [diffs, boths] at *
  have e1 : diffs base (poss (l ++ [a])) = diffs base (poss l) ++ diffs base (poss [a]) := by simp [diffs, poss]
  have e2 : diffs base (boths (l ++ [a])) = diffs base (boths l) ++ diffs base (boths [a]) := by simp [diffs, boths]
  have h1 := (fl_append n1 (diffs base (poss [a]))).1
  have h2 := (fl_append n2 (diffs base (boths [a]))).2
  rw [e1, e2]
  omega
theorem within_grows (base : Int) {l : List It} (h : l ≠ []) (a : It) (hw : withinI base (l ++ [a]) = true) : withinI base l = true := by
  have := spread_grows base h a
  simp only [withinI, decide_eq_true_eq] at *
  omega
theorem room_grows (base : Int) {l : List It} (h : l ≠ []) (a : It) : roomI base (l ++ [a]) ≤ roomI base l := by
  have h1 := spread_grows base h a
  have h2 := spreadI_U base (l ++ [a])
  unfold roomI
  split
  · rename_i hw
    rw [if_pos (within_grows base h a hw)]
    omega
  · split
    · rename_i hw
      simp only [withinI, decide_eq_true_eq] at hw
      omega
    · omega
theorem since_self (t : Int) : since t t = 0 := by
  have : t - t = 0 := by omega
  unfold since
  rw [this]
  simp [wrap64]
theorem room_one (a : It) (h : rightI a.t a.r a.x a.i a.u a.s a.y = true) : roomI a.t [a] = IntKind.u64.wrap (4611686018427387904 - IntKind.u64.wrap (since a.u a.t)) := by
  have hd : 0 ≤ since a.u a.t ∧ since a.u a.t ≤ 1152921504606846976 := by
    simp only [rightI, Bool.and_eq_true, decide_eq_true_eq] at h
    exact h.2.2.2.2
  have e := spread_eq a.t (l := [a]) (by simp)
  have e1 : fl (diffs a.t (poss [a])) = (0, 0) := by simp [diffs, poss, fl, It.pos, since_self]
  have e2 : fl (diffs a.t (boths [a])) = (min 0 (since a.u a.t), max 0 (since a.u a.t)) := by simp [diffs, boths, fl, It.pos, It.dead, since_self]
  rw [e1, e2] at e
  simp only [] at e
  rw [IntKind.wrap_u64, IntKind.wrap_u64]
  unfold roomI withinI
  rw [e]
  split
  · omega
  · rename_i hw
    simp only [decide_eq_true_eq] at hw
    omega
end Go.Proofs.YtemfhipofgafiaaGreatDoor
