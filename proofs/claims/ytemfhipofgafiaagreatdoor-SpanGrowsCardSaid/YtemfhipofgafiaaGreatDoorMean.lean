/- THE WALKS of package mean. -/
import Derived.Test.YtemfhipofgafiaaGreatDoorPos
set_option linter.unusedVariables false
set_option linter.unusedSimpArgs false
namespace Go.Proofs.YtemfhipofgafiaaGreatDoor
open Go.RowKit


/-- May the mean of sum z, weight x and number n be? -/
def meanOK (z x n : Int) : Bool :=
  if n = 0 then decide (x = 0) && decide (z = 0) else decide (0 < n) && (decide (n ≤ 32) && (decide (n ≤ x) && decide (x ≤ n * 1048576)))

theorem val_zero_iff {a b : Int} (hb : U64 b) : (a == 0 && b == 0) = decide (val a b = 0) := by
  rw [Bool.eq_iff_iff]
  simp only [Bool.and_eq_true, beq_iff_eq, decide_eq_true_eq]
  unfold val
  unfold U64 P64 at *
  omega

set_option maxHeartbeats 1000000 in
set_option maxRecDepth 100000 in
theorem mean_Right (t a b x n : Int) (w : World) (hb : U64 b) (hn : I64 n) :
    Calls Tryz.prog 75 #[(.agg #[.int .u64 (t), .int .i64 (a), .int .u64 (b), .int .u64 (x), .int .i64 (n)])] w (Ret w (.bool (meanOK (val a b) x n))) := by
  have H := Lib.hid (val_zero_iff (a := a) hb)
  go_enter Tryz.func75, Tryz.ntmps75
  go_wp2_with fail

  have H2 := H.out
  clear H
  all_goals (refine bodyPost_ret (by simp [*, results, Tryz.results75, go_sem]; try rfl) rfl ?_)
  all_goals (refine ⟨eqRet (congrArg Value.bool ?_), by (repeat' (first | (with_reducible exact Below.refl _ _) | (with_reducible refine Below.alloc ?_ ?_ _) | (with_reducible refine Below.setCell ?_ ?_ _) | (with_reducible refine Below.drew ?_) | (with_reducible refine belowN ?_ _) | (with_reducible refine bthen (by assumption) ?_ ?_) | omega | (simp only [World.size_alloc, World.size_setCell, World.size_drew, World.heap_drewN] at *; omega) | (simp; omega)))⟩)
  all_goals (simp only [beq_iff_eq, beq_eq_false_iff_ne, ne_eq] at *)
  all_goals (simp [meanOK, *]; try omega)

theorem meanOK_bounds {z x n : Int} (h : meanOK z x n = true) : 0 ≤ n ∧ n ≤ 32 ∧ n ≤ x ∧ x ≤ 33554432 ∧ (n = 0 → z = 0) := by
  unfold meanOK at h
  split at h
  · rename_i e; subst e
    simp only [Bool.and_eq_true, decide_eq_true_eq] at h
    omega
  · simp only [Bool.and_eq_true, decide_eq_true_eq] at h
    omega

/-- The floor of a mean: the time, and whether there is one. -/
def floorB (z x n : Int) : Bool := (meanOK z x n && !decide (n = 0)) && smallB (z / x)
set_option maxHeartbeats 1000000 in
set_option maxRecDepth 100000 in
theorem mean_Floor (t a b x n : Int) (w : World) (ha : I64 a) (hb : U64 b) (hn : I64 n) :
    Calls Tryz.prog 48 #[(.agg #[.int .u64 (t), .int .i64 (a), .int .u64 (b), .int .u64 (x), .int .i64 (n)])] w
      (Ret w (.tuple #[.int .u64 (onlyV (floorB (val a b) x n) (addT t (val a b / x))), .bool (floorB (val a b) x n)])) := by
  have R := fun w => mean_Right t a b x n w hb hn
  cases h1 : meanOK (val a b) x n
  · rw [h1] at R
    have e : floorB (val a b) x n = false := by simp [floorB, h1]
    rw [e, onlyV_false]
    go_enter Tryz.func48, Tryz.ntmps48
    go_wp2_with (go_at_call 75; refine (R _).mono ?_; rintro e w1 ⟨rfl, hb1⟩; obtain ⟨hc1, hf1⟩ := bcell hb1; (try simp only [World.heap_drewN, World.cell?_drewN] at hc1); (try simp only [World.heap_drewN, World.frozen?_drewN] at hf1); have hz1 := bsize hb1; (try simp only [World.size_alloc, World.size_setCell, World.size_drew, World.heap_drewN] at hz1); (try (have hs0 : w.heap.size < w1.heap.size := by omega)); (try (have hs1 : w.heap.size + 1 < w1.heap.size := by omega)); (try (have hs2 : w.heap.size + 2 < w1.heap.size := by omega)); (try (have hs3 : w.heap.size + 3 < w1.heap.size := by omega)))
    refine bodyPost_ret (by simp [*, results, Tryz.results48, go_sem]; try rfl) rfl ?_
    exact ⟨eqRet rfl, by (repeat' (first | (with_reducible exact Below.refl _ _) | (with_reducible refine Below.alloc ?_ ?_ _) | (with_reducible refine Below.setCell ?_ ?_ _) | (with_reducible refine Below.drew ?_) | (with_reducible refine belowN ?_ _) | (with_reducible refine bthen (by assumption) ?_ ?_) | omega | (simp only [World.size_alloc, World.size_setCell, World.size_drew, World.heap_drewN] at *; omega) | (simp; omega)))⟩
  · rw [h1] at R
    have hB := meanOK_bounds h1
    by_cases h0 : n = 0
    · have e : floorB (val a b) x n = false := by simp [floorB, h1, h0]
      rw [e, onlyV_false]
      clear hB e h1
      subst h0
      go_enter Tryz.func48, Tryz.ntmps48
      go_wp2_with (go_at_call 75; refine (R _).mono ?_; rintro e w1 ⟨rfl, hb1⟩; obtain ⟨hc1, hf1⟩ := bcell hb1; (try simp only [World.heap_drewN, World.cell?_drewN] at hc1); (try simp only [World.heap_drewN, World.frozen?_drewN] at hf1); have hz1 := bsize hb1; (try simp only [World.size_alloc, World.size_setCell, World.size_drew, World.heap_drewN] at hz1); (try (have hs0 : w.heap.size < w1.heap.size := by omega)); (try (have hs1 : w.heap.size + 1 < w1.heap.size := by omega)); (try (have hs2 : w.heap.size + 2 < w1.heap.size := by omega)); (try (have hs3 : w.heap.size + 3 < w1.heap.size := by omega)))
      refine bodyPost_ret (by simp [*, results, Tryz.results48, go_sem]; try rfl) rfl ?_
      exact ⟨eqRet rfl, by (repeat' (first | (with_reducible exact Below.refl _ _) | (with_reducible refine Below.alloc ?_ ?_ _) | (with_reducible refine Below.setCell ?_ ?_ _) | (with_reducible refine Below.drew ?_) | (with_reducible refine belowN ?_ _) | (with_reducible refine bthen (by assumption) ?_ ?_) | omega | (simp only [World.size_alloc, World.size_setCell, World.size_drew, World.heap_drewN] at *; omega) | (simp; omega)))⟩
    · have h0b : (n == 0) = false := by simpa using h0
      have D := fun w => wide_Div a b x w ha hb (by omega) (by omega)
      have S := fun w => wide_Small (hiI (val a b / x)) (loI (val a b / x)) w (I64_hi _) (U64_lo _)
      rw [val_hi_lo (InW_div (InW_val ha hb) (by omega))] at S
      cases h2 : smallB (val a b / x)
      · rw [h2] at S
        have e : floorB (val a b) x n = false := by simp [floorB, h2]
        rw [e, onlyV_false]
        clear hB e h1 h2
        go_enter Tryz.func48, Tryz.ntmps48
        go_wp2_with first | (go_at_call 75; refine (R _).mono ?_; rintro e w1 ⟨rfl, hb1⟩; obtain ⟨hc1, hf1⟩ := bcell hb1; (try simp only [World.heap_drewN, World.cell?_drewN] at hc1); (try simp only [World.heap_drewN, World.frozen?_drewN] at hf1); have hz1 := bsize hb1; (try simp only [World.size_alloc, World.size_setCell, World.size_drew, World.heap_drewN] at hz1); (try (have hs0 : w.heap.size < w1.heap.size := by omega)); (try (have hs1 : w.heap.size + 1 < w1.heap.size := by omega)); (try (have hs2 : w.heap.size + 2 < w1.heap.size := by omega)); (try (have hs3 : w.heap.size + 3 < w1.heap.size := by omega))) | (go_at_call 81; refine (D _).mono ?_; rintro e w1 ⟨rfl, hb1⟩; obtain ⟨hc1, hf1⟩ := bcell hb1; (try simp only [World.heap_drewN, World.cell?_drewN] at hc1); (try simp only [World.heap_drewN, World.frozen?_drewN] at hf1); have hz1 := bsize hb1; (try simp only [World.size_alloc, World.size_setCell, World.size_drew, World.heap_drewN] at hz1); (try (have hs0 : w.heap.size < w1.heap.size := by omega)); (try (have hs1 : w.heap.size + 1 < w1.heap.size := by omega)); (try (have hs2 : w.heap.size + 2 < w1.heap.size := by omega)); (try (have hs3 : w.heap.size + 3 < w1.heap.size := by omega))) | (go_at_call 47; refine (S _).mono ?_; rintro e w1 ⟨rfl, hb1⟩; obtain ⟨hc1, hf1⟩ := bcell hb1; (try simp only [World.heap_drewN, World.cell?_drewN] at hc1); (try simp only [World.heap_drewN, World.frozen?_drewN] at hf1); have hz1 := bsize hb1; (try simp only [World.size_alloc, World.size_setCell, World.size_drew, World.heap_drewN] at hz1); (try (have hs0 : w.heap.size < w1.heap.size := by omega)); (try (have hs1 : w.heap.size + 1 < w1.heap.size := by omega)); (try (have hs2 : w.heap.size + 2 < w1.heap.size := by omega)); (try (have hs3 : w.heap.size + 3 < w1.heap.size := by omega)))
        refine bodyPost_ret (by simp [*, results, Tryz.results48, go_sem]; try rfl) rfl ?_
        exact ⟨eqRet rfl, by (repeat' (first | (with_reducible exact Below.refl _ _) | (with_reducible refine Below.alloc ?_ ?_ _) | (with_reducible refine Below.setCell ?_ ?_ _) | (with_reducible refine Below.drew ?_) | (with_reducible refine belowN ?_ _) | (with_reducible refine bthen (by assumption) ?_ ?_) | omega | (simp only [World.size_alloc, World.size_setCell, World.size_drew, World.heap_drewN] at *; omega) | (simp; omega)))⟩
      · rw [h2, smallV_of h2] at S
        have e : floorB (val a b) x n = true := by simp [floorB, h1, h2, h0]
        rw [e, onlyV_true]
        clear hB e h1 h2
        go_enter Tryz.func48, Tryz.ntmps48
        go_wp2_with first | (go_at_call 75; refine (R _).mono ?_; rintro e w1 ⟨rfl, hb1⟩; obtain ⟨hc1, hf1⟩ := bcell hb1; (try simp only [World.heap_drewN, World.cell?_drewN] at hc1); (try simp only [World.heap_drewN, World.frozen?_drewN] at hf1); have hz1 := bsize hb1; (try simp only [World.size_alloc, World.size_setCell, World.size_drew, World.heap_drewN] at hz1); (try (have hs0 : w.heap.size < w1.heap.size := by omega)); (try (have hs1 : w.heap.size + 1 < w1.heap.size := by omega)); (try (have hs2 : w.heap.size + 2 < w1.heap.size := by omega)); (try (have hs3 : w.heap.size + 3 < w1.heap.size := by omega))) | (go_at_call 81; refine (D _).mono ?_; rintro e w1 ⟨rfl, hb1⟩; obtain ⟨hc1, hf1⟩ := bcell hb1; (try simp only [World.heap_drewN, World.cell?_drewN] at hc1); (try simp only [World.heap_drewN, World.frozen?_drewN] at hf1); have hz1 := bsize hb1; (try simp only [World.size_alloc, World.size_setCell, World.size_drew, World.heap_drewN] at hz1); (try (have hs0 : w.heap.size < w1.heap.size := by omega)); (try (have hs1 : w.heap.size + 1 < w1.heap.size := by omega)); (try (have hs2 : w.heap.size + 2 < w1.heap.size := by omega)); (try (have hs3 : w.heap.size + 3 < w1.heap.size := by omega))) | (go_at_call 47; refine (S _).mono ?_; rintro e w1 ⟨rfl, hb1⟩; obtain ⟨hc1, hf1⟩ := bcell hb1; (try simp only [World.heap_drewN, World.cell?_drewN] at hc1); (try simp only [World.heap_drewN, World.frozen?_drewN] at hf1); have hz1 := bsize hb1; (try simp only [World.size_alloc, World.size_setCell, World.size_drew, World.heap_drewN] at hz1); (try (have hs0 : w.heap.size < w1.heap.size := by omega)); (try (have hs1 : w.heap.size + 1 < w1.heap.size := by omega)); (try (have hs2 : w.heap.size + 2 < w1.heap.size := by omega)); (try (have hs3 : w.heap.size + 3 < w1.heap.size := by omega))) | (go_at_call 102; refine (vtime_Add _ _ _).mono ?_; rintro e w1 ⟨rfl, hb1⟩; obtain ⟨hc1, hf1⟩ := bcell hb1; (try simp only [World.heap_drewN, World.cell?_drewN] at hc1); (try simp only [World.heap_drewN, World.frozen?_drewN] at hf1); have hz1 := bsize hb1; (try simp only [World.size_alloc, World.size_setCell, World.size_drew, World.heap_drewN] at hz1); (try (have hs0 : w.heap.size < w1.heap.size := by omega)); (try (have hs1 : w.heap.size + 1 < w1.heap.size := by omega)); (try (have hs2 : w.heap.size + 2 < w1.heap.size := by omega)); (try (have hs3 : w.heap.size + 3 < w1.heap.size := by omega)))
        refine bodyPost_ret (by simp [*, results, Tryz.results48, go_sem]; try rfl) rfl ?_
        exact ⟨eqRet rfl, by (repeat' (first | (with_reducible exact Below.refl _ _) | (with_reducible refine Below.alloc ?_ ?_ _) | (with_reducible refine Below.setCell ?_ ?_ _) | (with_reducible refine Below.drew ?_) | (with_reducible refine belowN ?_ _) | (with_reducible refine bthen (by assumption) ?_ ?_) | omega | (simp only [World.size_alloc, World.size_setCell, World.size_drew, World.heap_drewN] at *; omega) | (simp; omega)))⟩

/-- One more. -/
def addB (z x n r y d : Int) : Bool := (meanOK z x n && (posOK r y && !decide (n = 32))) && inWB (z + d)
set_option maxHeartbeats 1000000 in
set_option maxRecDepth 100000 in
theorem mean_Add (t a b x n u r y : Int) (w : World) (ha : I64 a) (hb : U64 b) (hn : I64 n) (hr : U32 r) (hy : U32 y) :
    Calls Tryz.prog 73 #[(.agg #[.int .u64 (t), .int .i64 (a), .int .u64 (b), .int .u64 (x), .int .i64 (n)]), (.agg #[.int .u64 (u), .int .u32 (r), .int .u32 (y)])] w
      (Ret w (.tuple #[(.agg #[.int .u64 (onlyV (addB (val a b) x n r y (dist u r y t)) t), .int .i64 (hiI (onlyV (addB (val a b) x n r y (dist u r y t)) (val a b + dist u r y t))), .int .u64 (loI (onlyV (addB (val a b) x n r y (dist u r y t)) (val a b + dist u r y t))), .int .u64 (onlyV (addB (val a b) x n r y (dist u r y t)) (x + y)), .int .i64 (onlyV (addB (val a b) x n r y (dist u r y t)) (n + 1))]), .bool (addB (val a b) x n r y (dist u r y t))])) := by
  have R := fun w => mean_Right t a b x n w hb hn
  have Q := fun w => pos_Right u r y w
  have z1 : hiI 0 = 0 := by simp [hiI, wrap64]
  have z2 : loI 0 = 0 := by simp [loI]
  cases h1 : meanOK (val a b) x n
  · rw [h1] at R
    have e : addB (val a b) x n r y (dist u r y t) = false := by simp [addB, h1]
    simp only [e, onlyV_false, z1, z2]
    clear e
    go_enter Tryz.func73, Tryz.ntmps73
    go_wp2_with (go_at_call 75; refine (R _).mono ?_; rintro e w1 ⟨rfl, hb1⟩; obtain ⟨hc1, hf1⟩ := bcell hb1; (try simp only [World.heap_drewN, World.cell?_drewN] at hc1); (try simp only [World.heap_drewN, World.frozen?_drewN] at hf1); have hz1 := bsize hb1; (try simp only [World.size_alloc, World.size_setCell, World.size_drew, World.heap_drewN] at hz1); (try (have hs0 : w.heap.size < w1.heap.size := by omega)); (try (have hs1 : w.heap.size + 1 < w1.heap.size := by omega)); (try (have hs2 : w.heap.size + 2 < w1.heap.size := by omega)); (try (have hs3 : w.heap.size + 3 < w1.heap.size := by omega)))
    refine bodyPost_ret (by simp [*, results, Tryz.results73, go_sem]; try rfl) rfl ?_
    exact ⟨eqRet rfl, by (repeat' (first | (with_reducible exact Below.refl _ _) | (with_reducible refine Below.alloc ?_ ?_ _) | (with_reducible refine Below.setCell ?_ ?_ _) | (with_reducible refine Below.drew ?_) | (with_reducible refine belowN ?_ _) | (with_reducible refine bthen (by assumption) ?_ ?_) | omega | (simp only [World.size_alloc, World.size_setCell, World.size_drew, World.heap_drewN] at *; omega) | (simp; omega)))⟩
  · rw [h1] at R
    cases h2 : posOK r y
    · rw [h2] at Q
      have e : addB (val a b) x n r y (dist u r y t) = false := by simp [addB, h2]
      simp only [e, onlyV_false, z1, z2]
      clear e
      go_enter Tryz.func73, Tryz.ntmps73
      go_wp2_with first | (go_at_call 75; refine (R _).mono ?_; rintro e w1 ⟨rfl, hb1⟩; obtain ⟨hc1, hf1⟩ := bcell hb1; (try simp only [World.heap_drewN, World.cell?_drewN] at hc1); (try simp only [World.heap_drewN, World.frozen?_drewN] at hf1); have hz1 := bsize hb1; (try simp only [World.size_alloc, World.size_setCell, World.size_drew, World.heap_drewN] at hz1); (try (have hs0 : w.heap.size < w1.heap.size := by omega)); (try (have hs1 : w.heap.size + 1 < w1.heap.size := by omega)); (try (have hs2 : w.heap.size + 2 < w1.heap.size := by omega)); (try (have hs3 : w.heap.size + 3 < w1.heap.size := by omega))) | (go_at_call 33; refine (Q _).mono ?_; rintro e w1 ⟨rfl, hb1⟩; obtain ⟨hc1, hf1⟩ := bcell hb1; (try simp only [World.heap_drewN, World.cell?_drewN] at hc1); (try simp only [World.heap_drewN, World.frozen?_drewN] at hf1); have hz1 := bsize hb1; (try simp only [World.size_alloc, World.size_setCell, World.size_drew, World.heap_drewN] at hz1); (try (have hs0 : w.heap.size < w1.heap.size := by omega)); (try (have hs1 : w.heap.size + 1 < w1.heap.size := by omega)); (try (have hs2 : w.heap.size + 2 < w1.heap.size := by omega)); (try (have hs3 : w.heap.size + 3 < w1.heap.size := by omega)))
      refine bodyPost_ret (by simp [*, results, Tryz.results73, go_sem]; try rfl) rfl ?_
      exact ⟨eqRet rfl, by (repeat' (first | (with_reducible exact Below.refl _ _) | (with_reducible refine Below.alloc ?_ ?_ _) | (with_reducible refine Below.setCell ?_ ?_ _) | (with_reducible refine Below.drew ?_) | (with_reducible refine belowN ?_ _) | (with_reducible refine bthen (by assumption) ?_ ?_) | omega | (simp only [World.size_alloc, World.size_setCell, World.size_drew, World.heap_drewN] at *; omega) | (simp; omega)))⟩
    · rw [h2] at Q
      by_cases h0 : n = 32
      · have e : addB (val a b) x n r y (dist u r y t) = false := by simp [addB, h0]
        simp only [e, onlyV_false, z1, z2]
        clear e
        subst h0
        go_enter Tryz.func73, Tryz.ntmps73
        go_wp2_with first | (go_at_call 75; refine (R _).mono ?_; rintro e w1 ⟨rfl, hb1⟩; obtain ⟨hc1, hf1⟩ := bcell hb1; (try simp only [World.heap_drewN, World.cell?_drewN] at hc1); (try simp only [World.heap_drewN, World.frozen?_drewN] at hf1); have hz1 := bsize hb1; (try simp only [World.size_alloc, World.size_setCell, World.size_drew, World.heap_drewN] at hz1); (try (have hs0 : w.heap.size < w1.heap.size := by omega)); (try (have hs1 : w.heap.size + 1 < w1.heap.size := by omega)); (try (have hs2 : w.heap.size + 2 < w1.heap.size := by omega)); (try (have hs3 : w.heap.size + 3 < w1.heap.size := by omega))) | (go_at_call 33; refine (Q _).mono ?_; rintro e w1 ⟨rfl, hb1⟩; obtain ⟨hc1, hf1⟩ := bcell hb1; (try simp only [World.heap_drewN, World.cell?_drewN] at hc1); (try simp only [World.heap_drewN, World.frozen?_drewN] at hf1); have hz1 := bsize hb1; (try simp only [World.size_alloc, World.size_setCell, World.size_drew, World.heap_drewN] at hz1); (try (have hs0 : w.heap.size < w1.heap.size := by omega)); (try (have hs1 : w.heap.size + 1 < w1.heap.size := by omega)); (try (have hs2 : w.heap.size + 2 < w1.heap.size := by omega)); (try (have hs3 : w.heap.size + 3 < w1.heap.size := by omega)))
        refine bodyPost_ret (by simp [*, results, Tryz.results73, go_sem]; try rfl) rfl ?_
        exact ⟨eqRet rfl, by (repeat' (first | (with_reducible exact Below.refl _ _) | (with_reducible refine Below.alloc ?_ ?_ _) | (with_reducible refine Below.setCell ?_ ?_ _) | (with_reducible refine Below.drew ?_) | (with_reducible refine belowN ?_ _) | (with_reducible refine bthen (by assumption) ?_ ?_) | omega | (simp only [World.size_alloc, World.size_setCell, World.size_drew, World.heap_drewN] at *; omega) | (simp; omega)))⟩
      · have h0b : (n == 32) = false := by simpa using h0
        have hB := meanOK_bounds h1
        have D := fun w => pos_Distance u r y t w hr hy
        have S := fun w => wide_Add a b (hiI (dist u r y t)) (loI (dist u r y t)) w ha hb (I64_hi _) (U64_lo _)
        rw [val_hi_lo (dist_fits hr hy).1] at S
        have v1 : IntKind.u64.wrap y = y := wrapU64_id (by unfold U32 at hy; unfold U64 P64; omega)
        have v2 : IntKind.u64.wrap (x + y) = x + y := wrapU64_id (by unfold U32 at hy; unfold U64 P64; omega)
        have v3 : IntKind.i64.wrap (n + 1) = n + 1 := by rw [IntKind.wrap_i64]; omega
        cases h3 : inWB (val a b + dist u r y t)
        all_goals rw [h3] at S
        · have e : addB (val a b) x n r y (dist u r y t) = false := by simp [addB, h3]
          simp only [e, onlyV_false, z1, z2]
          clear e hB h1 h2 h3 h0 ha hb hn hr hy
          go_enter Tryz.func73, Tryz.ntmps73
          go_wp2_with first | (go_at_call 75; refine (R _).mono ?_; rintro e w1 ⟨rfl, hb1⟩; obtain ⟨hc1, hf1⟩ := bcell hb1; (try simp only [World.heap_drewN, World.cell?_drewN] at hc1); (try simp only [World.heap_drewN, World.frozen?_drewN] at hf1); have hz1 := bsize hb1; (try simp only [World.size_alloc, World.size_setCell, World.size_drew, World.heap_drewN] at hz1); (try (have hs0 : w.heap.size < w1.heap.size := by omega)); (try (have hs1 : w.heap.size + 1 < w1.heap.size := by omega)); (try (have hs2 : w.heap.size + 2 < w1.heap.size := by omega)); (try (have hs3 : w.heap.size + 3 < w1.heap.size := by omega))) | (go_at_call 33; refine (Q _).mono ?_; rintro e w1 ⟨rfl, hb1⟩; obtain ⟨hc1, hf1⟩ := bcell hb1; (try simp only [World.heap_drewN, World.cell?_drewN] at hc1); (try simp only [World.heap_drewN, World.frozen?_drewN] at hf1); have hz1 := bsize hb1; (try simp only [World.size_alloc, World.size_setCell, World.size_drew, World.heap_drewN] at hz1); (try (have hs0 : w.heap.size < w1.heap.size := by omega)); (try (have hs1 : w.heap.size + 1 < w1.heap.size := by omega)); (try (have hs2 : w.heap.size + 2 < w1.heap.size := by omega)); (try (have hs3 : w.heap.size + 3 < w1.heap.size := by omega)))
          have m0 : (w1).cell? ⟨w.heap.size, 0, none⟩ = some (.int .u64 t) := by go_simp
          have m1 : (w1).cell? ⟨w.heap.size, 1, none⟩ = some (.int .i64 a) := by go_simp
          have m2 : (w1).cell? ⟨w.heap.size, 2, none⟩ = some (.int .u64 b) := by go_simp
          have m3 : (w1).cell? ⟨w.heap.size, 3, none⟩ = some (.int .u64 x) := by go_simp
          have m4 : (w1).cell? ⟨w.heap.size, 4, none⟩ = some (.int .i64 n) := by go_simp
          have p0 : (w1).cell? ⟨w.heap.size + 1, 0, none⟩ = some (.int .u64 u) := by go_simp
          have p1 : (w1).cell? ⟨w.heap.size + 1, 1, none⟩ = some (.int .u32 r) := by go_simp
          have p2 : (w1).cell? ⟨w.heap.size + 1, 2, none⟩ = some (.int .u32 y) := by go_simp
          have q0 : (w1).cell? ⟨w.heap.size + 1 + 1, 0, none⟩ = some (.int .u64 0) := by go_simp
          have q1 : (w1).cell? ⟨w.heap.size + 1 + 1, 1, none⟩ = some (.int .i64 0) := by go_simp
          have q2 : (w1).cell? ⟨w.heap.size + 1 + 1, 2, none⟩ = some (.int .u64 0) := by go_simp
          have q3 : (w1).cell? ⟨w.heap.size + 1 + 1, 3, none⟩ = some (.int .u64 0) := by go_simp
          have q4 : (w1).cell? ⟨w.heap.size + 1 + 1, 4, none⟩ = some (.int .i64 0) := by go_simp
          have g0 : (w1).frozen? ⟨w.heap.size + 1 + 1, 0, none⟩ = false := by go_simp
          have g1 : (w1).frozen? ⟨w.heap.size + 1 + 1, 1, none⟩ = false := by go_simp
          have g2 : (w1).frozen? ⟨w.heap.size + 1 + 1, 2, none⟩ = false := by go_simp
          have g3 : (w1).frozen? ⟨w.heap.size + 1 + 1, 3, none⟩ = false := by go_simp
          have g4 : (w1).frozen? ⟨w.heap.size + 1 + 1, 4, none⟩ = false := by go_simp
          clear hc1 hf1
          refine Reg.wp_region_E 10 1 (by kernel_rfl) (by kernel_rfl) ?_
          simp only [List.take_succ_cons, List.take_zero, List.drop_succ_cons, List.drop_zero]
          iterate 10 (first | (refine Reg.head_pure rfl rfl (fun K hK => ?_); apply Exists.intro; refine ⟨fun w2 => ?_, ?_⟩; (go_simp; exact .mk); (go_simp; refine hK _ ?_; clear hK K)) | (refine Reg.head_cps rfl rfl (fun K hK => ?_); apply Exists.intro; refine ⟨fun w2 hE => ?_, ?_⟩; (obtain ⟨hcE, hfE⟩ := bcellB hE; (try simp only [World.size_drew, World.heap_drewN, World.cell?_drewN, World.size_alloc, World.size_setCell] at hcE); go_simp; first | (exact .value (Reg.E.refl _)) | (apply Reg.Comes1.enter (Reg.E.refl _); first | (exact D _) | (exact S _))); (go_simp; refine hK _ ?_; clear hK K)))
          refine Reg.head_nil ?_
          refine Reg.make_cps rfl (fun w2 hE2 K hK => ?_)
          have hz_w2 := Below.size hE2
          (try simp only [World.size_drew, World.heap_drewN, World.size_alloc, World.size_setCell] at hz_w2)
          obtain ⟨hc_w2, hf_w2⟩ := bcell hE2
          (try simp only [World.size_drew, World.heap_drewN, World.cell?_drewN, World.size_alloc, World.size_setCell] at hc_w2)
          (try simp only [World.size_drew, World.heap_drewN, World.frozen?_drewN, World.size_alloc, World.size_setCell] at hf_w2)
          (try (have hs0_w2 : w.heap.size < (w2).heap.size := by omega))
          (try (have hn0_w2 : ¬ (w.heap.size = (w2).heap.size) := by omega))
          (try (have hm0_w2 : ¬ ((w2).heap.size = w.heap.size) := by omega))
          (try (have hs1_w2 : w.heap.size + 1 < (w2).heap.size := by omega))
          (try (have hn1_w2 : ¬ (w.heap.size + 1 = (w2).heap.size) := by omega))
          (try (have hm1_w2 : ¬ ((w2).heap.size = w.heap.size + 1) := by omega))
          (try (have hs2_w2 : w.heap.size + 2 < (w2).heap.size := by omega))
          (try (have hn2_w2 : ¬ (w.heap.size + 2 = (w2).heap.size) := by omega))
          (try (have hm2_w2 : ¬ ((w2).heap.size = w.heap.size + 2) := by omega))
          (try (have hs3_w2 : w.heap.size + 3 < (w2).heap.size := by omega))
          (try (have hn3_w2 : ¬ (w.heap.size + 3 = (w2).heap.size) := by omega))
          (try (have hm3_w2 : ¬ ((w2).heap.size = w.heap.size + 3) := by omega))
          unfold Oper.wp
          go_simp
          refine hK _ _ (Below.alloc (Below.refl _ _) (by first | omega | (simp; omega)) _) ?_
          clear hK K
          refine Reg.make_nil (fun w4 hb4 => ?_)
          replace hb4 : Below _ _ w4 := hb4
          obtain ⟨hc_w4, hf_w4⟩ := bcell hb4
          (try simp only [World.heap_drewN, World.cell?_drewN, World.size_drew, World.size_alloc, World.size_setCell] at hc_w4)
          (try simp only [World.heap_drewN, World.frozen?_drewN, World.size_drew, World.size_alloc, World.size_setCell] at hf_w4)
          have hz_w4 := Below.size hb4
          (try simp only [World.size_alloc, World.size_setCell, World.size_drew, World.heap_drewN] at hz_w4)
          (try (have hs0_w4 : w.heap.size < (w4).heap.size := by omega))
          (try (have hs1_w4 : w.heap.size + 1 < (w4).heap.size := by omega))
          (try (have hs2_w4 : w.heap.size + 2 < (w4).heap.size := by omega))
          (try (have hs3_w4 : w.heap.size + 3 < (w4).heap.size := by omega))
          have hd4 : w2.heap.size < w4.heap.size := by omega
          have m0 : (w4).cell? ⟨w.heap.size, 0, none⟩ = some (.int .u64 t) := by go_simp
          have m1 : (w4).cell? ⟨w.heap.size, 1, none⟩ = some (.int .i64 a) := by go_simp
          have m2 : (w4).cell? ⟨w.heap.size, 2, none⟩ = some (.int .u64 b) := by go_simp
          have m3 : (w4).cell? ⟨w.heap.size, 3, none⟩ = some (.int .u64 x) := by go_simp
          have m4 : (w4).cell? ⟨w.heap.size, 4, none⟩ = some (.int .i64 n) := by go_simp
          have p0 : (w4).cell? ⟨w.heap.size + 1, 0, none⟩ = some (.int .u64 u) := by go_simp
          have p1 : (w4).cell? ⟨w.heap.size + 1, 1, none⟩ = some (.int .u32 r) := by go_simp
          have p2 : (w4).cell? ⟨w.heap.size + 1, 2, none⟩ = some (.int .u32 y) := by go_simp
          have q0 : (w4).cell? ⟨w.heap.size + 1 + 1, 0, none⟩ = some (.int .u64 0) := by go_simp
          have q1 : (w4).cell? ⟨w.heap.size + 1 + 1, 1, none⟩ = some (.int .i64 0) := by go_simp
          have q2 : (w4).cell? ⟨w.heap.size + 1 + 1, 2, none⟩ = some (.int .u64 0) := by go_simp
          have q3 : (w4).cell? ⟨w.heap.size + 1 + 1, 3, none⟩ = some (.int .u64 0) := by go_simp
          have q4 : (w4).cell? ⟨w.heap.size + 1 + 1, 4, none⟩ = some (.int .i64 0) := by go_simp
          have g0 : (w4).frozen? ⟨w.heap.size + 1 + 1, 0, none⟩ = false := by go_simp
          have g1 : (w4).frozen? ⟨w.heap.size + 1 + 1, 1, none⟩ = false := by go_simp
          have g2 : (w4).frozen? ⟨w.heap.size + 1 + 1, 2, none⟩ = false := by go_simp
          have g3 : (w4).frozen? ⟨w.heap.size + 1 + 1, 3, none⟩ = false := by go_simp
          have g4 : (w4).frozen? ⟨w.heap.size + 1 + 1, 4, none⟩ = false := by go_simp
          have s0 : w4.cell? ⟨w2.heap.size, 0, none⟩ = some (.int .i64 0) := by go_simp
          have s1 : w4.cell? ⟨w2.heap.size, 1, none⟩ = some (.int .u64 0) := by go_simp
          have f0 : w4.frozen? ⟨w2.heap.size, 0, none⟩ = false := by go_simp
          have f1 : w4.frozen? ⟨w2.heap.size, 1, none⟩ = false := by go_simp
          clear hc_w4 hf_w4 hc_w2 hf_w2
          go_wp2_with fail
          refine Reg.qn ?_
          go_wp2_with fail

          replace hE2 : Below _ _ _ := hE2
          refine bodyPost_ret (by simp [*, results, Tryz.results73, go_sem]; try rfl) rfl ?_
          exact ⟨eqRet rfl, by (repeat' (first | (with_reducible exact Below.refl _ _) | (with_reducible refine Below.alloc ?_ ?_ _) | (with_reducible refine Below.setCell ?_ ?_ _) | (with_reducible refine Below.drew ?_) | (with_reducible refine belowN ?_ _) | (with_reducible refine bthen (by assumption) ?_ ?_) | omega | (simp only [World.size_alloc, World.size_setCell, World.size_drew, World.heap_drewN] at *; omega) | (simp; omega)))⟩
        · have e : addB (val a b) x n r y (dist u r y t) = true := by simp [addB, h1, h2, h3, h0]
          rw [sel_of ((inWB_iff _).1 h3)] at S
          simp only [e, onlyV_true]
          clear e hB h1 h2 h3 h0 ha hb hn hr hy
          go_enter Tryz.func73, Tryz.ntmps73
          go_wp2_with first | (go_at_call 75; refine (R _).mono ?_; rintro e w1 ⟨rfl, hb1⟩; obtain ⟨hc1, hf1⟩ := bcell hb1; (try simp only [World.heap_drewN, World.cell?_drewN] at hc1); (try simp only [World.heap_drewN, World.frozen?_drewN] at hf1); have hz1 := bsize hb1; (try simp only [World.size_alloc, World.size_setCell, World.size_drew, World.heap_drewN] at hz1); (try (have hs0 : w.heap.size < w1.heap.size := by omega)); (try (have hs1 : w.heap.size + 1 < w1.heap.size := by omega)); (try (have hs2 : w.heap.size + 2 < w1.heap.size := by omega)); (try (have hs3 : w.heap.size + 3 < w1.heap.size := by omega))) | (go_at_call 33; refine (Q _).mono ?_; rintro e w1 ⟨rfl, hb1⟩; obtain ⟨hc1, hf1⟩ := bcell hb1; (try simp only [World.heap_drewN, World.cell?_drewN] at hc1); (try simp only [World.heap_drewN, World.frozen?_drewN] at hf1); have hz1 := bsize hb1; (try simp only [World.size_alloc, World.size_setCell, World.size_drew, World.heap_drewN] at hz1); (try (have hs0 : w.heap.size < w1.heap.size := by omega)); (try (have hs1 : w.heap.size + 1 < w1.heap.size := by omega)); (try (have hs2 : w.heap.size + 2 < w1.heap.size := by omega)); (try (have hs3 : w.heap.size + 3 < w1.heap.size := by omega)))
          have m0 : (w1).cell? ⟨w.heap.size, 0, none⟩ = some (.int .u64 t) := by go_simp
          have m1 : (w1).cell? ⟨w.heap.size, 1, none⟩ = some (.int .i64 a) := by go_simp
          have m2 : (w1).cell? ⟨w.heap.size, 2, none⟩ = some (.int .u64 b) := by go_simp
          have m3 : (w1).cell? ⟨w.heap.size, 3, none⟩ = some (.int .u64 x) := by go_simp
          have m4 : (w1).cell? ⟨w.heap.size, 4, none⟩ = some (.int .i64 n) := by go_simp
          have p0 : (w1).cell? ⟨w.heap.size + 1, 0, none⟩ = some (.int .u64 u) := by go_simp
          have p1 : (w1).cell? ⟨w.heap.size + 1, 1, none⟩ = some (.int .u32 r) := by go_simp
          have p2 : (w1).cell? ⟨w.heap.size + 1, 2, none⟩ = some (.int .u32 y) := by go_simp
          have q0 : (w1).cell? ⟨w.heap.size + 1 + 1, 0, none⟩ = some (.int .u64 0) := by go_simp
          have q1 : (w1).cell? ⟨w.heap.size + 1 + 1, 1, none⟩ = some (.int .i64 0) := by go_simp
          have q2 : (w1).cell? ⟨w.heap.size + 1 + 1, 2, none⟩ = some (.int .u64 0) := by go_simp
          have q3 : (w1).cell? ⟨w.heap.size + 1 + 1, 3, none⟩ = some (.int .u64 0) := by go_simp
          have q4 : (w1).cell? ⟨w.heap.size + 1 + 1, 4, none⟩ = some (.int .i64 0) := by go_simp
          have g0 : (w1).frozen? ⟨w.heap.size + 1 + 1, 0, none⟩ = false := by go_simp
          have g1 : (w1).frozen? ⟨w.heap.size + 1 + 1, 1, none⟩ = false := by go_simp
          have g2 : (w1).frozen? ⟨w.heap.size + 1 + 1, 2, none⟩ = false := by go_simp
          have g3 : (w1).frozen? ⟨w.heap.size + 1 + 1, 3, none⟩ = false := by go_simp
          have g4 : (w1).frozen? ⟨w.heap.size + 1 + 1, 4, none⟩ = false := by go_simp
          clear hc1 hf1
          refine Reg.wp_region_E 10 1 (by kernel_rfl) (by kernel_rfl) ?_
          simp only [List.take_succ_cons, List.take_zero, List.drop_succ_cons, List.drop_zero]
          iterate 10 (first | (refine Reg.head_pure rfl rfl (fun K hK => ?_); apply Exists.intro; refine ⟨fun w2 => ?_, ?_⟩; (go_simp; exact .mk); (go_simp; refine hK _ ?_; clear hK K)) | (refine Reg.head_cps rfl rfl (fun K hK => ?_); apply Exists.intro; refine ⟨fun w2 hE => ?_, ?_⟩; (obtain ⟨hcE, hfE⟩ := bcellB hE; (try simp only [World.size_drew, World.heap_drewN, World.cell?_drewN, World.size_alloc, World.size_setCell] at hcE); go_simp; first | (exact .value (Reg.E.refl _)) | (apply Reg.Comes1.enter (Reg.E.refl _); first | (exact D _) | (exact S _))); (go_simp; refine hK _ ?_; clear hK K)))
          refine Reg.head_nil ?_
          refine Reg.make_cps rfl (fun w2 hE2 K hK => ?_)
          have hz_w2 := Below.size hE2
          (try simp only [World.size_drew, World.heap_drewN, World.size_alloc, World.size_setCell] at hz_w2)
          obtain ⟨hc_w2, hf_w2⟩ := bcell hE2
          (try simp only [World.size_drew, World.heap_drewN, World.cell?_drewN, World.size_alloc, World.size_setCell] at hc_w2)
          (try simp only [World.size_drew, World.heap_drewN, World.frozen?_drewN, World.size_alloc, World.size_setCell] at hf_w2)
          (try (have hs0_w2 : w.heap.size < (w2).heap.size := by omega))
          (try (have hn0_w2 : ¬ (w.heap.size = (w2).heap.size) := by omega))
          (try (have hm0_w2 : ¬ ((w2).heap.size = w.heap.size) := by omega))
          (try (have hs1_w2 : w.heap.size + 1 < (w2).heap.size := by omega))
          (try (have hn1_w2 : ¬ (w.heap.size + 1 = (w2).heap.size) := by omega))
          (try (have hm1_w2 : ¬ ((w2).heap.size = w.heap.size + 1) := by omega))
          (try (have hs2_w2 : w.heap.size + 2 < (w2).heap.size := by omega))
          (try (have hn2_w2 : ¬ (w.heap.size + 2 = (w2).heap.size) := by omega))
          (try (have hm2_w2 : ¬ ((w2).heap.size = w.heap.size + 2) := by omega))
          (try (have hs3_w2 : w.heap.size + 3 < (w2).heap.size := by omega))
          (try (have hn3_w2 : ¬ (w.heap.size + 3 = (w2).heap.size) := by omega))
          (try (have hm3_w2 : ¬ ((w2).heap.size = w.heap.size + 3) := by omega))
          unfold Oper.wp
          go_simp
          refine hK _ _ (Below.alloc (Below.refl _ _) (by first | omega | (simp; omega)) _) ?_
          clear hK K
          refine Reg.make_nil (fun w4 hb4 => ?_)
          replace hb4 : Below _ _ w4 := hb4
          obtain ⟨hc_w4, hf_w4⟩ := bcell hb4
          (try simp only [World.heap_drewN, World.cell?_drewN, World.size_drew, World.size_alloc, World.size_setCell] at hc_w4)
          (try simp only [World.heap_drewN, World.frozen?_drewN, World.size_drew, World.size_alloc, World.size_setCell] at hf_w4)
          have hz_w4 := Below.size hb4
          (try simp only [World.size_alloc, World.size_setCell, World.size_drew, World.heap_drewN] at hz_w4)
          (try (have hs0_w4 : w.heap.size < (w4).heap.size := by omega))
          (try (have hs1_w4 : w.heap.size + 1 < (w4).heap.size := by omega))
          (try (have hs2_w4 : w.heap.size + 2 < (w4).heap.size := by omega))
          (try (have hs3_w4 : w.heap.size + 3 < (w4).heap.size := by omega))
          have hd4 : w2.heap.size < w4.heap.size := by omega
          have m0 : (w4).cell? ⟨w.heap.size, 0, none⟩ = some (.int .u64 t) := by go_simp
          have m1 : (w4).cell? ⟨w.heap.size, 1, none⟩ = some (.int .i64 a) := by go_simp
          have m2 : (w4).cell? ⟨w.heap.size, 2, none⟩ = some (.int .u64 b) := by go_simp
          have m3 : (w4).cell? ⟨w.heap.size, 3, none⟩ = some (.int .u64 x) := by go_simp
          have m4 : (w4).cell? ⟨w.heap.size, 4, none⟩ = some (.int .i64 n) := by go_simp
          have p0 : (w4).cell? ⟨w.heap.size + 1, 0, none⟩ = some (.int .u64 u) := by go_simp
          have p1 : (w4).cell? ⟨w.heap.size + 1, 1, none⟩ = some (.int .u32 r) := by go_simp
          have p2 : (w4).cell? ⟨w.heap.size + 1, 2, none⟩ = some (.int .u32 y) := by go_simp
          have q0 : (w4).cell? ⟨w.heap.size + 1 + 1, 0, none⟩ = some (.int .u64 0) := by go_simp
          have q1 : (w4).cell? ⟨w.heap.size + 1 + 1, 1, none⟩ = some (.int .i64 0) := by go_simp
          have q2 : (w4).cell? ⟨w.heap.size + 1 + 1, 2, none⟩ = some (.int .u64 0) := by go_simp
          have q3 : (w4).cell? ⟨w.heap.size + 1 + 1, 3, none⟩ = some (.int .u64 0) := by go_simp
          have q4 : (w4).cell? ⟨w.heap.size + 1 + 1, 4, none⟩ = some (.int .i64 0) := by go_simp
          have g0 : (w4).frozen? ⟨w.heap.size + 1 + 1, 0, none⟩ = false := by go_simp
          have g1 : (w4).frozen? ⟨w.heap.size + 1 + 1, 1, none⟩ = false := by go_simp
          have g2 : (w4).frozen? ⟨w.heap.size + 1 + 1, 2, none⟩ = false := by go_simp
          have g3 : (w4).frozen? ⟨w.heap.size + 1 + 1, 3, none⟩ = false := by go_simp
          have g4 : (w4).frozen? ⟨w.heap.size + 1 + 1, 4, none⟩ = false := by go_simp
          have s0 : w4.cell? ⟨w2.heap.size, 0, none⟩ = some (.int .i64 0) := by go_simp
          have s1 : w4.cell? ⟨w2.heap.size, 1, none⟩ = some (.int .u64 0) := by go_simp
          have f0 : w4.frozen? ⟨w2.heap.size, 0, none⟩ = false := by go_simp
          have f1 : w4.frozen? ⟨w2.heap.size, 1, none⟩ = false := by go_simp
          clear hc_w4 hf_w4 hc_w2 hf_w2
          go_wp2_with fail
          refine Reg.qn ?_
          go_wp2_with fail

          replace hE2 : Below _ _ _ := hE2
          refine bodyPost_ret (by simp [*, results, Tryz.results73, go_sem]; try rfl) rfl ?_
          exact ⟨eqRet rfl, by (repeat' (first | (with_reducible exact Below.refl _ _) | (with_reducible refine Below.alloc ?_ ?_ _) | (with_reducible refine Below.setCell ?_ ?_ _) | (with_reducible refine Below.drew ?_) | (with_reducible refine belowN ?_ _) | (with_reducible refine bthen (by assumption) ?_ ?_) | omega | (simp only [World.size_alloc, World.size_setCell, World.size_drew, World.heap_drewN] at *; omega) | (simp; omega)))⟩
end Go.Proofs.YtemfhipofgafiaaGreatDoor
