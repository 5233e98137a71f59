/- item.Right. -/
import Derived.Test.YtemfhipofgafiaaGreatDoorSpread
set_option linter.unusedVariables false
set_option linter.unusedSimpArgs false
namespace Go.Proofs.YtemfhipofgafiaaGreatDoor
open Go.RowKit


/-- May an item be? -/
def rightI (t r x i u s y : Int) : Bool := posOK r x && (posOK s y && (decide (x = y) && (decide (0 < i) && (decide (0 ≤ since u t) && decide (since u t ≤ 1152921504606846976)))))
set_option maxHeartbeats 1000000 in
set_option maxRecDepth 100000 in
theorem item_Right (t r x i u s y : Int) (w : World) :
    Calls Tryz.prog 61 #[(.agg #[.int .u64 (t), .int .u32 (r), .int .u32 (x), .int .i64 (i), .int .u64 (u), .int .u32 (s), .int .u32 (y)])] w (Ret w (.bool (rightI t r x i u s y))) := by
  have S := fun w => vtime_Since u t w
  have P1 := fun w => pos_Right t r x w
  have P2 := fun w => pos_Right u s y w
  unfold rightI
  generalize since u t = d at *
  cases h1 : posOK r x
  · simp only [Bool.false_and]
    rw [h1] at P1
    clear P2 h1
    go_enter Tryz.func61, Tryz.ntmps61
    go_wp2_with fail
    refine (S _).mono ?_
    rintro e w1 ⟨rfl, hb1⟩
    obtain ⟨hc1, hf1⟩ := bcell hb1
    have hz1 := bsize hb1
    (try simp only [World.size_alloc] at hz1)
    have hs1 : w.heap.size < w1.heap.size := by omega
    have m0 : w1.cell? ⟨w.heap.size, 0, none⟩ = some (.int .u64 t) := by go_simp
    have m1 : w1.cell? ⟨w.heap.size, 1, none⟩ = some (.int .u32 r) := by go_simp
    have m2 : w1.cell? ⟨w.heap.size, 2, none⟩ = some (.int .u32 x) := by go_simp
    have m3 : w1.cell? ⟨w.heap.size, 3, none⟩ = some (.int .i64 i) := by go_simp
    have m4 : w1.cell? ⟨w.heap.size, 4, none⟩ = some (.int .u64 u) := by go_simp
    have m5 : w1.cell? ⟨w.heap.size, 5, none⟩ = some (.int .u32 s) := by go_simp
    have m6 : w1.cell? ⟨w.heap.size, 6, none⟩ = some (.int .u32 y) := by go_simp
    clear hc1 hf1
    go_wp2_with fail
    refine (P1 _).mono ?_
    rintro e w2 ⟨rfl, hb2⟩
    replace m0 : w2.cell? ⟨w.heap.size, 0, none⟩ = some (.int .u64 t) := kcell hb2 m0
    replace m1 : w2.cell? ⟨w.heap.size, 1, none⟩ = some (.int .u32 r) := kcell hb2 m1
    replace m2 : w2.cell? ⟨w.heap.size, 2, none⟩ = some (.int .u32 x) := kcell hb2 m2
    replace m3 : w2.cell? ⟨w.heap.size, 3, none⟩ = some (.int .i64 i) := kcell hb2 m3
    replace m4 : w2.cell? ⟨w.heap.size, 4, none⟩ = some (.int .u64 u) := kcell hb2 m4
    replace m5 : w2.cell? ⟨w.heap.size, 5, none⟩ = some (.int .u32 s) := kcell hb2 m5
    replace m6 : w2.cell? ⟨w.heap.size, 6, none⟩ = some (.int .u32 y) := kcell hb2 m6
    have hz2 := hb2.size
    go_wp2_with fail
    refine bodyPost_ret (by simp [*, results, Tryz.results61, go_sem]; try rfl) rfl ?_
    exact ⟨eqRet rfl, by (repeat' (first | (with_reducible exact Below.refl _ _) | (with_reducible refine Below.alloc ?_ ?_ _) | (with_reducible refine Below.setCell ?_ ?_ _) | (with_reducible refine Below.drew ?_) | (with_reducible refine belowN ?_ _) | (with_reducible refine bthen (by assumption) ?_ ?_) | omega | (simp only [World.size_alloc, World.size_setCell, World.size_drew, World.heap_drewN] at *; omega) | (simp; omega)))⟩
  cases h2 : posOK s y
  · simp only [Bool.false_and, Bool.and_false]
    rw [h1] at P1
    rw [h2] at P2
    clear h1 h2
    go_enter Tryz.func61, Tryz.ntmps61
    go_wp2_with fail
    refine (S _).mono ?_
    rintro e w1 ⟨rfl, hb1⟩
    obtain ⟨hc1, hf1⟩ := bcell hb1
    have hz1 := bsize hb1
    (try simp only [World.size_alloc] at hz1)
    have hs1 : w.heap.size < w1.heap.size := by omega
    have m0 : w1.cell? ⟨w.heap.size, 0, none⟩ = some (.int .u64 t) := by go_simp
    have m1 : w1.cell? ⟨w.heap.size, 1, none⟩ = some (.int .u32 r) := by go_simp
    have m2 : w1.cell? ⟨w.heap.size, 2, none⟩ = some (.int .u32 x) := by go_simp
    have m3 : w1.cell? ⟨w.heap.size, 3, none⟩ = some (.int .i64 i) := by go_simp
    have m4 : w1.cell? ⟨w.heap.size, 4, none⟩ = some (.int .u64 u) := by go_simp
    have m5 : w1.cell? ⟨w.heap.size, 5, none⟩ = some (.int .u32 s) := by go_simp
    have m6 : w1.cell? ⟨w.heap.size, 6, none⟩ = some (.int .u32 y) := by go_simp
    clear hc1 hf1
    go_wp2_with fail
    refine (P1 _).mono ?_
    rintro e w2 ⟨rfl, hb2⟩
    replace m0 : w2.cell? ⟨w.heap.size, 0, none⟩ = some (.int .u64 t) := kcell hb2 m0
    replace m1 : w2.cell? ⟨w.heap.size, 1, none⟩ = some (.int .u32 r) := kcell hb2 m1
    replace m2 : w2.cell? ⟨w.heap.size, 2, none⟩ = some (.int .u32 x) := kcell hb2 m2
    replace m3 : w2.cell? ⟨w.heap.size, 3, none⟩ = some (.int .i64 i) := kcell hb2 m3
    replace m4 : w2.cell? ⟨w.heap.size, 4, none⟩ = some (.int .u64 u) := kcell hb2 m4
    replace m5 : w2.cell? ⟨w.heap.size, 5, none⟩ = some (.int .u32 s) := kcell hb2 m5
    replace m6 : w2.cell? ⟨w.heap.size, 6, none⟩ = some (.int .u32 y) := kcell hb2 m6
    have hz2 := hb2.size
    go_wp2_with fail
    refine (P2 _).mono ?_
    rintro e w3 ⟨rfl, hb3⟩
    replace m0 : w3.cell? ⟨w.heap.size, 0, none⟩ = some (.int .u64 t) := kcell hb3 m0
    replace m1 : w3.cell? ⟨w.heap.size, 1, none⟩ = some (.int .u32 r) := kcell hb3 m1
    replace m2 : w3.cell? ⟨w.heap.size, 2, none⟩ = some (.int .u32 x) := kcell hb3 m2
    replace m3 : w3.cell? ⟨w.heap.size, 3, none⟩ = some (.int .i64 i) := kcell hb3 m3
    replace m4 : w3.cell? ⟨w.heap.size, 4, none⟩ = some (.int .u64 u) := kcell hb3 m4
    replace m5 : w3.cell? ⟨w.heap.size, 5, none⟩ = some (.int .u32 s) := kcell hb3 m5
    replace m6 : w3.cell? ⟨w.heap.size, 6, none⟩ = some (.int .u32 y) := kcell hb3 m6
    have hz3 := hb3.size
    go_wp2_with fail
    refine bodyPost_ret (by simp [*, results, Tryz.results61, go_sem]; try rfl) rfl ?_
    exact ⟨eqRet rfl, by (repeat' (first | (with_reducible exact Below.refl _ _) | (with_reducible refine Below.alloc ?_ ?_ _) | (with_reducible refine Below.setCell ?_ ?_ _) | (with_reducible refine Below.drew ?_) | (with_reducible refine belowN ?_ _) | (with_reducible refine bthen (by assumption) ?_ ?_) | omega | (simp only [World.size_alloc, World.size_setCell, World.size_drew, World.heap_drewN] at *; omega) | (simp; omega)))⟩
  rw [h1] at P1
  rw [h2] at P2
  simp only [Bool.true_and]
  clear h1 h2
  go_enter Tryz.func61, Tryz.ntmps61
  go_wp2_with fail
  refine (S _).mono ?_
  rintro e w1 ⟨rfl, hb1⟩
  obtain ⟨hc1, hf1⟩ := bcell hb1
  have hz1 := bsize hb1
  (try simp only [World.size_alloc] at hz1)
  have hs1 : w.heap.size < w1.heap.size := by omega
  have m0 : w1.cell? ⟨w.heap.size, 0, none⟩ = some (.int .u64 t) := by go_simp
  have m1 : w1.cell? ⟨w.heap.size, 1, none⟩ = some (.int .u32 r) := by go_simp
  have m2 : w1.cell? ⟨w.heap.size, 2, none⟩ = some (.int .u32 x) := by go_simp
  have m3 : w1.cell? ⟨w.heap.size, 3, none⟩ = some (.int .i64 i) := by go_simp
  have m4 : w1.cell? ⟨w.heap.size, 4, none⟩ = some (.int .u64 u) := by go_simp
  have m5 : w1.cell? ⟨w.heap.size, 5, none⟩ = some (.int .u32 s) := by go_simp
  have m6 : w1.cell? ⟨w.heap.size, 6, none⟩ = some (.int .u32 y) := by go_simp
  clear hc1 hf1
  go_wp2_with fail
  refine (P1 _).mono ?_
  rintro e w2 ⟨rfl, hb2⟩
  replace m0 : w2.cell? ⟨w.heap.size, 0, none⟩ = some (.int .u64 t) := kcell hb2 m0
  replace m1 : w2.cell? ⟨w.heap.size, 1, none⟩ = some (.int .u32 r) := kcell hb2 m1
  replace m2 : w2.cell? ⟨w.heap.size, 2, none⟩ = some (.int .u32 x) := kcell hb2 m2
  replace m3 : w2.cell? ⟨w.heap.size, 3, none⟩ = some (.int .i64 i) := kcell hb2 m3
  replace m4 : w2.cell? ⟨w.heap.size, 4, none⟩ = some (.int .u64 u) := kcell hb2 m4
  replace m5 : w2.cell? ⟨w.heap.size, 5, none⟩ = some (.int .u32 s) := kcell hb2 m5
  replace m6 : w2.cell? ⟨w.heap.size, 6, none⟩ = some (.int .u32 y) := kcell hb2 m6
  have hz2 := hb2.size
  go_wp2_with fail
  refine (P2 _).mono ?_
  rintro e w3 ⟨rfl, hb3⟩
  replace m0 : w3.cell? ⟨w.heap.size, 0, none⟩ = some (.int .u64 t) := kcell hb3 m0
  replace m1 : w3.cell? ⟨w.heap.size, 1, none⟩ = some (.int .u32 r) := kcell hb3 m1
  replace m2 : w3.cell? ⟨w.heap.size, 2, none⟩ = some (.int .u32 x) := kcell hb3 m2
  replace m3 : w3.cell? ⟨w.heap.size, 3, none⟩ = some (.int .i64 i) := kcell hb3 m3
  replace m4 : w3.cell? ⟨w.heap.size, 4, none⟩ = some (.int .u64 u) := kcell hb3 m4
  replace m5 : w3.cell? ⟨w.heap.size, 5, none⟩ = some (.int .u32 s) := kcell hb3 m5
  replace m6 : w3.cell? ⟨w.heap.size, 6, none⟩ = some (.int .u32 y) := kcell hb3 m6
  have hz3 := hb3.size
  go_wp2_with fail
  all_goals (refine bodyPost_ret (by simp [*, results, Tryz.results61, go_sem]; try rfl) rfl ?_)
  all_goals (refine ⟨eqRet (congrArg Value.bool ?_), by (repeat' (first | (with_reducible exact Below.refl _ _) | (with_reducible refine Below.alloc ?_ ?_ _) | (with_reducible refine Below.setCell ?_ ?_ _) | (with_reducible refine Below.drew ?_) | (with_reducible refine belowN ?_ _) | (with_reducible refine bthen (by assumption) ?_ ?_) | omega | (simp only [World.size_alloc, World.size_setCell, World.size_drew, World.heap_drewN] at *; omega) | (simp; omega)))⟩)
  all_goals (simp [*]; try omega)
end Go.Proofs.YtemfhipofgafiaaGreatDoor
