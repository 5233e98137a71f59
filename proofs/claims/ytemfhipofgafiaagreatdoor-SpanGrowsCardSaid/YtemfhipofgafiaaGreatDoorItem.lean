/- THE WALKS of package item. -/
import Derived.Test.YtemfhipofgafiaaGreatDoorPos
set_option linter.unusedVariables false
set_option linter.unusedSimpArgs false
namespace Go.Proofs.YtemfhipofgafiaaGreatDoor
open Go.RowKit


/-- Which is ahead, by a comparison and the numbers. -/
def tieB (c : Int) (b : Bool) : Bool := decide (c < 0) || ((c == 0) && b)
def aheadB (t r x i t2 r2 x2 i2 : Int) : Bool := tieB (posCmp t r x t2 r2 x2) (decide (i < i2))
set_option maxHeartbeats 1000000 in
set_option maxRecDepth 100000 in
theorem item_Ahead (t r x i u s y t2 r2 x2 i2 u2 s2 y2 : Int) (w : World) (hr : U32 r) (hx : U32 x) (hr2 : U32 r2) (hx2 : U32 x2) :
    Calls Tryz.prog 148 #[(.agg #[.int .u64 (t), .int .u32 (r), .int .u32 (x), .int .i64 (i), .int .u64 (u), .int .u32 (s), .int .u32 (y)]), (.agg #[.int .u64 (t2), .int .u32 (r2), .int .u32 (x2), .int .i64 (i2), .int .u64 (u2), .int .u32 (s2), .int .u32 (y2)])] w (Ret w (.bool (aheadB t r x i t2 r2 x2 i2))) := by
  have C := fun w => pos_Cmp t r x t2 r2 x2 w hr hx hr2 hx2
  unfold aheadB
  generalize posCmp t r x t2 r2 x2 = c at *
  go_enter Tryz.func148, Tryz.ntmps148
  go_wp2_with (go_at_call 160; refine (C _).mono ?_; rintro e w1 ⟨rfl, hb1⟩; obtain ⟨hc1, hf1⟩ := bcell hb1; (try simp only [World.heap_drewN, World.cell?_drewN] at hc1); (try simp only [World.heap_drewN, World.frozen?_drewN] at hf1); have hz1 := bsize hb1; (try simp only [World.size_alloc, World.size_setCell, World.size_drew, World.heap_drewN] at hz1); (try (have hs0 : w.heap.size < w1.heap.size := by omega)); (try (have hs1 : w.heap.size + 1 < w1.heap.size := by omega)); (try (have hs2 : w.heap.size + 2 < w1.heap.size := by omega)); (try (have hs3 : w.heap.size + 3 < w1.heap.size := by omega)))
  all_goals (refine bodyPost_ret (by simp [*, results, Tryz.results148, go_sem]; try rfl) rfl ?_)
  all_goals (refine ⟨eqRet (congrArg Value.bool ?_), by (repeat' (first | (with_reducible exact Below.refl _ _) | (with_reducible refine Below.alloc ?_ ?_ _) | (with_reducible refine Below.setCell ?_ ?_ _) | (with_reducible refine Below.drew ?_) | (with_reducible refine belowN ?_ _) | (with_reducible refine bthen (by assumption) ?_ ?_) | omega | (simp only [World.size_alloc, World.size_setCell, World.size_drew, World.heap_drewN] at *; omega) | (simp; omega)))⟩)
  all_goals (simp [tieB, *]; try omega)

def dueB (t r x i u s y t2 r2 x2 i2 u2 s2 y2 : Int) : Bool := tieB (posCmp u s y u2 s2 y2) (aheadB t r x i t2 r2 x2 i2)
set_option maxHeartbeats 1000000 in
set_option maxRecDepth 100000 in
theorem item_Due (t r x i u s y t2 r2 x2 i2 u2 s2 y2 : Int) (w : World) (hr : U32 r) (hx : U32 x) (hr2 : U32 r2) (hx2 : U32 x2) (hs : U32 s) (hy : U32 y) (hs2 : U32 s2) (hy2 : U32 y2) :
    Calls Tryz.prog 166 #[(.agg #[.int .u64 (t), .int .u32 (r), .int .u32 (x), .int .i64 (i), .int .u64 (u), .int .u32 (s), .int .u32 (y)]), (.agg #[.int .u64 (t2), .int .u32 (r2), .int .u32 (x2), .int .i64 (i2), .int .u64 (u2), .int .u32 (s2), .int .u32 (y2)])] w (Ret w (.bool (dueB t r x i u s y t2 r2 x2 i2 u2 s2 y2))) := by
  have C := fun w => pos_Cmp u s y u2 s2 y2 w hs hy hs2 hy2
  have D := fun w => item_Ahead t r x i u s y t2 r2 x2 i2 u2 s2 y2 w hr hx hr2 hx2
  unfold dueB
  generalize posCmp u s y u2 s2 y2 = c at *
  generalize aheadB t r x i t2 r2 x2 i2 = q at *
  go_enter Tryz.func166, Tryz.ntmps166
  go_wp2_with first | (go_at_call 160; refine (C _).mono ?_; rintro e w1 ⟨rfl, hb1⟩; obtain ⟨hc1, hf1⟩ := bcell hb1; (try simp only [World.heap_drewN, World.cell?_drewN] at hc1); (try simp only [World.heap_drewN, World.frozen?_drewN] at hf1); have hz1 := bsize hb1; (try simp only [World.size_alloc, World.size_setCell, World.size_drew, World.heap_drewN] at hz1); (try (have hs0 : w.heap.size < w1.heap.size := by omega)); (try (have hs1 : w.heap.size + 1 < w1.heap.size := by omega)); (try (have hs2 : w.heap.size + 2 < w1.heap.size := by omega)); (try (have hs3 : w.heap.size + 3 < w1.heap.size := by omega))) | (go_at_call 148; refine (D _).mono ?_; rintro e w1 ⟨rfl, hb1⟩; obtain ⟨hc1, hf1⟩ := bcell hb1; (try simp only [World.heap_drewN, World.cell?_drewN] at hc1); (try simp only [World.heap_drewN, World.frozen?_drewN] at hf1); have hz1 := bsize hb1; (try simp only [World.size_alloc, World.size_setCell, World.size_drew, World.heap_drewN] at hz1); (try (have hs0 : w.heap.size < w1.heap.size := by omega)); (try (have hs1 : w.heap.size + 1 < w1.heap.size := by omega)); (try (have hs2 : w.heap.size + 2 < w1.heap.size := by omega)); (try (have hs3 : w.heap.size + 3 < w1.heap.size := by omega)))
  all_goals (refine bodyPost_ret (by simp [*, results, Tryz.results166, go_sem]; try rfl) rfl ?_)
  all_goals (refine ⟨eqRet (congrArg Value.bool ?_), by (repeat' (first | (with_reducible exact Below.refl _ _) | (with_reducible refine Below.alloc ?_ ?_ _) | (with_reducible refine Below.setCell ?_ ?_ _) | (with_reducible refine Below.drew ?_) | (with_reducible refine belowN ?_ _) | (with_reducible refine bthen (by assumption) ?_ ?_) | omega | (simp only [World.size_alloc, World.size_setCell, World.size_drew, World.heap_drewN] at *; omega) | (simp; omega)))⟩)
  all_goals (simp [tieB, *]; try omega)

end Go.Proofs.YtemfhipofgafiaaGreatDoor
