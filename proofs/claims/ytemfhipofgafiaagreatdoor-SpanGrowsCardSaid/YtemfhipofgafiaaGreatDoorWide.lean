/- THE WALKS of package wide (but Mul, Div, String). -/
import Derived.Test.YtemfhipofgafiaaGreatDoorBase
set_option linter.unusedVariables false
set_option linter.unusedSimpArgs false
namespace Go.Proofs.YtemfhipofgafiaaGreatDoor
open Go.RowKit


set_option maxHeartbeats 1000000 in
set_option maxRecDepth 100000 in
theorem wide_Of (x : Int) (w : World) (hx : I64 x) :
    Calls Tryz.prog 78 #[.int .i64 x] w (Ret w (.agg #[.int .i64 (hiI x), .int .u64 (loI x)])) := by
  have e1 : x < 0 → hiI x = -1 := by intro h; unfold hiI wrap64; unfold I64 P63 at hx; unfold P64; omega
  have e2 : ¬ x < 0 → hiI x = 0 := by intro h; unfold hiI wrap64; unfold I64 P63 at hx; unfold P64; omega
  have e3 : IntKind.u64.wrap x = loI x := by rw [wrapU64]; rfl
  have H1 := Lib.hid e1; have H2 := Lib.hid e2; have H3 := Lib.hid e3
  clear e1 e2 e3 hx
  by_cases h : x < 0
  all_goals
    go_enter Tryz.func78, Tryz.ntmps78
    go_wp2_with fail
    go_returns
    refine ⟨?_, by go_grown⟩
    first | rw [H1.out h, H3.out] | rw [H2.out h, H3.out]

set_option maxHeartbeats 1000000 in
set_option maxRecDepth 100000 in
theorem wide_OfU (x : Int) (w : World) :
    Calls Tryz.prog 124 #[.int .u64 x] w (Ret w (.agg #[.int .i64 0, .int .u64 x])) := by
  go_enter Tryz.func124, Tryz.ntmps124
  go_wp2_with fail
  go_returns
  exact ⟨rfl, by go_grown⟩

set_option maxHeartbeats 1000000 in
set_option maxRecDepth 100000 in
theorem wide_Add (a b c d : Int) (w : World) (ha : I64 a) (hb : U64 b) (hc : I64 c) (hd : U64 d) :
    Calls Tryz.prog 100 #[.agg #[.int .i64 a, .int .u64 b], .agg #[.int .i64 c, .int .u64 d]] w
      (Ret w (.tuple #[.agg #[.int .i64 (hiI (sel (val a b + val c d))), .int .u64 (loI (sel (val a b + val c d)))], .bool (inWB (val a b + val c d))])) := by
  have h1 := fun w => run_add hb hd Carry_zero w
  have h2 := fun w => run_add (U64_wrap a) (U64_wrap c) (Carry_hi3 hb hd Carry_zero) w
  go_enter Tryz.func100, Tryz.ntmps100
  go_wp2_with fail
  all_goals go_returns
  all_goals refine ⟨eqRet ?_, by go_grown⟩
  · rename_i g1 g2
    rw [add_hi hb hd] at g2
    have hn := fun h => flip_eq g2 (g1.symm.trans ((add_same ha hb hc hd g1).1 h))
    rw [sel_not hn, inWB_false hn, hi_zero, lo_zero]
  · rename_i g1 g2
    rw [add_hi hb hd] at g2
    have hy := (add_same ha hb hc hd g1).2 (g1.trans (flip_ne g2))
    rw [sel_of hy, inWB_true hy, add_hi hb hd, add_lo a b c d]
  · rename_i g1
    have hy := add_other ha hb hc hd g1
    rw [sel_of hy, inWB_true hy, add_hi hb hd, add_lo a b c d]

set_option maxHeartbeats 1000000 in
set_option maxRecDepth 100000 in
theorem wide_Sub (a b c d : Int) (w : World) (ha : I64 a) (hb : U64 b) (hc : I64 c) (hd : U64 d) :
    Calls Tryz.prog 46 #[.agg #[.int .i64 a, .int .u64 b], .agg #[.int .i64 c, .int .u64 d]] w
      (Ret w (.tuple #[.agg #[.int .i64 (hiI (sel (val a b - val c d))), .int .u64 (loI (sel (val a b - val c d)))], .bool (inWB (val a b - val c d))])) := by
  have h1 := fun w => run_sub hb hd Carry_zero w
  have h2 := fun w => run_sub (U64_wrap a) (U64_wrap c) (Carry_bor b d 0) w
  go_enter Tryz.func46, Tryz.ntmps46
  go_wp2_with fail
  all_goals go_returns
  all_goals refine ⟨eqRet ?_, by go_grown⟩
  · rename_i g1
    have hy := sub_other ha hb hc hd g1
    rw [sel_of hy, inWB_true hy, sub_hi hb hd, sub_lo a b c d]
  · rename_i g1 g2
    rw [sub_hi hb hd] at g2
    have hn := fun h => flip_eq g2.2 ((sub_same ha hb hc hd g1).1 h)
    rw [sel_not hn, inWB_false hn, hi_zero, lo_zero]
  · rename_i g1 g2
    rw [sub_hi hb hd] at g2
    have hy := (sub_same ha hb hc hd g1).2 (by
      rcases g2 with g2 | g2
      · exact absurd (flip_ne g2) g1
      · exact flip_ne g2)
    rw [sel_of hy, inWB_true hy, sub_hi hb hd, sub_lo a b c d]

set_option maxHeartbeats 1000000 in
set_option maxRecDepth 100000 in
theorem wide_flip (a b : Int) (w : World) (ha : I64 a) (hb : U64 b) :
    Calls Tryz.prog 126 #[.agg #[.int .i64 a, .int .u64 b]] w
      (Ret w (.agg #[.int .i64 (hiI (-val a b)), .int .u64 (loI (-val a b))])) := by
  have h1 := fun w => run_sub U64_zero hb Carry_zero w
  have h2 := fun w => run_sub U64_zero (U64_wrap a) (Carry_bor 0 b 0) w
  go_enter Tryz.func126, Tryz.ntmps126
  go_wp2_with fail
  go_returns
  refine ⟨eqRet (eqW ?_ ?_), by go_grown⟩
  · have := sub_hi (a := 0) (b := 0) (c := a) (d := b) U64_zero hb
    rw [show IntKind.u64.wrap 0 = 0 from by decide, val_zero, Int.zero_sub] at this
    exact this
  · have := sub_lo 0 0 a b
    rw [val_zero, Int.zero_sub] at this
    exact this

set_option maxHeartbeats 1000000 in
set_option maxRecDepth 100000 in
theorem wide_Neg (a b : Int) (w : World) (ha : I64 a) (hb : U64 b) :
    Calls Tryz.prog 104 #[.agg #[.int .i64 a, .int .u64 b]] w
      (Ret w (.tuple #[.agg #[.int .i64 (hiI (sel (-val a b))), .int .u64 (loI (sel (-val a b)))], .bool (inWB (-val a b))])) := by
  go_enter Tryz.func104, Tryz.ntmps104
  go_wp2_with (go_at_call 126; refine (wide_flip _ _ _ ha hb).mono ?_; rintro e w1 ⟨rfl, hb1⟩; obtain ⟨hc1, hf1⟩ := bcell hb1; (try simp only [World.heap_drewN, World.cell?_drewN] at hc1); (try simp only [World.heap_drewN, World.frozen?_drewN] at hf1); have hz1 := bsize hb1; (try simp only [World.size_alloc, World.size_setCell, World.size_drew, World.heap_drewN] at hz1); (try (have hs0 : w.heap.size < w1.heap.size := by omega)); (try (have hs1 : w.heap.size + 1 < w1.heap.size := by omega)); (try (have hs2 : w.heap.size + 2 < w1.heap.size := by omega)); (try (have hs3 : w.heap.size + 3 < w1.heap.size := by omega)))
  · rename_i g
    go_returns
    refine ⟨eqRet ?_, by (repeat' (first | (with_reducible exact Below.refl _ _) | (with_reducible refine Below.alloc ?_ ?_ _) | (with_reducible refine Below.setCell ?_ ?_ _) | (with_reducible refine Below.drew ?_) | (with_reducible refine belowN ?_ _) | (with_reducible refine bthen (by assumption) ?_ ?_) | omega | (simp only [World.size_alloc, World.size_setCell, World.size_drew, World.heap_drewN] at *; omega) | (simp; omega)))⟩
    have hn : ¬ InW (-val a b) := fun h => (neg_fits ha hb).1 h (by simpa using g)
    rw [sel_not hn, inWB_false hn, hi_zero, lo_zero]
  · rename_i g
    refine bodyPost_ret (by simp [*, results, Tryz.results104, go_sem]; try rfl) rfl ?_
    refine ⟨eqRet ?_, by (repeat' (first | (with_reducible exact Below.refl _ _) | (with_reducible refine Below.alloc ?_ ?_ _) | (with_reducible refine Below.setCell ?_ ?_ _) | (with_reducible refine Below.drew ?_) | (with_reducible refine belowN ?_ _) | (with_reducible refine bthen (by assumption) ?_ ?_) | omega | (simp only [World.size_alloc, World.size_setCell, World.size_drew, World.heap_drewN] at *; omega) | (simp; omega)))⟩
    have hy : InW (-val a b) := (neg_fits ha hb).2 (fun h => by simp [h.1, h.2] at g)
    rw [sel_of hy, inWB_true hy]

set_option maxHeartbeats 1000000 in
set_option maxRecDepth 100000 in
theorem wide_size (a b : Int) (w : World) (ha : I64 a) (hb : U64 b) :
    Calls Tryz.prog 120 #[.agg #[.int .i64 a, .int .u64 b]] w
      (Ret w (.tuple #[.int .u64 (IntKind.u64.wrap (hiI (siz (val a b)))), .int .u64 (loI (siz (val a b)))])) := by
  have e1 : a < 0 → siz (val a b) = -val a b := by intro h; unfold siz val; unfold U64 at hb; unfold P64 at *; rw [if_pos (by omega)]
  have e2 : 0 ≤ a → siz (val a b) = val a b := by intro h; unfold siz val; unfold U64 at hb; unfold P64 at *; rw [if_neg (by omega)]
  have H1 := Lib.hid e1; have H2 := Lib.hid e2
  clear e1 e2
  by_cases h : a < 0
  · go_enter Tryz.func120, Tryz.ntmps120
    go_wp2_with (go_at_call 126; refine (wide_flip _ _ _ ha hb).mono ?_; rintro e w1 ⟨rfl, hb1⟩; obtain ⟨hc1, hf1⟩ := bcell hb1; (try simp only [World.heap_drewN, World.cell?_drewN] at hc1); (try simp only [World.heap_drewN, World.frozen?_drewN] at hf1); have hz1 := bsize hb1; (try simp only [World.size_alloc, World.size_setCell, World.size_drew, World.heap_drewN] at hz1); (try (have hs0 : w.heap.size < w1.heap.size := by omega)); (try (have hs1 : w.heap.size + 1 < w1.heap.size := by omega)); (try (have hs2 : w.heap.size + 2 < w1.heap.size := by omega)); (try (have hs3 : w.heap.size + 3 < w1.heap.size := by omega)))
    go_quiet (fail)
    go_wp2
    go_ret2
    exact ⟨by rw [H1.out h]; rfl, by (repeat' (first | (with_reducible exact Below.refl _ _) | (with_reducible refine Below.alloc ?_ ?_ _) | (with_reducible refine Below.setCell ?_ ?_ _) | (with_reducible refine Below.drew ?_) | (with_reducible refine belowN ?_ _) | (with_reducible refine bthen (by assumption) ?_ ?_) | omega | (simp only [World.size_alloc, World.size_setCell, World.size_drew, World.heap_drewN] at *; omega) | (simp; omega)))⟩
  · have h : 0 ≤ a := by omega
    go_enter Tryz.func120, Tryz.ntmps120
    go_wp2_with fail
    go_quiet (fail)
    go_wp2
    go_ret2
    exact ⟨by rw [H2.out h, hi_val ha hb, lo_val hb]; rfl, by (repeat' (first | (with_reducible exact Below.refl _ _) | (with_reducible refine Below.alloc ?_ ?_ _) | (with_reducible refine Below.setCell ?_ ?_ _) | (with_reducible refine Below.drew ?_) | (with_reducible refine belowN ?_ _) | (with_reducible refine bthen (by assumption) ?_ ?_) | omega | (simp only [World.size_alloc, World.size_setCell, World.size_drew, World.heap_drewN] at *; omega) | (simp; omega)))⟩
end Go.Proofs.YtemfhipofgafiaaGreatDoor
