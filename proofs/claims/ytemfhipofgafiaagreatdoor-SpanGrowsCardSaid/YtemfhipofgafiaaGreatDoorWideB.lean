/- THE WALKS of package wide: Cmp, Sign, Small, signed, Mul. -/
import Derived.Test.YtemfhipofgafiaaGreatDoorWide
import Derived.Test.YtemfhipofgafiaaGreatDoorBits
set_option linter.unusedVariables false
set_option linter.unusedSimpArgs false
namespace Go.Proofs.YtemfhipofgafiaaGreatDoor
open Go.RowKit


theorem cmpI_val {a b c d : Int} (hb : U64 b) (hd : U64 d) : orI (cmpI a c) (cmpI b d) = cmpI (val a b) (val c d) := by
  unfold U64 at hb hd; unfold orI cmpI val; unfold P64 at *
  by_cases h1 : a < c
  · rw [if_pos h1, if_neg (by omega), if_pos (by omega)]
  · by_cases h2 : a > c
    · rw [if_neg h1, if_pos h2, if_neg (by omega), if_neg (by omega), if_pos (by omega)]
    · have h3 : a = c := by omega
      subst h3
      rw [if_neg h1, if_neg h2, if_pos rfl]
      by_cases h4 : b < d
      · rw [if_pos h4, if_pos (by omega)]
      · by_cases h5 : b > d
        · rw [if_neg h4, if_pos h5, if_neg (by omega), if_pos (by omega)]
        · rw [if_neg h4, if_neg h5, if_neg (by omega), if_neg (by omega)]

set_option maxHeartbeats 1000000 in
set_option maxRecDepth 100000 in
theorem wide_Cmp (a b c d : Int) (w : World) (hb : U64 b) (hd : U64 d) :
    Calls Tryz.prog 109 #[.agg #[.int .i64 a, .int .u64 b], .agg #[.int .i64 c, .int .u64 d]] w (Ret w (.int .i64 (cmpI (val a b) (val c d)))) := by
  go_enter Tryz.func109, Tryz.ntmps109
  go_wp2_with fail
  go_region_held3 (fun w' => Below w.heap.size w w' ∧ w'.cell? ⟨w.heap.size, 0, none⟩ = some (.int .i64 a) ∧ w'.cell? ⟨w.heap.size, 1, none⟩ = some (.int .u64 b) ∧
      w'.cell? ⟨w.heap.size + 1, 0, none⟩ = some (.int .i64 c) ∧ w'.cell? ⟨w.heap.size + 1, 1, none⟩ = some (.int .u64 d))
    (((try go_split_ands); (try dsimp only); (repeat' apply And.intro) <;> (first | assumption | (exact kcell hb1 (by assumption)) | (exact kalloc (by assumption)) | (exact kalloc (kcell hb1 (by assumption))) | (exact kalloc (kalloc (by assumption))) |  (exact kbelow hb1 (by assumption)) | assumption | (simp; done) | (simp [*]; done) | (repeat' (first | (with_reducible exact Below.refl _ _) | (with_reducible refine Below.alloc ?_ ?_ _) | (with_reducible refine Below.setCell ?_ ?_ _) | (with_reducible refine Below.drew ?_) | (with_reducible refine belowN ?_ _) | (with_reducible refine bthen (by assumption) ?_ ?_) | omega | (simp only [World.size_alloc, World.size_setCell, World.size_drew, World.heap_drewN] at *; omega) | (simp; omega))))))
    (first | (go_at_call 135; refine (cmp_Compare_i _ _ _).mono ?_; rintro e w1 ⟨rfl, hb1⟩; obtain ⟨hc1, hf1⟩ := bcell hb1; (try simp only [World.heap_drewN, World.cell?_drewN] at hc1); (try simp only [World.heap_drewN, World.frozen?_drewN] at hf1); have hz1 := bsize hb1; (try simp only [World.size_alloc, World.size_setCell, World.size_drew, World.heap_drewN] at hz1); (try (have hs0 : w.heap.size < w1.heap.size := by omega)); (try (have hs1 : w.heap.size + 1 < w1.heap.size := by omega)); (try (have hs2 : w.heap.size + 2 < w1.heap.size := by omega)); (try (have hs3 : w.heap.size + 3 < w1.heap.size := by omega))) | (go_at_call 136; refine (cmp_Compare_u _ _ _).mono ?_; rintro e w1 ⟨rfl, hb1⟩; obtain ⟨hc1, hf1⟩ := bcell hb1; (try simp only [World.heap_drewN, World.cell?_drewN] at hc1); (try simp only [World.heap_drewN, World.frozen?_drewN] at hf1); have hz1 := bsize hb1; (try simp only [World.size_alloc, World.size_setCell, World.size_drew, World.heap_drewN] at hz1); (try (have hs0 : w.heap.size < w1.heap.size := by omega)); (try (have hs1 : w.heap.size + 1 < w1.heap.size := by omega)); (try (have hs2 : w.heap.size + 2 < w1.heap.size := by omega)); (try (have hs3 : w.heap.size + 3 < w1.heap.size := by omega))) | (go_at_call 134; refine (cmp_Or (cmpI a c) (cmpI b d) _ _ ?h0 ?h1).mono ?_; (case h0 => simp); (case h1 => simp); rintro e w1 ⟨rfl, hb1⟩; obtain ⟨hc1, hf1⟩ := bcell hb1; have hz1 := bsize hb1))
  have hB : Below w.heap.size w w1 := by rename_i h; exact h.1
  go_wp2
  go_ret
  exact ⟨by rw [← cmpI_val hb hd]; rfl, hB⟩

set_option maxHeartbeats 1000000 in
set_option maxRecDepth 100000 in
theorem wide_Sign (a b : Int) (w : World) (hb : U64 b) :
    Calls Tryz.prog 80 #[.agg #[.int .i64 a, .int .u64 b]] w (Ret w (.int .i64 (cmpI (val a b) 0))) := by
  go_enter Tryz.func80, Tryz.ntmps80
  go_wp2_with ((go_at_call 109; refine (wide_Cmp _ _ _ _ _ hb U64_zero).mono ?_; rintro e w1 ⟨rfl, hb1⟩; obtain ⟨hc1, hf1⟩ := bcell hb1; (try simp only [World.heap_drewN, World.cell?_drewN] at hc1); (try simp only [World.heap_drewN, World.frozen?_drewN] at hf1); have hz1 := bsize hb1; (try simp only [World.size_alloc, World.size_setCell, World.size_drew, World.heap_drewN] at hz1); (try (have hs0 : w.heap.size < w1.heap.size := by omega)); (try (have hs1 : w.heap.size + 1 < w1.heap.size := by omega)); (try (have hs2 : w.heap.size + 2 < w1.heap.size := by omega)); (try (have hs3 : w.heap.size + 3 < w1.heap.size := by omega))))
  go_ret
  exact ⟨by rw [← val_zero]; rfl, by (repeat' (first | (with_reducible exact Below.refl _ _) | (with_reducible refine Below.alloc ?_ ?_ _) | (with_reducible refine Below.setCell ?_ ?_ _) | (with_reducible refine Below.drew ?_) | (with_reducible refine belowN ?_ _) | (with_reducible refine bthen (by assumption) ?_ ?_) | omega | (simp only [World.size_alloc, World.size_setCell, World.size_drew, World.heap_drewN] at *; omega) | (simp; omega)))⟩

def smallB (z : Int) : Bool := decide (-P63 ≤ z) && decide (z < P63)
def smallV (z : Int) : Int := if smallB z = true then z else 0
theorem smallB_iff (z : Int) : smallB z = true ↔ I64 z := by simp [smallB, I64]
theorem small_halves {a b : Int} (ha : I64 a) (hb : U64 b) : (hiI (wrap64 b) == a && loI (wrap64 b) == b) = smallB (val a b) := by
  rw [Bool.eq_iff_iff, smallB_iff]
  simp only [Bool.and_eq_true, beq_iff_eq]
  unfold I64 at *; unfold U64 at hb; unfold hiI loI wrap64 val; unfold P63 P64 at *; omega
theorem small_val {a b : Int} (h : smallB (val a b) = true) : wrap64 b = val a b := by
  rw [smallB_iff] at h
  unfold I64 at h; unfold wrap64 val at *; unfold P63 P64 at *; omega

set_option maxHeartbeats 1000000 in
set_option maxRecDepth 100000 in
theorem wide_Small (a b : Int) (w : World) (ha : I64 a) (hb : U64 b) :
    Calls Tryz.prog 47 #[.agg #[.int .i64 a, .int .u64 b]] w (Ret w (.tuple #[.int .i64 (smallV (val a b)), .bool (smallB (val a b))])) := by
  have H := Lib.hid (small_halves ha hb)
  go_enter Tryz.func47, Tryz.ntmps47
  go_wp2_with fail
  go_region_held3 (fun w' => Below w.heap.size w w' ∧ w'.cell? ⟨w.heap.size, 0, none⟩ = some (.int .i64 a) ∧ w'.cell? ⟨w.heap.size, 1, none⟩ = some (.int .u64 b))
    (((try go_split_ands); (try dsimp only); (repeat' apply And.intro) <;> (first | assumption | (exact kcell hb1 (by assumption)) | (exact kalloc (by assumption)) | (exact kalloc (kcell hb1 (by assumption))) | (exact kalloc (kalloc (by assumption))) |  (exact kbelow hb1 (by assumption)) | assumption | (simp; done) | (simp [*]; done) | (repeat' (first | (with_reducible exact Below.refl _ _) | (with_reducible refine Below.alloc ?_ ?_ _) | (with_reducible refine Below.setCell ?_ ?_ _) | (with_reducible refine Below.drew ?_) | (with_reducible refine belowN ?_ _) | (with_reducible refine bthen (by assumption) ?_ ?_) | omega | (simp only [World.size_alloc, World.size_setCell, World.size_drew, World.heap_drewN] at *; omega) | (simp; omega))))))
    (first | (go_at_call 78; refine (wide_Of _ _ (I64_wrap b)).mono ?_; rintro e w1 ⟨rfl, hb1⟩; obtain ⟨hc1, hf1⟩ := bcell hb1; (try simp only [World.heap_drewN, World.cell?_drewN] at hc1); (try simp only [World.heap_drewN, World.frozen?_drewN] at hf1); have hz1 := bsize hb1; (try simp only [World.size_alloc, World.size_setCell, World.size_drew, World.heap_drewN] at hz1); (try (have hs0 : w.heap.size < w1.heap.size := by omega)); (try (have hs1 : w.heap.size + 1 < w1.heap.size := by omega)); (try (have hs2 : w.heap.size + 2 < w1.heap.size := by omega)); (try (have hs3 : w.heap.size + 3 < w1.heap.size := by omega))))
  have hB : Below w.heap.size w w1 := by rename_i h; exact h.1
  go_wp2
  all_goals go_ret2
  all_goals refine ⟨eqRet ?_, hB⟩
  · have hf : smallB (val a b) = false := by
      have hh : (!hiI (wrap64 b) == a) = true ∨ (!loI (wrap64 b) == b) = true := by assumption
      rw [← H.out, Bool.and_eq_false_iff]; simpa using hh
    unfold smallV; rw [hf]; rfl
  · have hf : smallB (val a b) = true := by
      have hh : (!hiI (wrap64 b) == a) = false ∧ (!loI (wrap64 b) == b) = false := by assumption
      rw [← H.out, Bool.and_eq_true]; simpa using hh
    unfold smallV; rw [if_pos hf, hf, ← small_val hf]; rfl

theorem sg_low {a b : Int} (ha : U64 a) (h : a < 9223372036854775808) : wrap64 a = a ∧ I64 a := by
  unfold U64 at ha; unfold wrap64 I64 P63; omega
theorem sg_fits {a b : Int} (ha : U64 a) (hb : U64 b) (h : a < 9223372036854775808) : InW (val a b) ∧ InW (-val a b) := by
  unfold U64 at *; unfold InW val; unfold P127 P64 at *; omega
theorem sg_over {a b : Int} (ha : U64 a) (hb : U64 b) (h : ¬ a < 9223372036854775808) : ¬ InW (val a b) ∧ (InW (-val a b) ↔ (a = 9223372036854775808 ∧ b = 0)) := by
  unfold U64 at *; unfold InW val; unfold P127 P64 at *; omega
theorem sg_edge : hiI (-val (wrap64 9223372036854775808) 0) = hiI (-val 9223372036854775808 0) ∧ loI (-val (wrap64 9223372036854775808) 0) = loI (-val 9223372036854775808 0) := by
  unfold hiI loI val wrap64 P64; omega

set_option maxHeartbeats 1000000 in
set_option maxRecDepth 100000 in
theorem wide_signed (a b : Int) (n : Bool) (w : World) (ha : U64 a) (hb : U64 b) :
    Calls Tryz.prog 130 #[.int .u64 a, .int .u64 b, .bool n] w
      (Ret w (.tuple #[.agg #[.int .i64 (hiI (sel (if n then -val a b else val a b))), .int .u64 (loI (sel (if n then -val a b else val a b)))], .bool (inWB (if n then -val a b else val a b))])) := by
  cases n
  · by_cases h : a < 9223372036854775808
    · have H := Lib.hid (sg_low (b := b) ha h)
      have F := Lib.hid (sg_fits ha hb h)
      go_enter Tryz.func130, Tryz.ntmps130
      go_wp2_with fail
      go_returns
      refine ⟨eqRet ?_, by (repeat' (first | (with_reducible exact Below.refl _ _) | (with_reducible refine Below.alloc ?_ ?_ _) | (with_reducible refine Below.setCell ?_ ?_ _) | (with_reducible refine Below.drew ?_) | (with_reducible refine belowN ?_ _) | (with_reducible refine bthen (by assumption) ?_ ?_) | omega | (simp only [World.size_alloc, World.size_setCell, World.size_drew, World.heap_drewN] at *; omega) | (simp; omega)))⟩
      have e := F.out.1
      try simp only [Bool.false_eq_true, if_false]
      rw [sel_of e, inWB_true e, hi_val H.out.2 hb, lo_val hb, H.out.1]
    · have F := Lib.hid (sg_over ha hb h)
      go_enter Tryz.func130, Tryz.ntmps130
      go_wp2_with fail
      go_returns
      refine ⟨eqRet ?_, by (repeat' (first | (with_reducible exact Below.refl _ _) | (with_reducible refine Below.alloc ?_ ?_ _) | (with_reducible refine Below.setCell ?_ ?_ _) | (with_reducible refine Below.drew ?_) | (with_reducible refine belowN ?_ _) | (with_reducible refine bthen (by assumption) ?_ ?_) | omega | (simp only [World.size_alloc, World.size_setCell, World.size_drew, World.heap_drewN] at *; omega) | (simp; omega)))⟩
      have e := F.out.1
      try simp only [Bool.false_eq_true, if_false]
      rw [sel_not e, inWB_false e, hi_zero, lo_zero]
  · by_cases h : a < 9223372036854775808
    · have H := Lib.hid (sg_low (b := b) ha h)
      have F := Lib.hid (sg_fits ha hb h)
      go_enter Tryz.func130, Tryz.ntmps130
      go_wp2_with (go_at_call 126; refine (wide_flip _ _ _ (I64_wrap a) hb).mono ?_; rintro e w1 ⟨rfl, hb1⟩; obtain ⟨hc1, hf1⟩ := bcell hb1; (try simp only [World.heap_drewN, World.cell?_drewN] at hc1); (try simp only [World.heap_drewN, World.frozen?_drewN] at hf1); have hz1 := bsize hb1; (try simp only [World.size_alloc, World.size_setCell, World.size_drew, World.heap_drewN] at hz1); (try (have hs0 : w.heap.size < w1.heap.size := by omega)); (try (have hs1 : w.heap.size + 1 < w1.heap.size := by omega)); (try (have hs2 : w.heap.size + 2 < w1.heap.size := by omega)); (try (have hs3 : w.heap.size + 3 < w1.heap.size := by omega)))
      refine bodyPost_ret (by simp [*, results, Tryz.results130, go_sem]; try rfl) rfl ?_
      refine ⟨eqRet ?_, by (repeat' (first | (with_reducible exact Below.refl _ _) | (with_reducible refine Below.alloc ?_ ?_ _) | (with_reducible refine Below.setCell ?_ ?_ _) | (with_reducible refine Below.drew ?_) | (with_reducible refine belowN ?_ _) | (with_reducible refine bthen (by assumption) ?_ ?_) | omega | (simp only [World.size_alloc, World.size_setCell, World.size_drew, World.heap_drewN] at *; omega) | (simp; omega)))⟩
      have e := F.out.2
      try simp only [if_true]
      rw [sel_of e, inWB_true e, H.out.1]
    · have F := sg_over ha hb h
      by_cases h2 : a = 9223372036854775808 ∧ b = 0
      · have E := Lib.hid (F.2.2 h2)
        clear F
        obtain ⟨rfl, rfl⟩ := h2
        go_enter Tryz.func130, Tryz.ntmps130
        go_wp2_with (go_at_call 126; refine (wide_flip _ _ _ (I64_wrap _) hb).mono ?_; rintro e w1 ⟨rfl, hb1⟩; obtain ⟨hc1, hf1⟩ := bcell hb1; (try simp only [World.heap_drewN, World.cell?_drewN] at hc1); (try simp only [World.heap_drewN, World.frozen?_drewN] at hf1); have hz1 := bsize hb1; (try simp only [World.size_alloc, World.size_setCell, World.size_drew, World.heap_drewN] at hz1); (try (have hs0 : w.heap.size < w1.heap.size := by omega)); (try (have hs1 : w.heap.size + 1 < w1.heap.size := by omega)); (try (have hs2 : w.heap.size + 2 < w1.heap.size := by omega)); (try (have hs3 : w.heap.size + 3 < w1.heap.size := by omega)))
        refine bodyPost_ret (by simp [*, results, Tryz.results130, go_sem]; try rfl) rfl ?_
        refine ⟨eqRet ?_, by (repeat' (first | (with_reducible exact Below.refl _ _) | (with_reducible refine Below.alloc ?_ ?_ _) | (with_reducible refine Below.setCell ?_ ?_ _) | (with_reducible refine Below.drew ?_) | (with_reducible refine belowN ?_ _) | (with_reducible refine bthen (by assumption) ?_ ?_) | omega | (simp only [World.size_alloc, World.size_setCell, World.size_drew, World.heap_drewN] at *; omega) | (simp; omega)))⟩
        have e := E.out
        try simp only [if_true]
        rw [sel_of e, inWB_true e, sg_edge.1, sg_edge.2]
      · have E := Lib.hid (fun h => h2 (F.2.1 h))
        have h3 : a = 9223372036854775808 → ¬ b = 0 := fun h4 h5 => h2 ⟨h4, h5⟩
        clear F
        by_cases h4 : a = 9223372036854775808
        · have h5 : ¬ b = 0 := h3 h4
          clear h2 h3
          subst h4
          go_enter Tryz.func130, Tryz.ntmps130
          go_wp2_with fail
          go_returns
          refine ⟨eqRet ?_, by (repeat' (first | (with_reducible exact Below.refl _ _) | (with_reducible refine Below.alloc ?_ ?_ _) | (with_reducible refine Below.setCell ?_ ?_ _) | (with_reducible refine Below.drew ?_) | (with_reducible refine belowN ?_ _) | (with_reducible refine bthen (by assumption) ?_ ?_) | omega | (simp only [World.size_alloc, World.size_setCell, World.size_drew, World.heap_drewN] at *; omega) | (simp; omega)))⟩
          have e := E.out
          try simp only [if_true]
          rw [sel_not e, inWB_false e, hi_zero, lo_zero]
        · clear h2 h3
          go_enter Tryz.func130, Tryz.ntmps130
          go_wp2_with fail
          go_returns
          refine ⟨eqRet ?_, by (repeat' (first | (with_reducible exact Below.refl _ _) | (with_reducible refine Below.alloc ?_ ?_ _) | (with_reducible refine Below.setCell ?_ ?_ _) | (with_reducible refine Below.drew ?_) | (with_reducible refine belowN ?_ _) | (with_reducible refine bthen (by assumption) ?_ ?_) | omega | (simp only [World.size_alloc, World.size_setCell, World.size_drew, World.heap_drewN] at *; omega) | (simp; omega)))⟩
          have e := E.out
          try simp only [if_true]
          rw [sel_not e, inWB_false e, hi_zero, lo_zero]
end Go.Proofs.YtemfhipofgafiaaGreatDoor
